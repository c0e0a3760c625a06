/- Parts: Tree3, Iter, Ext. -/
import Derived.Test.YtjglgfnhgehpeaaGreatYh
import Derived.RangeFuncKeeps
import Derived.RangeFuncBound
import Derived.RangeFuncLeaves
import Derived.RangeFuncFrom
import Derived.Shelf.Abstract
import Derived.WalkKit
import Derived.OwnWalkIn
import Derived.TacticsInMore
import Derived.Test.YtjglgfnhgehpeaaGreatYg
/- The list of a tree: a walk with a closure. -/
set_option linter.unusedVariables false
set_option linter.unusedSimpArgs false
set_option maxRecDepth 4000
namespace Go.Proofs.YtjglgfnhgehpeaaGreat
open Go.RowKit Go.Fw Go.Xt

def FX (x : X) : List Rp := [I x.a, I x.n, I x.s]
abbrev B2 (B : Nat) (y : Value × List X) : List Box := [.r y.1 65 3 y.2.length (y.2.flatMap FX), .b B 51 [val y.1]]
theorem e_list_1 : Enters Tryz.prog 160 := enters_of Tryz.func160 rfl rfl
theorem e_walk : Enters Tryz.prog 136 := enters_of Tryz.func136 rfl rfl
abbrev fvl (B : Nat) : Value := .func (.func 160) #[] #[.pointer (some ⟨B, 0, none⟩)]

theorem l_list_1 {w0 : World} {M0 : Mask} {B : Nat} {v : Value} {pre : List X} {x : X} {w : World} {vs : List Value} (hm : Mem w0 M0 (B2 B (v, pre)) w) (hvs : TupAll w (mkM M0 (B2 B (v, pre))) [ext x, val (.pointer (some ⟨B, 0, none⟩))] vs) (hl : pre.length < 100000) :
    Calls Tryz.prog 160 vs.toArray w (Lent w0 M0 (B2 B (v, pre)) (B2 B) (fun y => y.2 = pre ++ [x]) (fun _ => val (.bool true)) w) := by
  refine calls_lent Tryz.func160 rfl Tryz.ntmps160 (le_ rfl) hm hvs ?_
  refine WP.seq ?_
  refine WP.region ?_
  refine WL.box (ot rfl) (.agg _) (by decide) fun b2 => ?_
  refine WL.op (asg (oc _)) (by decide) ?_
  refine WL.nl (.thn ?_)
  refine WP.seq ?_
  refine WP.region ?_
  refine WL.op (lb 2 rfl sc_s_api_Extent (ot rfl) rfl) (by decide) ?_
  refine WL.op (lbs 0 rfl ag_Extent (ot rfl) (le_ rfl)) (by decide) ?_
  refine WL.op (bsl1 (f := FX) (el := x) ei_s_api_Extent (ot rfl) (.agg _) rfl (by decide) (by decide)) (by decide) ?_
  refine WL.app 1 rfl ei_s_api_Extent (by decide) (ot rfl) (ot rfl) (by simp) (fun _ => rfl) (by simp; omega) (by simp; omega) (by decide) fun v7 h7 => ?_
  refine WL.store 2 rfl (ot rfl) (ot rfl) (.leaf (.val h7)) sz_s_api_Extent rfl (le_ rfl) ?_
  refine WL.nl (.thn ?_)
  refine WP.seq ?_
  refine WP.region ?_
  refine WL.op (asg (oc _)) (by decide) ?_
  refine WL.nl (.thn ?_)
  exact WP.rt (Lead.lent (i := 3) rfl rfl rfl 1 (v7, pre ++ [x]) rfl (by simp [B2, setAt]) (imp _))
theorem l_walk_nil {w0 : World} {M0 : Mask} {B : Nat} {v : Value} {pre : List X} {w : World} {vs : List Value} (hm : Mem w0 M0 (B2 B (v, pre)) w) (hvs : TupAll w (mkM M0 (B2 B (v, pre))) [tree Tr.nil, val (fvl B)] vs) :
    Calls Tryz.prog 136 vs.toArray w (Lent w0 M0 (B2 B (v, pre)) (B2 B) (fun y => y.2 = pre ++ (Tr.nil).list) (fun _ => val (.bool true)) w) := by
  refine calls_lent Tryz.func136 rfl Tryz.ntmps136 (le_ rfl) hm hvs ?_
  refine WP.seq ?_
  refine WP.region ?_
  refine WL.op (asg (oc _)) (by decide) ?_
  refine WL.nl (.thn ?_)
  refine WP.seq ?_
  refine WP.region ?_
  refine WL.op (mv (ot rfl)) (by decide) ?_
  refine WL.op (isnil pt_p_extree_node (ot rfl) ) (by decide) ?_
  refine WL.op (mv (ot rfl)) (by decide) ?_
  refine WL.gF rfl rfl (by decide) (le_ rfl) ?_
  refine WL.gF rfl rfl (by decide) (le_ rfl) ?_
  refine WL.gF rfl rfl (by decide) (le_ rfl) ?_
  refine WL.gF rfl rfl (by decide) (le_ rfl) ?_
  refine WL.gF rfl rfl (by decide) (le_ rfl) ?_
  refine WL.gF rfl rfl (by decide) (le_ rfl) ?_
  refine WL.gF rfl rfl (by decide) (le_ rfl) ?_
  refine WL.gU rfl rfl (le_ rfl) ?_
  refine WL.gU rfl rfl (le_ rfl) ?_
  refine WL.gU rfl rfl (le_ rfl) ?_
  refine WL.gU rfl rfl (le_ rfl) ?_
  refine WL.gU rfl rfl (le_ rfl) ?_
  refine WL.gU rfl rfl (le_ rfl) ?_
  refine WL.gF rfl rfl (by decide) (le_ rfl) ?_
  refine WL.gF rfl rfl (by decide) (le_ rfl) ?_
  refine WL.gU rfl rfl (le_ rfl) ?_
  refine WL.gU rfl rfl (le_ rfl) ?_
  refine WL.gU rfl rfl (le_ rfl) ?_
  refine WL.gU rfl rfl (le_ rfl) ?_
  refine WL.gU rfl rfl (le_ rfl) ?_
  refine WL.gU rfl rfl (le_ rfl) ?_
  refine WL.gF rfl rfl (by decide) (le_ rfl) ?_
  refine WL.op (pickT (ot rfl) (oc _)) (by decide) ?_
  refine WL.op (asg (ot rfl)) (by decide) ?_
  refine WL.nl (.thn ?_)
  exact WP.rt (Lead.lent (i := 4) rfl rfl rfl 0 (v, pre) (by simp [Tr.list]) rfl (imp _))
theorem l_walk (t : Tr) {w0 : World} {M0 : Mask} {B : Nat} {v : Value} {pre : List X} {w : World} {vs : List Value} (hm : Mem w0 M0 (B2 B (v, pre)) w) (hvs : TupAll w (mkM M0 (B2 B (v, pre))) [tree t, val (fvl B)] vs) (hl : pre.length + t.list.length ≤ 99999) :
    Calls Tryz.prog 136 vs.toArray w (Lent w0 M0 (B2 B (v, pre)) (B2 B) (fun y => y.2 = pre ++ (t).list) (fun _ => val (.bool true)) w) := by
  induction t generalizing v pre w vs with
  | nil => exact l_walk_nil hm hvs
  | node l x r ihl ihr =>
  have hl' : pre.length + l.list.length + 1 + r.list.length ≤ 99999 := by simpa [Tr.list, Nat.add_assoc, Nat.add_comm, Nat.add_left_comm] using hl
  refine calls_lent Tryz.func136 rfl Tryz.ntmps136 (le_ rfl) hm hvs ?_
  refine WP.seq ?_
  refine WP.region ?_
  refine WL.op (asg (oc _)) (by decide) ?_
  refine WL.nl (.thn ?_)
  refine WP.seq ?_
  refine WP.region ?_
  refine WL.op (mv (ot rfl)) (by decide) ?_
  refine WL.op (notnil pt_p_extree_node (ot rfl) ) (by decide) ?_
  refine WL.op (mv (ot rfl)) (by decide) ?_
  refine WL.gT rfl rfl ?_ -- g2
  refine WL.op (mv (ot rfl)) (by decide) ?_
  refine WL.gT rfl rfl ?_ -- g2
  refine WL.op (nc (ot rfl)) (by decide) ?_
  refine WL.gT rfl rfl ?_ -- g2
  refine WL.op (fa fo_node_1 (ot rfl)) (by decide) ?_
  refine WL.gT rfl rfl ?_ -- g2
  refine WL.op (ld sc_p_extree_node (ot rfl)) (by decide) ?_
  refine WL.gT rfl rfl ?_ -- g2
  refine WL.op (mv (ot rfl)) (by decide) ?_
  refine WL.gT rfl rfl ?_ -- g2
  refine WL.lent (bx := B2 B) (bs := B2 B (v, pre)) (I := fun y => y.2 = pre ++ l.list) (R := fun _ => val (.bool true)) (fun a w hok => ⟨_, _, run_callF (xs := [_, _]) (Rs := []) e_walk a w, ihl (w := w) hok.mem ((OFs.c (ot rfl) (.c (ot rfl) .n)).ok hok) (by omega)⟩) (by decide) ?_
  rintro ⟨v1, pre1⟩ h1
  have h1 : pre1 = pre ++ l.list := h1
  subst h1
  refine WL.gT rfl rfl ?_ -- g2
  refine WL.op (mv (ot rfl)) (by decide) ?_
  refine WL.gT rfl rfl ?_ -- g9
  refine WL.op (mv (ot rfl)) (by decide) ?_
  refine WL.gT rfl rfl ?_ -- g9
  refine WL.op (mv (ot rfl)) (by decide) ?_
  refine WL.gT rfl rfl ?_ -- g9
  refine WL.op (nc (ot rfl)) (by decide) ?_
  refine WL.gT rfl rfl ?_ -- g9
  refine WL.op (fa fo_node_0 (ot rfl)) (by decide) ?_
  refine WL.gT rfl rfl ?_ -- g9
  refine WL.op (ls ag_Extent (ot rfl) (le_ rfl)) (by decide) ?_
  refine WL.gT rfl rfl ?_ -- g9
  refine WL.lent (bx := B2 B) (bs := B2 B (v1, pre ++ l.list)) (I := fun y => y.2 = (pre ++ l.list) ++ [x]) (R := fun _ => val (.bool true)) (fun a w hok => ?_) (by decide) ?_
  · have h1 : a.tmps.getD 15 undef = fvl B := hok.facts 15 _ rfl
    have h2 : (ext x).h (a.tmps.getD 19 undef) w _ := hok.facts 19 _ rfl
    have h3 := l_list_1 (w := w) (x := x) (v := v1) (pre := pre ++ l.list) (B := B) (vs := [a.eval (.tmp 19), .pointer (some ⟨B, 0, none⟩)]) hok.mem ⟨h2, rfl, trivial⟩ (by simp; omega)
    have e : (([Operand.tmp 19].map a.eval).toArray ++ #[Value.pointer (some ⟨B, 0, none⟩)]) = [a.eval (.tmp 19), .pointer (some ⟨B, 0, none⟩)].toArray := by simp
    exact ⟨_, _, run_callV (xs := [_]) e_list_1 a w h1, by rw [e]; exact h3⟩
  rintro ⟨v2, pre2⟩ h2
  have h2 : pre2 = (pre ++ l.list) ++ [x] := h2
  subst h2
  refine WL.gT rfl rfl ?_ -- g2
  refine WL.op (pickT (ot rfl) (ot rfl)) (by decide) ?_
  refine WL.gT rfl rfl ?_ -- g2
  refine WL.op (mv (ot rfl)) (by decide) ?_
  refine WL.gT rfl rfl ?_ -- g17
  refine WL.op (mv (ot rfl)) (by decide) ?_
  refine WL.gT rfl rfl ?_ -- g17
  refine WL.op (nc (ot rfl)) (by decide) ?_
  refine WL.gT rfl rfl ?_ -- g17
  refine WL.op (fa fo_node_2 (ot rfl)) (by decide) ?_
  refine WL.gT rfl rfl ?_ -- g17
  refine WL.op (ld sc_p_extree_node (ot rfl)) (by decide) ?_
  refine WL.gT rfl rfl ?_ -- g17
  refine WL.op (mv (ot rfl)) (by decide) ?_
  refine WL.gT rfl rfl ?_ -- g17
  refine WL.lent (bx := B2 B) (bs := B2 B (v2, (pre ++ l.list) ++ [x])) (I := fun y => y.2 = ((pre ++ l.list) ++ [x]) ++ r.list) (R := fun _ => val (.bool true)) (fun a w hok => ⟨_, _, run_callF (xs := [_, _]) (Rs := []) e_walk a w, ihr (w := w) hok.mem ((OFs.c (ot rfl) (.c (ot rfl) .n)).ok hok) (by simp; omega)⟩) (by decide) ?_
  rintro ⟨v3, pre3⟩ h3
  have h3 : pre3 = ((pre ++ l.list) ++ [x]) ++ r.list := h3
  subst h3
  refine WL.gT rfl rfl ?_ -- g2
  refine WL.op (pickT (ot rfl) (ot rfl)) (by decide) ?_
  refine WL.op (pickF (ot rfl) (ot rfl)) (by decide) ?_
  refine WL.op (asg (ot rfl)) (by decide) ?_
  refine WL.nl (.thn ?_)
  exact WP.rt (Lead.lent (i := 4) rfl rfl rfl 0 (v3, ((pre ++ l.list) ++ [x]) ++ r.list) (by simp [Tr.list]) rfl (imp _))
theorem c_n_list (t : Tr) (hl : t.list.length ≤ 99999) : PureC Tryz.prog 131 [tree t] (sl 3 FX t.list) := by
  refine PureC.of_wp Tryz.func131 (by kernel_rfl) rfl Tryz.ntmps131 (le_ rfl) (fun w0 M0 => ?_)
  refine WP.seq ?_
  refine WP.region ?_
  refine WL.op (asg (oc _)) (by decide) ?_
  refine WL.nl (.thn ?_)
  refine WP.seq ?_
  refine WP.region ?_
  refine WL.alloc zr_s_api_Extent rfl (by decide) fun b3 => ?_
  refine WL.nl (.thn ?_)
  refine WP.seq ?_
  refine WP.region ?_
  refine WL.nilrow 65 3 ?_
  refine WL.op (mv (ot rfl)) (by decide) ?_
  refine WL.op (mfn rfl) (by decide) ?_
  refine WL.lent (bx := B2 b3) (bs := B2 b3 (nilS, [])) (I := fun y => y.2 = [] ++ t.list) (R := fun _ => val (.bool true)) (fun a w hok => ⟨_, _, run_callF (xs := [_, _]) (Rs := []) e_walk a w, l_walk t (w := w) hok.mem ((OFs.c (ot rfl) (.c (ot rfl) .n)).ok hok) (by simpa using hl)⟩) (by decide) ?_
  rintro ⟨v1, pre1⟩ h1
  have h1 : pre1 = [] ++ t.list := h1
  subst h1
  refine WL.nl (.thn ?_)
  refine WP.seq ?_
  refine WP.region ?_
  refine WL.op (lb 1 rfl sc_s_api_Extent (ot rfl) rfl) (by decide) ?_
  refine WL.op (asg (ot rfl)) (by decide) ?_
  refine WL.freeze 0 2 FX t.list rfl (fun _ => rfl) (by simp) (by simp) rfl ?_
  refine WL.nl (.thn ?_)
  exact WP.rt (.r1 rfl rfl (imp _))
end Go.Proofs.YtjglgfnhgehpeaaGreat

/- The iterator of a tree: a walk whose 'yield' is a round of the caller's loop. -/
namespace Go.Proofs.YtjglgfnhgehpeaaGreat
open Go.RowKit Go.Shelf Go.Fw Go.Xt
set_option linter.unusedVariables false
set_option linter.unusedSimpArgs false
attribute [local go_sem] Oper.semAt_some
theorem room_of_none {F : Fence} (hd : F.depth = none) (k : Nat) : F.room k := fun d h => by rw [hd] at h; cases h
theorem RoundIn.anyDepth {F : Fence} (hd : F.depth = none) {m m' : Nat} {P : Program} {l : Nat} {f : FuncId} {tmps : Array Value} {assign body : Code} {w : World} {R : Ending → World → Prop}
    (h : RoundIn F m P l f tmps assign body w R) : RoundIn F m' P l f tmps assign body w R := ⟨h.1, fun c cs _ => h.2 c cs (room_of_none hd _)⟩
theorem YieldAt.anyDepth {F : Fence} (hd : F.depth = none) {m : Nat} (m' : Nat) {P : Program} {l : Nat} {args : Array Value} {W : World} {R : Ending → World → Prop} (h : YieldAt F m P l args W R) : YieldAt F m' P l args W R := by
  obtain ⟨fn, tmps, assign, body, hy, hR⟩ := h
  exact ⟨fn, tmps, assign, body, hy, RoundIn.anyDepth hd hR⟩
theorem skip_fn {F : Fence} {n : Nat} {P : Program} {ops : Array Oper} {Q : Exit → Act → World → Prop} {a : Act} {w : World} {rest : List Oper} {o : Oper} {f : FuncId} (hw : Region.wanted o (yielded ops a.tmps) = false) (ha : o.about P w a.eval = some f) (hf : F.fn f) (h : wpListIn F n P ops Q rest (a.put o.dst undef) w) : wpListIn F n P ops Q (o :: rest) a w := by
  simp only [wpListIn, hw]
  exact ⟨fun g hg => (by rw [ha] at hg; cases hg; exact hf), h⟩
abbrev KM (M : Mask) (W W' : World) : Prop := Fw.Kp W M W' M
theorem KM.cell {M : Mask} {W W' : World} (h : KM M W W') {b o : Nat} (hb : b < W.heap.size ∧ ¬ M b) : W'.cell? ⟨b, o, none⟩ = W.cell? ⟨b, o, none⟩ := World.cell?_of_block (w := W) (a := ⟨b, o, none⟩) (h.block b hb.1 hb.2)
def IsT (M : Mask) (W : World) (p : Option Addr) (t : Tr) : Prop := (tree t).h (.pointer p) W M
theorem IsT.keep {M : Mask} {A B : World} (h : KM M A B) {p : Option Addr} {t : Tr} (ht : IsT M A p t) : IsT M B p t := Rp.keep _ ht h
theorem IsT.nil {M : Mask} {W : World} {p : Option Addr} (h : IsT M W p .nil) : p = none := by
  have h : Value.pointer p = .pointer none := h
  cases h; rfl
theorem tree_ptr {t : Tr} {v : Value} {W : World} {M : Mask} (h : (tree t).h v W M) : ∃ p, v = .pointer p := by
  cases t with
  | nil => exact ⟨none, h⟩
  | node l x r => obtain ⟨b, o, h, _⟩ := h; exact ⟨_, h⟩
theorem IsT.node {M : Mask} {W : World} {p : Option Addr} {l r : Tr} {x : X} (h : IsT M W p (.node l x r)) : ∃ b o pl pr, p = some ⟨b, o, none⟩ ∧ (b < W.heap.size ∧ ¬ M b) ∧
    W.cell? ⟨b, o, none⟩ = some (.int .i64 x.a) ∧ W.cell? ⟨b, o + 1, none⟩ = some (.int .i64 x.n) ∧ W.cell? ⟨b, o + 2, none⟩ = some (.int .i64 x.s) ∧ W.cell? ⟨b, o + 3, none⟩ = some (.pointer pl) ∧ W.cell? ⟨b, o + 4, none⟩ = some (.pointer pr) ∧ IsT M W pl l ∧ IsT M W pr r := by
  obtain ⟨b, o, h1, h2, h3, h4⟩ := h
  obtain ⟨⟨c0, g0, _, k0⟩, ⟨c1, g1, _, k1⟩, ⟨c2, g2, _, k2⟩, ⟨c3, g3, _, k3⟩, ⟨c4, g4, _, k4⟩, _⟩ := h4
  have k0 : c0 = _ := k0
  have k1 : c1 = _ := k1
  have k2 : c2 = _ := k2
  subst k0; subst k1; subst k2
  obtain ⟨pl, rfl⟩ := tree_ptr k3
  obtain ⟨pr, rfl⟩ := tree_ptr k4
  cases h1
  exact ⟨b, o, pl, pr, rfl, ⟨h2, h3⟩, g0, g1, g2, g3, g4, k3, k4⟩
abbrev encV (x : X) : Array Value := #[.agg #[.int .i64 x.a, .int .i64 x.n, .int .i64 x.s]]
theorem walk_in (F : Fence) (hd : F.depth = none) (h6 : F.fn 136) (hro : F.round = none) (l N : Nat) (M : Mask) (J Jx : List X → World → Prop)
    (hY : ∀ m pre x W, J pre W → pre.length < N → YieldAt F m Tryz.prog l (encV x) W fun e W' =>
      (e = .returned (.bool true) ∧ J (pre ++ [x]) W' ∧ KM M W W') ∨ (e = .returned (.bool false) ∧ Jx (pre ++ [x]) W')) (T : Tr) :
    ∀ (n : Nat) (p : Option Addr) (pre : List X) (W : World), IsT M W p T → J pre W → pre.length + T.list.length ≤ N →
      CallsIn F n Tryz.prog 136 #[.pointer p, .func (.yield l) #[] #[]] W fun e W' =>
        (e = .returned (.bool true) ∧ J (pre ++ T.list) W' ∧ KM M W W') ∨ (e = .returned (.bool false) ∧ ∃ q, q <+: T.list ∧ Jx (pre ++ q) W') := by
  induction T with
  | nil =>
    intro n p pre W ht hJ _
    obtain rfl := ht.nil
    refine callsIn_of_wp Tryz.func136 rfl h6 ?_ hro
    simp only [Tryz.ntmps136, List.size_toArray, List.length_cons, List.length_nil, Nat.reduceAdd, Nat.reduceSub, Array.replicate_succ, Array.replicate_zero, List.push_toArray, List.append_toArray, List.nil_append, List.cons_append]
    gi_wp2_with (first | refine wpListIn_skip (by rfl) (by rfl) ?_ | refine skip_fn (by rfl) (by rfl) h6 ?_)
    go_ret
    exact .inl ⟨rfl, by simpa [Tr.list] using hJ, Fw.Kp.refl _ _⟩
  | node tl x tr ihl ihr =>
    intro n p pre W ht hJ hN
    obtain ⟨b, o, pl, pr, rfl, hb, c0, c1, c2, c3, c4, hl, hr⟩ := ht.node
    have hdd : ∀ k : Nat, (F.depth.isSome = true → 1 ≤ k) := fun k h => by rw [hd] at h; cases h
    simp only [Tr.list, List.length_append, List.length_cons] at hN
    have hy2 : ∀ W1, J (pre ++ tl.list) W1 → KM M W W1 → YieldAt F (n - 1) Tryz.prog l (encV x) W1 fun e W2 =>
        (e = .returned (.bool true) ∧ J (pre ++ tl.list ++ [x]) W2 ∧ KM M W W2 ∧ W2.cell? ⟨b, o + 4, none⟩ = some (.pointer pr) ∧ IsT M W2 pr tr) ∨ (e = .returned (.bool false) ∧ Jx (pre ++ tl.list ++ [x]) W2) := fun W1 hJ1 hb1 =>
      YieldAt.mono (hY (n - 1) _ x W1 hJ1 (by simp; omega)) fun e W2 h => h.elim
        (fun ⟨he, hj, hb2⟩ => .inl ⟨he, hj, hb1.trans hb2, (KM.cell (hb1.trans hb2) hb).trans c4, hr.keep (hb1.trans hb2)⟩) .inr
    have ih1 := (ihl (n - 1) pl pre W hl hJ (by omega)).mono (R' := fun e W1 =>
        (e = .returned (.bool true) ∧ W1.cell? ⟨b, o, none⟩ = some (.int .i64 x.a) ∧ W1.cell? ⟨b, o + 1, none⟩ = some (.int .i64 x.n) ∧ W1.cell? ⟨b, o + 2, none⟩ = some (.int .i64 x.s) ∧ YieldAt F (n - 1) Tryz.prog l (encV x) W1 fun e W2 =>
          (e = .returned (.bool true) ∧ J (pre ++ tl.list ++ [x]) W2 ∧ KM M W W2 ∧ W2.cell? ⟨b, o + 4, none⟩ = some (.pointer pr) ∧ IsT M W2 pr tr) ∨ (e = .returned (.bool false) ∧ Jx (pre ++ tl.list ++ [x]) W2)) ∨
        (e = .returned (.bool false) ∧ ∃ q, q <+: tl.list ∧ Jx (pre ++ q) W1))
      (fun e W1 h => h.elim (fun ⟨he, hj, hb1⟩ => .inl ⟨he, (KM.cell hb1 hb).trans c0, (KM.cell hb1 hb).trans c1, (KM.cell hb1 hb).trans c2, hy2 W1 hj hb1⟩) .inr)
    clear hy2 ihl
    refine callsIn_of_wp Tryz.func136 rfl h6 ?_ hro
    simp only [Tryz.ntmps136, List.size_toArray, List.length_cons, List.length_nil, Nat.reduceAdd, Nat.reduceSub, Array.replicate_succ, Array.replicate_zero, List.push_toArray, List.append_toArray, List.nil_append, List.cons_append]
    gi_wp2_with (first
      | ((try refine ⟨hdd _, ?_⟩); gi_at_call 136; refine ih1.mono ?_; clear ih1; rintro e W1 (⟨rfl, c0', c1', c2', fn, tmps, assign, body, hy, hR⟩ | ⟨rfl, q, hq, hx1⟩))
      | ((try refine ⟨hdd _, ?_⟩); refine hR.mono ?_; clear hR; rintro e W2 (⟨rfl, hJ2, hb2, c4', hr2⟩ | ⟨rfl, hx2⟩))
      | ((try refine ⟨hdd _, ?_⟩); gi_at_call 136; refine (ihr (n - 1) pr _ _ hr2 hJ2 (by simp; omega)).mono ?_; rintro e W3 (⟨rfl, hJ3, hb3⟩ | ⟨rfl, q, hq, hx3⟩)))
    · go_ret
      exact .inl ⟨rfl, by simpa [Tr.list, List.append_assoc] using hJ3, hb2.trans hb3⟩
    · go_ret
      obtain ⟨r, hr'⟩ := hq
      exact .inr ⟨rfl, tl.list ++ x :: q, ⟨r, by simp [Tr.list, ← hr']⟩, by simpa [List.append_assoc] using hx3⟩
    · go_ret
      exact .inr ⟨rfl, tl.list ++ [x], ⟨tr.list, by simp [Tr.list]⟩, by simpa [List.append_assoc] using hx2⟩
    · refine ⟨fun _ h => (by cases h), ?_⟩
      gi_wp2
      go_ret
      exact .inr ⟨rfl, q, hq.trans (by simp [Tr.list]), hx1⟩

set_option maxHeartbeats 1000000 in
theorem all1_in (F : Fence) (hd : F.depth = none) (n : Nat) (h5 : F.fn 135) (h6 : F.fn 136) (hro : F.round = none) (l Bt Bo : Nat) (M : Mask) (p0 : Option Addr) (T : Tr) (J Jx : List X → World → Prop)
    (hY : ∀ pre x W, J pre W → pre.length < T.list.length → YieldAt F (n - 1) Tryz.prog l (encV x) W fun e W' =>
      (e = .returned (.bool true) ∧ J (pre ++ [x]) W' ∧ KM M W W') ∨ (e = .returned (.bool false) ∧ Jx (pre ++ [x]) W'))
    (W : World) (hBt : W.cell? ⟨Bt, Bo, none⟩ = some (.pointer p0)) (hT : IsT M W p0 T) (h0 : J [] W) :
    CallsIn F n Tryz.prog 135 #[.func (.yield l) #[] #[], .pointer (some ⟨Bt, Bo, none⟩)] W fun e W' => (∃ v, e = .returned v) ∧
      ((∃ ys, ys = T.list ∧ J ys W') ∨ (∃ pre, pre <+: T.list ∧ Jx pre W')) := by
  have hdd : ∀ k : Nat, (F.depth.isSome = true → 1 ≤ k) := fun k h => by rw [hd] at h; cases h
  have hp := walk_in F hd h6 hro l T.list.length M J Jx (fun m pre x W hj hl => YieldAt.anyDepth hd m (hY pre x W hj hl)) T (n - 1) p0 [] W hT h0 (by simp)
  refine callsIn_of_wp Tryz.func135 rfl h5 ?_ hro
  simp only [Tryz.ntmps135, List.size_toArray, List.length_cons, List.length_nil, Nat.reduceAdd, Nat.reduceSub, Array.replicate_succ, Array.replicate_zero, List.push_toArray, List.append_toArray, List.nil_append, List.cons_append]
  gi_wp2_with ((try refine ⟨hdd _, ?_⟩); gi_at_call 136; refine hp.mono ?_; clear hp; rintro e W1 (⟨rfl, hJ1, _⟩ | ⟨rfl, q, hq, hx⟩))
  · go_end0
    exact ⟨⟨_, rfl⟩, .inl ⟨_, rfl, by simpa using hJ1⟩⟩
  · go_end0
    exact ⟨⟨_, rfl⟩, .inr ⟨q, hq, by simpa using hx⟩⟩
theorem all_stops (F : Fence) (hd : F.depth = none) (n : Nat) (h5 : F.fn 135) (h6 : F.fn 136) (hro : F.round = none) {Bt Bo : Nat} {M : Mask} {p0 : Option Addr} {T : Tr} {w : World} (hsz : ∀ b, w.heap.size ≤ b → M b)
    (hc : w.cell? ⟨Bt, Bo, none⟩ = some (.pointer p0)) (hBt : Bt < w.heap.size) (hT : IsT M w p0 T) :
    SeqStopsK F n Tryz.prog 135 #[.pointer (some ⟨Bt, Bo, none⟩)] encV (KM M) (fun ys => ys = T.list) (fun pre => pre <+: T.list) T.list.length w := fun l J Jx W hW _ _ hY h0 =>
  all1_in F hd n h5 h6 hro l Bt Bo M p0 T J Jx hY W ((hW.cell (p := ⟨Bt, Bo, none⟩) hBt).trans hc) (hT.keep ⟨fun b hb _ => hW.block b hb, hW.size, fun b hb => .inl hb⟩) h0
end Go.Proofs.YtjglgfnhgehpeaaGreat

/- The small functions of extents: what they compute. -/
set_option linter.unusedVariables false
set_option linter.unusedSimpArgs false
set_option maxRecDepth 4000
namespace Go.Proofs.YtjglgfnhgehpeaaGreat
open Go.RowKit Go.Fw Go.Xt

def Wi (a n s : Int) : Prop := 0 ≤ a ∧ 0 ≤ n ∧ a ≤ s ∧ n ≤ s - a
instance (a n s : Int) : Decidable (Wi a n s) := by unfold Wi; infer_instance
def Pr (x : X) : Prop := 1 ≤ x.n ∧ Wi x.a x.n 65536 ∧ Wi x.s x.n 65536
instance (x : X) : Decidable (Pr x) := by unfold Pr; infer_instance
theorem Ok.snoc : ∀ {A : List X} {lo : Int} {x : X}, Xt.Ok lo (A ++ [x]) ↔ Xt.Ok lo A ∧ (match A.getLast? with | none => lo ≤ x.a | some y => y.a + y.n ≤ x.a) ∧ 1 ≤ x.n ∧ 0 ≤ x.s ∧ x.a + x.n ≤ 65536 ∧ x.s + x.n ≤ 65536
  | [], lo, x => by simp [Xt.Ok]
  | [z], lo, x => by simp [Xt.Ok]; omega
  | z :: z' :: A, lo, x => by
    have ih := Ok.snoc (A := z' :: A) (lo := z.a + z.n) (x := x)
    have e : (z :: z' :: A).getLast? = (z' :: A).getLast? := by simp [List.getLast?_cons_cons]
    rw [e]
    have h1 : Xt.Ok lo (z :: z' :: A ++ [x]) ↔ (lo ≤ z.a ∧ 1 ≤ z.n ∧ 0 ≤ z.s ∧ z.a + z.n ≤ 65536 ∧ z.s + z.n ≤ 65536 ∧ Xt.Ok (z.a + z.n) (z' :: A ++ [x])) := Iff.rfl
    have h2 : Xt.Ok lo (z :: z' :: A) ↔ (lo ≤ z.a ∧ 1 ≤ z.n ∧ 0 ≤ z.s ∧ z.a + z.n ≤ 65536 ∧ z.s + z.n ≤ 65536 ∧ Xt.Ok (z.a + z.n) (z' :: A)) := Iff.rfl
    obtain ⟨w, hw⟩ : ∃ w, (z' :: A).getLast? = some w := ⟨_, List.getLast?_eq_some_getLast (by simp)⟩
    rw [h1, h2, ih, hw]
    simp only [and_assoc]
theorem valid_step {xs : List X} {i : Nat} (hi : i < xs.length) (h : Xt.Ok 0 (xs.take i)) :
    (!decide (Pr (xs.getD ((i : Nat) : Int).toNat default)) || (decide ((0 : Int) < (i : Int)) && decide ((xs.getD ((i : Nat) : Int).toNat default).a < (xs.getD ((i : Int) - 1).toNat default).a + (xs.getD ((i : Int) - 1).toNat default).n))) = !decide (Xt.Ok 0 (xs.take (i + 1))) := by
  have e1 : ((i : Nat) : Int).toNat = i := by omega
  have e2 : ((i : Int) - 1).toNat = i - 1 := by omega
  rw [e1, e2]
  have hx : xs[i]? = some xs[i] := List.getElem?_eq_getElem hi
  have hgd : xs.getD i default = xs[i] := by rw [List.getD_eq_getElem?_getD, hx]; rfl
  rw [hgd, List.take_add_one, hx]
  show _ = !decide (Xt.Ok 0 (xs.take i ++ [xs[i]]))
  rw [Bool.eq_iff_iff]
  simp only [Bool.or_eq_true, Bool.not_eq_true', decide_eq_false_iff_not, Bool.and_eq_true, decide_eq_true_eq, Ok.snoc]
  cases i with
  | zero =>
    simp [Xt.Ok, Pr, Wi]
    omega
  | succ k =>
    have hk : k < xs.length := by omega
    have hl : (xs.take (k + 1)).getLast? = some xs[k] := by
      rw [List.take_add_one, List.getElem?_eq_getElem hk]
      show (xs.take k ++ [xs[k]]).getLast? = _
      rw [List.getLast?_append]; rfl
    have hy : Xt.Ok 0 (xs.take k ++ [xs[k]]) := by
      have := h; rw [List.take_add_one, List.getElem?_eq_getElem hk] at this; exact this
    have hgk : xs.getD (k + 1 - 1) default = xs[k] := by rw [List.getD_eq_getElem?_getD]; simp [hk]
    have hyk := (Ok.snoc.1 hy).2
    have hst := (h.starts xs[k] (by rw [List.take_add_one, List.getElem?_eq_getElem hk]; exact List.mem_append_right _ (List.mem_singleton.2 rfl)))
    rw [hl, hgk]
    simp only [h, true_and, Pr, Wi]
    constructor
    · rintro (h1 | h1) h2
      · apply h1; omega
      · omega
    · intro h1
      by_cases h2 : (1 ≤ xs[k+1].n ∧ (0 ≤ xs[k+1].a ∧ 0 ≤ xs[k+1].n ∧ xs[k+1].a ≤ 65536 ∧ xs[k+1].n ≤ 65536 - xs[k+1].a) ∧ 0 ≤ xs[k+1].s ∧ 0 ≤ xs[k+1].n ∧ xs[k+1].s ≤ 65536 ∧ xs[k+1].n ≤ 65536 - xs[k+1].s)
      · exact .inr ⟨by omega, Classical.byContradiction fun h3 => h1 ⟨by omega, by omega⟩⟩
      · exact .inl h2

theorem c_extent_within (a n s : Int) (hs : s ≤ 65536) : PureC Tryz.prog 173 [I a, I n, I s] (val (.bool (decide (Wi a n s)))) := by
  refine PureC.of_wp Tryz.func173 (by kernel_rfl) rfl Tryz.ntmps173 (le_ rfl) (fun w0 M0 => ?_)
  refine WP.seq ?_
  refine WP.region ?_
  refine WL.op (asg (oc _)) (by decide) ?_
  refine WL.nl (.thn ?_)
  refine WP.seq ?_
  refine WP.region ?_
  refine WL.op (mv (ot rfl)) (by decide) ?_
  refine WL.op (geq (ot rfl) (oc _)) (by decide) ?_
  refine WL.op (mv (ot rfl)) (by decide) ?_
  refine WL.gd rfl rfl (Tells.v _ _) (fun hg => mv (ot rfl)) (by decide) ?_
  refine WL.gd rfl rfl (Tells.v _ _) (fun hg => geq (og rfl hg) (oc _)) (by decide) ?_
  refine WL.op (and_ (ot rfl) (ot rfl)) (by decide) ?_
  refine WL.op (mv (ot rfl)) (by decide) ?_
  refine WL.gd rfl rfl (Tells.v _ _) (fun hg => mv (ot rfl)) (by decide) ?_
  refine WL.gd rfl rfl (Tells.v _ _) (fun hg => mv (ot rfl)) (by decide) ?_
  refine WL.gd rfl rfl (Tells.v _ _) (fun hg => leq (og rfl hg) (og rfl hg)) (by decide) ?_
  refine WL.op (and_ (ot rfl) (ot rfl)) (by decide) ?_
  refine WL.op (mv (ot rfl)) (by decide) ?_
  refine WL.gd rfl rfl (Tells.v _ _) (fun hg => mv (ot rfl)) (by decide) ?_
  refine WL.gd rfl rfl (Tells.v _ _) (fun hg => mv (ot rfl)) (by decide) ?_
  refine WL.gd rfl rfl (Tells.v _ _) (fun hg => mv (ot rfl)) (by decide) ?_
  refine WL.gd rfl rfl (Tells.v _ _) (fun hg => sub (og rfl hg) (og rfl hg) (by simp at hg; omega)) (by decide) ?_
  refine WL.gd rfl rfl (Tells.v _ _) (fun hg => leq (og rfl hg) (og rfl hg)) (by decide) ?_
  refine WL.op (and_ (ot rfl) (ot rfl)) (by decide) ?_
  refine WL.op (asg (ot rfl)) (by decide) ?_
  refine WL.nl (.thn ?_)
  exact WP.rt (.r1 rfl rfl (imp_eq (congrArg (fun b => val (.bool b)) (by rw [Bool.eq_iff_iff]; refine Iff.trans ?_ decide_eq_true_iff.symm; simp [Wi, and_assoc]))))
theorem c_extent_proper (x : X) : PureC Tryz.prog 145 [ext x] (val (.bool (decide (Pr x)))) := by
  refine PureC.of_wp Tryz.func145 (by kernel_rfl) rfl Tryz.ntmps145 (le_ rfl) (fun w0 M0 => ?_)
  refine WP.seq ?_
  refine WP.region ?_
  refine WL.box (ot rfl) (.agg _) (by decide) fun b1 => ?_
  refine WL.op (asg (oc _)) (by decide) ?_
  refine WL.nl (.thn ?_)
  refine WP.seq ?_
  refine WP.region ?_
  refine WL.op (fv fo_Extent_1 (ot rfl)) (by decide) ?_
  refine WL.op (lb 0 rfl sc_int (ot rfl) rfl) (by decide) ?_
  refine WL.op (geq (ot rfl) (oc _)) (by decide) ?_
  refine WL.op (mv (ot rfl)) (by decide) ?_
  refine WL.gd rfl rfl (Tells.v _ _) (fun hg => fv fo_Extent_0 (ot rfl)) (by decide) ?_
  refine WL.gd rfl rfl (Tells.v _ _) (fun hg => lb 0 rfl sc_int (og rfl hg) rfl) (by decide) ?_
  refine WL.gd rfl rfl (Tells.v _ _) (fun hg => fv fo_Extent_1 (ot rfl)) (by decide) ?_
  refine WL.gd rfl rfl (Tells.v _ _) (fun hg => lb 0 rfl sc_int (og rfl hg) rfl) (by decide) ?_
  refine WL.gd rfl rfl (Tells.v _ _) (fun hg => call (c_extent_within _ _ _ (by decide)) (.c (og rfl hg) (.c (og rfl hg) (.c (oc _) .n)))) (by decide) ?_
  refine WL.op (and_ (ot rfl) (ot rfl)) (by decide) ?_
  refine WL.op (mv (ot rfl)) (by decide) ?_
  refine WL.gd rfl rfl (Tells.v _ _) (fun hg => fv fo_Extent_2 (ot rfl)) (by decide) ?_
  refine WL.gd rfl rfl (Tells.v _ _) (fun hg => lb 0 rfl sc_int (og rfl hg) rfl) (by decide) ?_
  refine WL.gd rfl rfl (Tells.v _ _) (fun hg => fv fo_Extent_1 (ot rfl)) (by decide) ?_
  refine WL.gd rfl rfl (Tells.v _ _) (fun hg => lb 0 rfl sc_int (og rfl hg) rfl) (by decide) ?_
  refine WL.gd rfl rfl (Tells.v _ _) (fun hg => call (c_extent_within _ _ _ (by decide)) (.c (og rfl hg) (.c (og rfl hg) (.c (oc _) .n)))) (by decide) ?_
  refine WL.op (and_ (ot rfl) (ot rfl)) (by decide) ?_
  refine WL.op (asg (ot rfl)) (by decide) ?_
  refine WL.nl (.thn ?_)
  exact WP.rt (.r1 rfl rfl (imp_eq (congrArg (fun b => val (.bool b)) (by rw [Bool.eq_iff_iff]; refine Iff.trans ?_ decide_eq_true_iff.symm; simp [Pr, and_assoc]))))
theorem c_extent_end (x : X) (h : 0 ≤ x.a + x.n ∧ x.a + x.n ≤ 100000000) : PureC Tryz.prog 156 [ext x] (I (x.a + x.n)) := by
  refine PureC.of_wp Tryz.func156 (by kernel_rfl) rfl Tryz.ntmps156 (le_ rfl) (fun w0 M0 => ?_)
  refine WP.seq ?_
  refine WP.region ?_
  refine WL.box (ot rfl) (.agg _) (by decide) fun b1 => ?_
  refine WL.op (asg (oc _)) (by decide) ?_
  refine WL.nl (.thn ?_)
  refine WP.seq ?_
  refine WP.region ?_
  refine WL.op (fv fo_Extent_0 (ot rfl)) (by decide) ?_
  refine WL.op (lb 0 rfl sc_int (ot rfl) rfl) (by decide) ?_
  refine WL.op (fv fo_Extent_1 (ot rfl)) (by decide) ?_
  refine WL.op (lb 0 rfl sc_int (ot rfl) rfl) (by decide) ?_
  refine WL.op (add (ot rfl) (ot rfl) (by omega)) (by decide) ?_
  refine WL.op (asg (ot rfl)) (by decide) ?_
  refine WL.nl (.thn ?_)
  exact WP.rt (.r1 rfl rfl (imp _))
theorem c_x_follows (x y : X) (h : 0 ≤ x.a + x.n ∧ x.a + x.n ≤ 100000000) (h2 : 0 ≤ x.s + x.n ∧ x.s + x.n ≤ 100000000) : PureC Tryz.prog 128 [ext x, ext y] (val (.bool (decide (Fol x y)))) := by
  refine PureC.of_wp Tryz.func128 (by kernel_rfl) rfl Tryz.ntmps128 (le_ rfl) (fun w0 M0 => ?_)
  refine WP.seq ?_
  refine WP.region ?_
  refine WL.box (ot rfl) (.agg _) (by decide) fun b2 => ?_
  refine WL.box (ot rfl) (.agg _) (by decide) fun b3 => ?_
  refine WL.op (asg (oc _)) (by decide) ?_
  refine WL.nl (.thn ?_)
  refine WP.seq ?_
  refine WP.region ?_
  refine WL.op (fv fo_Extent_0 (ot rfl)) (by decide) ?_
  refine WL.op (lb 1 rfl sc_int (ot rfl) rfl) (by decide) ?_
  refine WL.op (fv fo_Extent_1 (ot rfl)) (by decide) ?_
  refine WL.op (lb 1 rfl sc_int (ot rfl) rfl) (by decide) ?_
  refine WL.op (add (ot rfl) (ot rfl) (by omega)) (by decide) ?_
  refine WL.op (fv fo_Extent_0 (ot rfl)) (by decide) ?_
  refine WL.op (lb 0 rfl sc_int (ot rfl) rfl) (by decide) ?_
  refine WL.op (eql (ot rfl) (ot rfl)) (by decide) ?_
  refine WL.op (mv (ot rfl)) (by decide) ?_
  refine WL.gd rfl rfl (Tells.v _ _) (fun hg => fv fo_Extent_2 (ot rfl)) (by decide) ?_
  refine WL.gd rfl rfl (Tells.v _ _) (fun hg => lb 1 rfl sc_int (og rfl hg) rfl) (by decide) ?_
  refine WL.gd rfl rfl (Tells.v _ _) (fun hg => fv fo_Extent_1 (ot rfl)) (by decide) ?_
  refine WL.gd rfl rfl (Tells.v _ _) (fun hg => lb 1 rfl sc_int (og rfl hg) rfl) (by decide) ?_
  refine WL.gd rfl rfl (Tells.v _ _) (fun hg => add (og rfl hg) (og rfl hg) (by omega)) (by decide) ?_
  refine WL.gd rfl rfl (Tells.v _ _) (fun hg => fv fo_Extent_2 (ot rfl)) (by decide) ?_
  refine WL.gd rfl rfl (Tells.v _ _) (fun hg => lb 0 rfl sc_int (og rfl hg) rfl) (by decide) ?_
  refine WL.gd rfl rfl (Tells.v _ _) (fun hg => eql (og rfl hg) (og rfl hg)) (by decide) ?_
  refine WL.op (and_ (ot rfl) (ot rfl)) (by decide) ?_
  refine WL.op (asg (ot rfl)) (by decide) ?_
  refine WL.nl (.thn ?_)
  exact WP.rt (.r1 rfl rfl (imp_eq (congrArg (fun b => val (.bool b)) (by rw [Bool.eq_iff_iff]; refine Iff.trans ?_ decide_eq_true_iff.symm; simp [Fol, and_assoc]))))
theorem c_x_proper (a n : Int) : PureC Tryz.prog 132 [I a, I n] (val (.bool (decide (Wi a n 65536)))) := by
  refine PureC.of_wp Tryz.func132 (by kernel_rfl) rfl Tryz.ntmps132 (le_ rfl) (fun w0 M0 => ?_)
  refine WP.seq ?_
  refine WP.region ?_
  refine WL.op (asg (oc _)) (by decide) ?_
  refine WL.nl (.thn ?_)
  refine WP.seq ?_
  refine WP.region ?_
  refine WL.op (mv (ot rfl)) (by decide) ?_
  refine WL.op (geq (ot rfl) (oc _)) (by decide) ?_
  refine WL.op (mv (ot rfl)) (by decide) ?_
  refine WL.gd rfl rfl (Tells.v _ _) (fun hg => mv (ot rfl)) (by decide) ?_
  refine WL.gd rfl rfl (Tells.v _ _) (fun hg => geq (og rfl hg) (oc _)) (by decide) ?_
  refine WL.op (and_ (ot rfl) (ot rfl)) (by decide) ?_
  refine WL.op (mv (ot rfl)) (by decide) ?_
  refine WL.gd rfl rfl (Tells.v _ _) (fun hg => mv (ot rfl)) (by decide) ?_
  refine WL.gd rfl rfl (Tells.v _ _) (fun hg => leq (og rfl hg) (oc _)) (by decide) ?_
  refine WL.op (and_ (ot rfl) (ot rfl)) (by decide) ?_
  refine WL.op (mv (ot rfl)) (by decide) ?_
  refine WL.gd rfl rfl (Tells.v _ _) (fun hg => mv (ot rfl)) (by decide) ?_
  refine WL.gd rfl rfl (Tells.v _ _) (fun hg => mv (ot rfl)) (by decide) ?_
  refine WL.gd rfl rfl (Tells.v _ _) (fun hg => sub (oc _) (og rfl hg) (by simp at hg; omega)) (by decide) ?_
  refine WL.gd rfl rfl (Tells.v _ _) (fun hg => leq (og rfl hg) (og rfl hg)) (by decide) ?_
  refine WL.op (and_ (ot rfl) (ot rfl)) (by decide) ?_
  refine WL.op (asg (ot rfl)) (by decide) ?_
  refine WL.nl (.thn ?_)
  exact WP.rt (.r1 rfl rfl (imp_eq (congrArg (fun b => val (.bool b)) (by rw [Bool.eq_iff_iff]; refine Iff.trans ?_ decide_eq_true_iff.symm; simp [Wi, and_assoc]))))
theorem c_extent_Valid (xs : List X) (hl : xs.length ≤ 100000) : PureC Tryz.prog 125 [sl 3 FX xs] (val (.bool (decide (Xt.Ok 0 xs)))) := by
  refine PureC.of_wp Tryz.func125 (by kernel_rfl) rfl Tryz.ntmps125 (le_ rfl) (fun w0 M0 => ?_)
  refine WP.seq ?_
  refine WP.region ?_
  refine WL.op (asg (oc _)) (by decide) ?_
  refine WL.nl (.thn ?_)
  refine WP.seq ?_
  refine WP.seq ?_
  refine WP.region ?_
  refine WL.op (mv (ot rfl)) (by decide) ?_
  refine WL.op (len_ us_s_api_Extent (ot rfl)) (by decide) ?_
  refine WL.op (mv (oc _)) (by decide) ?_
  refine WL.nl (.thn ?_)
  refine WP.block ?_
  refine WP.loop (fun _ : Nat => []) (fun i => [(7, I (i : Int)), (6, I (xs.length : Int)), (5, sl 3 FX xs), (0, sl 3 FX xs)]) (fun i => i ≤ xs.length ∧ Xt.Ok 0 (xs.take i)) (fun i => xs.length - i) 0 ⟨Nat.zero_le _, trivial⟩ (Sub.of (Sub.cons rfl (imp_eq rfl) (Sub.cons rfl (imp _) (Sub.cons rfl (imp _) (Sub.cons rfl (imp _) Sub.nil))))) (fun i hi => ?_)
  refine WP.seq ?_
  refine WP.region ?_
  refine WL.op (lss (ot rfl) (ot rfl)) (by decide) ?_
  refine WL.nl (.thn ?_)
  refine WP.seq ?_
  refine WP.condB (decide (i < xs.length)) rfl (by rw [Bool.eq_iff_iff]; simp) (fun hc => ?_) (fun hc => ?_)
  · skip
    have hc1 : i < xs.length := by simpa using hc
    have hprev : 0 < i → 0 ≤ (xs.getD ((i : Int) - 1).toNat default).a + (xs.getD ((i : Int) - 1).toNat default).n ∧ (xs.getD ((i : Int) - 1).toNat default).a + (xs.getD ((i : Int) - 1).toNat default).n ≤ 100000000 := fun h0 => by
      have e2 : ((i : Int) - 1).toNat = i - 1 := by omega
      rw [e2, List.getD_eq_getElem?_getD, List.getElem?_eq_getElem (by omega)]
      have := hi.2.starts (xs[i - 1]) (List.mem_take_iff_getElem.2 ⟨i - 1, by omega, rfl⟩)
      show 0 ≤ xs[i - 1].a + xs[i - 1].n ∧ xs[i - 1].a + xs[i - 1].n ≤ 100000000
      omega
    refine WP.sk (.thn ?_)
    refine WP.seq ?_
    refine WP.block ?_
    refine WP.seq ?_
    refine WP.region ?_
    refine WL.op (mv (ot rfl)) (by decide) ?_
    refine WL.op (ixd el_s_api_Extent (ot rfl) (ot rfl) (by omega) (by omega)) (by decide) ?_
    refine WL.op (ls ag_Extent (ot rfl) (le_ rfl)) (by decide) ?_
    refine WL.alloc zr_Extent rfl (by decide) fun b4 => ?_
    refine WL.op (asg (ot rfl)) (by decide) ?_
    refine WL.store 0 rfl (ot rfl) (ot rfl) (.agg _) sz_Extent rfl (le_ rfl) ?_
    refine WL.nl (.thn ?_)
    refine WP.seq ?_
    refine WP.draws ?_
    refine RG.op (lbs 0 rfl ag_Extent (ot rfl) (le_ rfl)) ?_
    refine RG.op (call (c_extent_proper (xs.getD (i : Int).toNat default)) (.c (ot rfl) .n)) ?_
    refine RG.op (not_ (ot rfl)) ?_
    refine RG.op (mv (ot rfl)) ?_
    refine RG.gd rfl rfl (Tells.v _ _) (fun hg => mv (ot rfl)) ?_
    refine RG.gd rfl rfl (Tells.v _ _) (fun hg => gtr (og rfl hg) (oc _)) ?_
    refine RG.gd rfl rfl (Tells.v _ _) (fun hg => mv (og rfl hg)) ?_
    refine RG.gd rfl rfl (Tells.g _ _) (fun hg => fv fo_Extent_0 (ot rfl)) ?_
    refine RG.gd rfl rfl (Tells.g _ _) (fun hg => lb 0 rfl sc_int (og rfl hg) rfl) ?_
    refine RG.gd rfl rfl (Tells.g _ _) (fun hg => mv (ot rfl)) ?_
    refine RG.gd rfl rfl (Tells.g _ _) (fun hg => mv (ot rfl)) ?_
    refine RG.gd rfl rfl (Tells.g _ _) (fun hg => sub (og rfl hg) (oc _) (by omega)) ?_
    refine RG.gd rfl rfl (Tells.g _ _) (fun hg => ixd el_s_api_Extent (og rfl hg) (og rfl hg) (by simp at hg; omega) (by omega)) ?_
    refine RG.gd rfl rfl (Tells.g _ _) (fun hg => ls ag_Extent (og rfl hg) (le_ rfl)) ?_
    refine RG.gd rfl rfl (Tells.g _ _) (fun hg => call (c_extent_end (xs.getD ((i : Int) - 1).toNat default) (by simp at hg; exact hprev (by omega))) (.c (og rfl hg) .n)) ?_
    refine RG.gd rfl rfl (Tells.g _ _) (fun hg => lss (og rfl hg) (og rfl hg)) ?_
    refine RG.gd rfl rfl (Tells.v _ _) (fun hg => and_ (og rfl hg) (og2 rfl hg)) ?_
    refine RG.op (or_ (ot rfl) (ot rfl)) ?_
    refine RG.fin HM (by kernel_rfl) ?_
    show WL _ _ _ _ _ _ _ _ _
    refine WL.nl (.thn ?_)
    refine WP.condB (!decide (Xt.Ok 0 (xs.take (i + 1)))) rfl (valid_step hc1 hi.2) (fun hc => ?_) (fun hc => ?_)
    · skip
      refine WP.seq ?_
      refine WP.region ?_
      refine WL.op (asg (oc _)) (by decide) ?_
      refine WL.nl (.thn ?_)
      exact WP.rt (.rblk (.rthn (.rthn (.rblk (.rthn (.r1 rfl rfl (imp_eq (congrArg (fun b => val (.bool b)) (Eq.symm (decide_eq_false fun h => (by simpa using hc : ¬ Xt.Ok 0 (xs.take (i + 1))) (Xt.Ok.append_left (B := xs.drop (i + 1)) (by rw [List.take_append_drop]; exact h))))))))))))
    · skip
      refine WP.sk (.blk (.thn ?_))
      refine WP.region ?_
      refine WL.op (add (ot rfl) (oc _) (by omega)) (by decide) ?_
      refine WL.op (mv (ot rfl)) (by decide) ?_
      exact WL.nl (.again (i + 1) ⟨hc1, by simpa using hc⟩ (by omega) (Sub.ofD 1 rfl (Sub.cons rfl (imp_eq (congrArg I (by omega))) (Sub.cons rfl (imp _) (Sub.cons rfl (imp _) (Sub.cons rfl (imp _) Sub.nil))))))
  · skip
    have hc1 : ¬ i < xs.length := by simpa using hc
    refine WP.xt (.xthn (.xthn (.xin (.thn ?_))))
    refine WP.seq ?_
    refine WP.region ?_
    refine WL.op (asg (oc _)) (by decide) ?_
    refine WL.nl (.thn ?_)
    exact WP.rt (.r1 rfl rfl (imp_eq (congrArg (fun b => val (.bool b)) (Eq.symm (decide_eq_true (by have := hi.2; rwa [List.take_of_length_le (by omega)] at this))))))
end Go.Proofs.YtjglgfnhgehpeaaGreat

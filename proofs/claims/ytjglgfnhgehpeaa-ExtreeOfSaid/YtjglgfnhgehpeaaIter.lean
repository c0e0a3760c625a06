/- The iterator of a tree: a walk whose 'yield' is a round of the caller's loop. -/
import Derived.RangeFuncKeeps
import Derived.RangeFuncBound
import Derived.RangeFuncLeaves
import Derived.RangeFuncFrom
import Derived.Shelf.Abstract
import Derived.WalkKit
import Derived.OwnWalkIn
import Derived.TacticsInMore
import Derived.Test.YtjglgfnhgehpeaaTree3
namespace Go.Proofs.Ytjglgfnhgehpeaa
open Go.RowKit Go.Shelf Go.Fw Go.Xt
set_option linter.unusedVariables false
set_option linter.unusedSimpArgs false
attribute [local go_sem] Oper.semAt_some
theorem room_of_none {F : Fence} (hd : F.depth = none) (k : Nat) : F.room k := fun d h => by rw [hd] at h; cases h
theorem RoundIn.anyDepth {F : Fence} (hd : F.depth = none) {m m' : Nat} {P : Program} {l : Nat} {f : FuncId} {tmps : Array Value} {assign body : Code} {w : World} {R : Ending → World → Prop}
    (h : RoundIn F m P l f tmps assign body w R) : RoundIn F m' P l f tmps assign body w R := ⟨h.1, fun c cs _ => h.2 c cs (room_of_none hd _)⟩
theorem YieldAt.anyDepth {F : Fence} (hd : F.depth = none) {m : Nat} (m' : Nat) {P : Program} {l : Nat} {args : Array Value} {W : World} {R : Ending → World → Prop} (h : YieldAt F m P l args W R) : YieldAt F m' P l args W R := by
  obtain ⟨fn, tmps, assign, body, hy, hR⟩ := h
  exact ⟨fn, tmps, assign, body, hy, RoundIn.anyDepth hd hR⟩
theorem skip_fn {F : Fence} {n : Nat} {P : Program} {ops : Array Oper} {Q : Exit → Act → World → Prop} {a : Act} {w : World} {rest : List Oper} {o : Oper} {f : FuncId} (hw : Region.wanted o (yielded ops a.tmps) = false) (ha : o.about P w a.eval = some f) (hf : F.fn f) (h : wpListIn F n P ops Q rest (a.put o.dst undef) w) : wpListIn F n P ops Q (o :: rest) a w := by
  simp only [wpListIn, hw]
  exact ⟨fun g hg => (by rw [ha] at hg; cases hg; exact hf), h⟩
/-- what lies outside a mask is kept -/
abbrev KM (M : Mask) (W W' : World) : Prop := Fw.Kp W M W' M
theorem KM.cell {M : Mask} {W W' : World} (h : KM M W W') {b o : Nat} (hb : b < W.heap.size ∧ ¬ M b) : W'.cell? ⟨b, o, none⟩ = W.cell? ⟨b, o, none⟩ := World.cell?_of_block (w := W) (a := ⟨b, o, none⟩) (h.block b hb.1 hb.2)
/-- a tree that no round writes -/
def IsT (M : Mask) (W : World) (p : Option Addr) (t : Tr) : Prop := (tree t).h (.pointer p) W M
theorem IsT.keep {M : Mask} {A B : World} (h : KM M A B) {p : Option Addr} {t : Tr} (ht : IsT M A p t) : IsT M B p t := Rp.keep _ ht h
theorem IsT.nil {M : Mask} {W : World} {p : Option Addr} (h : IsT M W p .nil) : p = none := by
  have h : Value.pointer p = .pointer none := h
  cases h; rfl
theorem tree_ptr {t : Tr} {v : Value} {W : World} {M : Mask} (h : (tree t).h v W M) : ∃ p, v = .pointer p := by
  cases t with
  | nil => exact ⟨none, h⟩
  | node l x r => obtain ⟨b, o, h, _⟩ := h; exact ⟨_, h⟩
theorem IsT.node {M : Mask} {W : World} {p : Option Addr} {l r : Tr} {x : X} (h : IsT M W p (.node l x r)) : ∃ b o pl pr, p = some ⟨b, o, none⟩ ∧ (b < W.heap.size ∧ ¬ M b) ∧
    W.cell? ⟨b, o, none⟩ = some (.int .i64 x.a) ∧ W.cell? ⟨b, o + 1, none⟩ = some (.int .i64 x.n) ∧ W.cell? ⟨b, o + 2, none⟩ = some (.int .i64 x.s) ∧ W.cell? ⟨b, o + 3, none⟩ = some (.pointer pl) ∧ W.cell? ⟨b, o + 4, none⟩ = some (.pointer pr) ∧ IsT M W pl l ∧ IsT M W pr r := by
  obtain ⟨b, o, h1, h2, h3, h4⟩ := h
  obtain ⟨⟨c0, g0, _, k0⟩, ⟨c1, g1, _, k1⟩, ⟨c2, g2, _, k2⟩, ⟨c3, g3, _, k3⟩, ⟨c4, g4, _, k4⟩, _⟩ := h4
  have k0 : c0 = _ := k0
  have k1 : c1 = _ := k1
  have k2 : c2 = _ := k2
  subst k0; subst k1; subst k2
  obtain ⟨pl, rfl⟩ := tree_ptr k3
  obtain ⟨pr, rfl⟩ := tree_ptr k4
  cases h1
  exact ⟨b, o, pl, pr, rfl, ⟨h2, h3⟩, g0, g1, g2, g3, g4, k3, k4⟩
abbrev encV (x : X) : Array Value := #[.agg #[.int .i64 x.a, .int .i64 x.n, .int .i64 x.s]]
theorem walk_in (F : Fence) (hd : F.depth = none) (h6 : F.fn 54) (hro : F.round = none) (l N : Nat) (M : Mask) (J Jx : List X → World → Prop)
    (hY : ∀ m pre x W, J pre W → pre.length < N → YieldAt F m Try.prog l (encV x) W fun e W' =>
      (e = .returned (.bool true) ∧ J (pre ++ [x]) W' ∧ KM M W W') ∨ (e = .returned (.bool false) ∧ Jx (pre ++ [x]) W')) (T : Tr) :
    ∀ (n : Nat) (p : Option Addr) (pre : List X) (W : World), IsT M W p T → J pre W → pre.length + T.list.length ≤ N →
      CallsIn F n Try.prog 54 #[.pointer p, .func (.yield l) #[] #[]] W fun e W' =>
        (e = .returned (.bool true) ∧ J (pre ++ T.list) W' ∧ KM M W W') ∨ (e = .returned (.bool false) ∧ ∃ q, q <+: T.list ∧ Jx (pre ++ q) W') := by
  induction T with
  | nil =>
    intro n p pre W ht hJ _
    obtain rfl := ht.nil
    refine callsIn_of_wp Try.func54 rfl h6 ?_ hro
    simp only [Try.ntmps54, List.size_toArray, List.length_cons, List.length_nil, Nat.reduceAdd, Nat.reduceSub, Array.replicate_succ, Array.replicate_zero, List.push_toArray, List.append_toArray, List.nil_append, List.cons_append]
    gi_wp2_with (first | refine wpListIn_skip (by rfl) (by rfl) ?_ | refine skip_fn (by rfl) (by rfl) h6 ?_)
    go_ret
    exact .inl ⟨rfl, by simpa [Tr.list] using hJ, Fw.Kp.refl _ _⟩
  | node tl x tr ihl ihr =>
    intro n p pre W ht hJ hN
    obtain ⟨b, o, pl, pr, rfl, hb, c0, c1, c2, c3, c4, hl, hr⟩ := ht.node
    have hdd : ∀ k : Nat, (F.depth.isSome = true → 1 ≤ k) := fun k h => by rw [hd] at h; cases h
    simp only [Tr.list, List.length_append, List.length_cons] at hN
    have hy2 : ∀ W1, J (pre ++ tl.list) W1 → KM M W W1 → YieldAt F (n - 1) Try.prog l (encV x) W1 fun e W2 =>
        (e = .returned (.bool true) ∧ J (pre ++ tl.list ++ [x]) W2 ∧ KM M W W2 ∧ W2.cell? ⟨b, o + 4, none⟩ = some (.pointer pr) ∧ IsT M W2 pr tr) ∨ (e = .returned (.bool false) ∧ Jx (pre ++ tl.list ++ [x]) W2) := fun W1 hJ1 hb1 =>
      YieldAt.mono (hY (n - 1) _ x W1 hJ1 (by simp; omega)) fun e W2 h => h.elim
        (fun ⟨he, hj, hb2⟩ => .inl ⟨he, hj, hb1.trans hb2, (KM.cell (hb1.trans hb2) hb).trans c4, hr.keep (hb1.trans hb2)⟩) .inr
    have ih1 := (ihl (n - 1) pl pre W hl hJ (by omega)).mono (R' := fun e W1 =>
        (e = .returned (.bool true) ∧ W1.cell? ⟨b, o, none⟩ = some (.int .i64 x.a) ∧ W1.cell? ⟨b, o + 1, none⟩ = some (.int .i64 x.n) ∧ W1.cell? ⟨b, o + 2, none⟩ = some (.int .i64 x.s) ∧ YieldAt F (n - 1) Try.prog l (encV x) W1 fun e W2 =>
          (e = .returned (.bool true) ∧ J (pre ++ tl.list ++ [x]) W2 ∧ KM M W W2 ∧ W2.cell? ⟨b, o + 4, none⟩ = some (.pointer pr) ∧ IsT M W2 pr tr) ∨ (e = .returned (.bool false) ∧ Jx (pre ++ tl.list ++ [x]) W2)) ∨
        (e = .returned (.bool false) ∧ ∃ q, q <+: tl.list ∧ Jx (pre ++ q) W1))
      (fun e W1 h => h.elim (fun ⟨he, hj, hb1⟩ => .inl ⟨he, (KM.cell hb1 hb).trans c0, (KM.cell hb1 hb).trans c1, (KM.cell hb1 hb).trans c2, hy2 W1 hj hb1⟩) .inr)
    clear hy2 ihl
    refine callsIn_of_wp Try.func54 rfl h6 ?_ hro
    simp only [Try.ntmps54, List.size_toArray, List.length_cons, List.length_nil, Nat.reduceAdd, Nat.reduceSub, Array.replicate_succ, Array.replicate_zero, List.push_toArray, List.append_toArray, List.nil_append, List.cons_append]
    gi_wp2_with (first
      | ((try refine ⟨hdd _, ?_⟩); gi_at_call 54; refine ih1.mono ?_; clear ih1; rintro e W1 (⟨rfl, c0', c1', c2', fn, tmps, assign, body, hy, hR⟩ | ⟨rfl, q, hq, hx1⟩))
      | ((try refine ⟨hdd _, ?_⟩); refine hR.mono ?_; clear hR; rintro e W2 (⟨rfl, hJ2, hb2, c4', hr2⟩ | ⟨rfl, hx2⟩))
      | ((try refine ⟨hdd _, ?_⟩); gi_at_call 54; refine (ihr (n - 1) pr _ _ hr2 hJ2 (by simp; omega)).mono ?_; rintro e W3 (⟨rfl, hJ3, hb3⟩ | ⟨rfl, q, hq, hx3⟩)))
    · go_ret
      exact .inl ⟨rfl, by simpa [Tr.list, List.append_assoc] using hJ3, hb2.trans hb3⟩
    · go_ret
      obtain ⟨r, hr'⟩ := hq
      exact .inr ⟨rfl, tl.list ++ x :: q, ⟨r, by simp [Tr.list, ← hr']⟩, by simpa [List.append_assoc] using hx3⟩
    · go_ret
      exact .inr ⟨rfl, tl.list ++ [x], ⟨tr.list, by simp [Tr.list]⟩, by simpa [List.append_assoc] using hx2⟩
    · refine ⟨fun _ h => (by cases h), ?_⟩
      gi_wp2
      go_ret
      exact .inr ⟨rfl, q, hq.trans (by simp [Tr.list]), hx1⟩

set_option maxHeartbeats 1000000 in
theorem all1_in (F : Fence) (hd : F.depth = none) (n : Nat) (h5 : F.fn 53) (h6 : F.fn 54) (hro : F.round = none) (l Bt Bo : Nat) (M : Mask) (p0 : Option Addr) (T : Tr) (J Jx : List X → World → Prop)
    (hY : ∀ pre x W, J pre W → pre.length < T.list.length → YieldAt F (n - 1) Try.prog l (encV x) W fun e W' =>
      (e = .returned (.bool true) ∧ J (pre ++ [x]) W' ∧ KM M W W') ∨ (e = .returned (.bool false) ∧ Jx (pre ++ [x]) W'))
    (W : World) (hBt : W.cell? ⟨Bt, Bo, none⟩ = some (.pointer p0)) (hT : IsT M W p0 T) (h0 : J [] W) :
    CallsIn F n Try.prog 53 #[.func (.yield l) #[] #[], .pointer (some ⟨Bt, Bo, none⟩)] W fun e W' => (∃ v, e = .returned v) ∧
      ((∃ ys, ys = T.list ∧ J ys W') ∨ (∃ pre, pre <+: T.list ∧ Jx pre W')) := by
  have hdd : ∀ k : Nat, (F.depth.isSome = true → 1 ≤ k) := fun k h => by rw [hd] at h; cases h
  have hp := walk_in F hd h6 hro l T.list.length M J Jx (fun m pre x W hj hl => YieldAt.anyDepth hd m (hY pre x W hj hl)) T (n - 1) p0 [] W hT h0 (by simp)
  refine callsIn_of_wp Try.func53 rfl h5 ?_ hro
  simp only [Try.ntmps53, List.size_toArray, List.length_cons, List.length_nil, Nat.reduceAdd, Nat.reduceSub, Array.replicate_succ, Array.replicate_zero, List.push_toArray, List.append_toArray, List.nil_append, List.cons_append]
  gi_wp2_with ((try refine ⟨hdd _, ?_⟩); gi_at_call 54; refine hp.mono ?_; clear hp; rintro e W1 (⟨rfl, hJ1, _⟩ | ⟨rfl, q, hq, hx⟩))
  · go_end0
    exact ⟨⟨_, rfl⟩, .inl ⟨_, rfl, by simpa using hJ1⟩⟩
  · go_end0
    exact ⟨⟨_, rfl⟩, .inr ⟨q, hq, by simpa using hx⟩⟩
/-- the iterator's promise -/
theorem all_stops (F : Fence) (hd : F.depth = none) (n : Nat) (h5 : F.fn 53) (h6 : F.fn 54) (hro : F.round = none) {Bt Bo : Nat} {M : Mask} {p0 : Option Addr} {T : Tr} {w : World} (hsz : ∀ b, w.heap.size ≤ b → M b)
    (hc : w.cell? ⟨Bt, Bo, none⟩ = some (.pointer p0)) (hBt : Bt < w.heap.size) (hT : IsT M w p0 T) :
    SeqStopsK F n Try.prog 53 #[.pointer (some ⟨Bt, Bo, none⟩)] encV (KM M) (fun ys => ys = T.list) (fun pre => pre <+: T.list) T.list.length w := fun l J Jx W hW _ _ hY h0 =>
  all1_in F hd n h5 h6 hro l Bt Bo M p0 T J Jx hY W ((hW.cell (p := ⟨Bt, Bo, none⟩) hBt).trans hc) (hT.keep ⟨fun b hb _ => hW.block b hb, hW.size, fun b hb => .inl hb⟩) h0
end Go.Proofs.Ytjglgfnhgehpeaa

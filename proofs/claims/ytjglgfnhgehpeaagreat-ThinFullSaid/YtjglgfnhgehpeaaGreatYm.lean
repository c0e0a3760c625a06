/- Parts: Cntb, RunsW, SrtL, SrtC, SrtD. -/
import Derived.Test.YtjglgfnhgehpeaaGreatYl
import Derived.Test.YtjglgfnhgehpeaaGreatYf
import Derived.Shelf.SlGeneric
import Derived.Shelf.SlSortCmp.WholeK
import Derived.Test.YtjglgfnhgehpeaaGreatProg
import Derived.Shelf.SlSortCmp.InsertionK
import Derived.WalkKit
import Derived.Shelf.SlSortCmp.NoneTotal
/- Counts of slots: more. -/
set_option linter.unusedVariables false
set_option linter.unusedSimpArgs false
set_option maxRecDepth 4000
namespace Go.Proofs.YtjglgfnhgehpeaaGreat
open Go.RowKit Go.Fw Go.Xt

theorem All2.imp {w : World} {M : Mask} {Rs Rs' : List Rp} (h : ImpT Rs Rs') : ∀ {cs : List Value}, All2 w M Rs cs → All2 w M Rs' cs := by
  induction h with
  | n => intro cs h; exact h
  | c h _ ih =>
    intro cs hv
    cases cs with
    | nil => exact hv.elim
    | cons v vs => exact ⟨⟨h _ _ _ hv.1.1, hv.1.2⟩, ih hv.2⟩
theorem impA {Rs Rs' : List Rp} (h : ImpT Rs Rs') : ∀ v w M, (agg Rs).h v w M → (agg Rs').h v w M := fun v w M ⟨vs, h1, h2⟩ => ⟨vs, h1, All2.imp h h2⟩
def fidx {α : Type} (p : α → Bool) (L : List α) : Int := match L.findIdx? p with
  | some k => k
  | none => -1
theorem fidx_some {α : Type} [Inhabited α] {p : α → Bool} {L : List α} {i : Nat} (hi : i < L.length) (hn : ∀ x ∈ L.take i, p x = false) (hp : p (L.getD (i : Int).toNat default) = true) : fidx p L = i := by
  rw [show ((i : Nat) : Int).toNat = i from by omega, List.getD_eq_getElem?_getD, List.getElem?_eq_getElem hi] at hp
  have : L.findIdx? p = some i := by
    rw [List.findIdx?_eq_some_iff_getElem]
    refine ⟨hi, hp, fun j hj => ?_⟩
    have := hn L[j] (List.mem_take_iff_getElem.2 ⟨j, by omega, rfl⟩)
    simpa using this
  unfold fidx
  rw [this]
theorem fidx_none {α : Type} {p : α → Bool} {L : List α} (hn : ∀ x ∈ L, p x = false) : fidx p L = -1 := by
  have : L.findIdx? p = none := by
    rw [List.findIdx?_eq_none_iff]
    intro x hx; exact hn x hx
  unfold fidx
  rw [this]
theorem take_none {α : Type} [Inhabited α] {p : α → Bool} {L : List α} {i : Nat} (hi : i < L.length) (hn : ∀ x ∈ L.take i, p x = false) (hp : p (L.getD (i : Int).toNat default) = false) : ∀ x ∈ L.take (i + 1), p x = false := by
  intro x hx
  rw [List.take_add_one, List.getElem?_eq_getElem hi] at hx
  rcases List.mem_append.1 hx with hx | hx
  · exact hn x hx
  · rw [show ((i : Nat) : Int).toNat = i from by omega, List.getD_eq_getElem?_getD, List.getElem?_eq_getElem hi] at hp
    have : x = L[i] := by simpa using hx
    rw [this]; exact hp
theorem fidx_any {α : Type} {p : α → Bool} {L : List α} : decide (0 ≤ fidx p L) = L.any p := by
  unfold fidx
  cases h : L.findIdx? p with
  | none =>
    rw [List.findIdx?_eq_none_iff] at h
    have : L.any p = false := by
      rw [List.any_eq_false]
      intro x hx; rw [h x hx]; exact Bool.false_ne_true
    rw [this]; rfl
  | some k =>
    obtain ⟨h1, h2, _⟩ := List.findIdx?_eq_some_iff_getElem.1 h
    show decide ((0 : Int) ≤ (k : Int)) = _
    rw [decide_eq_true (by omega), List.any_eq_true.2 ⟨L[k], List.getElem_mem h1, h2⟩]

theorem c_slices_IndexFunc_int {g : FuncId} {caps : List Rp} {xs : List Int} {p : Int → Bool} (hl : xs.length ≤ 1000000) (hf : ∀ x : Int, PureC Tryz.prog g ([I x] ++ caps) (val (.bool (p x)))) : PureC Tryz.prog 149 [sl 1 FI xs, fnR g caps] (I (fidx p xs)) := by
  refine PureC.of_wp Tryz.func149 (by kernel_rfl) rfl Tryz.ntmps149 (le_ rfl) (fun w0 M0 => ?_)
  refine WP.seq ?_
  refine WP.region ?_
  refine WL.op (asg (oc _)) (by decide) ?_
  refine WL.nl (.thn ?_)
  refine WP.seq ?_
  refine WP.seq ?_
  refine WP.region ?_
  refine WL.op (mv (ot rfl)) (by decide) ?_
  refine WL.op (len_ us_s_int (ot rfl)) (by decide) ?_
  refine WL.op (mv (oc _)) (by decide) ?_
  refine WL.nl (.thn ?_)
  refine WP.block ?_
  refine WP.loop (fun y : Nat => []) (fun y => [(8, I (y : Int)), (7, I (xs.length : Int)), (0, sl 1 FI xs), (1, fnR g caps)]) (fun y => y ≤ xs.length ∧ ∀ x ∈ xs.take y, p x = false) (fun y => xs.length - y) 0 ⟨Nat.zero_le _, fun _ h => (by simp at h)⟩ (Sub.of (Sub.cons rfl (imp_eq rfl) (Sub.cons rfl (imp _) (Sub.cons rfl (imp _) (Sub.cons rfl (imp _) Sub.nil))))) (fun i hi => ?_)
  replace hi : i ≤ xs.length ∧ ∀ x ∈ xs.take i, p x = false := hi
  show WP _ _ _ _ [] [(8, I (i : Int)), (7, I (xs.length : Int)), (0, sl 1 FI xs), (1, fnR g caps)] _ _
  refine WP.seq ?_
  refine WP.region ?_
  refine WL.op (lss (ot rfl) (ot rfl)) (by decide) ?_
  refine WL.nl (.thn ?_)
  refine WP.seq ?_
  refine WP.cond rfl (fun hc => ?_) (fun hc => ?_)
  · skip
    have hc1 : i < xs.length := by have := of_decide_eq_true hc; omega
    refine WP.sk (.thn ?_)
    refine WP.seq ?_
    refine WP.block ?_
    refine WP.seq ?_
    refine WP.region ?_
    refine WL.op (mv (ot rfl)) (by decide) ?_
    refine WL.op (asg (ot rfl)) (by decide) ?_
    refine WL.nl (.thn ?_)
    refine WP.seq ?_
    refine WP.region ?_
    refine WL.op (mv (ot rfl)) (by decide) ?_
    refine WL.op (mv (ot rfl)) (by decide) ?_
    refine WL.op (mv (ot rfl)) (by decide) ?_
    refine WL.op (ixd el_s_int (ot rfl) (ot rfl) (by omega) (by omega)) (by decide) ?_
    refine WL.op (ld sc_int (ot rfl)) (by decide) ?_
    refine WL.op (callv (hf (xs.getD (i : Int).toNat default)) (ot rfl) (.c (ot rfl) .n)) (by decide) ?_
    refine WL.nl (.thn ?_)
    refine WP.cond rfl (fun hc => ?_) (fun hc => ?_)
    · skip
      refine WP.seq ?_
      refine WP.region ?_
      refine WL.op (mv (ot rfl)) (by decide) ?_
      refine WL.op (asg (ot rfl)) (by decide) ?_
      refine WL.nl (.thn ?_)
      exact WP.rt (.rblk (.rthn (.rthn (.rblk (.rthn (.r1 rfl rfl (imp_eq (congrArg I (fidx_some hc1 hi.2 hc).symm))))))))
    · skip
      refine WP.sk (.blk (.thn ?_))
      refine WP.region ?_
      refine WL.op (add (ot rfl) (oc _) (by omega)) (by decide) ?_
      refine WL.op (mv (ot rfl)) (by decide) ?_
      exact WL.nl (.again (i + 1) ⟨hc1, take_none hc1 hi.2 hc⟩ (by omega) (Sub.ofD 0 rfl (Sub.cons rfl (imp_eq (congrArg I (by omega))) (Sub.cons rfl (imp _) (Sub.cons rfl (imp _) (Sub.cons rfl (imp _) Sub.nil))))))
  · skip
    have hc1 : ¬ i < xs.length := by have := of_decide_eq_false hc; omega
    refine WP.xt (.xthn (.xthn (.xin (.thn ?_))))
    refine WP.seq ?_
    refine WP.region ?_
    refine WL.op (asg (oc _)) (by decide) ?_
    refine WL.nl (.thn ?_)
    exact WP.rt (.r1 rfl rfl (imp_eq (congrArg I (fidx_none (by have := hi.2; rwa [List.take_of_length_le (by omega)] at this)).symm)))
theorem c_slices_IndexFunc_ext {g : FuncId} {caps : List Rp} {xs : List X} {p : X → Bool} (hl : xs.length ≤ 1000000) (hf : ∀ x : X, PureC Tryz.prog g ([ext x] ++ caps) (val (.bool (p x)))) : PureC Tryz.prog 172 [sl 3 FX xs, fnR g caps] (I (fidx p xs)) := by
  refine PureC.of_wp Tryz.func172 (by kernel_rfl) rfl Tryz.ntmps172 (le_ rfl) (fun w0 M0 => ?_)
  refine WP.seq ?_
  refine WP.region ?_
  refine WL.op (asg (oc _)) (by decide) ?_
  refine WL.nl (.thn ?_)
  refine WP.seq ?_
  refine WP.seq ?_
  refine WP.region ?_
  refine WL.op (mv (ot rfl)) (by decide) ?_
  refine WL.op (len_ us_s_api_Extent (ot rfl)) (by decide) ?_
  refine WL.op (mv (oc _)) (by decide) ?_
  refine WL.nl (.thn ?_)
  refine WP.block ?_
  refine WP.loop (fun y : Nat => []) (fun y => [(8, I (y : Int)), (7, I (xs.length : Int)), (0, sl 3 FX xs), (1, fnR g caps)]) (fun y => y ≤ xs.length ∧ ∀ x ∈ xs.take y, p x = false) (fun y => xs.length - y) 0 ⟨Nat.zero_le _, fun _ h => (by simp at h)⟩ (Sub.of (Sub.cons rfl (imp_eq rfl) (Sub.cons rfl (imp _) (Sub.cons rfl (imp _) (Sub.cons rfl (imp _) Sub.nil))))) (fun i hi => ?_)
  replace hi : i ≤ xs.length ∧ ∀ x ∈ xs.take i, p x = false := hi
  show WP _ _ _ _ [] [(8, I (i : Int)), (7, I (xs.length : Int)), (0, sl 3 FX xs), (1, fnR g caps)] _ _
  refine WP.seq ?_
  refine WP.region ?_
  refine WL.op (lss (ot rfl) (ot rfl)) (by decide) ?_
  refine WL.nl (.thn ?_)
  refine WP.seq ?_
  refine WP.cond rfl (fun hc => ?_) (fun hc => ?_)
  · skip
    have hc1 : i < xs.length := by have := of_decide_eq_true hc; omega
    refine WP.sk (.thn ?_)
    refine WP.seq ?_
    refine WP.block ?_
    refine WP.seq ?_
    refine WP.region ?_
    refine WL.op (mv (ot rfl)) (by decide) ?_
    refine WL.op (asg (ot rfl)) (by decide) ?_
    refine WL.nl (.thn ?_)
    refine WP.seq ?_
    refine WP.region ?_
    refine WL.op (mv (ot rfl)) (by decide) ?_
    refine WL.op (mv (ot rfl)) (by decide) ?_
    refine WL.op (mv (ot rfl)) (by decide) ?_
    refine WL.op (ixd el_s_api_Extent (ot rfl) (ot rfl) (by omega) (by omega)) (by decide) ?_
    refine WL.op (ls ag_Extent (ot rfl) (le_ rfl)) (by decide) ?_
    refine WL.op (callv (hf (xs.getD (i : Int).toNat default)) (ot rfl) (.c (ot rfl) .n)) (by decide) ?_
    refine WL.nl (.thn ?_)
    refine WP.cond rfl (fun hc => ?_) (fun hc => ?_)
    · skip
      refine WP.seq ?_
      refine WP.region ?_
      refine WL.op (mv (ot rfl)) (by decide) ?_
      refine WL.op (asg (ot rfl)) (by decide) ?_
      refine WL.nl (.thn ?_)
      exact WP.rt (.rblk (.rthn (.rthn (.rblk (.rthn (.r1 rfl rfl (imp_eq (congrArg I (fidx_some hc1 hi.2 hc).symm))))))))
    · skip
      refine WP.sk (.blk (.thn ?_))
      refine WP.region ?_
      refine WL.op (add (ot rfl) (oc _) (by omega)) (by decide) ?_
      refine WL.op (mv (ot rfl)) (by decide) ?_
      exact WL.nl (.again (i + 1) ⟨hc1, take_none hc1 hi.2 hc⟩ (by omega) (Sub.ofD 0 rfl (Sub.cons rfl (imp_eq (congrArg I (by omega))) (Sub.cons rfl (imp _) (Sub.cons rfl (imp _) (Sub.cons rfl (imp _) Sub.nil))))))
  · skip
    have hc1 : ¬ i < xs.length := by have := of_decide_eq_false hc; omega
    refine WP.xt (.xthn (.xthn (.xin (.thn ?_))))
    refine WP.seq ?_
    refine WP.region ?_
    refine WL.op (asg (oc _)) (by decide) ?_
    refine WL.nl (.thn ?_)
    exact WP.rt (.r1 rfl rfl (imp_eq (congrArg I (fidx_none (by have := hi.2; rwa [List.take_of_length_le (by omega)] at this)).symm)))
theorem c_slices_ContainsFunc {g : FuncId} {caps : List Rp} {xs : List Int} {p : Int → Bool} (hl : xs.length ≤ 1000000) (hf : ∀ x : Int, PureC Tryz.prog g ([I x] ++ caps) (val (.bool (p x)))) : PureC Tryz.prog 112 [sl 1 FI xs, fnR g caps] (val (.bool (xs.any p))) := by
  refine PureC.of_wp Tryz.func112 (by kernel_rfl) rfl Tryz.ntmps112 (le_ rfl) (fun w0 M0 => ?_)
  refine WP.seq ?_
  refine WP.region ?_
  refine WL.op (asg (oc _)) (by decide) ?_
  refine WL.nl (.thn ?_)
  refine WP.seq ?_
  refine WP.region ?_
  refine WL.op (mv (ot rfl)) (by decide) ?_
  refine WL.op (mv (ot rfl)) (by decide) ?_
  refine WL.op (call (c_slices_IndexFunc_int hl hf) (.c (ot rfl) (.c (ot rfl) .n))) (by decide) ?_
  refine WL.op (geq (ot rfl) (oc _)) (by decide) ?_
  refine WL.op (asg (ot rfl)) (by decide) ?_
  refine WL.nl (.thn ?_)
  exact WP.rt (.r1 rfl rfl (imp_eq (congrArg (fun b => val (.bool b)) fidx_any)))
theorem c_refcount_Drop_1 (k : Int) : PureC Tryz.prog 113 ([I k] ++ []) (val (.bool (decide (k < 0)))) := by
  refine PureC.of_wp Tryz.func113 (by kernel_rfl) rfl Tryz.ntmps113 (le_ rfl) (fun w0 M0 => ?_)
  refine WP.seq ?_
  refine WP.region ?_
  refine WL.op (asg (oc _)) (by decide) ?_
  refine WL.nl (.thn ?_)
  refine WP.seq ?_
  refine WP.region ?_
  refine WL.op (mv (ot rfl)) (by decide) ?_
  refine WL.op (lss (ot rfl) (oc _)) (by decide) ?_
  refine WL.op (asg (ot rfl)) (by decide) ?_
  refine WL.nl (.thn ?_)
  exact WP.rt (.r1 rfl rfl (imp _))

def addE (cs : List Int) (xs : List X) : List Int × Int := if permB cs.length xs then (chg 1 cs xs, 0) else ([], 2)
def Cb (cs : List Int) : Prop := cs.length ≤ 65536 ∧ ∀ s : Nat, 0 ≤ cs.getD s 0 ∧ cs.getD s 0 ≤ 100000000

theorem c_refcount_Counts_Add {cs : List Int} {xs : List X} (hb : Cb cs) (hl : xs.length ≤ 100000) : PureC Tryz.prog 70 [eC cs, sl 3 FX xs] (tup [eC (addE cs xs).1, I (addE cs xs).2]) := by
  refine PureC.of_wp Tryz.func70 (by kernel_rfl) rfl Tryz.ntmps70 (le_ rfl) (fun w0 M0 => ?_)
  refine WP.seq ?_
  refine WP.region ?_
  refine WL.box (ot rfl) (.agg _) (by decide) fun b2 => ?_
  refine WL.alloc zr_refcount_Counts rfl (by decide) fun b4 => ?_
  refine WL.op (asg (oc _)) (by decide) ?_
  refine WL.nl (.thn ?_)
  refine WP.seq ?_
  refine WP.seq ?_
  refine WP.region ?_
  refine WL.op (lbs 1 rfl ag_refcount_Counts (ot rfl) (le_ rfl)) (by decide) ?_
  refine WL.op (mv (ot rfl)) (by decide) ?_
  refine WL.op (call (c_refcount_Counts_permitted (by have := hb.1; omega) (by omega)) (.c (ot rfl) (.c (ot rfl) .n))) (by decide) ?_
  refine WL.op (not_ (ot rfl)) (by decide) ?_
  refine WL.nl (.thn ?_)
  refine WP.cond rfl (fun hc => ?_) (fun hc => ?_)
  · skip
    refine WP.seq ?_
    refine WP.region ?_
    refine WL.op (bld zr_refcount_Counts rfl ps_refcount_Counts .n) (by decide) ?_
    refine WL.store 0 rfl (ot rfl) (ot rfl) (.agg _) sz_refcount_Counts rfl (le_ rfl) ?_
    refine WL.op (asg (oc _)) (by decide) ?_
    refine WL.nl (.thn ?_)
    exact WP.rt (.rthn (.rN rfl (.cons (.bx 0 rfl rfl ag_refcount_Counts) (.cons (.tm rfl) .nil)) (le_ rfl) (impT (.c (by rw [addE, if_neg (by simpa using hc)]; exact impA (.c sl_nil .n)) (.c (imp_eq (by rw [addE, if_neg (by simpa using hc)])) .n)))))
  · skip
    refine WP.sk (.thn ?_)
    refine WP.seq ?_
    refine WP.region ?_
    refine WL.op (lbs 1 rfl ag_refcount_Counts (ot rfl) (le_ rfl)) (by decide) ?_
    refine WL.op (mv (ot rfl)) (by decide) ?_
    refine WL.op (call (c_refcount_Counts_changed (.inl rfl) (by have := hb.1; omega) hl (fun s => by have := hb.2 s; omega) (by simpa using hc)) (.c (ot rfl) (.c (ot rfl) (.c (oc _) .n)))) (by decide) ?_
    refine WL.store 0 rfl (ot rfl) (ot rfl) (.agg _) sz_refcount_Counts rfl (le_ rfl) ?_
    refine WL.op (asg (oc _)) (by decide) ?_
    refine WL.nl (.thn ?_)
    exact WP.rt (.rN rfl (.cons (.bx 0 rfl rfl ag_refcount_Counts) (.cons (.tm rfl) .nil)) (le_ rfl) (imp_eq (by rw [addE, if_pos (by simpa using hc)]; rfl)))
theorem c_refcount_Counts_Of {cs : List Int} {s : Int} : PureC Tryz.prog 75 [eC cs, I s] (I (if s < 0 ∨ (cs.length : Int) ≤ s then 0 else cs.getD s.toNat 0)) := by
  refine PureC.of_wp Tryz.func75 (by kernel_rfl) rfl Tryz.ntmps75 (le_ rfl) (fun w0 M0 => ?_)
  refine WP.seq ?_
  refine WP.region ?_
  refine WL.box (ot rfl) (.agg _) (by decide) fun b2 => ?_
  refine WL.op (asg (oc _)) (by decide) ?_
  refine WL.nl (.thn ?_)
  refine WP.seq ?_
  refine WP.seq ?_
  refine WP.region ?_
  refine WL.op (mv (ot rfl)) (by decide) ?_
  refine WL.op (lss (ot rfl) (oc _)) (by decide) ?_
  refine WL.op (mv (ot rfl)) (by decide) ?_
  refine WL.gd rfl rfl (Tells.v _ _) (fun hg => mv (ot rfl)) (by decide) ?_
  refine WL.gd rfl rfl (Tells.v _ _) (fun hg => fv fo_refcount_Counts_0 (ot rfl)) (by decide) ?_
  refine WL.gd rfl rfl (Tells.v _ _) (fun hg => lb 0 rfl sc_s_int (og rfl hg) rfl) (by decide) ?_
  refine WL.gd rfl rfl (Tells.v _ _) (fun hg => len_ us_s_int (og rfl hg)) (by decide) ?_
  refine WL.gd rfl rfl (Tells.v _ _) (fun hg => geq (og rfl hg) (og rfl hg)) (by decide) ?_
  refine WL.op (or_ (ot rfl) (ot rfl)) (by decide) ?_
  refine WL.nl (.thn ?_)
  refine WP.cond rfl (fun hc => ?_) (fun hc => ?_)
  · skip
    refine WP.seq ?_
    refine WP.region ?_
    refine WL.op (asg (oc _)) (by decide) ?_
    refine WL.nl (.thn ?_)
    exact WP.rt (.rthn (.r1 rfl rfl (imp_eq (congrArg I (by rw [if_pos (by simpa using hc)])))))
  · skip
    have hc2 : 0 ≤ s ∧ s < cs.length := by simp only [Bool.or_eq_false_iff, decide_eq_false_iff_not] at hc; omega
    refine WP.sk (.thn ?_)
    refine WP.seq ?_
    refine WP.region ?_
    refine WL.op (fv fo_refcount_Counts_0 (ot rfl)) (by decide) ?_
    refine WL.op (lb 0 rfl sc_s_int (ot rfl) rfl) (by decide) ?_
    refine WL.op (mv (ot rfl)) (by decide) ?_
    refine WL.op (ixd el_s_int (ot rfl) (ot rfl) (by omega) (by omega)) (by decide) ?_
    refine WL.op (ld sc_int (ot rfl)) (by decide) ?_
    refine WL.op (asg (ot rfl)) (by decide) ?_
    refine WL.nl (.thn ?_)
    exact WP.rt (.r1 rfl rfl (imp_eq (congrArg I (by rw [if_neg (by omega), getI (by omega)]))))
end Go.Proofs.YtjglgfnhgehpeaaGreat

/- The runs of the slots of extents, by the code. -/
set_option linter.unusedVariables false
set_option linter.unusedSimpArgs false
set_option maxRecDepth 4000
namespace Go.Proofs.YtjglgfnhgehpeaaGreat
open Go.RowKit Go.Fw Go.Xt

def un (s : Int) : X := ⟨0, 1, s⟩
abbrev encU (s : Int) : List Value := [.int .i64 0, .int .i64 1, .int .i64 s]
theorem flat_un (U : List Int) : (U.map un).flatMap FX = U.flatMap fun u => (encU u).map val := by
  induction U with
  | nil => rfl
  | cons u U ih => rw [List.map_cons, List.flatMap_cons, List.flatMap_cons, ih]; rfl
def rstep (out : List X) (x : X) : List X := if 0 < out.length ∧ x.s ≤ (lastX out).s + (lastX out).n then out.set ((out.length : Int) - 1).toNat ⟨(lastX out).a, max (lastX out).n (x.s + x.n - (lastX out).s), (lastX out).s⟩ else out ++ [⟨0, x.n, x.s⟩]
def mruns (xs : List X) : List X := xs.foldl rstep []
theorem mruns_step {xs : List X} {i : Nat} (hi : i < xs.length) : mruns (xs.take (i + 1)) = rstep (mruns (xs.take i)) (xs.getD (i : Int).toNat default) := foldl_step _ _ hi
theorem rstep_len (out : List X) (x : X) : (rstep out x).length ≤ out.length + 1 := by
  unfold rstep; split <;> simp
theorem mruns_len (xs : List X) : (mruns xs).length ≤ xs.length := by
  have : ∀ (L acc : List X), (L.foldl rstep acc).length ≤ acc.length + L.length := by
    intro L
    induction L with
    | nil => intro acc; simp
    | cons x L ih => intro acc; have := ih (rstep acc x); have := rstep_len acc x; simp only [List.foldl_cons, List.length_cons]; omega
  have := this xs []
  simpa [mruns] using this
def Rn (x : X) : Prop := x.a = 0 ∧ 1 ≤ x.n ∧ 0 ≤ x.s ∧ x.s + x.n ≤ 65536
theorem lastX_mem {L : List X} (h : 0 < L.length) : lastX L ∈ L := by
  rw [(last_eq h).1]; exact List.getElem_mem _
theorem mruns_ok {xs : List X} (h : ∀ x ∈ xs, Rn x) : ∀ x ∈ mruns xs, Rn x := by
  have : ∀ (L acc : List X), (∀ x ∈ L, Rn x) → (∀ x ∈ acc, Rn x) → ∀ x ∈ L.foldl rstep acc, Rn x := by
    intro L
    induction L with
    | nil => intro acc _ h; exact h
    | cons y L ih =>
      intro acc hL ha
      refine ih _ (fun x hx => hL x (List.mem_cons_of_mem _ hx)) fun x hx => ?_
      have hy := hL y List.mem_cons_self
      unfold Rn at hy
      unfold rstep at hx
      split at hx
      · rename_i hc
        have hz := ha _ (lastX_mem hc.1)
        unfold Rn at hz
        rcases List.mem_or_eq_of_mem_set hx with hx | rfl
        · exact ha x hx
        · refine ⟨hz.1, ?_, hz.2.2.1, ?_⟩ <;> simp only [] <;> omega
      · rcases List.mem_append.1 hx with hx | hx
        · exact ha x hx
        · rw [List.mem_singleton.1 hx]; refine ⟨rfl, ?_, ?_, ?_⟩ <;> simp only [] <;> omega
  exact this xs [] h (fun _ h => by cases h)

theorem c_slices_Clone_ext {xs : List X} (hl : xs.length ≤ 1000000) : NewC Tryz.prog 143 [sl 3 FX xs] 65 3 xs.length (xs.flatMap FX) := by
  refine NewC.of_wp Tryz.func143 (by kernel_rfl) rfl Tryz.ntmps143 (le_ rfl) (fun w0 M0 => ?_)
  refine WP.seq ?_
  refine WP.region ?_
  refine WL.op (asg (oc _)) (by decide) ?_
  refine WL.nl (.thn ?_)
  refine WP.seq ?_
  refine WP.seq ?_
  refine WP.region ?_
  refine WL.op (mv (ot rfl)) (by decide) ?_
  refine WL.op (slnil us_s_api_Extent (ot rfl)) (by decide) ?_
  refine WL.nl (.thn ?_)
  refine WP.condU rfl (fun hc => ?_) ?_
  · skip
    refine WP.seq ?_
    refine WP.region ?_
    refine WL.op (asg (oc _)) (by decide) ?_
    refine WL.nl (.thn ?_)
    subst hc
    refine WP.nilrow 65 3 ?_
    exact WP.rt (.rthn (.new rfl rfl rfl 0 rfl))
  · skip
    refine WP.sk (.thn ?_)
    refine WP.seq ?_
    refine WP.region ?_
    refine WL.mkr (OpN.bsl0 ei_s_api_Extent) (by decide) fun v5 h5 => ?_
    refine WL.op (mv (ot rfl)) (by decide) ?_
    refine WL.app' 0 rfl ei_s_api_Extent (by decide) (ot rfl) (ot rfl) h5 (fun _ => rfl) (by omega) (by omega) (by decide) fun v7 h7 => ?_
    refine WL.op (asg (ot rfl)) (by decide) ?_
    refine WL.nl (.thn ?_)
    exact WP.rt (.new rfl rfl h7 0 (by show [Box.r v7 _ 3 (0 + xs.length) _] = _; rw [Nat.zero_add]; rfl))
theorem c_extent_Runs_1 (x : X) : PureC Tryz.prog 144 ([ext x] ++ []) (val (.bool (!decide (Pr x)))) := by
  refine PureC.of_wp Tryz.func144 (by kernel_rfl) rfl Tryz.ntmps144 (le_ rfl) (fun w0 M0 => ?_)
  refine WP.seq ?_
  refine WP.region ?_
  refine WL.box (ot rfl) (.agg _) (by decide) fun b1 => ?_
  refine WL.op (asg (oc _)) (by decide) ?_
  refine WL.nl (.thn ?_)
  refine WP.seq ?_
  refine WP.region ?_
  refine WL.op (lbs 0 rfl ag_Extent (ot rfl) (le_ rfl)) (by decide) ?_
  refine WL.op (call (c_extent_proper x) (.c (ot rfl) .n)) (by decide) ?_
  refine WL.op (not_ (ot rfl)) (by decide) ?_
  refine WL.op (asg (ot rfl)) (by decide) ?_
  refine WL.nl (.thn ?_)
  exact WP.rt (.r1 rfl rfl (imp _))
theorem c_slices_DeleteFunc_none {g : FuncId} {v : Value} {xs : List X} {p : X → Bool} (hl : xs.length ≤ 1000000) (hf : ∀ x : X, PureC Tryz.prog g ([ext x] ++ []) (val (.bool (p x)))) (hn : ∀ x ∈ xs, p x = false) : PureC Tryz.prog 142 [vsl v 3 FX xs, fnR g []] (val v) := by
  refine PureC.of_wp Tryz.func142 (by kernel_rfl) rfl Tryz.ntmps142 (le_ rfl) (fun w0 M0 => ?_)
  refine WP.seq ?_
  refine WP.region ?_
  refine WL.op (asg (oc _)) (by decide) ?_
  refine WL.nl (.thn ?_)
  refine WP.seq ?_
  refine WP.region ?_
  refine WL.op (mv (ot rfl)) (by decide) ?_
  refine WL.op (mv (ot rfl)) (by decide) ?_
  refine WL.op (OpG.weak (R' := I (-1)) (call (c_slices_IndexFunc_ext hl hf) (.c (OF.weak (ot rfl) vsl_sl) (.c (ot rfl) .n))) (imp_eq (congrArg I (fidx_none hn)))) (by decide) ?_
  refine WL.op (asg (ot rfl)) (by decide) ?_
  refine WL.nl (.thn ?_)
  refine WP.seq ?_
  refine WP.seq ?_
  refine WP.region ?_
  refine WL.op (mv (ot rfl)) (by decide) ?_
  refine WL.op (eql (ot rfl) (oc _)) (by decide) ?_
  refine WL.nl (.thn ?_)
  refine WP.condT rfl ?_
  refine WP.seq ?_
  refine WP.region ?_
  refine WL.op (mv (ot rfl)) (by decide) ?_
  refine WL.op (asg (ot rfl)) (by decide) ?_
  refine WL.nl (.thn ?_)
  exact WP.rt (.rthn (.r1 rfl rfl vsl_v))
theorem un_pr {U : List Int} (hU : ∀ u ∈ U, 0 ≤ u ∧ u < 65536) {x : X} (hx : x ∈ U.map un) : (!decide (Pr x)) = false := by
  obtain ⟨u, hu, rfl⟩ := List.mem_map.1 hx
  have := hU u hu
  rw [decide_eq_true (by unfold Pr Wi un; simp only []; omega)]; rfl
theorem un_rn {U : List Int} (hU : ∀ u ∈ U, 0 ≤ u ∧ u < 65536) : ∀ x ∈ (srt U).map un, Rn x := by
  intro x hx
  obtain ⟨u, hu, rfl⟩ := List.mem_map.1 hx
  have hu : u ∈ U := (List.mergeSort_perm U _).mem_iff.1 hu
  have := hU u hu
  refine ⟨rfl, ?_, ?_, ?_⟩ <;> simp only [un] <;> omega
theorem encU_one (u : Int) : ∀ c ∈ encU u, c.oneCell' = true := by
  intro c hc
  simp only [encU, List.mem_cons, List.not_mem_nil, or_false] at hc
  rcases hc with rfl | rfl | rfl <;> rfl
theorem run_test (L : List X) (x : X) : (decide (0 ≤ (L.length : Int) - 1) && decide (x.s ≤ (lastX L).s + (lastX L).n)) = decide (0 < L.length ∧ x.s ≤ (lastX L).s + (lastX L).n) := by
  refine Bool.eq_iff_iff.2 ?_
  rw [Bool.and_eq_true, decide_eq_true_iff, decide_eq_true_iff, decide_eq_true_iff]
  exact ⟨fun ⟨h1, h2⟩ => ⟨by omega, h2⟩, fun ⟨h1, h2⟩ => ⟨by omega, h2⟩⟩
theorem c_extent_Runs {U : List Int} (hl : U.length ≤ 1000000) (hU : ∀ u ∈ U, 0 ≤ u ∧ u < 65536) (hs : SortC Tryz.prog 146 147 encU 3) : PureC Tryz.prog 111 [sl 3 FX (U.map un)] (sl 3 FX (mruns ((srt U).map un))) := by
  refine PureC.of_wp Tryz.func111 (by kernel_rfl) rfl Tryz.ntmps111 (le_ rfl) (fun w0 M0 => ?_)
  refine WP.seq ?_
  refine WP.region ?_
  refine WL.op (asg (oc _)) (by decide) ?_
  refine WL.nl (.thn ?_)
  refine WP.seq ?_
  refine WP.region ?_
  refine WL.op (mv (ot rfl)) (by decide) ?_
  refine WL.new (c_slices_Clone_ext (by rw [List.length_map]; omega)) (.c (ot rfl) .n) (by decide) fun v9 h9 => ?_
  refine WL.callR 0 9 FX (U.map un) rfl (fun _ => rfl) rfl rfl (c_slices_DeleteFunc_none (v := v9) (p := fun x => !decide (Pr x)) (by rw [List.length_map]; omega) c_extent_Runs_1 (fun x hx => un_pr hU hx)) (fun _ _ _ _ h => h) (.c (ot rfl) (.c (ofn _) .n)) (by decide) ?_
  refine WL.op (asg (ot rfl)) (by decide) ?_
  refine WL.nl (.thn ?_)
  refine WP.seq  ?_
  show WP _ _ _ _ [.r v9 65 3 (U.map un).length ((U.map un).flatMap FX)] _ _ _
  rw [flat_un, List.length_map]
  refine WP.region ?_
  refine WL.op (mv (ot rfl)) (by decide) ?_
  refine WL.sortU 0 hs (fun _ => rfl) encU_one rfl rfl hl (ot rfl) (by decide) ?_
  refine WL.nl (.thn ?_)
  refine WP.seq  ?_
  show WP _ _ _ _ [.r v9 65 3 U.length ((srt U).flatMap fun u => (encU u).map val)] _ _ _
  rw [← flat_un, ← srt_len U, ← List.length_map (f := un)]
  obtain ⟨xs, hxs⟩ : ∃ xs, xs = (srt U).map un := ⟨_, rfl⟩
  rw [← hxs]
  have hxl : xs.length ≤ 1000000 := by rw [hxs, List.length_map, srt_len]; exact hl
  have hxr : ∀ x ∈ xs, Rn x := by rw [hxs]; exact un_rn hU
  refine WP.region ?_
  refine WL.op (asg (oc _)) (by decide) ?_
  refine WL.nl (.thn ?_)
  refine WP.seq ?_
  refine WP.seq ?_
  refine WP.region ?_
  refine WL.op (mv (ot rfl)) (by decide) ?_
  refine WL.freeze 0 13 FX xs rfl (fun _ => rfl) rfl rfl rfl ?_
  refine WL.nilrow 65 3 ?_
  refine WL.op (len_  us_s_api_Extent (ot rfl)) (by decide) ?_
  refine WL.op (mv (oc _)) (by decide) ?_
  refine WL.nl (.thn ?_)
  refine WP.block ?_
  refine WP.loop (fun y : Nat × Value => [.r y.2 65 3 (mruns (xs.take y.1)).length ((mruns (xs.take y.1)).flatMap FX), .r nilS 65 3 0 []]) (fun y => [(15, I (y.1 : Int)), (14, I (xs.length : Int)), (13, sl 3 FX xs), (4, val y.2)]) (fun y => y.1 ≤ xs.length ∧ y.2.oneCell' = true) (fun y => xs.length - y.1) (0, nilS) ⟨Nat.zero_le _, rfl⟩ (Sub.ofD 0 rfl (Sub.cons rfl (imp_eq rfl) (Sub.cons rfl (imp _) (Sub.cons rfl (imp _) (Sub.cons rfl (imp _) Sub.nil))))) (fun y hi => ?_)
  obtain ⟨i, v⟩ := y
  replace hi : i ≤ xs.length ∧ v.oneCell' = true := hi
  show WP _ _ _ _ [.r v 65 3 (mruns (xs.take i)).length ((mruns (xs.take i)).flatMap FX), .r nilS 65 3 0 []] [(15, I (i : Int)), (14, I (xs.length : Int)), (13, sl 3 FX xs), (4, val v)] _ _
  obtain ⟨L, hL⟩ : ∃ L, L = mruns (xs.take i) := ⟨_, rfl⟩
  rw [← hL]
  have hLl : L.length ≤ i := by rw [hL]; exact Nat.le_trans (mruns_len _) (List.length_take_le _ _)
  refine WP.seq ?_
  refine WP.region ?_
  refine WL.op (lss (ot rfl) (ot rfl)) (by decide) ?_
  refine WL.nl (.thn ?_)
  refine WP.seq ?_
  refine WP.cond rfl (fun hc => ?_) (fun hc => ?_)
  · skip
    have hc1 : i < xs.length := by have := of_decide_eq_true hc; omega
    have hx := hxr _ (getX_mem' hc1)
    unfold Rn at hx
    have hlast : 0 < L.length → Rn (lastX L) := fun hm => by have h := lastX_mem hm; rw [hL] at h ⊢; exact mruns_ok (fun x hx => hxr x (List.mem_of_mem_take hx)) _ h
    unfold lastX Rn at hlast
    refine WP.sk (.thn ?_)
    refine WP.seq ?_
    refine WP.block ?_
    refine WP.seq ?_
    refine WP.region ?_
    refine WL.op (ixd el_s_api_Extent (ot rfl) (ot rfl) (by omega) (by omega)) (by decide) ?_
    refine WL.op (ls ag_Extent (ot rfl) (le_ rfl)) (by decide) ?_
    refine WL.alloc zr_Extent rfl (by decide) fun b6 => ?_
    refine WL.store 0 rfl (ot rfl) (ot rfl) (.agg _) sz_Extent rfl (le_ rfl) ?_
    refine WL.nl (.thn ?_)
    refine WP.seq ?_
    refine WP.seq ?_
    refine WP.region ?_
    refine WL.op (mv (ot rfl)) (by decide) ?_
    refine WL.op (lenr 1 rfl us_s_api_Extent (ot rfl)) (by decide) ?_
    refine WL.op (sub (ot rfl) (oc _) (by omega)) (by decide) ?_
    refine WL.op (asg (ot rfl)) (by decide) ?_
    refine WL.nl (.thn ?_)
    refine WP.seq ?_
    refine WP.rowAt' 1 rfl fun g cap hv => ?_
    refine WP.draws  ?_
    refine RG.op (mv (ot rfl)) ?_
    refine RG.op (geq (ot rfl) (oc _)) ?_
    refine RG.op (mv (ot rfl)) ?_
    refine RG.gd rfl rfl (Tells.v _ _) (fun hg => fv fo_Extent_2 (ot rfl)) ?_
    refine RG.gd rfl rfl (Tells.v _ _) (fun hg => lb 0 rfl sc_int (og rfl hg) rfl) ?_
    refine RG.gd rfl rfl (Tells.v _ _) (fun hg => mv (ot rfl)) ?_
    refine RG.gd rfl rfl (Tells.v _ _) (fun hg => mv (ot rfl)) ?_
    refine RG.gd rfl rfl (Tells.v _ _) (fun hg => ixr' (hv (by simp at hg; omega)) el_s_api_Extent (og rfl hg) (og rfl hg) (by simp at hg; omega) (by omega)) ?_
    refine RG.gd rfl rfl (Tells.v _ _) (fun hg => fv fo_Extent_2 (og rfl hg)) ?_
    refine RG.gd rfl rfl (Tells.v _ _) (fun hg => lr' 1 (hv (by simp at hg; omega)) rfl sc_int (og rfl hg) (flat_get (j := 2) (by simp at hg; omega) (by decide))) ?_
    refine RG.gd rfl rfl (Tells.v _ _) (fun hg => mv (ot rfl)) ?_
    refine RG.gd rfl rfl (Tells.v _ _) (fun hg => mv (ot rfl)) ?_
    refine RG.gd rfl rfl (Tells.v _ _) (fun hg => ixr' (hv (by simp at hg; omega)) el_s_api_Extent (og rfl hg) (og rfl hg) (by simp at hg; omega) (by omega)) ?_
    refine RG.gd rfl rfl (Tells.v _ _) (fun hg => fv fo_Extent_1 (og rfl hg)) ?_
    refine RG.gd rfl rfl (Tells.v _ _) (fun hg => lr' 1 (hv (by simp at hg; omega)) rfl sc_int (og rfl hg) (flat_get (j := 1) (by simp at hg; omega) (by decide))) ?_
    refine RG.gd rfl rfl (Tells.v _ _) (fun hg => have hz := hlast (by simp at hg; omega); add (og rfl hg) (og rfl hg) (by omega)) ?_
    refine RG.gd rfl rfl (Tells.v _ _) (fun hg => leq (og rfl hg) (og rfl hg)) ?_
    refine RG.op (and_ (ot rfl) (ot rfl)) ?_
    refine RG.fin HM (by kernel_rfl) ?_
    show WL _ _ _ _ _ _ _ _ _
    refine WL.nl (.thn ?_)
    refine WP.condB (decide (0 < L.length ∧ (xs.getD (i : Int).toNat default).s ≤ (lastX L).s + (lastX L).n)) rfl (run_test _ _) (fun hc => ?_) (fun hc => ?_)
    · skip
      have hp0 := of_decide_eq_true hc
      have hm := hp0.1
      have hz := hlast hm
      refine WP.seq ?_
      refine WP.draws ?_
      refine RG.op (mv (ot rfl)) ?_
      refine RG.op (mv (ot rfl)) ?_
      refine RG.op (mv (ot rfl)) ?_
      refine RG.op (mv (ot rfl)) ?_
      refine RG.op (ixr' (hv hm) el_s_api_Extent (ot rfl) (ot rfl) (by omega) (by omega)) ?_
      refine RG.op (fv fo_Extent_1 (ot rfl)) ?_
      refine RG.op (lr' 1 (hv hm) rfl sc_int (ot rfl) (flat_get (j := 1) (by omega) (by decide))) ?_
      refine RG.op (fv fo_Extent_2 (ot rfl)) ?_
      refine RG.op (lb 0 rfl sc_int (ot rfl) rfl) ?_
      refine RG.op (fv fo_Extent_1 (ot rfl)) ?_
      refine RG.op (lb 0 rfl sc_int (ot rfl) rfl) ?_
      refine RG.op (add (ot rfl) (ot rfl) (by omega)) ?_
      refine RG.op (mv (ot rfl)) ?_
      refine RG.op (mv (ot rfl)) ?_
      refine RG.op (ixr' (hv hm) el_s_api_Extent (ot rfl) (ot rfl) (by omega) (by omega)) ?_
      refine RG.op (fv fo_Extent_2 (ot rfl)) ?_
      refine RG.op (lr' 1 (hv hm) rfl sc_int (ot rfl) (flat_get (j := 2) (by omega) (by decide))) ?_
      refine RG.op (sub (ot rfl) (ot rfl) (by omega)) ?_
      refine RG.op (mx_ (ot rfl) (ot rfl)) ?_
      refine RG.op (ixr' (hv hm) el_s_api_Extent (ot rfl) (ot rfl) (by omega) (by omega)) ?_
      refine RG.op (fv fo_Extent_1 (ot rfl)) ?_
      refine RG.fin HM (by kernel_rfl) ?_
      show WL _ _ _ _ _ _ _ _ _
      refine WL.storeR' 1 (hv hm) rfl (ot rfl) (ot rfl) (.leaf (.val rfl)) sz_int rfl (by rw [flat_len (sz := 3) (f := FX) (fun _ => rfl)]; omega) ?_
      refine WL.nl (.thn ?_)
      refine WP.xt (.xthn (.xin (.thn ?_)))
      refine WP.region ?_
      refine WL.op (add (ot rfl) (oc _) (by omega)) (by decide) ?_
      refine WL.op (mv (ot rfl)) (by decide) ?_
      exact WL.nl (.again (i + 1, v) ⟨hc1, hi.2⟩ (by show xs.length - (i + 1) < xs.length - i; omega) (Sub.ofD 1 (Eq.trans (b := [.r v 65 3 L.length (setAt (L.flatMap FX) (((L.length : Int) - 1).toNat * 3 + 1) [I (max (lastX L).n ((xs.getD (i : Int).toNat default).s + (xs.getD (i : Int).toNat default).n - (lastX L).s))]), .r nilS 65 3 0 []]) rfl (by rw [mruns_step hc1, ← hL, rstep, if_pos hp0, flat_set (by omega), List.length_set])) (Sub.cons rfl (imp_eq (congrArg I (by omega))) (Sub.cons rfl (imp _) (Sub.cons rfl (imp _) (Sub.cons rfl (imp _) Sub.nil))))))
    · skip
      have hp0 := of_decide_eq_false hc
      refine WP.sk (.thn ?_)
      refine WP.region ?_
      refine WL.op (mv (ot rfl)) (by decide) ?_
      refine WL.op (fv fo_Extent_1 (ot rfl)) (by decide) ?_
      refine WL.op (lb 0 rfl sc_int (ot rfl) rfl) (by decide) ?_
      refine WL.op (fv fo_Extent_2 (ot rfl)) (by decide) ?_
      refine WL.op (lb 0 rfl sc_int (ot rfl) rfl) (by decide) ?_
      refine WL.op (bld zr_Extent rfl ps_Extent (.c (ot rfl) (.leaf (.val rfl)) pl_Extent_1 rfl (le_ rfl) (.c (ot rfl) (.leaf (.val rfl)) pl_Extent_2 rfl (le_ rfl) .n))) (by decide) ?_
      refine WL.op (bsl1 (f := FX) (el := ⟨0, (xs.getD (i : Int).toNat default).n, (xs.getD (i : Int).toNat default).s⟩) ei_s_api_Extent (ot rfl) (.agg _) rfl (by decide) (by decide)) (by decide) ?_
      refine WL.app 1 rfl ei_s_api_Extent (by decide) (ot rfl) (ot rfl) (by simp) (fun _ => rfl) (by simp only [List.length_singleton]; omega) (by simp only [List.length_singleton]; omega) (by decide) fun v68 h68 => ?_
      refine WL.op (asg (ot rfl)) (by decide) ?_
      refine WL.nl (.blk (.thn ?_))
      refine WP.region ?_
      refine WL.op (add (ot rfl) (oc _) (by omega)) (by decide) ?_
      refine WL.op (mv (ot rfl)) (by decide) ?_
      exact WL.nl (.again (i + 1, v68) ⟨hc1, h68⟩ (by show xs.length - (i + 1) < xs.length - i; omega) (Sub.ofD 1 (Eq.trans (b := [.r v68 65 3 (L.length + 1) (L.flatMap FX ++ [(⟨0, (xs.getD (i : Int).toNat default).n, (xs.getD (i : Int).toNat default).s⟩ : X)].flatMap FX), .r nilS 65 3 0 []]) rfl (by rw [mruns_step hc1, ← hL, rstep, if_neg hp0, List.flatMap_append, List.length_append]; rfl)) (Sub.cons rfl (imp_eq (congrArg I (by omega))) (Sub.cons rfl (imp _) (Sub.cons rfl (imp _) (Sub.cons rfl (imp _) Sub.nil))))))
  · skip
    have hc1 : ¬ i < xs.length := by have := of_decide_eq_false hc; omega
    refine WP.xt (.xthn (.xthn (.xin (.thn ?_))))
    refine WP.seq ?_
    refine WP.region ?_
    refine WL.op (mv (ot rfl)) (by decide) ?_
    refine WL.op (asg (ot rfl)) (by decide) ?_
    refine WL.nl (.thn ?_)
    refine WP.freeze 0 2 FX L rfl (fun _ => rfl) rfl rfl rfl ?_
    have hL2 : L = mruns ((srt U).map un) := by rw [hL, List.take_of_length_le (by omega), hxs]
    exact WP.rt (.r1 rfl rfl (imp_eq (by rw [hL2, hxs])))
end Go.Proofs.YtjglgfnhgehpeaaGreat

/- The contract of a sort of extents lies at this program. -/
namespace Go.Proofs
open Go.Shelf
def Tryz.sortX_ren : Go.Shelf.Ren := ⟨fun | 6 => 146 | 15 => 141 | 14 => 174 | 28 => 170 | 29 => 171 | 20 => 183 | 21 => 184 | 22 => 185 | 23 => 186 | 24 => 187 | 25 => 188 | 26 => 189 | 27 => 190 | 46 => 192 | 47 => 178 | 48 => 179 | 49 => 193 | 50 => 194 | 57 => 195 | n => n, fun | 22 => 51 | 24 => 65 | 25 => 191 | 3 => 3 | 39 => 187 | 0 => 0 | 53 => 207 | 55 => 209 | 4 => 4 | 46 => 200 | 45 => 199 | 50 => 133 | 5 => 5 | 9 => 9 | 66 => 212 | 70 => 216 | 76 => 223 | 77 => 224 | n => n, fun | n => n⟩
theorem Tryz.sortX : Go.Proofs.SlLaysF0.n6 Tryz.prog Tryz.sortX_ren := {
  mixed := by kernel_rfl
  f6 := ⟨Tryz.f146.name, by decide, Tryz.func146.trans (congrArg some (by kernel_rfl))⟩
  f14 := ⟨Tryz.f174.name, by decide, Tryz.func174.trans (congrArg some (by kernel_rfl))⟩
  f15 := Tryz.func141.trans (congrArg some (by kernel_rfl))
  f20 := ⟨Tryz.f183.name, by decide, Tryz.func183.trans (congrArg some (by kernel_rfl))⟩
  f21 := ⟨Tryz.f184.name, by decide, Tryz.func184.trans (congrArg some (by kernel_rfl))⟩
  f22 := ⟨Tryz.f185.name, by decide, Tryz.func185.trans (congrArg some (by kernel_rfl))⟩
  f23 := ⟨Tryz.f186.name, by decide, Tryz.func186.trans (congrArg some (by kernel_rfl))⟩
  f24 := ⟨Tryz.f187.name, by decide, Tryz.func187.trans (congrArg some (by kernel_rfl))⟩
  f25 := ⟨Tryz.f188.name, by decide, Tryz.func188.trans (congrArg some (by kernel_rfl))⟩
  f26 := ⟨Tryz.f189.name, by decide, Tryz.func189.trans (congrArg some (by kernel_rfl))⟩
  f27 := ⟨Tryz.f190.name, by decide, Tryz.func190.trans (congrArg some (by kernel_rfl))⟩
  f28 := Tryz.func170.trans (congrArg some (by kernel_rfl))
  f29 := Tryz.func171.trans (congrArg some (by kernel_rfl))
  f46 := ⟨Tryz.f192.name, by decide, Tryz.func192.trans (congrArg some (by kernel_rfl))⟩
  f47 := Tryz.func178.trans (congrArg some (by kernel_rfl))
  f48 := Tryz.func179.trans (congrArg some (by kernel_rfl))
  f49 := ⟨Tryz.f193.name, by decide, Tryz.func193.trans (congrArg some (by kernel_rfl))⟩
  f50 := ⟨Tryz.f194.name, by decide, Tryz.func194.trans (congrArg some (by kernel_rfl))⟩
  f57 := ⟨Tryz.f195.name, by decide, Tryz.func195.trans (congrArg some (by kernel_rfl))⟩
  t0 := Tryz.underlying0
  a0 := Tryz.isAgg0
  z0 := Tryz.sizeOf0
  v0 := Tryz.zeroValue0
  t3 := Tryz.underlying3
  a3 := Tryz.isAgg3
  z3 := Tryz.sizeOf3
  v3 := Tryz.zeroValue3
  t4 := Tryz.underlying4
  a4 := Tryz.isAgg4
  z4 := Tryz.sizeOf4
  v4 := Tryz.zeroValue4
  t5 := Tryz.underlying5
  a5 := Tryz.isAgg5
  z5 := Tryz.sizeOf5
  v5 := Tryz.zeroValue5
  t9 := Tryz.underlying9
  a9 := Tryz.isAgg9
  z9 := Tryz.sizeOf9
  v9 := Tryz.zeroValue9
  t22 := Tryz.underlying51
  a22 := Tryz.isAgg51
  z22 := Tryz.sizeOf51
  v22 := Tryz.zeroValue51
  t25 := Tryz.underlying191
  a25 := Tryz.isAgg191
  z25 := Tryz.sizeOf191
  v25 := Tryz.zeroValue191
  t39 := Tryz.underlying187
  a39 := Tryz.isAgg187
  z39 := Tryz.sizeOf187
  v39 := Tryz.zeroValue187
  t45 := Tryz.underlying199
  a45 := Tryz.isAgg199
  z45 := Tryz.sizeOf199
  v45 := Tryz.zeroValue199
  t46 := Tryz.underlying200
  a46 := Tryz.isAgg200
  z46 := Tryz.sizeOf200
  v46 := Tryz.zeroValue200
  t50 := Tryz.underlying133
  a50 := Tryz.isAgg133
  z50 := Tryz.sizeOf133
  v50 := Tryz.zeroValue133
  t53 := Tryz.underlying207
  a53 := Tryz.isAgg207
  z53 := Tryz.sizeOf207
  v53 := Tryz.zeroValue207
  t55 := Tryz.underlying209
  a55 := Tryz.isAgg209
  z55 := Tryz.sizeOf209
  v55 := Tryz.zeroValue209
  t66 := Tryz.underlying212
  a66 := Tryz.isAgg212
  z66 := Tryz.sizeOf212
  v66 := Tryz.zeroValue212
  t70 := Tryz.underlying216
  a70 := Tryz.isAgg216
  z70 := Tryz.sizeOf216
  v70 := Tryz.zeroValue216
  t76 := Tryz.underlying223
  a76 := Tryz.isAgg223
  z76 := Tryz.sizeOf223
  v76 := Tryz.zeroValue223
  t77 := Tryz.underlying224
  a77 := Tryz.isAgg224
  z77 := Tryz.sizeOf224
  v77 := Tryz.zeroValue224 }
end Go.Proofs

/- cmp.Compare, and the order in which Runs sorts. -/
namespace Go.Proofs.YtjglgfnhgehpeaaGreat
open Go.Shelf Go.RowKit Go.Lib Go.Sort Go.Fw
def cmpI (x y : Int) : Int := if x < y then -1 else if y < x then 1 else 0
theorem nan_int (z : Int) (W : World) : Calls Tryz.prog 175 #[.int .i64 z] W fun e w' => e = .returned (.bool false) ∧ w' = W := by
  go_enter Tryz.func175, Tryz.ntmps175
  go_wp2
  go_ret
  exact ⟨rfl, rfl⟩
theorem cmp_int (x y : Int) (W : World) : Calls Tryz.prog 148 #[.int .i64 x, .int .i64 y] W fun e w' => e = .returned (.int .i64 (cmpI x y)) ∧ w' = W := by
  go_enter Tryz.func148, Tryz.ntmps148
  go_wp2_with (go_at_call 175; refine (nan_int _ _).mono ?_; rintro e w' ⟨rfl, rfl⟩)
  · go_ret
    exact ⟨by have h1 : x < y := by omega
              rw [cmpI, if_pos h1]; rfl, rfl⟩
  · go_ret
    exact ⟨by have h1 : ¬ x < y := by omega
              have h2 : y < x := by omega
              rw [cmpI, if_neg h1, if_pos h2]; rfl, rfl⟩
  · go_ret
    exact ⟨by have h1 : ¬ x < y := by omega
              have h2 : ¬ y < x := by omega
              rw [cmpI, if_neg h1, if_neg h2]; rfl, rfl⟩
theorem runs2 (x y : Int) (W : World) : Calls Tryz.prog 147 #[.agg (encU x).toArray, .agg (encU y).toArray] W fun e w' => e = .returned (.int .i64 (cmpI x y)) ∧ ∃ q os', w' = grow (W.drewN q) os' := by
  have hcon := fun W' => cmp_int x y W'
  generalize cmpI x y = r at hcon ⊢
  go_enter Tryz.func147, Tryz.ntmps147
  go_wp2_with (go_at_call 148; refine (hcon _).mono ?_; rintro e w' ⟨rfl, rfl⟩)
  go_ret
  exact ⟨rfl, 0, _, by rw [alloc_eq_grow, alloc_eq_grow, grow_grow]; rfl⟩
theorem cmpLaysU (blk off size : Nat) (w : World) : CmpLays Tryz.prog 147 #[] encU 3 cmpI blk off size w :=
  fun _ _ _ _ x y => runs2 x y _
theorem lt_cmpI (x y : Int) : ltOf cmpI x y = decide (x < y) := by
  unfold ltOf cmpI
  by_cases h : x < y
  · rw [if_pos h, decide_eq_true h]; rfl
  · rw [if_neg h, decide_eq_false h]
    split <;> rfl
theorem swo_cmpI : SWO (ltOf cmpI) := ⟨fun x => by rw [lt_cmpI]; exact decide_eq_false (by omega), fun x y z h1 h2 => by rw [lt_cmpI] at *; have := of_decide_eq_true h1; have := of_decide_eq_true h2; exact decide_eq_true (by omega), fun x y z h1 h2 => by rw [lt_cmpI] at *; have := of_decide_eq_false h1; have := of_decide_eq_false h2; exact decide_eq_false (by omega)⟩
end Go.Proofs.YtjglgfnhgehpeaaGreat

/- The sort of extents by their slots: what it leaves. -/
namespace Go.Proofs.YtjglgfnhgehpeaaGreat
open Go.Shelf Go.RowKit Go.Lib Go.Sort Go.Fw
theorem flat_encU (U : List Int) : (U.flatMap encU).length = U.length * 3 := by
  induction U with
  | nil => rfl
  | cons u U ih => simp only [List.flatMap_cons, List.length_append, ih, List.length_cons]; show 3 + U.length * 3 = (U.length + 1) * 3; omega
theorem flat_at3 : ∀ (U : List Int) (j : Nat), j < U.length * 3 → (U.flatMap encU)[j]? = (encU (U.toArray[j / 3]!))[j % 3]?
  | [], j, h => by simp at h
  | u :: U, j, h => by
    rw [List.flatMap_cons, List.getElem?_append]
    by_cases hj : j < 3
    · rw [if_pos (by exact hj)]
      have e : j / 3 = 0 := by omega
      rw [e, show j % 3 = j from by omega]; rfl
    · rw [if_neg (by exact hj)]
      have := flat_at3 U (j - 3) (by simp only [List.length_cons] at h; omega)
      rw [show j - (encU u).length = j - 3 from rfl, this, show (j - 3) % 3 = j % 3 from by omega, show j / 3 = (j - 3) / 3 + 1 from by omega]
      congr 2
      simp
theorem flatK_eq (U : List Int) : (flatK encU 3 U.toArray).toList = U.flatMap encU := by
  apply List.ext_getElem?
  intro j
  by_cases h : j < U.length * 3
  · rw [flat_at3 U j h]
    have hs : j < (flatK encU 3 U.toArray).size := by simpa using h
    have h2 := get_flatK encU 3 U.toArray j (by simpa using h)
    rw [getElem!_pos (flatK encU 3 U.toArray) j hs] at h2
    rw [Array.getElem?_toList, Array.getElem?_eq_getElem hs, h2]
    have h3 : j % 3 < (encU (U.toArray[j / 3]!)).length := by show j % 3 < 3; omega
    rw [List.getElem?_eq_getElem h3, getElem!_pos (encU (U.toArray[j / 3]!)) (j % 3) h3]
  · rw [List.getElem?_eq_none (by simp; omega), List.getElem?_eq_none (by rw [flat_encU]; omega)]
theorem srt_eq (U : List Int) : (U.toArray.toList.mergeSort fun x y => !(ltOf cmpI) y x) = srt U := by
  unfold srt
  have : (fun x y => !(ltOf cmpI) y x) = fun x y : Int => decide (x ≤ y) := by
    funext x y
    rw [lt_cmpI]
    by_cases h : y < x
    · rw [decide_eq_true h, decide_eq_false (by omega)]; rfl
    · rw [decide_eq_false h, decide_eq_true (by omega)]; rfl
  rw [this]
theorem tot_cmpI (x y : Int) (h1 : ltOf cmpI x y = false) (h2 : ltOf cmpI y x = false) : x = y := by
  rw [lt_cmpI] at h1 h2
  have := of_decide_eq_false h1; have := of_decide_eq_false h2; omega
theorem sortC : SortC Tryz.prog 146 147 encU 3 where
  ent := enters_of Tryz.func146 (by kernel_rfl) rfl
  none := fun w p cap => AnyF.slices_SortFunc_none Tryz.sortX p cap _ w
  some := fun w b cap T cur U hb hl ht hn => by
    have eg : ∀ args w, (callFunc 147 args).run Tryz.prog w = .ok (.enter 147 args) w := enters_of Tryz.func147 (by kernel_rfl) rfl
    have hflat := flatK_eq U
    have hfs : (flatK encU 3 U.toArray).size = U.length * 3 := by simp
    have hH : HoldsK encU 3 w b 0 U.toArray := fun j hj => by
      rw [hfs] at hj
      have e1 : (flatK encU 3 U.toArray)[j]? = cur[j]? := by
        rw [← Array.getElem?_toList, hflat, ← ht, List.getElem?_take, if_pos hj, Array.getElem?_toList]
      rw [Array.getElem?_eq_getElem (by omega), Array.getElem?_eq_getElem (by omega)] at e1
      refine ⟨?_, ?_⟩
      · rw [Nat.zero_add, cell_of_row w b j cur T (0, 0) hb, Array.getElem?_eq_getElem (by omega), ← e1, getElem!_pos _ j (by omega)]; rfl
      · simp [World.frozen?, hb]
    have hcon := AnyQ.slices_SortFunc_total Tryz.sortX 3 Tryz.isAgg65 Tryz.sizeOf65 encU (fun _ => rfl) encU_one cmpI swo_cmpI 147 #[] b 0 cap U.toArray w eg (cmpLaysU b 0 U.toArray.size w) hH (Array.getElem?_eq_some_iff.1 hb).1 (by simp; omega) tot_cmpI
    rw [srt_eq] at hcon
    refine Calls.mono hcon ?_
    rintro e w' ⟨rfl, n, os, rfl⟩
    have hS := flatK_eq (srt U)
    have hSs : (flatK encU 3 (srt U).toArray).size = U.length * 3 := by simp [srt_len]
    have hbl := (Array.getElem?_eq_some_iff.1 hb).1
    refine ⟨rfl, putCells id 0 (flatK encU 3 (srt U).toArray) cur, ?_, by simp [putCells], ?_, fun j hj hlt => ?_, ?_, rfl, rfl, rfl⟩
    · unfold sortWorldK
      rw [heap_grow_old _ _ (by rw [size_putRowK]; exact hbl)]
      show ((Sort.ahead w n).heap.modify b (onCells _))[b]? = _
      rw [Array.getElem?_modify, if_pos rfl]
      show (w.heap[b]?).map _ = _
      rw [hb]; rfl
    · rw [← hS]
      apply List.ext_getElem?
      intro j
      rw [List.getElem?_take]
      by_cases hj : j < U.length * 3
      · rw [if_pos hj, Array.getElem?_toList, Array.getElem?_toList, Array.getElem?_eq_getElem (i := j) (xs := flatK encU 3 (srt U).toArray) (by omega)]
        simp only [putCells, Array.getElem?_mapIdx]
        rw [Array.getElem?_eq_getElem (by omega)]
        simp only [Option.map_some]
        rw [if_pos (by omega), Nat.sub_zero, getElem!_pos _ j (by omega)]; rfl
      · rw [if_neg hj, List.getElem?_eq_none (by simp [srt_len]; omega)]
    · unfold sortWorldK
      rw [heap_grow_old _ _ (by rw [size_putRowK]; exact hlt)]
      show ((Sort.ahead w n).heap.modify b (onCells _))[j]? = _
      rw [Array.getElem?_modify, if_neg fun e => hj e.symm]
      rfl
    · unfold sortWorldK
      rw [size_grow, size_putRowK]
      exact Nat.le_add_right _ _
end Go.Proofs.YtjglgfnhgehpeaaGreat

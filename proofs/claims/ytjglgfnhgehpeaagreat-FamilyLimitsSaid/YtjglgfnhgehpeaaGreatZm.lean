/- Parts: RefB, RefC, RefD, Row. -/
import Derived.Test.YtjglgfnhgehpeaaGreatZl
import Derived.Test.YtjglgfnhgehpeaaGreatZf
import Derived.Test.YtjglgfnhgehpeaaGreatZh
import Derived.Test.YtjglgfnhgehpeaaGreatZk
import Derived.Test.YtjglgfnhgehpeaaGreatZe
import Derived.WalkKit
import Derived.ProofKit
import Derived.OpenShut
import Derived.Deep.Slices
import Derived.Carry
/- The functions of the specification of extents that make lists. -/
set_option linter.unusedVariables false
set_option linter.unusedSimpArgs false
set_option maxRecDepth 4000
namespace Go.Proofs.YtjglgfnhgehpeaaGreat
open Go.RowKit Go.Fw Go.Xt

theorem getD_at {xs : List X} {i : Nat} (hi : i < xs.length) : xs.getD ((i : Nat) : Int).toNat default = xs[i] := by
  rw [show ((i : Nat) : Int).toNat = i from by omega, List.getD_eq_getElem?_getD, List.getElem?_eq_getElem hi]; rfl
theorem parts_step {xs : List X} {i : Nat} (hi : i < xs.length) (fr to : Int) : Xt.parts (xs.take (i + 1)) fr to = Xt.parts (xs.take i) fr to ++ (if max (xs.getD (i : Int).toNat default).a fr < min ((xs.getD (i : Int).toNat default).a + (xs.getD (i : Int).toNat default).n) to then [cpart (xs.getD (i : Int).toNat default) fr to] else []) := by
  rw [getD_at hi, List.take_add_one, List.getElem?_eq_getElem hi]
  show List.filterMap _ (_ ++ [xs[i]]) = _
  rw [List.filterMap_append]
  congr 1
  have e : Xt.part xs[i] fr to = if max xs[i].a fr < min (xs[i].a + xs[i].n) to then some (cpart xs[i] fr to) else none := rfl
  rw [List.filterMap_cons, e]
  by_cases h : max xs[i].a fr < min (xs[i].a + xs[i].n) to
  · rw [if_pos h, if_pos h]; rfl
  · rw [if_neg h, if_neg h]; rfl
theorem ok_at {xs : List X} {i : Nat} (hi : i < xs.length) (ho : Xt.Ok 0 xs) : 0 ≤ (xs.getD (i : Int).toNat default).a ∧ 1 ≤ (xs.getD (i : Int).toNat default).n ∧ 0 ≤ (xs.getD (i : Int).toNat default).s ∧ (xs.getD (i : Int).toNat default).a + (xs.getD (i : Int).toNat default).n ≤ 65536 ∧ (xs.getD (i : Int).toNat default).s + (xs.getD (i : Int).toNat default).n ≤ 65536 := by
  rw [getD_at hi]
  exact ho.starts xs[i] (List.getElem_mem hi)
theorem parts_len (xs : List X) (fr to : Int) : (Xt.parts xs fr to).length ≤ xs.length := List.length_filterMap_le _ _
theorem take_len_parts (xs : List X) (i : Nat) (fr to : Int) : (Xt.parts (xs.take i) fr to).length ≤ i := Nat.le_trans (parts_len _ _ _) (List.length_take_le _ _)

theorem c_r32_parts (xs : List X) (fr to : Int) (hl : xs.length ≤ 100000) (ho : Xt.Ok 0 xs) (hfr : 0 ≤ fr ∧ fr ≤ 100000000) (hto : 0 ≤ to ∧ to ≤ 100000000) : NewC Tryz.prog 123 [sl 3 FX xs, I fr, I to] 65 3 (Xt.parts xs fr to).length ((Xt.parts xs fr to).flatMap FX) := by
  refine NewC.of_wp Tryz.func123 (by kernel_rfl) rfl Tryz.ntmps123 (le_ rfl) (fun w0 M0 => ?_)
  refine WP.nilrow 65 3 ?_
  refine WP.seq ?_
  refine WP.region ?_
  refine WL.op (asg (oc _)) (by decide) ?_
  refine WL.nl (.thn ?_)
  refine WP.seq ?_
  refine WP.region ?_
  refine WL.op (asg (oc _)) (by decide) ?_
  refine WL.nl (.thn ?_)
  refine WP.seq ?_
  refine WP.seq ?_
  refine WP.region ?_
  refine WL.op (asg (oc _)) (by decide) ?_
  refine WL.nl (.thn ?_)
  refine WP.block ?_
  refine WP.loop (fun y : Nat × Value => [.r y.2 65 3 (Xt.parts (xs.take y.1) fr to).length ((Xt.parts (xs.take y.1) fr to).flatMap FX)]) (fun y => [(8, I (y.1 : Int)), (7, val y.2), (0, sl 3 FX xs), (1, I fr), (2, I to)]) (fun y => y.1 ≤ xs.length ∧ y.2.oneCell' = true) (fun y => xs.length - y.1) (0, nilS) ⟨Nat.zero_le _, rfl⟩ (Sub.ofD 0 rfl (Sub.cons rfl (imp_eq rfl) (Sub.cons rfl (imp _) (Sub.cons rfl (imp _) (Sub.cons rfl (imp _) (Sub.cons rfl (imp _) Sub.nil)))))) (fun y hi => ?_)
  obtain ⟨i, v⟩ := y
  replace hi : i ≤ xs.length ∧ v.oneCell' = true := hi
  show WP _ _ _ _ [.r v 65 3 (Xt.parts (xs.take i) fr to).length ((Xt.parts (xs.take i) fr to).flatMap FX)] [(8, I (i : Int)), (7, val v), (0, sl 3 FX xs), (1, I fr), (2, I to)] _ _
  refine WP.seq ?_
  refine WP.seq ?_
  refine WP.region ?_
  refine WL.op (mv (ot rfl)) (by decide) ?_
  refine WL.op (mv (ot rfl)) (by decide) ?_
  refine WL.op (len_ us_s_api_Extent (ot rfl)) (by decide) ?_
  refine WL.op (lss (ot rfl) (ot rfl)) (by decide) ?_
  refine WL.nl (.thn ?_)
  refine WP.cond rfl (fun hc => ?_) (fun hc => ?_)
  · skip
    have hc1 : i < xs.length := by have := of_decide_eq_true hc; omega
    have hx := ok_at hc1 ho
    have htl := take_len_parts xs i fr to
    refine WP.sk (.thn ?_)
    refine WP.seq ?_
    refine WP.block ?_
    refine WP.seq ?_
    refine WP.region ?_
    refine WL.op (mv (ot rfl)) (by decide) ?_
    refine WL.op (mv (ot rfl)) (by decide) ?_
    refine WL.op (ixd el_s_api_Extent (ot rfl) (ot rfl) (by omega) (by omega)) (by decide) ?_
    refine WL.op (ls ag_Extent (ot rfl) (le_ rfl)) (by decide) ?_
    refine WL.op (mv (ot rfl)) (by decide) ?_
    refine WL.op (mv (ot rfl)) (by decide) ?_
    refine WL.op (call (c_r32_part (xs.getD (i : Int).toNat default) fr to (by omega) hfr hto) (.c (ot rfl) (.c (ot rfl) (.c (ot rfl) .n)))) (by decide) ?_
    refine WL.op (mv (ot rfl)) (by decide) ?_
    refine WL.op (ex (ot rfl) rfl) (by decide) ?_
    refine WL.op (ex (ot rfl) rfl) (by decide) ?_
    refine WL.alloc zr_Extent rfl (by decide) fun b9 => ?_
    refine WL.store 0 rfl (ot rfl) (ot rfl) (.agg _) sz_Extent rfl (le_ rfl) ?_
    refine WL.op (asg (ot rfl)) (by decide) ?_
    refine WL.nl (.thn ?_)
    refine WP.seq ?_
    refine WP.region ?_
    refine WL.op (mv (ot rfl)) (by decide) ?_
    refine WL.nl (.thn ?_)
    refine WP.cond rfl (fun hc => ?_) (fun hc => ?_)
    · skip
      have hp := of_decide_eq_true hc
      refine WP.region ?_
      refine WL.op (mv (ot rfl)) (by decide) ?_
      refine WL.op (lbs 0 rfl ag_Extent (ot rfl) (le_ rfl)) (by decide) ?_
      refine WL.op (bsl1 (f := FX) (el := cpart (xs.getD (i : Int).toNat default) fr to) ei_s_api_Extent (ot rfl) (.agg _) rfl (by decide) (by decide)) (by decide) ?_
      refine WL.app 1 rfl ei_s_api_Extent (by decide) (ot rfl) (ot rfl) (by simp) (fun _ => rfl) (by simp only [List.length_singleton]; omega) (by simp only [List.length_singleton]; omega) (by decide) fun v31 h31 => ?_
      refine WL.op (asg (ot rfl)) (by decide) ?_
      refine WL.nl (.blk (.thn ?_))
      refine WP.region ?_
      refine WL.op (mv (ot rfl)) (by decide) ?_
      refine WL.op (add (ot rfl) (oc _) (by omega)) (by decide) ?_
      refine WL.op (asg (ot rfl)) (by decide) ?_
      exact WL.nl (.again (i + 1, v31) ⟨hc1, h31⟩ (by show xs.length - (i + 1) < xs.length - i; omega) (Sub.ofD 1 (by rw [parts_step hc1, if_pos hp]; simp) (Sub.cons rfl (imp_eq (congrArg I (by omega))) (Sub.cons rfl (imp _) (Sub.cons rfl (imp _) (Sub.cons rfl (imp _) (Sub.cons rfl (imp _) Sub.nil)))))))
    · skip
      have hp := of_decide_eq_false hc
      refine WP.sk (.blk (.thn ?_))
      refine WP.region ?_
      refine WL.op (mv (ot rfl)) (by decide) ?_
      refine WL.op (add (ot rfl) (oc _) (by omega)) (by decide) ?_
      refine WL.op (asg (ot rfl)) (by decide) ?_
      exact WL.nl (.again (i + 1, v) ⟨hc1, hi.2⟩ (by show xs.length - (i + 1) < xs.length - i; omega) (Sub.ofD 1 (by rw [parts_step hc1, if_neg hp]; simp) (Sub.cons rfl (imp_eq (congrArg I (by omega))) (Sub.cons rfl (imp _) (Sub.cons rfl (imp _) (Sub.cons rfl (imp _) (Sub.cons rfl (imp _) Sub.nil)))))))
  · skip
    have hc1 : ¬ i < xs.length := by have := of_decide_eq_false hc; omega
    refine WP.xt (.xthn (.xthn (.xin (.thn ?_))))
    refine WP.seq ?_
    refine WP.region ?_
    refine WL.op (mv (ot rfl)) (by decide) ?_
    refine WL.op (asg (ot rfl)) (by decide) ?_
    refine WL.nl (.thn ?_)
    exact WP.rt (.new rfl rfl hi.2 0 (by rw [List.take_of_length_le (by omega)]; rfl))

theorem jn_len (xs : List X) : (Jn xs).length ≤ xs.length := by
  have hp : ∀ (L : List X) (x : X), (push L x).length ≤ L.length + 1 := fun L x => by
    unfold push
    split
    · split <;> simp
    · simp
  have : ∀ (L acc : List X), (L.foldl push acc).length ≤ acc.length + L.length := by
    intro L
    induction L with
    | nil => intro acc; simp
    | cons x L ih => intro acc; have := ih (push acc x); have := hp acc x; simp only [List.foldl_cons, List.length_cons]; omega
  have := this xs []
  simpa [Jn] using this
theorem jn_step {xs : List X} {i : Nat} (hi : i < xs.length) : Jn (xs.take (i + 1)) = push (Jn (xs.take i)) (xs.getD (i : Int).toNat default) := by
  rw [getD_at hi, List.take_add_one, List.getElem?_eq_getElem hi]
  show List.foldl _ _ (_ ++ [xs[i]]) = _
  rw [List.foldl_append]; rfl
/-- the last of a list -/
abbrev lastX (L : List X) : X := L.getD ((L.length : Int) - 1).toNat default
theorem last_eq {L : List X} (h : 0 < L.length) : lastX L = L[L.length - 1] ∧ ((L.length : Int) - 1).toNat = L.length - 1 := by
  have e : ((L.length : Int) - 1).toNat = L.length - 1 := by omega
  refine ⟨?_, e⟩
  unfold lastX
  rw [e, List.getD_eq_getElem?_getD, List.getElem?_eq_getElem (by omega)]; rfl
theorem last_ok {L : List X} (h : Xt.Ok 0 L) (hm : 0 < L.length) : 0 ≤ (lastX L).a ∧ 1 ≤ (lastX L).n ∧ 0 ≤ (lastX L).s ∧ (lastX L).a + (lastX L).n ≤ 65536 ∧ (lastX L).s + (lastX L).n ≤ 65536 := by
  rw [(last_eq hm).1]
  exact h.starts _ (List.getElem_mem _)
theorem push_fol {L : List X} {x : X} (h : 0 < L.length) (hf : Fol (lastX L) x) : push L x = L.set (((L.length : Int) - 1).toNat) ⟨(lastX L).a, (lastX L).n + x.n, (lastX L).s⟩ := by
  rw [(last_eq h).2]
  rw [(last_eq h).1] at hf ⊢
  rcases List.eq_nil_or_concat L with rfl | ⟨A, y, h0⟩
  · simp at h
  · rw [List.concat_eq_append] at h0
    subst h0
    have e : (A ++ [y])[(A ++ [y]).length - 1] = y := by simp
    rw [e] at hf ⊢
    rw [push_snoc, if_pos hf]
    simp
theorem push_not {L : List X} {x : X} (hf : 0 < L.length → ¬ Fol (lastX L) x) : push L x = L ++ [x] := by
  rcases List.eq_nil_or_concat L with rfl | ⟨A, y, h0⟩
  · rfl
  · rw [List.concat_eq_append] at h0
    subst h0
    have h := hf (by simp)
    rw [(last_eq (by simp)).1] at h
    have e : (A ++ [y])[(A ++ [y]).length - 1]'(by simp) = y := by simp
    rw [e] at h
    rw [push_snoc, if_neg h]
theorem fol_test (L : List X) (x : X) : (decide (0 ≤ (L.length : Int) - 1) && decide (x.a = (lastX L).a + (lastX L).n) && decide (x.s = (lastX L).s + (lastX L).n)) = decide (0 < L.length ∧ Fol (lastX L) x) := by
  refine Bool.eq_iff_iff.2 ?_
  rw [Bool.and_eq_true, Bool.and_eq_true, decide_eq_true_iff, decide_eq_true_iff, decide_eq_true_iff, decide_eq_true_iff]
  unfold Fol
  exact ⟨fun ⟨⟨h1, h2⟩, h3⟩ => ⟨by omega, h2.symm, h3.symm⟩, fun ⟨h1, h2, h3⟩ => ⟨⟨by omega, h2.symm⟩, h3.symm⟩⟩
theorem flat_get {L : List X} {k j : Nat} (hk : k < L.length) (hj : j < 3) : (L.flatMap FX)[k * 3 + j]? = (FX (L.getD k default))[j]? := by
  have h := flat_at (sz := 3) (f := FX) (fun _ => rfl) L k L[k] (List.getElem?_eq_getElem hk)
  have h2 : (FX L[k])[j]? = (((L.flatMap FX).drop (k * 3)).take 3)[j]? := by rw [h]
  rw [List.getElem?_take, if_pos hj, List.getElem?_drop] at h2
  rw [List.getD_eq_getElem?_getD, List.getElem?_eq_getElem hk]
  exact h2.symm
theorem flat_set {L : List X} {q : Int} : ∀ {k : Nat}, k < L.length → setAt (L.flatMap FX) (k * 3 + 1) [I q] = (L.set k ⟨(L.getD k default).a, q, (L.getD k default).s⟩).flatMap FX := by
  induction L with
  | nil => intro k hk; simp at hk
  | cons x L ih =>
    intro k hk
    cases k with
    | zero => rfl
    | succ k =>
      have := ih (k := k) (by simpa using hk)
      unfold setAt at *
      rw [List.flatMap_cons, List.set_cons_succ, List.flatMap_cons, List.getD_cons_succ, ← this]
      have e : ∀ m, (FX x ++ L.flatMap FX).take (3 + m) = FX x ++ (L.flatMap FX).take m := fun m => by rw [List.take_append, List.take_of_length_le (by show 3 ≤ 3 + m; omega)]; congr 1; congr 1; show 3 + m - 3 = m; omega
      have e2 : ∀ m, (FX x ++ L.flatMap FX).drop (3 + m) = (L.flatMap FX).drop m := fun m => by rw [List.drop_append, List.drop_of_length_le (by show 3 ≤ 3 + m; omega)]; rw [List.nil_append]; congr 1; show 3 + m - 3 = m; omega
      rw [show (k + 1) * 3 + 1 = 3 + (k * 3 + 1) from by omega, e, Nat.add_assoc, e2, List.append_assoc, List.append_assoc, List.append_assoc]

theorem c_r32_Join (xs : List X) (hl : xs.length ≤ 100000) (ho : Xt.Ok 0 xs) : PureC Tryz.prog 122 [sl 3 FX xs] (tup [sl 3 FX (Jn xs), I 0]) := by
  refine PureC.of_wp Tryz.func122 (by kernel_rfl) rfl Tryz.ntmps122 (le_ rfl) (fun w0 M0 => ?_)
  refine WP.nilrow 65 3 ?_
  refine WP.seq  ?_
  refine WP.region ?_
  refine WL.op (asg (oc _)) (by decide) ?_
  refine WL.op (asg (oc _)) (by decide) ?_
  refine WL.nl (.thn ?_)
  refine WP.seq ?_
  refine WP.seq ?_
  refine WP.region ?_
  refine WL.op (mv (ot rfl)) (by decide) ?_
  refine WL.op (OpG.weak (R' := val (.bool true)) (call (c_r32_Valid xs hl) (.c (ot rfl) .n)) (imp_eq (congrArg (fun b => val (.bool b)) (decide_eq_true ho)))) (by decide) ?_
  refine WL.op (not_ (ot rfl)) (by decide) ?_
  refine WL.nl (.thn ?_)
  refine WP.condF rfl ?_
  refine WP.sk (.thn ?_)
  refine WP.seq ?_
  refine WP.region ?_
  refine WL.op (asg (oc _)) (by decide) ?_
  refine WL.nl (.thn ?_)
  refine WP.seq ?_
  refine WP.seq ?_
  refine WP.region ?_
  refine WL.op (asg (oc _)) (by decide) ?_
  refine WL.nl (.thn ?_)
  refine WP.block ?_
  refine WP.loop (fun y : Nat × Value => [.r y.2 65 3 (Jn (xs.take y.1)).length ((Jn (xs.take y.1)).flatMap FX)]) (fun y => [(5, I (y.1 : Int)), (4, val y.2), (0, sl 3 FX xs)]) (fun y => y.1 ≤ xs.length ∧ y.2.oneCell' = true) (fun y => xs.length - y.1) (0, nilS) ⟨Nat.zero_le _, rfl⟩ (Sub.ofD 0 rfl (Sub.cons rfl (imp_eq rfl) (Sub.cons rfl (imp _) (Sub.cons rfl (imp _) Sub.nil)))) (fun y hi => ?_)
  obtain ⟨i, v⟩ := y
  replace hi : i ≤ xs.length ∧ v.oneCell' = true := hi
  show WP _ _ _ _ [.r v 65 3 (Jn (xs.take i)).length ((Jn (xs.take i)).flatMap FX)] [(5, I (i : Int)), (4, val v), (0, sl 3 FX xs)] _ _
  obtain ⟨L, hL⟩ : ∃ L, L = Jn (xs.take i) := ⟨_, rfl⟩
  rw [← hL]
  have hLl : L.length ≤ i := by rw [hL]; exact Nat.le_trans (jn_len _) (List.length_take_le _ _)
  refine WP.seq ?_
  refine WP.seq ?_
  refine WP.region ?_
  refine WL.op (mv (ot rfl)) (by decide) ?_
  refine WL.op (mv (ot rfl)) (by decide) ?_
  refine WL.op (len_  us_s_api_Extent (ot rfl)) (by decide) ?_
  refine WL.op (lss (ot rfl) (ot rfl)) (by decide) ?_
  refine WL.nl (.thn ?_)
  refine WP.cond rfl (fun hc => ?_) (fun hc => ?_)
  · skip
    have hc1 : i < xs.length := by have := of_decide_eq_true hc; omega
    have hx := ok_at hc1 ho
    have hlast := last_ok (L := L) (by rw [hL]; exact (jn_spec (Xt.Ok.append_left (B := xs.drop i) (by rw [List.take_append_drop]; exact ho))).1)
    unfold lastX at hlast
    refine WP.sk (.thn ?_)
    refine WP.seq ?_
    refine WP.block ?_
    refine WP.seq ?_
    refine WP.region ?_
    refine WL.op (mv (ot rfl)) (by decide) ?_
    refine WL.op (lenr 0 rfl us_s_api_Extent (ot rfl)) (by decide) ?_
    refine WL.op (sub (ot rfl) (oc _) (by omega)) (by decide) ?_
    refine WL.op (asg (ot rfl)) (by decide) ?_
    refine WL.nl (.thn ?_)
    refine WP.seq ?_
    refine WP.rowAt' 0 rfl fun g cap hv => ?_
    refine WP.draws  ?_
    refine RG.op (mv (ot rfl)) ?_
    refine RG.op (geq (ot rfl) (oc _)) ?_
    refine RG.op (mv (ot rfl)) ?_
    refine RG.gd rfl rfl (Tells.v _ _) (fun hg => mv (ot rfl)) ?_
    refine RG.gd rfl rfl (Tells.v _ _) (fun hg => mv (ot rfl)) ?_
    refine RG.gd rfl rfl (Tells.v _ _) (fun hg => ixd el_s_api_Extent (og rfl hg) (og rfl hg) (by omega) (by omega)) ?_
    refine RG.gd rfl rfl (Tells.v _ _) (fun hg => fa fo_Extent_0 (og rfl hg)) ?_
    refine RG.gd rfl rfl (Tells.v _ _) (fun hg => ld sc_int (og rfl hg)) ?_
    refine RG.gd rfl rfl (Tells.v _ _) (fun hg => mv (ot rfl)) ?_
    refine RG.gd rfl rfl (Tells.v _ _) (fun hg => mv (ot rfl)) ?_
    refine RG.gd rfl rfl (Tells.v _ _) (fun hg => ixr' (hv (by simp at hg; omega)) el_s_api_Extent (og rfl hg) (og rfl hg) (by simp at hg; omega) (by omega)) ?_
    refine RG.gd rfl rfl (Tells.v _ _) (fun hg => fv fo_Extent_0 (og rfl hg)) ?_
    refine RG.gd rfl rfl (Tells.v _ _) (fun hg => lr' 0 (hv (by simp at hg; omega)) rfl sc_int (og rfl hg) (flat_get (j := 0) (by simp at hg; omega) (by decide))) ?_
    refine RG.gd rfl rfl (Tells.v _ _) (fun hg => mv (ot rfl)) ?_
    refine RG.gd rfl rfl (Tells.v _ _) (fun hg => mv (ot rfl)) ?_
    refine RG.gd rfl rfl (Tells.v _ _) (fun hg => ixr' (hv (by simp at hg; omega)) el_s_api_Extent (og rfl hg) (og rfl hg) (by simp at hg; omega) (by omega)) ?_
    refine RG.gd rfl rfl (Tells.v _ _) (fun hg => fv fo_Extent_1 (og rfl hg)) ?_
    refine RG.gd rfl rfl (Tells.v _ _) (fun hg => lr' 0 (hv (by simp at hg; omega)) rfl sc_int (og rfl hg) (flat_get (j := 1) (by simp at hg; omega) (by decide))) ?_
    refine RG.gd rfl rfl (Tells.v _ _) (fun hg => have hz := hlast (by simp at hg; omega); add (og rfl hg) (og rfl hg) (by omega)) ?_
    refine RG.gd rfl rfl (Tells.v _ _) (fun hg => eql (og rfl hg) (og rfl hg)) ?_
    refine RG.op (and_ (ot rfl) (ot rfl)) ?_
    refine RG.op (mv (ot rfl)) ?_
    refine RG.gd rfl rfl (Tells.v _ _) (fun hg => mv (ot rfl)) ?_
    refine RG.gd rfl rfl (Tells.v _ _) (fun hg => mv (ot rfl)) ?_
    refine RG.gd rfl rfl (Tells.v _ _) (fun hg => ixd el_s_api_Extent (og rfl hg) (og rfl hg) (by omega) (by omega)) ?_
    refine RG.gd rfl rfl (Tells.v _ _) (fun hg => fa fo_Extent_2 (og rfl hg)) ?_
    refine RG.gd rfl rfl (Tells.v _ _) (fun hg => ld sc_int (og rfl hg)) ?_
    refine RG.gd rfl rfl (Tells.v _ _) (fun hg => mv (ot rfl)) ?_
    refine RG.gd rfl rfl (Tells.v _ _) (fun hg => mv (ot rfl)) ?_
    refine RG.gd rfl rfl (Tells.v _ _) (fun hg => ixr' (hv (by simp at hg; omega)) el_s_api_Extent (og rfl hg) (og rfl hg) (by simp at hg; omega) (by omega)) ?_
    refine RG.gd rfl rfl (Tells.v _ _) (fun hg => fv fo_Extent_2 (og rfl hg)) ?_
    refine RG.gd rfl rfl (Tells.v _ _) (fun hg => lr' 0 (hv (by simp at hg; omega)) rfl sc_int (og rfl hg) (flat_get (j := 2) (by simp at hg; omega) (by decide))) ?_
    refine RG.gd rfl rfl (Tells.v _ _) (fun hg => mv (ot rfl)) ?_
    refine RG.gd rfl rfl (Tells.v _ _) (fun hg => mv (ot rfl)) ?_
    refine RG.gd rfl rfl (Tells.v _ _) (fun hg => ixr' (hv (by simp at hg; omega)) el_s_api_Extent (og rfl hg) (og rfl hg) (by simp at hg; omega) (by omega)) ?_
    refine RG.gd rfl rfl (Tells.v _ _) (fun hg => fv fo_Extent_1 (og rfl hg)) ?_
    refine RG.gd rfl rfl (Tells.v _ _) (fun hg => lr' 0 (hv (by simp at hg; omega)) rfl sc_int (og rfl hg) (flat_get (j := 1) (by simp at hg; omega) (by decide))) ?_
    refine RG.gd rfl rfl (Tells.v _ _) (fun hg => have hz := hlast (by simp at hg; omega); add (og rfl hg) (og rfl hg) (by omega)) ?_
    refine RG.gd rfl rfl (Tells.v _ _) (fun hg => eql (og rfl hg) (og rfl hg)) ?_
    refine RG.op (and_ (ot rfl) (ot rfl)) ?_
    refine RG.fin HM (by kernel_rfl) ?_
    show WL _ _ _ _ _ _ _ _ _
    refine WL.nl (.thn ?_)
    refine WP.condB (decide (0 < L.length ∧ Fol (lastX L) (xs.getD (i : Int).toNat default))) rfl (fol_test _ _) (fun hc => ?_) (fun hc => ?_)
    · skip
      have hp0 := of_decide_eq_true hc
      have hm := hp0.1
      have hz := hlast hm
      have hp := hp0.2
      refine WP.draws ?_
      refine RG.op (mv (ot rfl)) ?_
      refine RG.op (mv (ot rfl)) ?_
      refine RG.op (ixr' (hv hm) el_s_api_Extent (ot rfl) (ot rfl) (by omega) (by omega)) ?_
      refine RG.op (fv fo_Extent_1 (ot rfl)) ?_
      refine RG.op (lr' 0 (hv hm) rfl sc_int (ot rfl) (flat_get (j := 1) (by omega) (by decide))) ?_
      refine RG.op (mv (ot rfl)) ?_
      refine RG.op (mv (ot rfl)) ?_
      refine RG.op (ixd el_s_api_Extent (ot rfl) (ot rfl) (by omega) (by omega)) ?_
      refine RG.op (fa fo_Extent_1 (ot rfl)) ?_
      refine RG.op (ld sc_int (ot rfl)) ?_
      refine RG.op (add (ot rfl) (ot rfl) (by omega)) ?_
      refine RG.op (ixr' (hv hm) el_s_api_Extent (ot rfl) (ot rfl) (by omega) (by omega)) ?_
      refine RG.op (fv fo_Extent_1 (ot rfl)) ?_
      refine RG.fin HM (by kernel_rfl) ?_
      show WL _ _ _ _ _ _ _ _ _
      refine WL.storeR' 0 (hv hm) rfl (ot rfl) (ot rfl) (.leaf (.val rfl)) sz_int rfl (by rw [flat_len (sz := 3) (f := FX) (fun _ => rfl)]; omega) ?_
      refine WL.nl (.blk (.thn ?_))
      refine WP.region ?_
      refine WL.op (mv (ot rfl)) (by decide) ?_
      refine WL.op (add (ot rfl) (oc _) (by omega)) (by decide) ?_
      refine WL.op (asg (ot rfl)) (by decide) ?_
      exact WL.nl (.again (i + 1, v) ⟨hc1, hi.2⟩ (by show xs.length - (i + 1) < xs.length - i; omega) (Sub.ofD 0 (Eq.trans (b := [.r v 65 3 L.length (setAt (L.flatMap FX) (((L.length : Int) - 1).toNat * 3 + 1) [I ((lastX L).n + (xs.getD (i : Int).toNat default).n)])]) rfl (by rw [jn_step hc1, ← hL, push_fol hm hp, flat_set (by omega), List.length_set])) (Sub.cons rfl (imp_eq (congrArg I (by omega))) (Sub.cons rfl (imp _) (Sub.cons rfl (imp _) Sub.nil)))))
    · skip
      have hp : 0 < L.length → ¬ Fol (lastX L) (xs.getD (i : Int).toNat default) := fun hm hf => of_decide_eq_false hc ⟨hm, hf⟩
      refine WP.region ?_
      refine WL.op (mv (ot rfl)) (by decide) ?_
      refine WL.op (mv (ot rfl)) (by decide) ?_
      refine WL.op (mv (ot rfl)) (by decide) ?_
      refine WL.op (ixd el_s_api_Extent (ot rfl) (ot rfl) (by omega) (by omega)) (by decide) ?_
      refine WL.op (ls ag_Extent (ot rfl) (le_ rfl)) (by decide) ?_
      refine WL.op (bsl1 (f := FX) (el := xs.getD (i : Int).toNat default) ei_s_api_Extent (ot rfl) (.agg _) rfl (by decide) (by decide)) (by decide) ?_
      refine WL.app 0 rfl ei_s_api_Extent (by decide) (ot rfl) (ot rfl) (by simp) (fun _ => rfl) (by simp only [List.length_singleton]; omega) (by simp only [List.length_singleton]; omega) (by decide) fun v78 h78 => ?_
      refine WL.op (asg (ot rfl)) (by decide) ?_
      refine WL.nl (.blk (.thn ?_))
      refine WP.region ?_
      refine WL.op (mv (ot rfl)) (by decide) ?_
      refine WL.op (add (ot rfl) (oc _) (by omega)) (by decide) ?_
      refine WL.op (asg (ot rfl)) (by decide) ?_
      exact WL.nl (.again (i + 1, v78) ⟨hc1, h78⟩ (by show xs.length - (i + 1) < xs.length - i; omega) (Sub.ofD 0 (Eq.trans (b := [.r v78 65 3 (L.length + 1) (L.flatMap FX ++ [xs.getD (i : Int).toNat default].flatMap FX)]) rfl (by rw [jn_step hc1, ← hL, push_not hp, List.flatMap_append, List.length_append]; rfl)) (Sub.cons rfl (imp_eq (congrArg I (by omega))) (Sub.cons rfl (imp _) (Sub.cons rfl (imp _) Sub.nil)))))
  · skip
    have hc1 : ¬ i < xs.length := by have := of_decide_eq_false hc; omega
    refine WP.xt (.xthn (.xthn (.xin (.thn ?_))))
    refine WP.seq ?_
    refine WP.region ?_
    refine WL.op (mv (ot rfl)) (by decide) ?_
    refine WL.op (asg (ot rfl)) (by decide) ?_
    refine WL.op (asg (oc _)) (by decide) ?_
    refine WL.nl (.thn ?_)
    refine WP.freeze 0 2 FX L rfl (fun _ => rfl) rfl rfl rfl ?_
    have hL2 : L = Jn xs := by rw [hL, List.take_of_length_le (by omega)]
    exact WP.rt (.rN rfl (.cons (.tm rfl) (.cons (.tm rfl) .nil)) (le_ rfl) (imp_eq (by rw [hL2])))
end Go.Proofs.YtjglgfnhgehpeaaGreat

/- Cut and Put of the specification of extents; a step of a script, of a list and of a tree. -/
set_option linter.unusedVariables false
set_option linter.unusedSimpArgs false
set_option maxRecDepth 4000
namespace Go.Proofs.YtjglgfnhgehpeaaGreat
open Go.RowKit Go.Fw Go.Xt

abbrev rErr : Rp := tup [sl 3 FX ([] : List X), sl 3 FX ([] : List X), I 1]
inductive ImpT : List Rp → List Rp → Prop
  | n : ImpT [] []
  | c {R R' : Rp} {Rs Rs' : List Rp} : (∀ v w M, R.h v w M → R'.h v w M) → ImpT Rs Rs' → ImpT (R :: Rs) (R' :: Rs')
theorem ImpT.all {w : World} {M : Mask} : ∀ {Rs Rs' : List Rp}, ImpT Rs Rs' → ∀ {vs : List Value}, TupAll w M Rs vs → TupAll w M Rs' vs := by
  intro Rs Rs' h
  induction h with
  | n => intro vs h; exact h
  | c h _ ih =>
    intro vs hv
    cases vs with
    | nil => exact hv.elim
    | cons v vs => exact ⟨h _ _ _ hv.1, ih hv.2⟩
theorem impT {Rs Rs' : List Rp} (h : ImpT Rs Rs') : ∀ v w M, (tup Rs).h v w M → (tup Rs').h v w M := fun v w M ⟨vs, h1, h2⟩ => ⟨vs, h1, h.all h2⟩

theorem c_r32_Cut_err {xs : List X} {a n : Int} (hl : xs.length ≤ 30000) (ho : Xt.Ok 0 xs) (hw : ¬ Wi a n 65536) : PureC Tryz.prog 88 [sl 3 FX xs, I a, I n] rErr := by
  refine PureC.of_wp Tryz.func88 (by kernel_rfl) rfl Tryz.ntmps88 (le_ rfl) (fun w0 M0 => ?_)
  refine WP.seq ?_
  refine WP.region ?_
  refine WL.op (asg (oc _)) (by decide) ?_
  refine WL.op (asg (oc _)) (by decide) ?_
  refine WL.op (asg (oc _)) (by decide) ?_
  refine WL.nl (.thn ?_)
  refine WP.seq ?_
  refine WP.seq ?_
  refine WP.region ?_
  refine WL.op (mv (ot rfl)) (by decide) ?_
  refine WL.op (OpG.weak (R' := val (.bool true)) (call (c_r32_Valid xs (by omega)) (.c (ot rfl) .n)) (imp_eq (congrArg (fun b => val (.bool b)) (decide_eq_true ho)))) (by decide) ?_
  refine WL.op (not_ (ot rfl)) (by decide) ?_
  refine WL.op (mv (ot rfl)) (by decide) ?_
  refine WL.gT rfl rfl ?_ -- g3
  refine WL.op (mv (ot rfl)) (by decide) ?_
  refine WL.gT rfl rfl ?_ -- g3
  refine WL.op (mv (ot rfl)) (by decide) ?_
  refine WL.gT rfl rfl ?_ -- g3
  refine WL.op (OpG.weak (R' := val (.bool false)) (call (c_r32_Range a n) (.c (ot rfl) (.c (ot rfl) .n))) (imp_eq (congrArg (fun b => val (.bool b)) (decide_eq_false hw)))) (by decide) ?_
  refine WL.gT rfl rfl ?_ -- g3
  refine WL.op (not_ (ot rfl)) (by decide) ?_
  refine WL.op (pickF (ot rfl) (ot rfl)) (by decide) ?_
  refine WL.nl (.thn ?_)
  refine WP.condT rfl ?_
  refine WP.seq ?_
  refine WP.region ?_
  refine WL.op (asg (oc _)) (by decide) ?_
  refine WL.op (asg (oc _)) (by decide) ?_
  refine WL.op (asg (oc _)) (by decide) ?_
  refine WL.nl (.thn ?_)
  exact WP.rt (.rthn (.rN rfl (.cons (.tm rfl) (.cons (.tm rfl) (.cons (.tm rfl) .nil))) (le_ rfl) (impT (.c sl_nil (.c sl_nil (.c (imp _) .n))))))
theorem c_r32_Cut_ok {xs : List X} {a n : Int} (hl : xs.length ≤ 30000) (ho : Xt.Ok 0 xs) (hw : Wi a n 65536) : PureC Tryz.prog 88 [sl 3 FX xs, I a, I n] (tup [sl 3 FX (rcut xs a n), sl 3 FX (Jn (Xt.parts xs a (a + n))), I 0]) := by
  have l1 := parts_len xs 0 a
  have l2 := parts_len xs (a + n) 65536
  have l3 := parts_len xs a (a + n)
  have hb : 0 ≤ a ∧ 0 ≤ n ∧ a ≤ 65536 ∧ n ≤ 65536 := by have := hw.1; have := hw.2.1; have := hw.2.2; omega
  refine PureC.of_wp Tryz.func88 (by kernel_rfl) rfl Tryz.ntmps88 (le_ rfl) (fun w0 M0 => ?_)
  refine WP.seq ?_
  refine WP.region ?_
  refine WL.op (asg (oc _)) (by decide) ?_
  refine WL.op (asg (oc _)) (by decide) ?_
  refine WL.op (asg (oc _)) (by decide) ?_
  refine WL.nl (.thn ?_)
  refine WP.seq ?_
  refine WP.seq ?_
  refine WP.region ?_
  refine WL.op (mv (ot rfl)) (by decide) ?_
  refine WL.op (OpG.weak (R' := val (.bool true)) (call (c_r32_Valid xs (by omega)) (.c (ot rfl) .n)) (imp_eq (congrArg (fun b => val (.bool b)) (decide_eq_true ho)))) (by decide) ?_
  refine WL.op (not_ (ot rfl)) (by decide) ?_
  refine WL.op (mv (ot rfl)) (by decide) ?_
  refine WL.gT rfl rfl ?_ -- g3
  refine WL.op (mv (ot rfl)) (by decide) ?_
  refine WL.gT rfl rfl ?_ -- g3
  refine WL.op (mv (ot rfl)) (by decide) ?_
  refine WL.gT rfl rfl ?_ -- g3
  refine WL.op (OpG.weak (R' := val (.bool true)) (call (c_r32_Range a n) (.c (ot rfl) (.c (ot rfl) .n))) (imp_eq (congrArg (fun b => val (.bool b)) (decide_eq_true hw)))) (by decide) ?_
  refine WL.gT rfl rfl ?_ -- g3
  refine WL.op (not_ (ot rfl)) (by decide) ?_
  refine WL.op (pickF (ot rfl) (ot rfl)) (by decide) ?_
  refine WL.nl (.thn ?_)
  refine WP.condF rfl ?_
  refine WP.sk (.thn ?_)
  refine WP.seq ?_
  refine WP.region ?_
  refine WL.op (mv (ot rfl)) (by decide) ?_
  refine WL.op (mv (ot rfl)) (by decide) ?_
  refine WL.new (c_r32_parts xs 0 a (by omega) ho (by omega) (by omega)) (.c (ot rfl) (.c (oc _) (.c (ot rfl) .n))) (by decide) fun v25 h25 => ?_
  refine WL.op (mv (ot rfl)) (by decide) ?_
  refine WL.op (mv (ot rfl)) (by decide) ?_
  refine WL.op (mv (ot rfl)) (by decide) ?_
  refine WL.op (add (ot rfl) (ot rfl) (by omega)) (by decide) ?_
  refine WL.new (c_r32_parts xs (a + n) 65536 (by omega) ho (by omega) (by omega)) (.c (ot rfl) (.c (ot rfl) (.c (oc _) .n))) (by decide) fun v30 h30 => ?_
  refine WL.freeze 0 30 FX (Xt.parts xs (a + n) 65536) rfl (fun _ => rfl) rfl rfl rfl ?_
  refine WL.app' 1 rfl ei_s_api_Extent (by decide) (ot rfl) (ot rfl) h25 (fun _ => rfl) (by omega) (by omega) (by decide) fun v31 h31 => ?_
  refine WL.freeze 1 31 FX (Xt.parts xs 0 a ++ Xt.parts xs (a + n) 65536) rfl (fun _ => rfl) List.length_append.symm List.flatMap_append.symm rfl ?_
  refine WL.op (call (c_r32_Join (Xt.parts xs 0 a ++ Xt.parts xs (a + n) 65536) (by rw [List.length_append]; omega) (ok_rcut ho hw.1 hw.2.1)) (.c (ot rfl) .n)) (by decide) ?_
  refine WL.op (mv (ot rfl)) (by decide) ?_
  refine WL.op (ex (ot rfl) rfl) (by decide) ?_
  refine WL.op (ex (ot rfl) rfl) (by decide) ?_
  refine WL.op (asg (ot rfl)) (by decide) ?_
  refine WL.op (asg (ot rfl)) (by decide) ?_
  refine WL.nl (.thn ?_)
  refine WP.seq ?_
  refine WP.region ?_
  refine WL.op (mv (ot rfl)) (by decide) ?_
  refine WL.op (mv (ot rfl)) (by decide) ?_
  refine WL.op (mv (ot rfl)) (by decide) ?_
  refine WL.op (mv (ot rfl)) (by decide) ?_
  refine WL.op (add (ot rfl) (ot rfl) (by omega)) (by decide) ?_
  refine WL.new (c_r32_parts xs a (a + n) (by omega) ho (by omega) (by omega)) (.c (ot rfl) (.c (ot rfl) (.c (ot rfl) .n))) (by decide) fun v41 h41 => ?_
  refine WL.freeze 0 41 FX (Xt.parts xs a (a + n)) rfl (fun _ => rfl) rfl rfl rfl ?_
  refine WL.op (call (c_r32_Join (Xt.parts xs a (a + n)) (by omega) (ok_parts ho (by omega))) (.c (ot rfl) .n)) (by decide) ?_
  refine WL.op (mv (ot rfl)) (by decide) ?_
  refine WL.op (ex (ot rfl) rfl) (by decide) ?_
  refine WL.op (ex (ot rfl) rfl) (by decide) ?_
  refine WL.op (asg (ot rfl)) (by decide) ?_
  refine WL.op (asg (ot rfl)) (by decide) ?_
  refine WL.nl (.thn ?_)
  refine WP.seq ?_
  refine WP.region ?_
  refine WL.op (mv (ot rfl)) (by decide) ?_
  refine WL.op (mv (ot rfl)) (by decide) ?_
  refine WL.op (asg (ot rfl)) (by decide) ?_
  refine WL.op (asg (ot rfl)) (by decide) ?_
  refine WL.op (asg (oc _)) (by decide) ?_
  refine WL.nl (.thn ?_)
  exact WP.rt (.rN rfl (.cons (.tm rfl) (.cons (.tm rfl) (.cons (.tm rfl) .nil))) (le_ rfl) (imp _))
theorem c_r32_Put_err {xs : List X} {x : X} (hl : xs.length ≤ 30000) (ho : Xt.Ok 0 xs) (hw : ¬ Pr x) : PureC Tryz.prog 120 [sl 3 FX xs, ext x] rErr := by
  refine PureC.of_wp Tryz.func120 (by kernel_rfl) rfl Tryz.ntmps120 (le_ rfl) (fun w0 M0 => ?_)
  refine WP.seq ?_
  refine WP.region ?_
  refine WL.box (ot rfl) (.agg _) (by decide) fun b3 => ?_
  refine WL.op (asg (oc _)) (by decide) ?_
  refine WL.op (asg (oc _)) (by decide) ?_
  refine WL.op (asg (oc _)) (by decide) ?_
  refine WL.nl (.thn ?_)
  refine WP.seq ?_
  refine WP.seq ?_
  refine WP.region ?_
  refine WL.op (mv (ot rfl)) (by decide) ?_
  refine WL.op (OpG.weak (R' := val (.bool true)) (call (c_r32_Valid xs (by omega)) (.c (ot rfl) .n)) (imp_eq (congrArg (fun b => val (.bool b)) (decide_eq_true ho)))) (by decide) ?_
  refine WL.op (not_ (ot rfl)) (by decide) ?_
  refine WL.op (mv (ot rfl)) (by decide) ?_
  refine WL.gT rfl rfl ?_ -- g3
  refine WL.op (lbs 0 rfl ag_Extent (ot rfl) (le_ rfl)) (by decide) ?_
  refine WL.gT rfl rfl ?_ -- g3
  refine WL.op (OpG.weak (R' := val (.bool false)) (call (c_r32_One x) (.c (ot rfl) .n)) (imp_eq (congrArg (fun b => val (.bool b)) (decide_eq_false hw)))) (by decide) ?_
  refine WL.gT rfl rfl ?_ -- g3
  refine WL.op (not_ (ot rfl)) (by decide) ?_
  refine WL.op (pickF (ot rfl) (ot rfl)) (by decide) ?_
  refine WL.nl (.thn ?_)
  refine WP.condT rfl ?_
  refine WP.seq ?_
  refine WP.region ?_
  refine WL.op (asg (oc _)) (by decide) ?_
  refine WL.op (asg (oc _)) (by decide) ?_
  refine WL.op (asg (oc _)) (by decide) ?_
  refine WL.nl (.thn ?_)
  exact WP.rt (.rthn (.rN rfl (.cons (.tm rfl) (.cons (.tm rfl) (.cons (.tm rfl) .nil))) (le_ rfl) (impT (.c sl_nil (.c sl_nil (.c (imp _) .n))))))
theorem vx_of {x : X} (h : Pr x) : Vx x := by
  obtain ⟨h1, ⟨a1, a2, a3, a4⟩, ⟨b1, b2, b3, b4⟩⟩ := h
  exact ⟨h1, b1, by omega, by omega⟩
theorem c_r32_Put_ok {xs : List X} {x : X} (hl : xs.length ≤ 30000) (ho : Xt.Ok 0 xs) (hw : Pr x) : PureC Tryz.prog 120 [sl 3 FX xs, ext x] (tup [sl 3 FX (rput xs x), sl 3 FX (Jn (Xt.parts xs x.a (x.a + x.n))), I 0]) := by
  have l1 := parts_len xs 0 x.a
  have l2 := parts_len xs (x.a + x.n) 65536
  have l3 := parts_len xs x.a (x.a + x.n)
  have hb : 0 ≤ x.a ∧ 1 ≤ x.n ∧ x.a + x.n ≤ 65536 ∧ 0 ≤ x.s := by have := hw.1; have := hw.2.1.1; have := hw.2.1.2.2.2; have := hw.2.2.1; omega
  refine PureC.of_wp Tryz.func120 (by kernel_rfl) rfl Tryz.ntmps120 (le_ rfl) (fun w0 M0 => ?_)
  refine WP.seq ?_
  refine WP.region ?_
  refine WL.box (ot rfl) (.agg _) (by decide) fun b3 => ?_
  refine WL.op (asg (oc _)) (by decide) ?_
  refine WL.op (asg (oc _)) (by decide) ?_
  refine WL.op (asg (oc _)) (by decide) ?_
  refine WL.nl (.thn ?_)
  refine WP.seq ?_
  refine WP.seq ?_
  refine WP.region ?_
  refine WL.op (mv (ot rfl)) (by decide) ?_
  refine WL.op (OpG.weak (R' := val (.bool true)) (call (c_r32_Valid xs (by omega)) (.c (ot rfl) .n)) (imp_eq (congrArg (fun b => val (.bool b)) (decide_eq_true ho)))) (by decide) ?_
  refine WL.op (not_ (ot rfl)) (by decide) ?_
  refine WL.op (mv (ot rfl)) (by decide) ?_
  refine WL.gT rfl rfl ?_ -- g3
  refine WL.op (lbs 0 rfl ag_Extent (ot rfl) (le_ rfl)) (by decide) ?_
  refine WL.gT rfl rfl ?_ -- g3
  refine WL.op (OpG.weak (R' := val (.bool true)) (call (c_r32_One x) (.c (ot rfl) .n)) (imp_eq (congrArg (fun b => val (.bool b)) (decide_eq_true hw)))) (by decide) ?_
  refine WL.gT rfl rfl ?_ -- g3
  refine WL.op (not_ (ot rfl)) (by decide) ?_
  refine WL.op (pickF (ot rfl) (ot rfl)) (by decide) ?_
  refine WL.nl (.thn ?_)
  refine WP.condF rfl ?_
  refine WP.sk (.thn ?_)
  refine WP.seq ?_
  refine WP.draws ?_
  refine RG.op (mv (ot rfl)) ?_
  refine RG.op (fv fo_Extent_0 (ot rfl)) ?_
  refine RG.op (lb 0 rfl sc_int (ot rfl) rfl) ?_
  refine RG.nx (OpN.call (c_r32_parts xs 0 x.a (by omega) ho (by omega) (by omega)) (.c (ot rfl) (.c (oc _) (.c (ot rfl) .n)))) ?_
  refine RG.op (lbs 0 rfl ag_Extent (ot rfl) (le_ rfl)) ?_
  refine RG.op (bsl1 (f := FX) (el := x) ei_s_api_Extent (ot rfl) (.agg _) rfl (by decide) (by decide)) ?_
  refine RG.fin HM (by kernel_rfl) ?_
  intro v21 h21
  show WL _ _ _ _ _ _ _ _ _
  refine WL.app' 0 rfl ei_s_api_Extent (by decide) (ot rfl) (ot rfl) h21 (fun _ => rfl) (by simp only [List.length_singleton]; omega) (by simp only [List.length_singleton]; omega) (by decide) fun v24 h24 => ?_
  refine WL.op (asg (ot rfl)) (by decide) ?_
  refine WL.nl (.thn ?_)
  refine WP.seq ?_
  refine WP.region ?_
  refine WL.op (mv (ot rfl)) (by decide) ?_
  refine WL.op (mv (ot rfl)) (by decide) ?_
  refine WL.op (fv fo_Extent_0 (ot rfl)) (by decide) ?_
  refine WL.op (lb 1 rfl sc_int (ot rfl) rfl) (by decide) ?_
  refine WL.op (fv fo_Extent_1 (ot rfl)) (by decide) ?_
  refine WL.op (lb 1 rfl sc_int (ot rfl) rfl) (by decide) ?_
  refine WL.op (add (ot rfl) (ot rfl) (by omega)) (by decide) ?_
  refine WL.new (c_r32_parts xs (x.a + x.n) 65536 (by omega) ho (by omega) (by omega)) (.c (ot rfl) (.c (ot rfl) (.c (oc _) .n))) (by decide) fun v33 h33 => ?_
  refine WL.freeze 0 33 FX (Xt.parts xs (x.a + x.n) 65536) rfl (fun _ => rfl) rfl rfl rfl ?_
  refine WL.app' 1 rfl ei_s_api_Extent (by decide) (ot rfl) (ot rfl) h24 (fun _ => rfl) (by simp only [List.length_singleton]; omega) (by simp only [List.length_singleton]; omega) (by decide) fun v34 h34 => ?_
  refine WL.freeze 1 34 FX (Xt.parts xs 0 x.a ++ [x] ++ Xt.parts xs (x.a + x.n) 65536) rfl (fun _ => rfl) (by simp only [List.length_append, List.length_singleton]) (by simp only [List.flatMap_append]) rfl ?_
  refine WL.op (call (c_r32_Join (Xt.parts xs 0 x.a ++ [x] ++ Xt.parts xs (x.a + x.n) 65536) (by simp only [List.length_append, List.length_singleton]; omega) (ok_rput ho hw.2.1.1 (vx_of hw))) (.c (ot rfl) .n)) (by decide) ?_
  refine WL.op (mv (ot rfl)) (by decide) ?_
  refine WL.op (ex (ot rfl) rfl) (by decide) ?_
  refine WL.op (ex (ot rfl) rfl) (by decide) ?_
  refine WL.op (asg (ot rfl)) (by decide) ?_
  refine WL.nl (.thn ?_)
  refine WP.seq ?_
  refine WP.region ?_
  refine WL.op (mv (ot rfl)) (by decide) ?_
  refine WL.op (fv fo_Extent_0 (ot rfl)) (by decide) ?_
  refine WL.op (lb 2 rfl sc_int (ot rfl) rfl) (by decide) ?_
  refine WL.op (fv fo_Extent_0 (ot rfl)) (by decide) ?_
  refine WL.op (lb 2 rfl sc_int (ot rfl) rfl) (by decide) ?_
  refine WL.op (fv fo_Extent_1 (ot rfl)) (by decide) ?_
  refine WL.op (lb 2 rfl sc_int (ot rfl) rfl) (by decide) ?_
  refine WL.op (add (ot rfl) (ot rfl) (by omega)) (by decide) ?_
  refine WL.new (c_r32_parts xs x.a (x.a + x.n) (by omega) ho (by omega) (by omega)) (.c (ot rfl) (.c (ot rfl) (.c (ot rfl) .n))) (by decide) fun v47 h47 => ?_
  refine WL.freeze 0 47 FX (Xt.parts xs x.a (x.a + x.n)) rfl (fun _ => rfl) rfl rfl rfl ?_
  refine WL.op (call (c_r32_Join (Xt.parts xs x.a (x.a + x.n)) (by omega) (ok_parts ho (by omega))) (.c (ot rfl) .n)) (by decide) ?_
  refine WL.op (mv (ot rfl)) (by decide) ?_
  refine WL.op (ex (ot rfl) rfl) (by decide) ?_
  refine WL.op (ex (ot rfl) rfl) (by decide) ?_
  refine WL.op (asg (ot rfl)) (by decide) ?_
  refine WL.op (asg (ot rfl)) (by decide) ?_
  refine WL.nl (.thn ?_)
  refine WP.seq ?_
  refine WP.region ?_
  refine WL.op (mv (ot rfl)) (by decide) ?_
  refine WL.op (mv (ot rfl)) (by decide) ?_
  refine WL.op (asg (ot rfl)) (by decide) ?_
  refine WL.op (asg (ot rfl)) (by decide) ?_
  refine WL.op (asg (oc _)) (by decide) ?_
  refine WL.nl (.thn ?_)
  exact WP.rt (.rN rfl (.cons (.tm rfl) (.cons (.tm rfl) (.cons (.tm rfl) .nil))) (le_ rfl) (imp _))
end Go.Proofs.YtjglgfnhgehpeaaGreat

/- A step of a script, of a list and of a tree; Find and Range of a tree. -/
set_option linter.unusedVariables false
set_option linter.unusedSimpArgs false
set_option maxRecDepth 4000
namespace Go.Proofs.YtjglgfnhgehpeaaGreat
open Go.RowKit Go.Fw Go.Xt

abbrev e3 (r : List X × List X × Int) : Rp := tup [sl 3 FX r.1, sl 3 FX r.2.1, I r.2.2]
abbrev e3T (r : Tr × List X × Int) : Rp := tup [eT r.1, sl 3 FX r.2.1, I r.2.2]
theorem c_r32_Cut {xs : List X} {a n : Int} (hl : xs.length ≤ 30000) (ho : Xt.Ok 0 xs) : PureC Tryz.prog 88 [sl 3 FX xs, I a, I n] (e3 (rCut xs a n)) := by
  unfold rCut
  split
  · rename_i h; exact c_r32_Cut_ok hl ho h
  · rename_i h; exact c_r32_Cut_err hl ho h
theorem c_r32_Put {xs : List X} {x : X} (hl : xs.length ≤ 30000) (ho : Xt.Ok 0 xs) : PureC Tryz.prog 120 [sl 3 FX xs, ext x] (e3 (rPut xs x)) := by
  unfold rPut
  split
  · rename_i h; exact c_r32_Put_ok hl ho h
  · rename_i h; exact c_r32_Put_err hl ho h
theorem c_x_CutT {t : Tr} {a n : Int} (h : Wt t) : PureC Tryz.prog 101 [eT t, I a, I n] (e3T (tCut t a n)) := by
  unfold tCut
  split
  · rename_i hw
    split
    · rename_i h0; subst h0; exact c_x_Cut_0 hw
    · rename_i h0; exact c_x_Cut h hw (by have := hw.2.1; omega)
  · rename_i hw; exact c_x_Cut_err hw
theorem c_x_PutT {t : Tr} {x : X} (h : Wt t) : PureC Tryz.prog 100 [eT t, ext x] (e3T (tPut t x)) := by
  unfold tPut
  split
  · rename_i hw; exact c_x_Put h hw.2.1.1 (vx_of hw)
  · rename_i hw
    refine c_x_Put_err fun ho => hw ?_
    obtain ⟨h1, h2, h3, h4, h5, _⟩ := ho
    unfold Pr Wi
    omega

theorem c_x_Tree_Range {t : Tr} {a n : Int} (h : Wt t) : PureC Tryz.prog 73 [eT t, I a, I n] (sl 3 FX (tCut t a n).2.1) := by
  refine PureC.of_wp Tryz.func73 (by kernel_rfl) rfl Tryz.ntmps73 (le_ rfl) (fun w0 M0 => ?_)
  refine WP.seq ?_
  refine WP.region ?_
  refine WL.box (ot rfl) (.agg _) (by decide) fun b3 => ?_
  refine WL.op (asg (oc _)) (by decide) ?_
  refine WL.nl (.thn ?_)
  refine WP.seq ?_
  refine WP.region ?_
  refine WL.op (lbs 0 rfl ag_Tree (ot rfl) (le_ rfl)) (by decide) ?_
  refine WL.op (mv (ot rfl)) (by decide) ?_
  refine WL.op (mv (ot rfl)) (by decide) ?_
  refine WL.op (call (c_x_CutT (t := t) (a := a) (n := n) h) (.c (ot rfl) (.c (ot rfl) (.c (ot rfl) .n)))) (by decide) ?_
  refine WL.op (mv (ot rfl)) (by decide) ?_
  refine WL.op (ex (ot rfl) rfl) (by decide) ?_
  refine WL.op (ex (ot rfl) rfl) (by decide) ?_
  refine WL.op (ex (ot rfl) rfl) (by decide) ?_
  refine WL.alloc zr_Tree rfl (by decide) fun b7 => ?_
  refine WL.store 0 rfl (ot rfl) (ot rfl) (.agg _) sz_Tree rfl (le_ rfl) ?_
  refine WL.op (asg (ot rfl)) (by decide) ?_
  refine WL.op (asg (ot rfl)) (by decide) ?_
  refine WL.nl (.thn ?_)
  refine WP.seq ?_
  refine WP.region ?_
  refine WL.op (mv (ot rfl)) (by decide) ?_
  refine WL.op (asg (ot rfl)) (by decide) ?_
  refine WL.nl (.thn ?_)
  exact WP.rt (.r1 rfl rfl (imp _))
theorem treeNe {bs : List Box} {lk : Nat → Option Rp} {x : Operand} {ty T T' : TypeId} {m : Tr} (hT : Tryz.prog.underlying T = some (.pointer (Tryz.prog.pointee T))) (hx : OF lk x (tree m)) : OpG Tryz.prog bs lk (.binOp .neq T x (.const (.pointer none)) T') ty (val (.bool m.isN)) := by
  cases m with
  | nil => exact isnil' hT hx
  | node l z r => exact notnil' hT hx

theorem c_x_Tree_Find {t : Tr} {b : Int} (h : Xt.Ok 0 t.list) : PureC Tryz.prog 85 [eT t, I b] (tup [I ((sem t.list b).getD 0), val (.bool (sem t.list b).isSome)]) := by
  refine PureC.of_wp Tryz.func85 (by kernel_rfl) rfl Tryz.ntmps85 (le_ rfl) (fun w0 M0 => ?_)
  refine WP.seq ?_
  refine WP.region ?_
  refine WL.box (ot rfl) (.agg _) (by decide) fun b2 => ?_
  refine WL.op (asg (oc _)) (by decide) ?_
  refine WL.op (asg (oc _)) (by decide) ?_
  refine WL.nl (.thn ?_)
  refine WP.seq ?_
  refine WP.seq ?_
  refine WP.region ?_
  refine WL.op (fv fo_Tree_0 (ot rfl)) (by decide) ?_
  refine WL.op (lb 0 rfl sc_p_extree_node (ot rfl) rfl) (by decide) ?_
  refine WL.op (asg (ot rfl)) (by decide) ?_
  refine WL.nl (.thn ?_)
  refine WP.block ?_
  refine WP.loop (fun y : Tr => []) (fun y => [(6, tree y), (1, I b)]) (fun y => find y b = find t b ∧ ∀ z ∈ y.list, 0 ≤ z.a ∧ 1 ≤ z.n ∧ 0 ≤ z.s ∧ z.a + z.n ≤ 65536 ∧ z.s + z.n ≤ 65536) (fun y => y.size) t ⟨rfl, fun z hz => h.starts z hz⟩ (Sub.ofD 1 rfl (Sub.cons rfl (imp _) (Sub.cons rfl (imp _) Sub.nil))) (fun m hi => ?_)
  replace hi : find m b = find t b ∧ ∀ z ∈ m.list, 0 ≤ z.a ∧ 1 ≤ z.n ∧ 0 ≤ z.s ∧ z.a + z.n ≤ 65536 ∧ z.s + z.n ≤ 65536 := hi
  show WP _ _ _ _ [] [(6, tree m), (1, I b)] _ _
  refine WP.seq ?_
  refine WP.seq ?_
  refine WP.region ?_
  refine WL.op (mv (ot rfl)) (by decide) ?_
  refine WL.op (treeNe pt_p_extree_node (ot rfl) ) (by decide) ?_
  refine WL.nl (.thn ?_)
  refine WP.cond rfl (fun hc => ?_) (fun hc => ?_)
  · skip
    obtain ⟨l, x, r, rfl⟩ := Tr.of_isN hc
    have hv := hi.2 x (by simp [Tr.list])
    refine WP.sk (.thn ?_)
    refine WP.block ?_
    refine WP.block ?_
    refine WP.seq ?_
    refine WP.region ?_
    refine WL.op (mv (ot rfl)) (by decide) ?_
    refine WL.op (mv (ot rfl)) (by decide) ?_
    refine WL.op (nc (ot rfl)) (by decide) ?_
    refine WL.op (fa fo_node_0 (ot rfl)) (by decide) ?_
    refine WL.op (fa fo_Extent_0 (ot rfl)) (by decide) ?_
    refine WL.op (ld sc_int (ot rfl)) (by decide) ?_
    refine WL.op (lss (ot rfl) (ot rfl)) (by decide) ?_
    refine WL.op (asg (ot rfl)) (by decide) ?_
    refine WL.nl (.thn ?_)
    refine WP.cond rfl (fun hc => ?_) (fun hc => ?_)
    · skip
      refine WP.region ?_
      refine WL.op (mv (ot rfl)) (by decide) ?_
      refine WL.op (nc (ot rfl)) (by decide) ?_
      refine WL.op (fa fo_node_1 (ot rfl)) (by decide) ?_
      refine WL.op (ld sc_p_extree_node (ot rfl)) (by decide) ?_
      refine WL.op (asg (ot rfl)) (by decide) ?_
      exact WL.nl (.blk (.blk (.again l ⟨by rw [← hi.1, find, if_pos (of_decide_eq_true hc)], fun z hz => hi.2 z (by simp [Tr.list, hz])⟩ (by simp only [Tr.size]; omega) (Sub.of (Sub.cons rfl (imp _) (Sub.cons rfl (imp _) Sub.nil))))))
    · skip
      have hn1 := of_decide_eq_false hc
      refine WP.seq ?_
      refine WP.draws ?_
      refine RG.op (mv (ot rfl)) ?_
      refine RG.op (mv (ot rfl)) ?_
      refine RG.op (nc (ot rfl)) ?_
      refine RG.op (fa fo_node_0 (ot rfl)) ?_
      refine RG.op (fa fo_Extent_0 (ot rfl)) ?_
      refine RG.op (ld sc_int (ot rfl)) ?_
      refine RG.op (mv (ot rfl)) ?_
      refine RG.op (nc (ot rfl)) ?_
      refine RG.op (fa fo_node_0 (ot rfl)) ?_
      refine RG.op (fa fo_Extent_1 (ot rfl)) ?_
      refine RG.op (ld sc_int (ot rfl)) ?_
      refine RG.op (add (ot rfl) (ot rfl) (by omega)) ?_
      refine RG.op (geq (ot rfl) (ot rfl)) ?_
      refine RG.op (asg (ot rfl)) ?_
      refine RG.fin HM (by kernel_rfl) ?_
      show WL _ _ _ _ _ _ _ _ _
      refine WL.nl (.thn ?_)
      refine WP.cond rfl (fun hc => ?_) (fun hc => ?_)
      · skip
        refine WP.region ?_
        refine WL.op (mv (ot rfl)) (by decide) ?_
        refine WL.op (nc (ot rfl)) (by decide) ?_
        refine WL.op (fa fo_node_2 (ot rfl)) (by decide) ?_
        refine WL.op (ld sc_p_extree_node (ot rfl)) (by decide) ?_
        refine WL.op (asg (ot rfl)) (by decide) ?_
        exact WL.nl (.blk (.blk (.again r ⟨by rw [← hi.1, find, if_neg hn1, if_pos (of_decide_eq_true hc)], fun z hz => hi.2 z (by simp [Tr.list, hz])⟩ (by simp only [Tr.size]; omega) (Sub.of (Sub.cons rfl (imp _) (Sub.cons rfl (imp _) Sub.nil))))))
      · skip
        have hn2 := of_decide_eq_false hc
        have hf : sem t.list b = some (x.s + b - x.a) := by rw [← find_sem h, ← hi.1, find, if_neg hn1, if_neg hn2]
        refine WP.seq ?_
        refine WP.draws ?_
        refine RG.op (mv (ot rfl)) ?_
        refine RG.op (nc (ot rfl)) ?_
        refine RG.op (fa fo_node_0 (ot rfl)) ?_
        refine RG.op (fa fo_Extent_2 (ot rfl)) ?_
        refine RG.op (ld sc_int (ot rfl)) ?_
        refine RG.op (mv (ot rfl)) ?_
        refine RG.op (add (ot rfl) (ot rfl) (by omega)) ?_
        refine RG.op (mv (ot rfl)) ?_
        refine RG.op (nc (ot rfl)) ?_
        refine RG.op (fa fo_node_0 (ot rfl)) ?_
        refine RG.op (fa fo_Extent_0 (ot rfl)) ?_
        refine RG.op (ld sc_int (ot rfl)) ?_
        refine RG.op (sub (ot rfl) (ot rfl) (by omega)) ?_
        refine RG.op (asg (ot rfl)) ?_
        refine RG.op (asg (oc _)) ?_
        refine RG.fin HM (by kernel_rfl) ?_
        show WL _ _ _ _ _ _ _ _ _
        refine WL.nl (.thn ?_)
        exact WP.rt (.rblk (.rblk (.rthn (.rblk (.rthn (.rN rfl (.cons (.tm rfl) (.cons (.tm rfl) .nil)) (le_ rfl) (imp_eq (by rw [hf]; rfl))))))))
  · skip
    have hf : sem t.list b = none := by rw [← find_sem h, ← hi.1]; cases m with | nil => rfl | node _ _ _ => cases hc
    refine WP.xt (.xthn (.xthn (.xin (.thn ?_))))
    refine WP.seq ?_
    refine WP.region ?_
    refine WL.op (asg (oc _)) (by decide) ?_
    refine WL.op (asg (oc _)) (by decide) ?_
    refine WL.nl (.thn ?_)
    exact WP.rt (.rN rfl (.cons (.tm rfl) (.cons (.tm rfl) .nil)) (le_ rfl) (imp_eq (by rw [hf]; rfl)))
end Go.Proofs.YtjglgfnhgehpeaaGreat

/- A law's row: its arguments as facts; they read behind the call as before it. No program in sight. -/
namespace Go.Fw
open Go.RowKit Go.Proofs Go.ChangeShapes Go.WideShapes
set_option linter.unusedVariables false
set_option linter.unusedSimpArgs false
section
variable {H : Type} {enc : TypeId × Value → H} {P : Program}
theorem trodAll_stays (hl : laidOutB P = true) {W W' : World} {sp' : Nat → Bool} : ∀ {ts : List TypeId} {vs : List Value} {ds : List (DataW H)} {ps : List MemPlace}, (∀ t ∈ ts, P.readableRec t = true ∧ t < P.types.size) → DataW.TrodAll enc P W 0 (fun _ => true) true ts vs ds ps →
    (∀ p ∈ ps, W.sameAt W' p) → (∀ p ∈ ps, sp' p.block = true) → DataW.TrodAll enc P W' 0 sp' true ts vs ds ps
  | [], [], [], _, _, h, _, _ => h
  | t :: ts, v :: vs, d :: ds, ps, ht, ⟨p, q, h1, h2, e⟩, hs, hsp => by
    subst e
    exact ⟨p, q, WideElems.Trod_stays hl (ht t List.mem_cons_self).1 (ht t List.mem_cons_self).2 h1 (fun x hx => hs x (List.mem_append_left _ hx)) (fun x hx => hsp x (List.mem_append_left _ hx)),
      trodAll_stays hl (fun t ht' => ht t (List.mem_cons_of_mem _ ht')) h2 (fun x hx => hs x (List.mem_append_right _ hx)) (fun x hx => hsp x (List.mem_append_right _ hx)), rfl⟩

/-! ### structs of whole numbers and Bools -/
def skOk : Option IntKind → Value → Prop
  | none, v => ∃ b, v = .bool b
  | some k, v => ∃ n, v = .int k n ∧ (Lit.int k n).wf = true
def SkAll : List (Option IntKind) → List Value → Prop
  | [], [] => True
  | k :: ks, v :: vs => skOk k v ∧ SkAll ks vs
  | _, _ => False
def skField (P : Program) (i : Nat) (f : Field) (k : Option IntKind) : Bool := f.offset == i && P.cellsOf f.type == 1 && (match k, P.underlying f.type with | none, some .bool => true | some k, some (.int k') => k == k' | _, _ => false)
def skFields (P : Program) (e : TypeId) (ks : List (Option IntKind)) : Bool := match P.underlying e with
  | some (.struct fs) => decide (fs.size = ks.length) && decide (P.cellsOf e = ks.length) && (List.range ks.length).all fun i => match fs[i]?, ks[i]? with | some f, some k => skField P i f k | _, _ => false
  | _ => false
theorem SkAll.of_get : ∀ {ks : List (Option IntKind)} {cs : List Value}, cs.length = ks.length → (∀ (i : Nat) (k : Option IntKind) (v : Value), ks[i]? = some k → cs[i]? = some v → skOk k v) → SkAll ks cs
  | [], [], _, _ => trivial
  | k :: ks, [], h, _ => by simp at h
  | [], c :: cs, h, _ => by simp at h
  | k :: ks, c :: cs, h, hg => ⟨hg 0 k c rfl rfl, SkAll.of_get (by simpa using h) fun i k' v h1 h2 => hg (i + 1) k' v (by simpa using h1) (by simpa using h2)⟩
theorem sk_of_trod {w : World} {base : Nat} {spare : Nat → Bool} {held : Bool} {fuel : Nat} {e : TypeId} {ks : List (Option IntKind)} {cs : List Value} {x : DataW H × List MemPlace} (hk : skFields P e ks = true) (h : DataW.trod enc P w base spare held fuel e cs = some x) : SkAll ks cs := by
  unfold skFields at hk
  split at hk
  · rename_i fs hu
    simp only [Bool.and_eq_true, decide_eq_true_eq] at hk
    obtain ⟨⟨h1, h2⟩, h3⟩ := hk
    obtain ⟨xs, n, _, _, hl, hx, hf⟩ := DataW.trod_struct hu h
    refine SkAll.of_get (by omega) fun i k v hki hvi => ?_
    have hik := (List.getElem?_eq_some_iff.1 hki).1
    have h4 := List.all_eq_true.1 h3 i (List.mem_range.2 hik)
    rw [hki] at h4
    cases hfi : fs[i]? with
    | none => rw [hfi] at h4; cases h4
    | some f =>
      rw [hfi] at h4
      unfold skField at h4
      simp only [Bool.and_eq_true, beq_iff_eq] at h4
      obtain ⟨⟨h5, h6⟩, h7⟩ := h4
      have h8 := hf i f hfi
      have hxi : xs[i]? = some xs[i] := List.getElem?_eq_getElem (by omega)
      rw [hxi, h5, h6] at h8
      have h9 : (cs.drop i).take 1 = [v] := by
        have hlt := (List.getElem?_eq_some_iff.1 hvi).1
        rw [List.drop_eq_getElem_cons hlt, List.take_succ_cons, List.take_zero]
        rw [List.getElem?_eq_getElem hlt] at hvi
        cases hvi
        rfl
      rw [h9] at h8
      cases hq : P.underlying f.type with
      | none => rw [hq] at h7; cases k <;> cases h7
      | some dd =>
        rw [hq] at h7
        cases k with
        | none => cases dd <;> first | (cases h7; done) | (obtain ⟨b, h, _⟩ := DataW.trod_bool hq h8; cases h; exact ⟨b, rfl⟩)
        | some k => cases dd <;> first | (cases h7; done) | (rename_i k2; have hkk : k = k2 := by simpa using h7
                                                             subst hkk
                                                             obtain ⟨m, h, _, hw⟩ := DataW.trod_int hq h8; cases h; exact ⟨m, rfl, hw⟩)
  · cases hk
theorem SkAll.one : ∀ {ks : List (Option IntKind)} {cs : List Value}, SkAll ks cs → cs.all (·.oneCell') = true
  | [], [], _ => rfl
  | none :: ks, v :: vs, ⟨⟨b, h⟩, h2⟩ => by subst h; rw [List.all_cons, SkAll.one h2]; rfl
  | some k :: ks, v :: vs, ⟨⟨n, h, _⟩, h2⟩ => by subst h; rw [List.all_cons, SkAll.one h2]; rfl
/-- a slice of such structs among the arguments -/
theorem open_sl {α : Type} {W : World} {t e : TypeId} {A : Option Addr} {len cap : Nat} {d : DataW H} {p : List MemPlace} {ks : List (Option IntKind)} (encS : α → List Value) (U : α → Prop) (hdec : ∀ cs, SkAll ks cs → ∃ x, U x ∧ cs = encS x) (ht : P.underlying t = some (.slice e)) (hk : skFields P e ks = true) (hks : 0 < ks.length)
    (h : DataW.Trod enc P W 0 (fun _ => true) true t (.slice A len cap) d p) :
    ∃ xs : List α, (∀ x ∈ xs, U x) ∧ xs.length ≤ maxLen ∧ (sl ks.length (fun x => (encS x).map val) xs).h (.slice A len cap) W (fun _ => False) := by
  obtain ⟨fuel, hf⟩ := h
  rcases Go.Deep.open_slice ht hf with ⟨h1, _⟩ | ⟨a, len', cap', m, n, D, Pl, h1, hb, hl, hm, hmm, _, hel⟩
  · have h1 : [Value.slice A len cap] = [.slice none 0 0] := by simpa [Value.cells] using h1
    cases h1
    exact ⟨[], by simp, Nat.zero_le _, none, 0, rfl, Nat.le_refl _, .inl rfl⟩
  · have h1 : [Value.slice A len cap] = [.slice (some a) len' cap'] := by simpa [Value.cells] using h1
    cases h1
    have hm' : m = cap := by simpa using hmm
    subst hm'
    have hce : P.cellsOf e = ks.length := by
      unfold skFields at hk
      split at hk
      · simp only [Bool.and_eq_true, decide_eq_true_eq] at hk; exact hk.1.2
      · cases hk
    have hex : ∀ i, i < len → ∃ x, U x ∧ W.cells? 0 (a.add (i * ks.length)) ks.length = some (encS x) ∧ (encS x).all (·.oneCell') = true := fun i hi => by
      obtain ⟨cs, g1, g2⟩ := hel i (by omega)
      have hs := sk_of_trod hk g2
      obtain ⟨x, hx, rfl⟩ := hdec cs hs
      rw [hce] at g1
      exact ⟨x, hx, g1, hs.one⟩
    have hlist : ∀ k, k ≤ len → ∃ xs : List α, xs.length = k ∧ ∀ (i : Nat) (x : α), xs[i]? = some x → U x ∧ W.cells? 0 (a.add (i * ks.length)) ks.length = some (encS x) ∧ (encS x).all (·.oneCell') = true := by
      intro k
      induction k with
      | zero => intro _; exact ⟨[], rfl, fun i x h => by simp at h⟩
      | succ k ih =>
        intro hk'
        obtain ⟨xs, l1, l2⟩ := ih (by omega)
        obtain ⟨x, q⟩ := hex k (by omega)
        refine ⟨xs ++ [x], by simp [l1], fun i y hy => ?_⟩
        by_cases e : i < xs.length
        · rw [List.getElem?_append_left e] at hy; exact l2 i y hy
        · rw [List.getElem?_append_right (by omega)] at hy
          have : i = k := by
            have := (List.getElem?_eq_some_iff.1 hy).1
            simp at this; omega
          subst this
          rw [l1] at hy
          simp at hy
          subst hy
          exact q
    obtain ⟨xs, l1, l2⟩ := hlist len (Nat.le_refl _)
    subst l1
    refine ⟨xs, fun x hx => ?_, by omega, some a, m, rfl, hl, ?_⟩
    · obtain ⟨i, hi⟩ := List.getElem?_of_mem hx
      exact (l2 i x hi).1
    · cases xs with
      | nil => exact .inl rfl
      | cons x0 xs =>
        right
        have hq := (l2 0 x0 rfl).2.1
        obtain ⟨_, hlen0, hq2⟩ := World.cells?_some hq
        have hc0 : ∃ v, W.cell? (a.add 0) = some v := by
          have := hq2 0 hks
          rw [Nat.zero_mul] at this
          cases hc : W.cell? ((a.add 0).add 0) with
          | some v => exact ⟨v, by simpa [Addr.add] using hc⟩
          | none =>
            rw [hc] at this
            have h0 : (encS x0)[0]? = none := this.symm
            rw [List.getElem?_eq_none_iff] at h0
            omega
        obtain ⟨v0, hv0⟩ := hc0
        obtain ⟨b, off, spot⟩ := a
        have hspot : spot = none := by simpa [Addr.add] using World.cell?_spot hv0
        subst hspot
        refine ⟨b, off, rfl, ?_, fun h => h, fun i x hx => ?_⟩
        · have := World.cells?_block hq hks
          rw [add_plain] at this
          exact this
        · obtain ⟨_, g1, g2⟩ := l2 i x hx
          obtain ⟨_, k1, k2⟩ := World.cells?_some g1
          rw [add_plain] at k2
          refine CellsAt.of_all2 (All2.vals g2) fun j v hj => ?_
          have hjl := (List.getElem?_eq_some_iff.1 hj).1
          have := k2 j (by omega)
          rw [add_plain] at this
          rw [this, hj]
end
end Go.Fw

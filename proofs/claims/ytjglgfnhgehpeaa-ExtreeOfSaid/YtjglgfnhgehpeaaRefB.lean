/- The functions of the specification of extents that make lists. -/
import Derived.Test.YtjglgfnhgehpeaaRefA
import Derived.Test.YtjglgfnhgehpeaaFwm
import Derived.Test.YtjglgfnhgehpeaaRefP
set_option linter.unusedVariables false
set_option linter.unusedSimpArgs false
set_option maxRecDepth 4000
namespace Go.Proofs.Ytjglgfnhgehpeaa
open Go.RowKit Go.Fw Go.Xt

theorem getD_at {xs : List X} {i : Nat} (hi : i < xs.length) : xs.getD ((i : Nat) : Int).toNat default = xs[i] := by
  rw [show ((i : Nat) : Int).toNat = i from by omega, List.getD_eq_getElem?_getD, List.getElem?_eq_getElem hi]; rfl
theorem parts_step {xs : List X} {i : Nat} (hi : i < xs.length) (fr to : Int) : Xt.parts (xs.take (i + 1)) fr to = Xt.parts (xs.take i) fr to ++ (if max (xs.getD (i : Int).toNat default).a fr < min ((xs.getD (i : Int).toNat default).a + (xs.getD (i : Int).toNat default).n) to then [cpart (xs.getD (i : Int).toNat default) fr to] else []) := by
  rw [getD_at hi, List.take_add_one, List.getElem?_eq_getElem hi]
  show List.filterMap _ (_ ++ [xs[i]]) = _
  rw [List.filterMap_append]
  congr 1
  have e : Xt.part xs[i] fr to = if max xs[i].a fr < min (xs[i].a + xs[i].n) to then some (cpart xs[i] fr to) else none := rfl
  rw [List.filterMap_cons, e]
  by_cases h : max xs[i].a fr < min (xs[i].a + xs[i].n) to
  · rw [if_pos h, if_pos h]; rfl
  · rw [if_neg h, if_neg h]; rfl
theorem ok_at {xs : List X} {i : Nat} (hi : i < xs.length) (ho : Xt.Ok 0 xs) : 0 ≤ (xs.getD (i : Int).toNat default).a ∧ 1 ≤ (xs.getD (i : Int).toNat default).n ∧ 0 ≤ (xs.getD (i : Int).toNat default).s ∧ (xs.getD (i : Int).toNat default).a + (xs.getD (i : Int).toNat default).n ≤ 65536 ∧ (xs.getD (i : Int).toNat default).s + (xs.getD (i : Int).toNat default).n ≤ 65536 := by
  rw [getD_at hi]
  exact ho.starts xs[i] (List.getElem_mem hi)
theorem parts_len (xs : List X) (fr to : Int) : (Xt.parts xs fr to).length ≤ xs.length := List.length_filterMap_le _ _
theorem take_len_parts (xs : List X) (i : Nat) (fr to : Int) : (Xt.parts (xs.take i) fr to).length ≤ i := Nat.le_trans (parts_len _ _ _) (List.length_take_le _ _)

theorem c_r32_parts (xs : List X) (fr to : Int) (hl : xs.length ≤ 100000) (ho : Xt.Ok 0 xs) (hfr : 0 ≤ fr ∧ fr ≤ 100000000) (hto : 0 ≤ to ∧ to ≤ 100000000) : NewC Try.prog 73 [sl 3 FX xs, I fr, I to] 31 3 (Xt.parts xs fr to).length ((Xt.parts xs fr to).flatMap FX) := by
  refine NewC.of_wp Try.func73 (by kernel_rfl) rfl Try.ntmps73 (le_ rfl) (fun w0 M0 => ?_)
  refine WP.nilrow 31 3 ?_
  refine WP.seq ?_
  -- region 0 ref.go:76
  refine WP.region ?_
  refine WL.op (asg (oc _)) (by decide) ?_
  refine WL.nl (.thn ?_)
  refine WP.seq ?_
  -- region 1 ref.go:77
  refine WP.region ?_
  refine WL.op (asg (oc _)) (by decide) ?_
  refine WL.nl (.thn ?_)
  refine WP.seq ?_
  refine WP.seq ?_
  -- region 2 ref.go:78
  refine WP.region ?_
  refine WL.op (asg (oc _)) (by decide) ?_
  refine WL.nl (.thn ?_)
  refine WP.block ?_
  refine WP.loop (fun y : Nat × Value => [.r y.2 31 3 (Xt.parts (xs.take y.1) fr to).length ((Xt.parts (xs.take y.1) fr to).flatMap FX)]) (fun y => [(8, I (y.1 : Int)), (7, val y.2), (0, sl 3 FX xs), (1, I fr), (2, I to)]) (fun y => y.1 ≤ xs.length ∧ y.2.oneCell' = true) (fun y => xs.length - y.1) (0, nilS) ⟨Nat.zero_le _, rfl⟩ (Sub.ofD 0 rfl (Sub.cons rfl (imp_eq rfl) (Sub.cons rfl (imp _) (Sub.cons rfl (imp _) (Sub.cons rfl (imp _) (Sub.cons rfl (imp _) Sub.nil)))))) (fun y hi => ?_)
  obtain ⟨i, v⟩ := y
  replace hi : i ≤ xs.length ∧ v.oneCell' = true := hi
  show WP _ _ _ _ [.r v 31 3 (Xt.parts (xs.take i) fr to).length ((Xt.parts (xs.take i) fr to).flatMap FX)] [(8, I (i : Int)), (7, val v), (0, sl 3 FX xs), (1, I fr), (2, I to)] _ _
  refine WP.seq ?_
  refine WP.seq ?_
  -- region 3 ref.go:78
  refine WP.region ?_
  refine WL.op (mv (ot rfl)) (by decide) ?_
  refine WL.op (mv (ot rfl)) (by decide) ?_
  refine WL.op (len_ us_s_api_Extent (ot rfl)) (by decide) ?_
  refine WL.op (lss (ot rfl) (ot rfl)) (by decide) ?_
  refine WL.nl (.thn ?_)
  -- ref.go:78
  refine WP.cond rfl (fun hc => ?_) (fun hc => ?_)
  · skip
    have hc1 : i < xs.length := by have := of_decide_eq_true hc; omega
    have hx := ok_at hc1 ho
    have htl := take_len_parts xs i fr to
    refine WP.sk (.thn ?_)
    refine WP.seq ?_
    refine WP.block ?_
    refine WP.seq ?_
    -- region 5 ref.go:79
    refine WP.region ?_
    refine WL.op (mv (ot rfl)) (by decide) ?_
    refine WL.op (mv (ot rfl)) (by decide) ?_
    refine WL.op (ixd el_s_api_Extent (ot rfl) (ot rfl) (by omega) (by omega)) (by decide) ?_
    refine WL.op (ls ag_Extent (ot rfl) (le_ rfl)) (by decide) ?_
    refine WL.op (mv (ot rfl)) (by decide) ?_
    refine WL.op (mv (ot rfl)) (by decide) ?_
    refine WL.op (call (c_r32_part (xs.getD (i : Int).toNat default) fr to (by omega) hfr hto) (.c (ot rfl) (.c (ot rfl) (.c (ot rfl) .n)))) (by decide) ?_
    refine WL.op (mv (ot rfl)) (by decide) ?_
    refine WL.op (ex (ot rfl) rfl) (by decide) ?_
    refine WL.op (ex (ot rfl) rfl) (by decide) ?_
    refine WL.alloc zr_Extent rfl (by decide) fun b9 => ?_
    refine WL.store 0 rfl (ot rfl) (ot rfl) (.agg _) sz_Extent rfl (le_ rfl) ?_
    refine WL.op (asg (ot rfl)) (by decide) ?_
    refine WL.nl (.thn ?_)
    refine WP.seq ?_
    -- region 6 ref.go:79
    refine WP.region ?_
    refine WL.op (mv (ot rfl)) (by decide) ?_
    refine WL.nl (.thn ?_)
    -- ref.go:79
    refine WP.cond rfl (fun hc => ?_) (fun hc => ?_)
    · skip
      have hp := of_decide_eq_true hc
      -- region 7 ref.go:80
      refine WP.region ?_
      refine WL.op (mv (ot rfl)) (by decide) ?_
      refine WL.op (lbs 0 rfl ag_Extent (ot rfl) (le_ rfl)) (by decide) ?_
      refine WL.op (bsl1 (f := FX) (el := cpart (xs.getD (i : Int).toNat default) fr to) ei_s_api_Extent (ot rfl) (.agg _) rfl (by decide) (by decide)) (by decide) ?_
      refine WL.app 1 rfl ei_s_api_Extent (by decide) (ot rfl) (ot rfl) (by simp) (fun _ => rfl) (by simp only [List.length_singleton]; omega) (by simp only [List.length_singleton]; omega) (by decide) fun v31 h31 => ?_
      refine WL.op (asg (ot rfl)) (by decide) ?_
      refine WL.nl (.blk (.thn ?_))
      -- region 4 ref.go:78
      refine WP.region ?_
      refine WL.op (mv (ot rfl)) (by decide) ?_
      refine WL.op (add (ot rfl) (oc _) (by omega)) (by decide) ?_
      refine WL.op (asg (ot rfl)) (by decide) ?_
      exact WL.nl (.again (i + 1, v31) ⟨hc1, h31⟩ (by show xs.length - (i + 1) < xs.length - i; omega) (Sub.ofD 1 (by rw [parts_step hc1, if_pos hp]; simp) (Sub.cons rfl (imp_eq (congrArg I (by omega))) (Sub.cons rfl (imp _) (Sub.cons rfl (imp _) (Sub.cons rfl (imp _) (Sub.cons rfl (imp _) Sub.nil)))))))
    · skip
      have hp := of_decide_eq_false hc
      refine WP.sk (.blk (.thn ?_))
      -- region 4 ref.go:78
      refine WP.region ?_
      refine WL.op (mv (ot rfl)) (by decide) ?_
      refine WL.op (add (ot rfl) (oc _) (by omega)) (by decide) ?_
      refine WL.op (asg (ot rfl)) (by decide) ?_
      exact WL.nl (.again (i + 1, v) ⟨hc1, hi.2⟩ (by show xs.length - (i + 1) < xs.length - i; omega) (Sub.ofD 1 (by rw [parts_step hc1, if_neg hp]; simp) (Sub.cons rfl (imp_eq (congrArg I (by omega))) (Sub.cons rfl (imp _) (Sub.cons rfl (imp _) (Sub.cons rfl (imp _) (Sub.cons rfl (imp _) Sub.nil)))))))
  · skip
    have hc1 : ¬ i < xs.length := by have := of_decide_eq_false hc; omega
    refine WP.xt (.xthn (.xthn (.xin (.thn ?_))))
    refine WP.seq ?_
    -- region 8 ref.go:83
    refine WP.region ?_
    refine WL.op (mv (ot rfl)) (by decide) ?_
    refine WL.op (asg (ot rfl)) (by decide) ?_
    refine WL.nl (.thn ?_)
    exact WP.rt (.new rfl rfl hi.2 0 (by rw [List.take_of_length_le (by omega)]; rfl))

theorem jn_len (xs : List X) : (Jn xs).length ≤ xs.length := by
  have hp : ∀ (L : List X) (x : X), (push L x).length ≤ L.length + 1 := fun L x => by
    unfold push
    split
    · split <;> simp
    · simp
  have : ∀ (L acc : List X), (L.foldl push acc).length ≤ acc.length + L.length := by
    intro L
    induction L with
    | nil => intro acc; simp
    | cons x L ih => intro acc; have := ih (push acc x); have := hp acc x; simp only [List.foldl_cons, List.length_cons]; omega
  have := this xs []
  simpa [Jn] using this
theorem jn_step {xs : List X} {i : Nat} (hi : i < xs.length) : Jn (xs.take (i + 1)) = push (Jn (xs.take i)) (xs.getD (i : Int).toNat default) := by
  rw [getD_at hi, List.take_add_one, List.getElem?_eq_getElem hi]
  show List.foldl _ _ (_ ++ [xs[i]]) = _
  rw [List.foldl_append]; rfl
/-- the last of a list -/
abbrev lastX (L : List X) : X := L.getD ((L.length : Int) - 1).toNat default
theorem last_eq {L : List X} (h : 0 < L.length) : lastX L = L[L.length - 1] ∧ ((L.length : Int) - 1).toNat = L.length - 1 := by
  have e : ((L.length : Int) - 1).toNat = L.length - 1 := by omega
  refine ⟨?_, e⟩
  unfold lastX
  rw [e, List.getD_eq_getElem?_getD, List.getElem?_eq_getElem (by omega)]; rfl
theorem last_ok {L : List X} (h : Xt.Ok 0 L) (hm : 0 < L.length) : 0 ≤ (lastX L).a ∧ 1 ≤ (lastX L).n ∧ 0 ≤ (lastX L).s ∧ (lastX L).a + (lastX L).n ≤ 65536 ∧ (lastX L).s + (lastX L).n ≤ 65536 := by
  rw [(last_eq hm).1]
  exact h.starts _ (List.getElem_mem _)
theorem push_fol {L : List X} {x : X} (h : 0 < L.length) (hf : Fol (lastX L) x) : push L x = L.set (((L.length : Int) - 1).toNat) ⟨(lastX L).a, (lastX L).n + x.n, (lastX L).s⟩ := by
  rw [(last_eq h).2]
  rw [(last_eq h).1] at hf ⊢
  rcases List.eq_nil_or_concat L with rfl | ⟨A, y, h0⟩
  · simp at h
  · rw [List.concat_eq_append] at h0
    subst h0
    have e : (A ++ [y])[(A ++ [y]).length - 1] = y := by simp
    rw [e] at hf ⊢
    rw [push_snoc, if_pos hf]
    simp
theorem push_not {L : List X} {x : X} (hf : 0 < L.length → ¬ Fol (lastX L) x) : push L x = L ++ [x] := by
  rcases List.eq_nil_or_concat L with rfl | ⟨A, y, h0⟩
  · rfl
  · rw [List.concat_eq_append] at h0
    subst h0
    have h := hf (by simp)
    rw [(last_eq (by simp)).1] at h
    have e : (A ++ [y])[(A ++ [y]).length - 1]'(by simp) = y := by simp
    rw [e] at h
    rw [push_snoc, if_neg h]
theorem fol_test (L : List X) (x : X) : (decide (0 ≤ (L.length : Int) - 1) && decide (x.a = (lastX L).a + (lastX L).n) && decide (x.s = (lastX L).s + (lastX L).n)) = decide (0 < L.length ∧ Fol (lastX L) x) := by
  refine Bool.eq_iff_iff.2 ?_
  rw [Bool.and_eq_true, Bool.and_eq_true, decide_eq_true_iff, decide_eq_true_iff, decide_eq_true_iff, decide_eq_true_iff]
  unfold Fol
  exact ⟨fun ⟨⟨h1, h2⟩, h3⟩ => ⟨by omega, h2.symm, h3.symm⟩, fun ⟨h1, h2, h3⟩ => ⟨⟨by omega, h2.symm⟩, h3.symm⟩⟩
theorem flat_get {L : List X} {k j : Nat} (hk : k < L.length) (hj : j < 3) : (L.flatMap FX)[k * 3 + j]? = (FX (L.getD k default))[j]? := by
  have h := flat_at (sz := 3) (f := FX) (fun _ => rfl) L k L[k] (List.getElem?_eq_getElem hk)
  have h2 : (FX L[k])[j]? = (((L.flatMap FX).drop (k * 3)).take 3)[j]? := by rw [h]
  rw [List.getElem?_take, if_pos hj, List.getElem?_drop] at h2
  rw [List.getD_eq_getElem?_getD, List.getElem?_eq_getElem hk]
  exact h2.symm
theorem flat_set {L : List X} {q : Int} : ∀ {k : Nat}, k < L.length → setAt (L.flatMap FX) (k * 3 + 1) [I q] = (L.set k ⟨(L.getD k default).a, q, (L.getD k default).s⟩).flatMap FX := by
  induction L with
  | nil => intro k hk; simp at hk
  | cons x L ih =>
    intro k hk
    cases k with
    | zero => rfl
    | succ k =>
      have := ih (k := k) (by simpa using hk)
      unfold setAt at *
      rw [List.flatMap_cons, List.set_cons_succ, List.flatMap_cons, List.getD_cons_succ, ← this]
      have e : ∀ m, (FX x ++ L.flatMap FX).take (3 + m) = FX x ++ (L.flatMap FX).take m := fun m => by rw [List.take_append, List.take_of_length_le (by show 3 ≤ 3 + m; omega)]; congr 1; congr 1; show 3 + m - 3 = m; omega
      have e2 : ∀ m, (FX x ++ L.flatMap FX).drop (3 + m) = (L.flatMap FX).drop m := fun m => by rw [List.drop_append, List.drop_of_length_le (by show 3 ≤ 3 + m; omega)]; rw [List.nil_append]; congr 1; show 3 + m - 3 = m; omega
      rw [show (k + 1) * 3 + 1 = 3 + (k * 3 + 1) from by omega, e, Nat.add_assoc, e2, List.append_assoc, List.append_assoc, List.append_assoc]

theorem c_r32_Join (xs : List X) (hl : xs.length ≤ 100000) (ho : Xt.Ok 0 xs) : PureC Try.prog 26 [sl 3 FX xs] (tup [sl 3 FX (Jn xs), I 0]) := by
  refine PureC.of_wp Try.func26 (by kernel_rfl) rfl Try.ntmps26 (le_ rfl) (fun w0 M0 => ?_)
  refine WP.nilrow 31 3 ?_
  refine WP.seq  ?_
  -- region 0 ref.go:27
  refine WP.region ?_
  refine WL.op (asg (oc _)) (by decide) ?_
  refine WL.op (asg (oc _)) (by decide) ?_
  refine WL.nl (.thn ?_)
  refine WP.seq ?_
  refine WP.seq ?_
  -- region 1 ref.go:28
  refine WP.region ?_
  refine WL.op (mv (ot rfl)) (by decide) ?_
  refine WL.op (OpG.weak (R' := val (.bool true)) (call (c_r32_Valid xs hl) (.c (ot rfl) .n)) (imp_eq (congrArg (fun b => val (.bool b)) (decide_eq_true ho)))) (by decide) ?_
  refine WL.op (not_ (ot rfl)) (by decide) ?_
  refine WL.nl (.thn ?_)
  -- ref.go:28
  refine WP.condF rfl ?_
  refine WP.sk (.thn ?_)
  refine WP.seq ?_
  -- region 3 ref.go:31
  refine WP.region ?_
  refine WL.op (asg (oc _)) (by decide) ?_
  refine WL.nl (.thn ?_)
  refine WP.seq ?_
  refine WP.seq ?_
  -- region 4 ref.go:32
  refine WP.region ?_
  refine WL.op (asg (oc _)) (by decide) ?_
  refine WL.nl (.thn ?_)
  refine WP.block ?_
  refine WP.loop (fun y : Nat × Value => [.r y.2 31 3 (Jn (xs.take y.1)).length ((Jn (xs.take y.1)).flatMap FX)]) (fun y => [(5, I (y.1 : Int)), (4, val y.2), (0, sl 3 FX xs)]) (fun y => y.1 ≤ xs.length ∧ y.2.oneCell' = true) (fun y => xs.length - y.1) (0, nilS) ⟨Nat.zero_le _, rfl⟩ (Sub.ofD 0 rfl (Sub.cons rfl (imp_eq rfl) (Sub.cons rfl (imp _) (Sub.cons rfl (imp _) Sub.nil)))) (fun y hi => ?_)
  obtain ⟨i, v⟩ := y
  replace hi : i ≤ xs.length ∧ v.oneCell' = true := hi
  show WP _ _ _ _ [.r v 31 3 (Jn (xs.take i)).length ((Jn (xs.take i)).flatMap FX)] [(5, I (i : Int)), (4, val v), (0, sl 3 FX xs)] _ _
  obtain ⟨L, hL⟩ : ∃ L, L = Jn (xs.take i) := ⟨_, rfl⟩
  rw [← hL]
  have hLl : L.length ≤ i := by rw [hL]; exact Nat.le_trans (jn_len _) (List.length_take_le _ _)
  refine WP.seq ?_
  refine WP.seq ?_
  -- region 5 ref.go:32
  refine WP.region ?_
  refine WL.op (mv (ot rfl)) (by decide) ?_
  refine WL.op (mv (ot rfl)) (by decide) ?_
  refine WL.op (len_  us_s_api_Extent (ot rfl)) (by decide) ?_
  refine WL.op (lss (ot rfl) (ot rfl)) (by decide) ?_
  refine WL.nl (.thn ?_)
  -- ref.go:32
  refine WP.cond rfl (fun hc => ?_) (fun hc => ?_)
  · skip
    have hc1 : i < xs.length := by have := of_decide_eq_true hc; omega
    have hx := ok_at hc1 ho
    have hlast := last_ok (L := L) (by rw [hL]; exact (jn_spec (Xt.Ok.append_left (B := xs.drop i) (by rw [List.take_append_drop]; exact ho))).1)
    unfold lastX at hlast
    refine WP.sk (.thn ?_)
    refine WP.seq ?_
    refine WP.block ?_
    refine WP.seq ?_
    -- region 7 ref.go:33
    refine WP.region ?_
    refine WL.op (mv (ot rfl)) (by decide) ?_
    refine WL.op (lenr 0 rfl us_s_api_Extent (ot rfl)) (by decide) ?_
    refine WL.op (sub (ot rfl) (oc _) (by omega)) (by decide) ?_
    refine WL.op (asg (ot rfl)) (by decide) ?_
    refine WL.nl (.thn ?_)
    refine WP.seq ?_
    -- region 8 draws ref.go:34
    refine WP.rowAt' 0 rfl fun g cap hv => ?_
    refine WP.draws  ?_
    refine RG.op (mv (ot rfl)) ?_
    refine RG.op (geq (ot rfl) (oc _)) ?_
    refine RG.op (mv (ot rfl)) ?_
    refine RG.gd rfl rfl (Tells.v _ _) (fun hg => mv (ot rfl)) ?_
    refine RG.gd rfl rfl (Tells.v _ _) (fun hg => mv (ot rfl)) ?_
    refine RG.gd rfl rfl (Tells.v _ _) (fun hg => ixd el_s_api_Extent (og rfl hg) (og rfl hg) (by omega) (by omega)) ?_
    refine RG.gd rfl rfl (Tells.v _ _) (fun hg => fa fo_Extent_0 (og rfl hg)) ?_
    refine RG.gd rfl rfl (Tells.v _ _) (fun hg => ld sc_int (og rfl hg)) ?_
    refine RG.gd rfl rfl (Tells.v _ _) (fun hg => mv (ot rfl)) ?_
    refine RG.gd rfl rfl (Tells.v _ _) (fun hg => mv (ot rfl)) ?_
    refine RG.gd rfl rfl (Tells.v _ _) (fun hg => ixr' (hv (by simp at hg; omega)) el_s_api_Extent (og rfl hg) (og rfl hg) (by simp at hg; omega) (by omega)) ?_
    refine RG.gd rfl rfl (Tells.v _ _) (fun hg => fv fo_Extent_0 (og rfl hg)) ?_
    refine RG.gd rfl rfl (Tells.v _ _) (fun hg => lr' 0 (hv (by simp at hg; omega)) rfl sc_int (og rfl hg) (flat_get (j := 0) (by simp at hg; omega) (by decide))) ?_
    refine RG.gd rfl rfl (Tells.v _ _) (fun hg => mv (ot rfl)) ?_
    refine RG.gd rfl rfl (Tells.v _ _) (fun hg => mv (ot rfl)) ?_
    refine RG.gd rfl rfl (Tells.v _ _) (fun hg => ixr' (hv (by simp at hg; omega)) el_s_api_Extent (og rfl hg) (og rfl hg) (by simp at hg; omega) (by omega)) ?_
    refine RG.gd rfl rfl (Tells.v _ _) (fun hg => fv fo_Extent_1 (og rfl hg)) ?_
    refine RG.gd rfl rfl (Tells.v _ _) (fun hg => lr' 0 (hv (by simp at hg; omega)) rfl sc_int (og rfl hg) (flat_get (j := 1) (by simp at hg; omega) (by decide))) ?_
    refine RG.gd rfl rfl (Tells.v _ _) (fun hg => have hz := hlast (by simp at hg; omega); add (og rfl hg) (og rfl hg) (by omega)) ?_
    refine RG.gd rfl rfl (Tells.v _ _) (fun hg => eql (og rfl hg) (og rfl hg)) ?_
    refine RG.op (and_ (ot rfl) (ot rfl)) ?_
    refine RG.op (mv (ot rfl)) ?_
    refine RG.gd rfl rfl (Tells.v _ _) (fun hg => mv (ot rfl)) ?_
    refine RG.gd rfl rfl (Tells.v _ _) (fun hg => mv (ot rfl)) ?_
    refine RG.gd rfl rfl (Tells.v _ _) (fun hg => ixd el_s_api_Extent (og rfl hg) (og rfl hg) (by omega) (by omega)) ?_
    refine RG.gd rfl rfl (Tells.v _ _) (fun hg => fa fo_Extent_2 (og rfl hg)) ?_
    refine RG.gd rfl rfl (Tells.v _ _) (fun hg => ld sc_int (og rfl hg)) ?_
    refine RG.gd rfl rfl (Tells.v _ _) (fun hg => mv (ot rfl)) ?_
    refine RG.gd rfl rfl (Tells.v _ _) (fun hg => mv (ot rfl)) ?_
    refine RG.gd rfl rfl (Tells.v _ _) (fun hg => ixr' (hv (by simp at hg; omega)) el_s_api_Extent (og rfl hg) (og rfl hg) (by simp at hg; omega) (by omega)) ?_
    refine RG.gd rfl rfl (Tells.v _ _) (fun hg => fv fo_Extent_2 (og rfl hg)) ?_
    refine RG.gd rfl rfl (Tells.v _ _) (fun hg => lr' 0 (hv (by simp at hg; omega)) rfl sc_int (og rfl hg) (flat_get (j := 2) (by simp at hg; omega) (by decide))) ?_
    refine RG.gd rfl rfl (Tells.v _ _) (fun hg => mv (ot rfl)) ?_
    refine RG.gd rfl rfl (Tells.v _ _) (fun hg => mv (ot rfl)) ?_
    refine RG.gd rfl rfl (Tells.v _ _) (fun hg => ixr' (hv (by simp at hg; omega)) el_s_api_Extent (og rfl hg) (og rfl hg) (by simp at hg; omega) (by omega)) ?_
    refine RG.gd rfl rfl (Tells.v _ _) (fun hg => fv fo_Extent_1 (og rfl hg)) ?_
    refine RG.gd rfl rfl (Tells.v _ _) (fun hg => lr' 0 (hv (by simp at hg; omega)) rfl sc_int (og rfl hg) (flat_get (j := 1) (by simp at hg; omega) (by decide))) ?_
    refine RG.gd rfl rfl (Tells.v _ _) (fun hg => have hz := hlast (by simp at hg; omega); add (og rfl hg) (og rfl hg) (by omega)) ?_
    refine RG.gd rfl rfl (Tells.v _ _) (fun hg => eql (og rfl hg) (og rfl hg)) ?_
    refine RG.op (and_ (ot rfl) (ot rfl)) ?_
    refine RG.fin HM (by kernel_rfl) ?_
    show WL _ _ _ _ _ _ _ _ _
    refine WL.nl (.thn ?_)
    -- ref.go:34
    refine WP.condB (decide (0 < L.length ∧ Fol (lastX L) (xs.getD (i : Int).toNat default))) rfl (fol_test _ _) (fun hc => ?_) (fun hc => ?_)
    · skip
      have hp0 := of_decide_eq_true hc
      have hm := hp0.1
      have hz := hlast hm
      have hp := hp0.2
      -- region 9 draws ref.go:35
      refine WP.draws ?_
      refine RG.op (mv (ot rfl)) ?_
      refine RG.op (mv (ot rfl)) ?_
      refine RG.op (ixr' (hv hm) el_s_api_Extent (ot rfl) (ot rfl) (by omega) (by omega)) ?_
      refine RG.op (fv fo_Extent_1 (ot rfl)) ?_
      refine RG.op (lr' 0 (hv hm) rfl sc_int (ot rfl) (flat_get (j := 1) (by omega) (by decide))) ?_
      refine RG.op (mv (ot rfl)) ?_
      refine RG.op (mv (ot rfl)) ?_
      refine RG.op (ixd el_s_api_Extent (ot rfl) (ot rfl) (by omega) (by omega)) ?_
      refine RG.op (fa fo_Extent_1 (ot rfl)) ?_
      refine RG.op (ld sc_int (ot rfl)) ?_
      refine RG.op (add (ot rfl) (ot rfl) (by omega)) ?_
      refine RG.op (ixr' (hv hm) el_s_api_Extent (ot rfl) (ot rfl) (by omega) (by omega)) ?_
      refine RG.op (fv fo_Extent_1 (ot rfl)) ?_
      refine RG.fin HM (by kernel_rfl) ?_
      show WL _ _ _ _ _ _ _ _ _
      refine WL.storeR' 0 (hv hm) rfl (ot rfl) (ot rfl) (.leaf (.val rfl)) sz_int rfl (by rw [flat_len (sz := 3) (f := FX) (fun _ => rfl)]; omega) ?_
      refine WL.nl (.blk (.thn ?_))
      -- region 6 ref.go:32
      refine WP.region ?_
      refine WL.op (mv (ot rfl)) (by decide) ?_
      refine WL.op (add (ot rfl) (oc _) (by omega)) (by decide) ?_
      refine WL.op (asg (ot rfl)) (by decide) ?_
      exact WL.nl (.again (i + 1, v) ⟨hc1, hi.2⟩ (by show xs.length - (i + 1) < xs.length - i; omega) (Sub.ofD 0 (Eq.trans (b := [.r v 31 3 L.length (setAt (L.flatMap FX) (((L.length : Int) - 1).toNat * 3 + 1) [I ((lastX L).n + (xs.getD (i : Int).toNat default).n)])]) rfl (by rw [jn_step hc1, ← hL, push_fol hm hp, flat_set (by omega), List.length_set])) (Sub.cons rfl (imp_eq (congrArg I (by omega))) (Sub.cons rfl (imp _) (Sub.cons rfl (imp _) Sub.nil)))))
    · skip
      have hp : 0 < L.length → ¬ Fol (lastX L) (xs.getD (i : Int).toNat default) := fun hm hf => of_decide_eq_false hc ⟨hm, hf⟩
      -- region 10 ref.go:37
      refine WP.region ?_
      refine WL.op (mv (ot rfl)) (by decide) ?_
      refine WL.op (mv (ot rfl)) (by decide) ?_
      refine WL.op (mv (ot rfl)) (by decide) ?_
      refine WL.op (ixd el_s_api_Extent (ot rfl) (ot rfl) (by omega) (by omega)) (by decide) ?_
      refine WL.op (ls ag_Extent (ot rfl) (le_ rfl)) (by decide) ?_
      refine WL.op (bsl1 (f := FX) (el := xs.getD (i : Int).toNat default) ei_s_api_Extent (ot rfl) (.agg _) rfl (by decide) (by decide)) (by decide) ?_
      refine WL.app 0 rfl ei_s_api_Extent (by decide) (ot rfl) (ot rfl) (by simp) (fun _ => rfl) (by simp only [List.length_singleton]; omega) (by simp only [List.length_singleton]; omega) (by decide) fun v78 h78 => ?_
      refine WL.op (asg (ot rfl)) (by decide) ?_
      refine WL.nl (.blk (.thn ?_))
      -- region 6 ref.go:32
      refine WP.region ?_
      refine WL.op (mv (ot rfl)) (by decide) ?_
      refine WL.op (add (ot rfl) (oc _) (by omega)) (by decide) ?_
      refine WL.op (asg (ot rfl)) (by decide) ?_
      exact WL.nl (.again (i + 1, v78) ⟨hc1, h78⟩ (by show xs.length - (i + 1) < xs.length - i; omega) (Sub.ofD 0 (Eq.trans (b := [.r v78 31 3 (L.length + 1) (L.flatMap FX ++ [xs.getD (i : Int).toNat default].flatMap FX)]) rfl (by rw [jn_step hc1, ← hL, push_not hp, List.flatMap_append, List.length_append]; rfl)) (Sub.cons rfl (imp_eq (congrArg I (by omega))) (Sub.cons rfl (imp _) (Sub.cons rfl (imp _) Sub.nil)))))
  · skip
    have hc1 : ¬ i < xs.length := by have := of_decide_eq_false hc; omega
    refine WP.xt (.xthn (.xthn (.xin (.thn ?_))))
    refine WP.seq ?_
    -- region 11 ref.go:40
    refine WP.region ?_
    refine WL.op (mv (ot rfl)) (by decide) ?_
    refine WL.op (asg (ot rfl)) (by decide) ?_
    refine WL.op (asg (oc _)) (by decide) ?_
    refine WL.nl (.thn ?_)
    refine WP.freeze 0 2 FX L rfl (fun _ => rfl) rfl rfl rfl ?_
    have hL2 : L = Jn xs := by rw [hL, List.take_of_length_le (by omega)]
    exact WP.rt (.rN rfl (.cons (.tm rfl) (.cons (.tm rfl) .nil)) (le_ rfl) (imp_eq (by rw [hL2])))
end Go.Proofs.Ytjglgfnhgehpeaa

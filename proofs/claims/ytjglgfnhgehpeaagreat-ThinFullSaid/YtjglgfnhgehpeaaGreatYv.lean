/- Parts: R34b. -/
import Derived.Test.YtjglgfnhgehpeaaGreatYs
import Derived.Test.YtjglgfnhgehpeaaGreatYq
import Derived.Test.YtjglgfnhgehpeaaGreatYu
/- The runs of the slots, and what is counted, by the reference. -/
set_option linter.unusedVariables false
set_option linter.unusedSimpArgs false
set_option maxRecDepth 4000
namespace Go.Proofs.YtjglgfnhgehpeaaGreat
open Go.RowKit Go.Fw Go.Xt
structure Ua (xs : List X) : Prop where
  one : ∀ i : Nat, i < xs.length → xs.getD (i : Int).toNat default = un (xs.getD (i : Int).toNat default).s ∧ 0 ≤ (xs.getD (i : Int).toNat default).s ∧ (xs.getD (i : Int).toNat default).s < 65536
  mono : ∀ i j : Nat, i < j → j < xs.length → (xs.getD (i : Int).toNat default).s < (xs.getD (j : Int).toNat default).s
def endA (xs : List X) (j : Nat) : Int := if j = 0 then 0 else (xs.getD ((j - 1 : Nat) : Int).toNat default).s + 1
theorem Ua.of {U : List Int} (h : U.Pairwise (· < ·)) (hb : ∀ u ∈ U, 0 ≤ u ∧ u < 65536) : Ua (U.map un) := by
  have e : ∀ i : Nat, i < U.length → (U.map un).getD (i : Int).toNat default = un (U.getD i 0) ∧ U.getD i 0 ∈ U := fun i hi => by
    rw [show ((i : Nat) : Int).toNat = i from by omega, List.getD_eq_getElem?_getD, List.getD_eq_getElem?_getD, List.getElem?_map, List.getElem?_eq_getElem hi]
    exact ⟨rfl, List.getElem_mem hi⟩
  refine ⟨fun i hi => ?_, fun i j hij hj => ?_⟩
  · rw [List.length_map] at hi
    obtain ⟨h1, h2⟩ := e i hi
    rw [h1]
    exact ⟨rfl, hb _ h2⟩
  · rw [List.length_map] at hj
    rw [(e i (by omega)).1, (e j hj).1]
    show U.getD i 0 < U.getD j 0
    rw [List.getD_eq_getElem?_getD, List.getD_eq_getElem?_getD, List.getElem?_eq_getElem (by omega), List.getElem?_eq_getElem hj]
    exact List.pairwise_iff_getElem.1 h i j (by omega) hj hij
theorem Ua.lo {xs : List X} (h : Ua xs) {i j : Nat} (hij : i < j) (hj : j ≤ xs.length) : (xs.getD (i : Int).toNat default).s + 1 ≤ endA xs j := by
  unfold endA
  rw [if_neg (by omega)]
  by_cases q : i = j - 1
  · subst q; exact Int.le_refl _
  · have := h.mono i (j - 1) (by omega) (by omega); omega
theorem Ua.hi {xs : List X} (h : Ua xs) {i j : Nat} (hij : j ≤ i) (hi : i < xs.length) : endA xs j ≤ (xs.getD (i : Int).toNat default).s := by
  unfold endA
  split
  · exact (h.one i hi).2.1
  · have := h.mono (j - 1) i (by omega) hi; omega
theorem Ua.end0 {xs : List X} (h : Ua xs) {j : Nat} (hj : j ≤ xs.length) : 0 ≤ endA xs j ∧ endA xs j ≤ 65536 := by
  unfold endA
  split
  · omega
  · have := h.one (j - 1) (by omega); omega
theorem Ua.last {xs : List X} (h : Ua xs) : ∀ j : Nat, j ≤ xs.length → (j = 0 ∧ mruns (xs.take j) = []) ∨ (0 < j ∧ 0 < (mruns (xs.take j)).length ∧ (lastX (mruns (xs.take j))).s + (lastX (mruns (xs.take j))).n = endA xs j ∧ 0 ≤ (lastX (mruns (xs.take j))).n ∧ 0 ≤ (lastX (mruns (xs.take j))).s)
  | 0, _ => .inl ⟨rfl, rfl⟩
  | j + 1, hj => by
    have h1 := h.one j (by omega)
    have ih := h.last j (by omega)
    have hst := mruns_step (xs := xs) (i := j) (by omega)
    rw [h1.1] at hst
    have hle := h.hi (i := j) (j := j) (Nat.le_refl _) (by omega)
    obtain ⟨b1, b2, b3, b4⟩ := rstep_sum (acc := mruns (xs.take j)) (u := (xs.getD (j : Int).toNat default).s) (by
      rcases ih with ⟨_, e⟩ | ⟨_, _, e1, e2, _⟩
      · exact .inl e
      · exact .inr ⟨by omega, e2⟩)
    have hr : ∀ x ∈ mruns (xs.take (j + 1)), Rn x := mruns_ok fun x hx => by
      obtain ⟨i, hi, rfl⟩ := List.mem_iff_getElem.1 (List.mem_of_mem_take hx)
      have := h.one i hi
      have e : xs.getD (i : Int).toNat default = xs[i] := by rw [show ((i : Nat) : Int).toNat = i from by omega, List.getD_eq_getElem?_getD, List.getElem?_eq_getElem hi]; rfl
      rw [e] at this
      rw [this.1]
      exact ⟨rfl, by show (1 : Int) ≤ 1; omega, this.2.1, by show xs[i].s + 1 ≤ 65536; omega⟩
    rw [← hst] at b2 b3 b4
    have hl : 0 < (mruns (xs.take (j + 1))).length := List.length_pos_iff.2 b2
    have := hr _ (lastX_mem hl)
    refine .inr ⟨by omega, hl, ?_, b4, this.2.2.1⟩
    rw [b3]
    unfold endA
    rw [if_neg (by omega)]
    rfl
theorem run_fol {L : List X} {u : Int} (h0 : 0 < L.length) (h : (lastX L).s + (lastX L).n = u) (hn : 0 ≤ (lastX L).n) : rstep L (un u) = L.set ((L.length : Int) - 1).toNat ⟨(lastX L).a, (lastX L).n + (u + 1 - u), (lastX L).s⟩ := by
  unfold rstep
  rw [if_pos ⟨h0, by show u ≤ _; omega⟩, show max (lastX L).n ((un u).s + (un u).n - (lastX L).s) = (lastX L).n + (u + 1 - u) from by show max (lastX L).n (u + 1 - (lastX L).s) = _; omega]
theorem run_not {L : List X} {u : Int} (h : 0 < L.length → (lastX L).s + (lastX L).n < u) : rstep L (un u) = L ++ [⟨0, u + 1 - u, u⟩] := by
  unfold rstep
  rw [if_neg (by rintro ⟨h1, h2⟩; have := h h1; have h2 : u ≤ _ := h2; omega), show u + 1 - u = 1 from by omega]
  rfl
theorem runs_test (L : List X) (u : Int) : (decide (0 ≤ (L.length : Int) - 1) && decide ((lastX L).s + (lastX L).n = u)) = decide (0 < L.length ∧ (lastX L).s + (lastX L).n = u) := by
  rw [Bool.eq_iff_iff]
  simp only [Bool.and_eq_true, decide_eq_true_eq]
  omega

theorem c_r32_Runs {xs : List X} (hU : Ua xs) (hl : xs.length ≤ 100000) : PureC Tryz.prog 154 [sl 3 FX xs] (sl 3 FX (mruns xs)) := by
  have hpr : ∀ i : Nat, i < xs.length → Pr (xs.getD (i : Int).toNat default) := fun i hi => by
    have h := hU.one i hi
    rw [h.1]
    exact ⟨by show (1 : Int) ≤ 1; omega, ⟨by show (0 : Int) ≤ 0; omega, by show (0 : Int) ≤ 1; omega, by show (0 : Int) ≤ 65536; omega, by show (1 : Int) ≤ 65536 - 0; omega⟩, ⟨h.2.1, by show (0 : Int) ≤ 1; omega, by show (xs.getD (i : Int).toNat default).s ≤ 65536; omega, by show (1 : Int) ≤ 65536 - (xs.getD (i : Int).toNat default).s; omega⟩⟩
  refine PureC.of_wp Tryz.func154 (by kernel_rfl) rfl Tryz.ntmps154 (le_ rfl) (fun w0 M0 => ?_)
  refine WP.seq ?_
  refine WP.region ?_
  refine WL.op (asg (oc _)) (by decide) ?_
  refine WL.nl (.thn ?_)
  refine WP.seq ?_
  refine WP.region ?_
  refine WL.op (asg (oc _)) (by decide) ?_
  refine WL.nl (.thn ?_)
  refine WP.seq ?_
  refine WP.region ?_
  refine WL.op (asg (oc _)) (by decide) ?_
  refine WL.nl (.thn ?_)
  refine WP.nilrow 65 3 ?_
  refine WP.block  ?_
  refine WP.loop (fun y : Nat × Value => [.r y.2 65 3 (mruns (xs.take y.1)).length ((mruns (xs.take y.1)).flatMap FX)]) (fun y => [(4, I (endA xs y.1)), (3, val y.2), (0, sl 3 FX xs)]) (fun y => y.1 ≤ xs.length ∧ y.2.oneCell' = true) (fun y => xs.length - y.1) (0, nilS) ⟨Nat.zero_le _, rfl⟩ (Sub.ofD 0 rfl (Sub.cons rfl (imp_eq rfl) (Sub.cons rfl (imp _) (Sub.cons rfl (imp _) Sub.nil)))) (fun y hi => ?_)
  obtain ⟨j, v⟩ := y
  replace hi : j ≤ xs.length ∧ v.oneCell' = true := hi
  show WP _ _ _ _ [.r v 65 3 (mruns (xs.take j)).length ((mruns (xs.take j)).flatMap FX)] [(4, I (endA xs j)), (3, val v), (0, sl 3 FX xs)] _ _
  have hj1 := hi.1
  have he0 := hU.end0 hj1
  have hlo := fun (i : Nat) (h : i < j) => hU.lo h hj1
  have hhi := fun (i : Nat) (h : j ≤ i) (h2 : i < xs.length) => hU.hi h h2
  refine WP.block  ?_
  refine WP.seq ?_
  refine WP.region ?_
  refine WL.op (asg (oc _)) (by decide) ?_
  refine WL.op (asg (oc _)) (by decide) ?_
  refine WL.nl (.thn ?_)
  refine WP.seq ?_
  refine WP.seq ?_
  refine WP.region ?_
  refine WL.op (asg (oc _)) (by decide) ?_
  refine WL.nl (.thn ?_)
  refine WP.block ?_
  refine WP.loop (fun y : Nat => [.r v 65 3 (mruns (xs.take j)).length ((mruns (xs.take j)).flatMap FX)]) (fun y => [(7, I (y : Int)), (6, val (.bool (decide (j < y)))), (5, I (if j < y then (xs.getD (j : Int).toNat default).s else 0)), (4, I (endA xs j)), (3, val v), (0, sl 3 FX xs)]) (fun y => y ≤ xs.length) (fun y => xs.length - y) 0 (Nat.zero_le _) (Sub.ofD 0 rfl (Sub.cons rfl (imp_eq rfl) (Sub.cons rfl (imp_eq rfl) (Sub.cons rfl (imp_eq rfl) (Sub.cons rfl (imp _) (Sub.cons rfl (imp _) (Sub.cons rfl (imp _) Sub.nil))))))) (fun i hi2 => ?_)
  replace hi2 : i ≤ xs.length := hi2
  show WP _ _ _ _ [.r v 65 3 (mruns (xs.take j)).length ((mruns (xs.take j)).flatMap FX)] [(7, I (i : Int)), (6, val (.bool (decide (j < i)))), (5, I (if j < i then (xs.getD (j : Int).toNat default).s else 0)), (4, I (endA xs j)), (3, val v), (0, sl 3 FX xs)] _ _
  refine WP.seq ?_
  refine WP.seq ?_
  refine WP.region ?_
  refine WL.op (mv (ot rfl)) (by decide) ?_
  refine WL.op (mv (ot rfl)) (by decide) ?_
  refine WL.op (len_ us_s_api_Extent (ot rfl)) (by decide) ?_
  refine WL.op (lss (ot rfl) (ot rfl)) (by decide) ?_
  refine WL.nl (.thn ?_)
  refine WP.cond rfl (fun hc => ?_) (fun hc => ?_)
  · skip
    have hc1 : i < xs.length := by have := of_decide_eq_true hc; omega
    have ho := hU.one i hc1
    have hon : (xs.getD (i : Int).toNat default).n = 1 := by rw [ho.1]; rfl
    refine WP.sk (.thn ?_)
    refine WP.seq ?_
    refine WP.block ?_
    refine WP.seq ?_
    refine WP.seq ?_
    refine WP.draws ?_
    refine RG.op (mv (ot rfl)) ?_
    refine RG.op (mv (ot rfl)) ?_
    refine RG.op (ixd el_s_api_Extent (ot rfl) (ot rfl) (by omega) (by omega)) ?_
    refine RG.op (ls ag_Extent (ot rfl) (le_ rfl)) ?_
    refine RG.op (OpG.weak (R' := val (.bool true)) (call (c_r32_One (xs.getD (i : Int).toNat default)) (.c (ot rfl) .n)) (imp_eq (congrArg (fun b => val (.bool b)) (decide_eq_true (hpr i (by omega)))))) ?_
    refine RG.op (not_ (ot rfl)) ?_
    refine RG.op (mv (ot rfl)) ?_
    refine RG.gd rfl rfl (Tells.v _ _) (fun hg => mv (ot rfl)) ?_
    refine RG.gd rfl rfl (Tells.v _ _) (fun hg => mv (ot rfl)) ?_
    refine RG.gd rfl rfl (Tells.v _ _) (fun hg => ixd el_s_api_Extent (og rfl hg) (og rfl hg) (by omega) (by omega)) ?_
    refine RG.gd rfl rfl (Tells.v _ _) (fun hg => fa fo_Extent_2 (og rfl hg)) ?_
    refine RG.gd rfl rfl (Tells.v _ _) (fun hg => ld sc_int (og rfl hg)) ?_
    refine RG.gd rfl rfl (Tells.v _ _) (fun hg => mv (ot rfl)) ?_
    refine RG.gd rfl rfl (Tells.v _ _) (fun hg => mv (ot rfl)) ?_
    refine RG.gd rfl rfl (Tells.v _ _) (fun hg => ixd el_s_api_Extent (og rfl hg) (og rfl hg) (by omega) (by omega)) ?_
    refine RG.gd rfl rfl (Tells.v _ _) (fun hg => fa fo_Extent_1 (og rfl hg)) ?_
    refine RG.gd rfl rfl (Tells.v _ _) (fun hg => ld sc_int (og rfl hg)) ?_
    refine RG.gd rfl rfl (Tells.v _ _) (fun hg => add (og rfl hg) (og rfl hg) (by omega)) ?_
    refine RG.gd rfl rfl (Tells.v _ _) (fun hg => mv (ot rfl)) ?_
    refine RG.gd rfl rfl (Tells.v _ _) (fun hg => leq (og rfl hg) (og rfl hg)) ?_
    refine RG.op (or_ (ot rfl) (ot rfl)) ?_
    refine RG.fin HM (by kernel_rfl) ?_
    show WL _ _ _ _ _ _ _ _ _
    refine WL.nl (.thn ?_)
    refine WP.cond rfl (fun hc => ?_) (fun hc => ?_)
    · skip
      have hij : i < j := by
        have hc : (xs.getD (i : Int).toNat default).s + (xs.getD (i : Int).toNat default).n ≤ endA xs j := by simpa using hc
        by_cases q : i < j
        · exact q
        · have := hhi i (by omega) hc1; omega
      refine WP.xt (.xthn (.xin (.thn ?_)))
      refine WP.region ?_
      refine WL.op (mv (ot rfl)) (by decide) ?_
      refine WL.op (add (ot rfl) (oc _) (by omega)) (by decide) ?_
      refine WL.op (asg (ot rfl)) (by decide) ?_
      exact WL.nl (.again (i + 1) hc1 (by omega) (Sub.ofD 0 rfl (Sub.cons rfl (imp_eq (congrArg I (by omega))) (Sub.cons rfl (imp_eq (congrArg (fun b => val (.bool b)) (by rw [decide_eq_false (by omega), decide_eq_false (by omega)]))) (Sub.cons rfl (imp_eq (congrArg I (by rw [if_neg (by omega), if_neg (by omega)]))) (Sub.cons rfl (imp _) (Sub.cons rfl (imp _) (Sub.cons rfl (imp _) Sub.nil))))))))
    · skip
      have hij0 : j ≤ i := by
        have hc : ¬ (xs.getD (i : Int).toNat default).s + (xs.getD (i : Int).toNat default).n ≤ endA xs j := by simpa using hc
        by_cases q : i < j
        · have := hlo i q; omega
        · omega
      have hmx := hhi i hij0 hc1
      refine WP.sk (.thn ?_)
      refine WP.seq ?_
      refine WP.region ?_
      refine WL.op (mv (ot rfl)) (by decide) ?_
      refine WL.op (mv (ot rfl)) (by decide) ?_
      refine WL.op (ixd el_s_api_Extent (ot rfl) (ot rfl) (by omega) (by omega)) (by decide) ?_
      refine WL.op (fa fo_Extent_2 (ot rfl)) (by decide) ?_
      refine WL.op (ld sc_int (ot rfl)) (by decide) ?_
      refine WL.op (mv (ot rfl)) (by decide) ?_
      refine WL.op (mx_ (ot rfl) (ot rfl)) (by decide) ?_
      refine WL.op (asg (ot rfl)) (by decide) ?_
      refine WL.nl (.thn ?_)
      refine WP.seq ?_
      refine WP.region ?_
      refine WL.op (mv (ot rfl)) (by decide) ?_
      refine WL.op (not_ (ot rfl)) (by decide) ?_
      refine WL.op (mv (ot rfl)) (by decide) ?_
      refine WL.gd rfl rfl (Tells.v _ _) (fun hg => mv (ot rfl)) (by decide) ?_
      refine WL.gd rfl rfl (Tells.v _ _) (fun hg => mv (ot rfl)) (by decide) ?_
      refine WL.gd rfl rfl (Tells.v _ _) (fun hg => lss (og rfl hg) (og rfl hg)) (by decide) ?_
      refine WL.op (or_ (ot rfl) (ot rfl)) (by decide) ?_
      refine WL.nl (.thn ?_)
      refine WP.cond rfl (fun hc => ?_) (fun hc => ?_)
      · skip
        have hij : i = j := by
          by_cases q : j < i
          · have hm := hU.mono j i q hc1
            rw [decide_eq_true q, if_pos q] at hc
            have hc : max (xs.getD (i : Int).toNat default).s (endA xs j) < (xs.getD (j : Int).toNat default).s := by simpa using hc
            omega
          · omega
        refine WP.region ?_
        refine WL.op (mv (ot rfl)) (by decide) ?_
        refine WL.op (asg (ot rfl)) (by decide) ?_
        refine WL.op (asg (oc _)) (by decide) ?_
        refine WL.nl (.blk (.thn ?_))
        refine WP.region ?_
        refine WL.op (mv (ot rfl)) (by decide) ?_
        refine WL.op (add (ot rfl) (oc _) (by omega)) (by decide) ?_
        refine WL.op (asg (ot rfl)) (by decide) ?_
        exact WL.nl (.again (i + 1) hc1 (by omega) (Sub.ofD 0 rfl (Sub.cons rfl (imp_eq (congrArg I (by omega))) (Sub.cons rfl (imp_eq (congrArg (fun b => val (.bool b)) (decide_eq_true (by omega)).symm)) (Sub.cons rfl (imp_eq (congrArg I (by subst hij; rw [if_pos (by omega)]; omega))) (Sub.cons rfl (imp _) (Sub.cons rfl (imp _) (Sub.cons rfl (imp _) Sub.nil))))))))
      · skip
        have hij : j < i := by
          by_cases q : j < i
          · exact q
          · rw [decide_eq_false q] at hc; cases hc
        refine WP.sk (.blk (.thn ?_))
        refine WP.region ?_
        refine WL.op (mv (ot rfl)) (by decide) ?_
        refine WL.op (add (ot rfl) (oc _) (by omega)) (by decide) ?_
        refine WL.op (asg (ot rfl)) (by decide) ?_
        exact WL.nl (.again (i + 1) hc1 (by omega) (Sub.ofD 0 rfl (Sub.cons rfl (imp_eq (congrArg I (by omega))) (Sub.cons rfl (imp_eq (congrArg (fun b => val (.bool b)) (by rw [decide_eq_true (by omega), decide_eq_true (by omega)]))) (Sub.cons rfl (imp_eq (congrArg I (by rw [if_pos (by omega), if_pos (by omega)]))) (Sub.cons rfl (imp _) (Sub.cons rfl (imp _) (Sub.cons rfl (imp _) Sub.nil))))))))
  · skip
    have hc1 : ¬ i < xs.length := by have := of_decide_eq_false hc; omega
    refine WP.xt (.xthn (.xthn (.xin (.thn ?_))))
    refine WP.seq ?_
    refine WP.seq ?_
    refine WP.region ?_
    refine WL.op (mv (ot rfl)) (by decide) ?_
    refine WL.op (not_ (ot rfl)) (by decide) ?_
    refine WL.nl (.thn ?_)
    refine WP.cond rfl (fun hc => ?_) (fun hc => ?_)
    · skip
      have hjn : ¬ j < i := by simpa using hc
      refine WP.seq ?_
      refine WP.region ?_
      refine WL.op (mv (ot rfl)) (by decide) ?_
      refine WL.op (asg (ot rfl)) (by decide) ?_
      refine WL.nl (.thn ?_)
      refine WP.freeze 0 2 FX (mruns (xs.take j)) rfl (fun _ => rfl) rfl rfl rfl ?_
      exact WP.rt (.rthn (.rblk (.rthn (.rblk (.r1 rfl rfl (imp_eq (by rw [show j = xs.length from by omega, List.take_length])))))))
    · skip
      have hjn : j < i := by simpa using hc
      obtain ⟨i0, hi0⟩ : ∃ i0, i0 = i := ⟨i, rfl⟩
      rw [← hi0] at hjn hc1 hi2 ⊢
      have hj2 : j < xs.length := by omega
      have hoj := hU.one j hj2
      have hst := mruns_step (xs := xs) hj2
      rw [hoj.1] at hst
      have hlast0 := hU.last j hj1
      have hend : endA xs (j + 1) = (xs.getD (j : Int).toNat default).s + 1 := by unfold endA; rw [if_neg (by omega)]; rfl
      have hejj := hhi j (Nat.le_refl _) hj2
      refine WP.sk (.thn ?_)
      refine WP.seq ?_
      refine WP.region ?_
      refine WL.op (mv (ot rfl)) (by decide) ?_
      refine WL.op (asg (ot rfl)) (by decide) ?_
      refine WL.nl (.thn ?_)
      refine WP.seq ?_
      refine WP.seq ?_
      refine WP.region ?_
      refine WL.op (asg (oc _)) (by decide) ?_
      refine WL.nl (.thn ?_)
      refine WP.block ?_
      refine WP.loop (fun y : Nat => [.r v 65 3 (mruns (xs.take j)).length ((mruns (xs.take j)).flatMap FX)]) (fun y => [(9, I (y : Int)), (5, I (xs.getD (j : Int).toNat default).s), (4, I (if j < y then (xs.getD (j : Int).toNat default).s + 1 else (xs.getD (j : Int).toNat default).s)), (3, val v), (0, sl 3 FX xs)]) (fun y => y ≤ xs.length) (fun y => xs.length - y) 0 (Nat.zero_le _) (Sub.ofD 0 rfl (Sub.cons rfl (imp_eq rfl) (Sub.cons rfl (imp_eq (congrArg I (if_pos (by omega)))) (Sub.cons rfl (imp_eq (congrArg I (by rw [if_pos (show j < i0 by omega), if_neg (by omega)]))) (Sub.cons rfl (imp _) (Sub.cons rfl (imp _) Sub.nil)))))) (fun i hi3 => ?_)
      replace hi3 : i ≤ xs.length := hi3
      show WP _ _ _ _ [.r v 65 3 (mruns (xs.take j)).length ((mruns (xs.take j)).flatMap FX)] [(9, I (i : Int)), (5, I (xs.getD (j : Int).toNat default).s), (4, I (if j < i then (xs.getD (j : Int).toNat default).s + 1 else (xs.getD (j : Int).toNat default).s)), (3, val v), (0, sl 3 FX xs)] _ _
      refine WP.seq ?_
      refine WP.seq ?_
      refine WP.region ?_
      refine WL.op (mv (ot rfl)) (by decide) ?_
      refine WL.op (mv (ot rfl)) (by decide) ?_
      refine WL.op (len_ us_s_api_Extent (ot rfl)) (by decide) ?_
      refine WL.op (lss (ot rfl) (ot rfl)) (by decide) ?_
      refine WL.nl (.thn ?_)
      refine WP.cond rfl (fun hc => ?_) (fun hc => ?_)
      · skip
        have hc1 : i < xs.length := by have := of_decide_eq_true hc; omega
        have ho := hU.one i hc1
        have hon : (xs.getD (i : Int).toNat default).n = 1 := by rw [ho.1]; rfl
        refine WP.sk (.thn ?_)
        refine WP.seq ?_
        refine WP.block ?_
        refine WP.seq ?_
        refine WP.draws ?_
        refine RG.op (mv (ot rfl)) ?_
        refine RG.op (mv (ot rfl)) ?_
        refine RG.op (ixd el_s_api_Extent (ot rfl) (ot rfl) (by omega) (by omega)) ?_
        refine RG.op (ls ag_Extent (ot rfl) (le_ rfl)) ?_
        refine RG.op (OpG.weak (R' := val (.bool true)) (call (c_r32_One (xs.getD (i : Int).toNat default)) (.c (ot rfl) .n)) (imp_eq (congrArg (fun b => val (.bool b)) (decide_eq_true (hpr i (by omega)))))) ?_
        refine RG.op (mv (ot rfl)) ?_
        refine RG.gd rfl rfl (Tells.v _ _) (fun hg => mv (ot rfl)) ?_
        refine RG.gd rfl rfl (Tells.v _ _) (fun hg => mv (ot rfl)) ?_
        refine RG.gd rfl rfl (Tells.v _ _) (fun hg => ixd el_s_api_Extent (og rfl hg) (og rfl hg) (by omega) (by omega)) ?_
        refine RG.gd rfl rfl (Tells.v _ _) (fun hg => fa fo_Extent_2 (og rfl hg)) ?_
        refine RG.gd rfl rfl (Tells.v _ _) (fun hg => ld sc_int (og rfl hg)) ?_
        refine RG.gd rfl rfl (Tells.v _ _) (fun hg => mv (ot rfl)) ?_
        refine RG.gd rfl rfl (Tells.v _ _) (fun hg => leq (og rfl hg) (og rfl hg)) ?_
        refine RG.op (and_ (ot rfl) (ot rfl)) ?_
        refine RG.op (mv (ot rfl)) ?_
        refine RG.gd rfl rfl (Tells.v _ _) (fun hg => mv (ot rfl)) ?_
        refine RG.gd rfl rfl (Tells.v _ _) (fun hg => mv (ot rfl)) ?_
        refine RG.gd rfl rfl (Tells.v _ _) (fun hg => ixd el_s_api_Extent (og rfl hg) (og rfl hg) (by omega) (by omega)) ?_
        refine RG.gd rfl rfl (Tells.v _ _) (fun hg => fa fo_Extent_2 (og rfl hg)) ?_
        refine RG.gd rfl rfl (Tells.v _ _) (fun hg => ld sc_int (og rfl hg)) ?_
        refine RG.gd rfl rfl (Tells.v _ _) (fun hg => mv (ot rfl)) ?_
        refine RG.gd rfl rfl (Tells.v _ _) (fun hg => mv (ot rfl)) ?_
        refine RG.gd rfl rfl (Tells.v _ _) (fun hg => ixd el_s_api_Extent (og rfl hg) (og rfl hg) (by omega) (by omega)) ?_
        refine RG.gd rfl rfl (Tells.v _ _) (fun hg => fa fo_Extent_1 (og rfl hg)) ?_
        refine RG.gd rfl rfl (Tells.v _ _) (fun hg => ld sc_int (og rfl hg)) ?_
        refine RG.gd rfl rfl (Tells.v _ _) (fun hg => add (og rfl hg) (og rfl hg) (by omega)) ?_
        refine RG.gd rfl rfl (Tells.v _ _) (fun hg => mv (ot rfl)) ?_
        refine RG.gd rfl rfl (Tells.v _ _) (fun hg => gtr (og rfl hg) (og rfl hg)) ?_
        refine RG.op (and_ (ot rfl) (ot rfl)) ?_
        refine RG.fin HM (by kernel_rfl) ?_
        show WL _ _ _ _ _ _ _ _ _
        refine WL.nl (.thn ?_)
        refine WP.cond rfl (fun hc => ?_) (fun hc => ?_)
        · skip
          have hij : i = j := by
            have hc0 : (xs.getD (i : Int).toNat default).s ≤ (xs.getD (j : Int).toNat default).s ∧ (if j < i then (xs.getD (j : Int).toNat default).s + 1 else (xs.getD (j : Int).toNat default).s) < (xs.getD (i : Int).toNat default).s + (xs.getD (i : Int).toNat default).n := by simpa using hc
            rcases Nat.lt_trichotomy i j with q | q | q
            · have := hU.mono i j q hj2; rw [if_neg (by omega)] at hc0; omega
            · exact q
            · have := hU.mono j i q hc1; omega
          refine WP.draws ?_
          refine RG.op (mv (ot rfl)) ?_
          refine RG.op (mv (ot rfl)) ?_
          refine RG.op (ixd el_s_api_Extent (ot rfl) (ot rfl) (by omega) (by omega)) ?_
          refine RG.op (fa fo_Extent_2 (ot rfl)) ?_
          refine RG.op (ld sc_int (ot rfl)) ?_
          refine RG.op (mv (ot rfl)) ?_
          refine RG.op (mv (ot rfl)) ?_
          refine RG.op (ixd el_s_api_Extent (ot rfl) (ot rfl) (by omega) (by omega)) ?_
          refine RG.op (fa fo_Extent_1 (ot rfl)) ?_
          refine RG.op (ld sc_int (ot rfl)) ?_
          refine RG.op (add (ot rfl) (ot rfl) (by omega)) ?_
          refine RG.op (asg (ot rfl)) ?_
          refine RG.fin HM (by kernel_rfl) ?_
          show WL _ _ _ _ _ _ _ _ _
          refine WL.nl (.blk (.thn ?_))
          refine WP.region ?_
          refine WL.op (mv (ot rfl)) (by decide) ?_
          refine WL.op (add (ot rfl) (oc _) (by omega)) (by decide) ?_
          refine WL.op (asg (ot rfl)) (by decide) ?_
          exact WL.nl (.again (i + 1) hc1 (by omega) (Sub.ofD 0 rfl (Sub.cons rfl (imp_eq (congrArg I (by omega))) (Sub.cons rfl (imp _) (Sub.cons rfl (imp_eq (congrArg I (by subst hij; rw [if_pos (by omega)]; omega))) (Sub.cons rfl (imp _) (Sub.cons rfl (imp _) Sub.nil)))))))
        · skip
          have hij : i ≠ j := by
            rintro rfl
            rw [if_neg (Nat.lt_irrefl _)] at hc
            simp only [decide_eq_true (Int.le_refl _), Bool.true_and, decide_eq_false_iff_not] at hc
            omega
          refine WP.sk (.blk (.thn ?_))
          refine WP.region ?_
          refine WL.op (mv (ot rfl)) (by decide) ?_
          refine WL.op (add (ot rfl) (oc _) (by omega)) (by decide) ?_
          refine WL.op (asg (ot rfl)) (by decide) ?_
          exact WL.nl (.again (i + 1) hc1 (by omega) (Sub.ofD 0 rfl (Sub.cons rfl (imp_eq (congrArg I (by omega))) (Sub.cons rfl (imp _) (Sub.cons rfl (imp_eq (congrArg I (by by_cases q : j < i; rw [if_pos q, if_pos (by omega)]; rw [if_neg q, if_neg (by omega)]))) (Sub.cons rfl (imp _) (Sub.cons rfl (imp _) Sub.nil)))))))
      · skip
        have hc1 : ¬ i < xs.length := by have := of_decide_eq_false hc; omega
        obtain ⟨L, hL⟩ : ∃ L, L = mruns (xs.take j) := ⟨_, rfl⟩
        rw [← hL] at hst hlast0 ⊢
        have hLl : L.length ≤ j := by rw [hL]; exact Nat.le_trans (mruns_len _) (List.length_take_le _ _)
        have hlast : 0 < L.length → (lastX L).s + (lastX L).n = endA xs j ∧ 0 ≤ (lastX L).n ∧ 0 ≤ (lastX L).s := fun hm => by
          rcases hlast0 with ⟨_, e⟩ | ⟨_, _, e⟩
          · rw [e] at hm; exact absurd hm (Nat.lt_irrefl 0)
          · exact e
        unfold lastX at hlast
        refine WP.xt (.xthn (.xthn (.xin (.thn ?_))))
        refine WP.seq ?_
        refine WP.region ?_
        refine WL.op (mv (ot rfl)) (by decide) ?_
        refine WL.op (lenr 0 rfl us_s_api_Extent (ot rfl)) (by decide) ?_
        refine WL.op (sub (ot rfl) (oc _) (by omega)) (by decide) ?_
        refine WL.op (asg (ot rfl)) (by decide) ?_
        refine WL.nl (.thn ?_)
        refine WP.seq ?_
        refine WP.rowAt' 0 rfl fun g cap hv => ?_
        refine WP.draws  ?_
        refine RG.op (mv (ot rfl)) ?_
        refine RG.op (geq (ot rfl) (oc _)) ?_
        refine RG.op (mv (ot rfl)) ?_
        refine RG.gd rfl rfl (Tells.v _ _) (fun hg => mv (ot rfl)) ?_
        refine RG.gd rfl rfl (Tells.v _ _) (fun hg => mv (ot rfl)) ?_
        refine RG.gd rfl rfl (Tells.v _ _) (fun hg => ixr' (hv (by simp at hg; omega)) el_s_api_Extent (og rfl hg) (og rfl hg) (by simp at hg; omega) (by omega)) ?_
        refine RG.gd rfl rfl (Tells.v _ _) (fun hg => fv fo_Extent_2 (og rfl hg)) ?_
        refine RG.gd rfl rfl (Tells.v _ _) (fun hg => lr' 0 (hv (by simp at hg; omega)) rfl sc_int (og rfl hg) (flat_get (j := 2) (by simp at hg; omega) (by decide))) ?_
        refine RG.gd rfl rfl (Tells.v _ _) (fun hg => mv (ot rfl)) ?_
        refine RG.gd rfl rfl (Tells.v _ _) (fun hg => mv (ot rfl)) ?_
        refine RG.gd rfl rfl (Tells.v _ _) (fun hg => ixr' (hv (by simp at hg; omega)) el_s_api_Extent (og rfl hg) (og rfl hg) (by simp at hg; omega) (by omega)) ?_
        refine RG.gd rfl rfl (Tells.v _ _) (fun hg => fv fo_Extent_1 (og rfl hg)) ?_
        refine RG.gd rfl rfl (Tells.v _ _) (fun hg => lr' 0 (hv (by simp at hg; omega)) rfl sc_int (og rfl hg) (flat_get (j := 1) (by simp at hg; omega) (by decide))) ?_
        refine RG.gd rfl rfl (Tells.v _ _) (fun hg => have hz := hlast (by simp at hg; omega); add (og rfl hg) (og rfl hg) (by omega)) ?_
        refine RG.gd rfl rfl (Tells.v _ _) (fun hg => mv (ot rfl)) ?_
        refine RG.gd rfl rfl (Tells.v _ _) (fun hg => eql (og rfl hg) (og rfl hg)) ?_
        refine RG.op (and_ (ot rfl) (ot rfl)) ?_
        refine RG.fin HM (by kernel_rfl) ?_
        show WL _ _ _ _ _ _ _ _ _
        refine WL.nl (.thn ?_)
        refine WP.condB (decide (0 < L.length ∧ (lastX L).s + (lastX L).n = (xs.getD (j : Int).toNat default).s)) rfl (runs_test _ _) (fun hc => ?_) (fun hc => ?_)
        · skip
          have hp0 := of_decide_eq_true hc
          have hm := hp0.1
          have hz := hlast hm
          have hp := hp0.2
          have hn0 : 0 ≤ (lastX L).n := hz.2.1
          unfold lastX at hp hn0
          refine WP.region ?_
          refine WL.op (mv (ot rfl)) (by decide) ?_
          refine WL.op (mv (ot rfl)) (by decide) ?_
          refine WL.op (ixr' (hv hm) el_s_api_Extent (ot rfl) (ot rfl) (by omega) (by omega)) (by decide) ?_
          refine WL.op (fv fo_Extent_1 (ot rfl)) (by decide) ?_
          refine WL.op (lr' 0 (hv hm) rfl sc_int (ot rfl) (flat_get (j := 1) (by omega) (by decide))) (by decide) ?_
          refine WL.op (mv (ot rfl)) (by decide) ?_
          refine WL.op (mv (ot rfl)) (by decide) ?_
          refine WL.op (sub (ot rfl) (ot rfl) (by omega)) (by decide) ?_
          refine WL.op (add (ot rfl) (ot rfl) (by omega)) (by decide) ?_
          refine WL.op (ixr' (hv hm) el_s_api_Extent (ot rfl) (ot rfl) (by omega) (by omega)) (by decide) ?_
          refine WL.op (fv fo_Extent_1 (ot rfl)) (by decide) ?_
          refine WL.storeR' 0 (hv hm) rfl (ot rfl) (ot rfl) (.leaf (.val rfl)) sz_int rfl (by rw [flat_len (sz := 3) (f := FX) (fun _ => rfl)]; omega) ?_
          exact WL.nl (.blk (.again (j + 1, v) ⟨hj2, hi.2⟩ (by show xs.length - (j + 1) < xs.length - j; omega) (Sub.ofD 0 (Eq.trans (b := [.r v 65 3 L.length (setAt (L.flatMap FX) (((L.length : Int) - 1).toNat * 3 + 1) [I ((lastX L).n + ((if j < i then (xs.getD (j : Int).toNat default).s + 1 else (xs.getD (j : Int).toNat default).s) - (xs.getD (j : Int).toNat default).s))])]) rfl (by rw [hst, run_fol hm hp hn0, flat_set (by omega), List.length_set, if_pos (by omega)])) (Sub.cons rfl (imp_eq (congrArg I (by rw [if_pos (by omega)]; exact hend.symm))) (Sub.cons rfl (imp _) (Sub.cons rfl (imp _) Sub.nil))))))
        · skip
          have hp : 0 < L.length → (lastX L).s + (lastX L).n < (xs.getD (j : Int).toNat default).s := fun hm => by
            have h1 := of_decide_eq_false hc
            have h2 : (lastX L).s + (lastX L).n = endA xs j := (hlast hm).1
            have h3 : (lastX L).s + (lastX L).n ≠ (xs.getD (j : Int).toNat default).s := fun e => h1 ⟨hm, e⟩
            omega
          refine WP.region ?_
          refine WL.op (mv (ot rfl)) (by decide) ?_
          refine WL.op (mv (ot rfl)) (by decide) ?_
          refine WL.op (mv (ot rfl)) (by decide) ?_
          refine WL.op (sub (ot rfl) (ot rfl) (by omega)) (by decide) ?_
          refine WL.op (mv (ot rfl)) (by decide) ?_
          refine WL.op (bld zr_Extent rfl ps_Extent (.c (ot rfl) (.leaf (.val rfl)) pl_Extent_1 rfl (le_ rfl) (.c (ot rfl) (.leaf (.val rfl)) pl_Extent_2 rfl (le_ rfl) .n))) (by decide) ?_
          refine WL.op (bsl1 (f := FX) (el := ⟨0, (if j < i then (xs.getD (j : Int).toNat default).s + 1 else (xs.getD (j : Int).toNat default).s) - (xs.getD (j : Int).toNat default).s, (xs.getD (j : Int).toNat default).s⟩) ei_s_api_Extent (ot rfl) (.agg _) rfl (by decide) (by decide)) (by decide) ?_
          refine WL.app 0 rfl ei_s_api_Extent (by decide) (ot rfl) (ot rfl) (by simp) (fun _ => rfl) (by simp only [List.length_singleton]; omega) (by simp only [List.length_singleton]; omega) (by decide) fun v141 h141 => ?_
          refine WL.op (asg (ot rfl)) (by decide) ?_
          exact WL.nl (.blk (.again (j + 1, v141) ⟨hj2, h141⟩ (by show xs.length - (j + 1) < xs.length - j; omega) (Sub.ofD 0 (Eq.trans (b := [.r v141 65 3 (L.length + 1) (L.flatMap FX ++ [(⟨0, (if j < i then (xs.getD (j : Int).toNat default).s + 1 else (xs.getD (j : Int).toNat default).s) - (xs.getD (j : Int).toNat default).s, (xs.getD (j : Int).toNat default).s⟩ : X)].flatMap FX)]) rfl (by rw [hst, run_not hp, List.flatMap_append, List.length_append, if_pos (by omega)]; rfl)) (Sub.cons rfl (imp_eq (congrArg I (by rw [if_pos (by omega)]; exact hend.symm))) (Sub.cons rfl (imp _) (Sub.cons rfl (imp _) Sub.nil))))))
def zm (cs : List Int) (i : Nat) : List Bool := (List.range cs.length).map fun s => decide (s < i) && decide (cs.getD s 0 = 0)
theorem zm_len (cs : List Int) (i : Nat) : (zm cs i).length = cs.length := by simp [zm]
theorem zm_get {cs : List Int} {i s : Nat} (hs : s < cs.length) : (zm cs i).getD s false = (decide (s < i) && decide (cs.getD s 0 = 0)) := by
  unfold zm
  rw [List.getD_eq_getElem?_getD, List.getElem?_map, List.getElem?_range hs]; rfl
theorem zm_0 (cs : List Int) : zm cs 0 = List.replicate cs.length false := by
  refine List.ext_getElem (by simp [zm]) fun i h1 h2 => ?_
  simp [zm]
theorem zm_step {cs : List Int} {i : Nat} (hi : i < cs.length) : (zm cs i).set i (decide (cs.getD i 0 = 0)) = zm cs (i + 1) := by
  refine List.ext_getElem (by simp [zm]) fun j h1 h2 => ?_
  rw [List.length_set, zm_len] at h1
  rw [List.getElem_set]
  have e1 : (zm cs (i + 1))[j] = (decide (j < i + 1) && decide (cs.getD j 0 = 0)) := by simp [zm]
  rw [e1]
  by_cases q : i = j
  · subst q; rw [if_pos rfl, decide_eq_true (Nat.lt_succ_self _), Bool.true_and]
  · rw [if_neg q]
    have e2 : (zm cs i)[j]'(by rw [zm_len]; exact h1) = (decide (j < i) && decide (cs.getD j 0 = 0)) := by simp [zm]
    rw [e2]
    congr 1
    by_cases q2 : j < i
    · rw [decide_eq_true q2, decide_eq_true (by omega)]
    · rw [decide_eq_false q2, decide_eq_false (by omega)]
theorem asc_congr {N : Nat} {p q : Nat → Bool} (h : ∀ s, s < N → p s = q s) : asc N p = asc N q := by
  unfold asc
  rw [List.filter_congr fun x hx => h x (List.mem_range.1 hx)]
theorem asc_zm (cs : List Int) : asc (zm cs cs.length).length (fun s => (zm cs cs.length).getD s false) = za cs := by
  rw [zm_len]
  exact asc_congr fun s hs => by rw [zm_get hs, decide_eq_true hs, Bool.true_and]
theorem app0 {A B : List Int} {s : Int} {v : Value} {T : TypeId} (h : B = A ++ [s]) : [Box.r v T 3 (A.length + 1) ((A.map un).flatMap FX ++ [un s].flatMap FX)] = [.r v T 3 B.length ((B.map un).flatMap FX)] := by
  subst h; simp
theorem c_r34_runs {ms : List Bool} (hl : ms.length ≤ 65536) : PureC Tryz.prog 153 [sl 1 FB ms] (sl 3 FX (mruns ((asc ms.length fun s => ms.getD s false).map un))) := by
  refine PureC.of_wp Tryz.func153 (by kernel_rfl) rfl Tryz.ntmps153 (le_ rfl) (fun w0 M0 => ?_)
  refine WP.seq ?_
  refine WP.region ?_
  refine WL.op (asg (oc _)) (by decide) ?_
  refine WL.nl (.thn ?_)
  refine WP.seq ?_
  refine WP.region ?_
  refine WL.op (asg (oc _)) (by decide) ?_
  refine WL.nl (.thn ?_)
  refine WP.seq ?_
  refine WP.seq ?_
  refine WP.region ?_
  refine WL.op (asg (oc _)) (by decide) ?_
  refine WL.nl (.thn ?_)
  refine WP.nilrow 65 3 ?_
  refine WP.block  ?_
  refine WP.loop (fun y : Nat × Value => [.r y.2 65 3 (asc y.1 (fun s => ms.getD s false)).length (((asc y.1 (fun s => ms.getD s false)).map un).flatMap FX)]) (fun y => [(4, I (y.1 : Int)), (3, val y.2), (0, sl 1 FB ms)]) (fun y => y.1 ≤ ms.length ∧ y.2.oneCell' = true) (fun y => ms.length - y.1) (0, nilS) ⟨Nat.zero_le _, rfl⟩ (Sub.ofD 0 rfl (Sub.cons rfl (imp_eq rfl) (Sub.cons rfl (imp _) (Sub.cons rfl (imp _) Sub.nil)))) (fun y hi => ?_)
  obtain ⟨i, v⟩ := y
  replace hi : i ≤ ms.length ∧ v.oneCell' = true := hi
  show WP _ _ _ _ [.r v 65 3 (asc i (fun s => ms.getD s false)).length (((asc i (fun s => ms.getD s false)).map un).flatMap FX)] [(4, I (i : Int)), (3, val v), (0, sl 1 FB ms)] _ _
  refine WP.seq ?_
  refine WP.seq ?_
  refine WP.region ?_
  refine WL.op (mv (ot rfl)) (by decide) ?_
  refine WL.op (mv (ot rfl)) (by decide) ?_
  refine WL.op (len_ us_s_bool (ot rfl)) (by decide) ?_
  refine WL.op (lss (ot rfl) (ot rfl)) (by decide) ?_
  refine WL.nl (.thn ?_)
  refine WP.cond rfl (fun hc => ?_) (fun hc => ?_)
  · skip
    have hc1 : i < ms.length := by have := of_decide_eq_true hc; omega
    have hal := asc_le i fun s => ms.getD s false
    refine WP.sk (.thn ?_)
    refine WP.seq ?_
    refine WP.block ?_
    refine WP.seq ?_
    refine WP.region ?_
    refine WL.op (mv (ot rfl)) (by decide) ?_
    refine WL.op (mv (ot rfl)) (by decide) ?_
    refine WL.op (ixd el_s_bool (ot rfl) (ot rfl) (by omega) (by omega)) (by decide) ?_
    refine WL.op (ld sc_bool (ot rfl)) (by decide) ?_
    refine WL.nl (.thn ?_)
    refine WP.cond rfl (fun hc => ?_) (fun hc => ?_)
    · skip
      have hz0 : ms.getD i false = true := by rw [← hc]; rfl
      refine WP.region ?_
      refine WL.op (mv (ot rfl)) (by decide) ?_
      refine WL.op (mv (ot rfl)) (by decide) ?_
      refine WL.op (bld zr_Extent rfl ps_Extent (.c (oc _) (.leaf (.val rfl)) pl_Extent_1 rfl (le_ rfl) (.c (ot rfl) (.leaf (.val rfl)) pl_Extent_2 rfl (le_ rfl) .n))) (by decide) ?_
      refine WL.op (bsl1 (f := FX) (el := un (i : Int)) ei_s_api_Extent (ot rfl) (.agg _) rfl (by decide) (by decide)) (by decide) ?_
      refine WL.app 0 rfl ei_s_api_Extent (by decide) (ot rfl) (ot rfl) (by simp) (fun _ => rfl) (by simp only [List.length_singleton]; omega) (by simp only [List.length_singleton]; omega) (by decide) fun v19 h19 => ?_
      refine WL.op (asg (ot rfl)) (by decide) ?_
      refine WL.nl (.blk (.thn ?_))
      refine WP.region ?_
      refine WL.op (mv (ot rfl)) (by decide) ?_
      refine WL.op (add (ot rfl) (oc _) (by omega)) (by decide) ?_
      refine WL.op (asg (ot rfl)) (by decide) ?_
      exact WL.nl (.again (i + 1, v19) ⟨hc1, h19⟩ (by show ms.length - (i + 1) < ms.length - i; omega) (Sub.ofD 0 (Eq.trans (b := [.r v19 65 3 ((asc i (fun s => ms.getD s false)).length + 1) (((asc i (fun s => ms.getD s false)).map un).flatMap FX ++ [un (i : Int)].flatMap FX)]) rfl (app0 ((asc_step i _).trans (congrArg (_ ++ ·) (if_pos hz0))))) (Sub.cons rfl (imp_eq (congrArg I (by omega))) (Sub.cons rfl (imp _) (Sub.cons rfl (imp _) Sub.nil)))))
    · skip
      have hz0 : ¬ ms.getD i false = true := by rw [show ms.getD i false = false from hc]; exact Bool.false_ne_true
      refine WP.sk (.blk (.thn ?_))
      refine WP.region ?_
      refine WL.op (mv (ot rfl)) (by decide) ?_
      refine WL.op (add (ot rfl) (oc _) (by omega)) (by decide) ?_
      refine WL.op (asg (ot rfl)) (by decide) ?_
      exact WL.nl (.again (i + 1, v) ⟨hc1, hi.2⟩ (by show ms.length - (i + 1) < ms.length - i; omega) (Sub.ofD 0 (by dsimp only; rw [asc_step, if_neg hz0, List.append_nil]; rfl) (Sub.cons rfl (imp_eq (congrArg I (by omega))) (Sub.cons rfl (imp _) (Sub.cons rfl (imp _) Sub.nil)))))
  · skip
    have hc1 : ¬ i < ms.length := by have := of_decide_eq_false hc; omega
    have hi1 := hi.1
    have hal := asc_le i fun s => ms.getD s false
    refine WP.xt (.xthn (.xthn (.xin (.thn ?_))))
    have hL2 : asc i (fun s => ms.getD s false) = asc ms.length (fun s => ms.getD s false) := by rw [show i = ms.length from by omega]
    refine WP.freeze 0 3 FX ((asc i (fun s => ms.getD s false)).map un) rfl (fun _ => rfl) (List.length_map ..).symm rfl rfl ?_
    refine WP.seq ?_
    refine WP.region ?_
    refine WL.op (mv (ot rfl)) (by decide) ?_
    refine WL.op (call (c_r32_Runs (xs := (asc i (fun s => ms.getD s false)).map un) (Ua.of (asc_lt _ _) fun u hu => by have := asc_mem.1 hu; omega) (by rw [List.length_map]; omega)) (.c (ot rfl) .n)) (by decide) ?_
    refine WL.op (asg (ot rfl)) (by decide) ?_
    refine WL.nl (.thn ?_)
    exact WP.rt (.r1 rfl rfl (imp_eq (by rw [hL2])))
theorem c_r34_Counts_Zero {cs : List Int} (hl : cs.length ≤ 65536) : PureC Tryz.prog 118 [sl 1 FI cs] (sl 3 FX (mruns ((za cs).map un))) := by
  refine PureC.of_wp Tryz.func118 (by kernel_rfl) rfl Tryz.ntmps118 (le_ rfl) (fun w0 M0 => ?_)
  refine WP.seq ?_
  refine WP.region ?_
  refine WL.op (asg (oc _)) (by decide) ?_
  refine WL.nl (.thn ?_)
  refine WP.seq ?_
  refine WP.region ?_
  refine WL.op (mv (ot rfl)) (by decide) ?_
  refine WL.op (len_ us_ef34_Counts (ot rfl)) (by decide) ?_
  refine WL.mkr (OpN.mks ei_s_bool zr_bool rfl (ot rfl) (ot rfl) (by omega) (by omega)) (by decide) fun v7 h7 => ?_
  refine WL.op (asg (ot rfl)) (by decide) ?_
  refine WL.nl (.thn ?_)
  refine WP.seq ?_
  refine WP.seq ?_
  refine WP.region ?_
  refine WL.op (asg (oc _)) (by decide) ?_
  refine WL.nl (.thn ?_)
  refine WP.block  ?_
  refine WP.weak (bs' := [.r v7 4 1 cs.length ((zm cs 0).flatMap FB)]) (st' := [(4, I 0), (3, val v7), (0, sl 1 FI cs)]) ?_ (Sub.ofD 0 (by rw [zm_0, fB_rep]; rfl) (Sub.cons rfl (imp_eq rfl) (Sub.cons rfl (imp _) (Sub.cons rfl (imp _) Sub.nil))))
  refine WP.rowAt' 0 rfl fun g cap hv => ?_
  refine WP.loop (fun y : Nat => [.r v7 4 1 cs.length ((zm cs y).flatMap FB)]) (fun y => [(4, I (y : Int)), (3, val v7), (0, sl 1 FI cs)]) (fun y => y ≤ cs.length) (fun y => cs.length - y) 0 (Nat.zero_le _) (Sub.ofD 0 rfl (Sub.cons rfl (imp_eq rfl) (Sub.cons rfl (imp _) (Sub.cons rfl (imp _) Sub.nil)))) (fun i hi => ?_)
  replace hi : i ≤ cs.length := hi
  show WP _ _ _ _ [.r v7 4 1 cs.length ((zm cs i).flatMap FB)] [(4, I (i : Int)), (3, val v7), (0, sl 1 FI cs)] _ _
  refine WP.seq ?_
  refine WP.seq ?_
  refine WP.region ?_
  refine WL.op (mv (ot rfl)) (by decide) ?_
  refine WL.op (mv (ot rfl)) (by decide) ?_
  refine WL.op (len_ us_ef34_Counts (ot rfl)) (by decide) ?_
  refine WL.op (lss (ot rfl) (ot rfl)) (by decide) ?_
  refine WL.nl (.thn ?_)
  refine WP.cond rfl (fun hc => ?_) (fun hc => ?_)
  · skip
    have hc1 : i < cs.length := by have := of_decide_eq_true hc; omega
    refine WP.sk (.thn ?_)
    refine WP.seq ?_
    refine WP.block ?_
    refine WP.region ?_
    refine WL.op (mv (ot rfl)) (by decide) ?_
    refine WL.op (mv (ot rfl)) (by decide) ?_
    refine WL.op (mv (ot rfl)) (by decide) ?_
    refine WL.op (mv (ot rfl)) (by decide) ?_
    refine WL.op (ixd el_ef34_Counts (ot rfl) (ot rfl) (by omega) (by omega)) (by decide) ?_
    refine WL.op (ld sc_int (ot rfl)) (by decide) ?_
    refine WL.op (eql (ot rfl) (oc _)) (by decide) ?_
    refine WL.op (ixr' (hv (by omega)) el_s_bool (ot rfl) (ot rfl) (by omega) (by omega)) (by decide) ?_
    refine WL.storeR' 0 (hv (by omega)) rfl (ot rfl) (ot rfl) (.leaf (.val rfl)) sz_bool rfl (by rw [fB_len, zm_len]; omega) ?_
    refine WL.nl (.blk (.thn ?_))
    refine WP.region ?_
    refine WL.op (mv (ot rfl)) (by decide) ?_
    refine WL.op (add (ot rfl) (oc _) (by omega)) (by decide) ?_
    refine WL.op (asg (ot rfl)) (by decide) ?_
    exact WL.nl (.again (i + 1) hc1 (by omega) (Sub.ofD 0 (Eq.trans (b := [.r v7 4 1 cs.length (setAt ((zm cs i).flatMap FB) ((i : Int).toNat * 1) [val (.bool (decide (cs.getD (i : Int).toNat default = 0)))])]) rfl (by rw [fB_set (by rw [zm_len]; omega), show ((i : Nat) : Int).toNat = i from by omega, getI hc1, zm_step hc1])) (Sub.cons rfl (imp_eq (congrArg I (by omega))) (Sub.cons rfl (imp _) (Sub.cons rfl (imp _) Sub.nil)))))
  · skip
    have hc1 : ¬ i < cs.length := by have := of_decide_eq_false hc; omega
    refine WP.xt (.xthn (.xthn (.xin (.thn ?_))))
    have hL2 : i = cs.length := by omega
    refine WP.freeze 0 3 FB (zm cs i) rfl (fun _ => rfl) (zm_len cs i).symm rfl rfl ?_
    refine WP.seq ?_
    refine WP.region ?_
    refine WL.op (mv (ot rfl)) (by decide) ?_
    refine WL.op (call (c_r34_runs (ms := zm cs i) (by rw [zm_len]; exact hl)) (.c (ot rfl) .n)) (by decide) ?_
    refine WL.op (asg (ot rfl)) (by decide) ?_
    refine WL.nl (.thn ?_)
    exact WP.rt (.r1 rfl rfl (imp_eq (by rw [hL2, asc_zm])))
theorem c_r34_Counts_Used {cs : List Int} (hl : cs.length ≤ 65536) : PureC Tryz.prog 124 [sl 1 FI cs] (I (usedE cs cs.length)) := by
  refine PureC.of_wp Tryz.func124 (by kernel_rfl) rfl Tryz.ntmps124 (le_ rfl) (fun w0 M0 => ?_)
  refine WP.seq ?_
  refine WP.region ?_
  refine WL.op (asg (oc _)) (by decide) ?_
  refine WL.nl (.thn ?_)
  refine WP.seq ?_
  refine WP.region ?_
  refine WL.op (asg (oc _)) (by decide) ?_
  refine WL.nl (.thn ?_)
  refine WP.seq ?_
  refine WP.seq ?_
  refine WP.region ?_
  refine WL.op (asg (oc _)) (by decide) ?_
  refine WL.nl (.thn ?_)
  refine WP.block ?_
  refine WP.loop (fun y : Nat => []) (fun y => [(4, I (y : Int)), (3, I (usedE cs y)), (0, sl 1 FI cs)]) (fun y => y ≤ cs.length) (fun y => cs.length - y) 0 (Nat.zero_le _) (Sub.of (Sub.cons rfl (imp_eq rfl) (Sub.cons rfl (imp_eq rfl) (Sub.cons rfl (imp _) Sub.nil)))) (fun i hi => ?_)
  replace hi : i ≤ cs.length := hi
  show WP _ _ _ _ [] [(4, I (i : Int)), (3, I (usedE cs i)), (0, sl 1 FI cs)] _ _
  refine WP.seq ?_
  refine WP.seq ?_
  refine WP.region ?_
  refine WL.op (mv (ot rfl)) (by decide) ?_
  refine WL.op (mv (ot rfl)) (by decide) ?_
  refine WL.op (len_ us_ef34_Counts (ot rfl)) (by decide) ?_
  refine WL.op (lss (ot rfl) (ot rfl)) (by decide) ?_
  refine WL.nl (.thn ?_)
  refine WP.cond rfl (fun hc => ?_) (fun hc => ?_)
  · skip
    have hc1 : i < cs.length := by have := of_decide_eq_true hc; omega
    have hub := usedE_bd cs i
    refine WP.sk (.thn ?_)
    refine WP.seq ?_
    refine WP.block ?_
    refine WP.seq ?_
    refine WP.region ?_
    refine WL.op (mv (ot rfl)) (by decide) ?_
    refine WL.op (mv (ot rfl)) (by decide) ?_
    refine WL.op (ixd el_ef34_Counts (ot rfl) (ot rfl) (by omega) (by omega)) (by decide) ?_
    refine WL.op (ld sc_int (ot rfl)) (by decide) ?_
    refine WL.op (gtr (ot rfl) (oc _)) (by decide) ?_
    refine WL.nl (.thn ?_)
    refine WP.cond rfl (fun hc => ?_) (fun hc => ?_)
    · skip
      have hz0 : 0 < cs.getD i 0 := by have := of_decide_eq_true hc; rwa [show ((i : Nat) : Int).toNat = i from by omega, getI hc1] at this
      refine WP.region ?_
      refine WL.op (mv (ot rfl)) (by decide) ?_
      refine WL.op (add (ot rfl) (oc _) (by omega)) (by decide) ?_
      refine WL.op (asg (ot rfl)) (by decide) ?_
      refine WL.nl (.blk (.thn ?_))
      refine WP.region ?_
      refine WL.op (mv (ot rfl)) (by decide) ?_
      refine WL.op (add (ot rfl) (oc _) (by omega)) (by decide) ?_
      refine WL.op (asg (ot rfl)) (by decide) ?_
      exact WL.nl (.again (i + 1) hc1 (by omega) (Sub.of (Sub.cons rfl (imp_eq (congrArg I (by omega))) (Sub.cons rfl (imp_eq (congrArg I (by rw [usedE_step, if_pos hz0]))) (Sub.cons rfl (imp _) Sub.nil)))))
    · skip
      have hz0 : ¬ 0 < cs.getD i 0 := by have := of_decide_eq_false hc; rwa [show ((i : Nat) : Int).toNat = i from by omega, getI hc1] at this
      refine WP.sk (.blk (.thn ?_))
      refine WP.region ?_
      refine WL.op (mv (ot rfl)) (by decide) ?_
      refine WL.op (add (ot rfl) (oc _) (by omega)) (by decide) ?_
      refine WL.op (asg (ot rfl)) (by decide) ?_
      exact WL.nl (.again (i + 1) hc1 (by omega) (Sub.of (Sub.cons rfl (imp_eq (congrArg I (by omega))) (Sub.cons rfl (imp_eq (congrArg I (by rw [usedE_step, if_neg hz0, Int.add_zero]))) (Sub.cons rfl (imp _) Sub.nil)))))
  · skip
    have hc1 : ¬ i < cs.length := by have := of_decide_eq_false hc; omega
    refine WP.xt (.xthn (.xthn (.xin (.thn ?_))))
    refine WP.seq ?_
    refine WP.region ?_
    refine WL.op (mv (ot rfl)) (by decide) ?_
    refine WL.op (asg (ot rfl)) (by decide) ?_
    refine WL.nl (.thn ?_)
    exact WP.rt (.r1 rfl rfl (imp_eq (by rw [show i = cs.length from by omega])))
end Go.Proofs.YtjglgfnhgehpeaaGreat

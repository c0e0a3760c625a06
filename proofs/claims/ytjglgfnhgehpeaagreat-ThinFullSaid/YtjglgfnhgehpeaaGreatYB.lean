/- Parts: L37w, L37p, ThE. -/
import Derived.Test.YtjglgfnhgehpeaaGreatYA
import Derived.Test.YtjglgfnhgehpeaaGreatYy
/- The law of space accounting: writes and permitted steps. -/
set_option linter.unusedVariables false
set_option linter.unusedSimpArgs false
set_option maxRecDepth 4000
namespace Go.Proofs.YtjglgfnhgehpeaaGreat
open Go.RowKit Go.Fw Go.Xt
def lowA (cs : List Int) (s : Nat) : List Int := (asc s fun s => decide (cs.getD s 0 = 0)).take 1
theorem lowA_nil {cs : List Int} {s : Nat} (h : (lowA cs s).length < 1) : (asc s fun s => decide (cs.getD s 0 = 0)) = [] := by
  unfold lowA at h
  rw [List.length_take] at h
  exact List.eq_nil_of_length_eq_zero (by omega)
theorem lowA_pos {cs : List Int} {s : Nat} (hz : cs.getD s 0 = 0) (h : (lowA cs s).length < 1) : lowA cs (s + 1) = lowA cs s ++ [(s : Int)] := by
  have e := lowA_nil h
  unfold lowA
  rw [asc_step, e, if_pos (decide_eq_true hz)]
  rfl
theorem lowA_neg {cs : List Int} {s : Nat} (hz : ¬ cs.getD s 0 = 0) : lowA cs (s + 1) = lowA cs s := by
  unfold lowA
  rw [asc_step, if_neg (by rw [decide_eq_true_eq]; exact hz), List.append_nil]
theorem asc_pre (p : Nat → Bool) (s : Nat) : ∀ k : Nat, ∃ L, asc (s + k) p = asc s p ++ L
  | 0 => ⟨[], by simp⟩
  | k + 1 => by
    obtain ⟨L, e⟩ := asc_pre p s k
    exact ⟨L ++ (if p (s + k) then [((s + k : Nat) : Int)] else []), by rw [← Nat.add_assoc, asc_step, e, List.append_assoc]⟩
theorem lowA_end {cs : List Int} {s : Nat} (hs : s ≤ cs.length) (h : ¬ (s < cs.length ∧ (lowA cs s).length < 1)) : lowA cs s = (za cs).take 1 := by
  by_cases q : s < cs.length
  · have h1 : ¬ (lowA cs s).length < 1 := fun x => h ⟨q, x⟩
    obtain ⟨L, e⟩ := asc_pre (fun s => decide (cs.getD s 0 = 0)) s (cs.length - s)
    rw [show s + (cs.length - s) = cs.length from by omega] at e
    unfold za
    rw [e]
    unfold lowA at h1 ⊢
    cases hA : asc s fun s => decide (cs.getD s 0 = 0) with
    | nil => rw [hA] at h1; simp at h1
    | cons u us => rfl
  · have : s = cs.length := by omega
    subst this
    rfl
theorem row_low {A B : List Int} {s : Int} {v : Value} {T : TypeId} {bs : List Box} (h : B = A ++ [s]) : Box.r v T 1 (A.length + 1) (A.flatMap FI ++ [s].flatMap FI) :: bs = .r v T 1 B.length (B.flatMap FI) :: bs := by
  subst h; simp

theorem c_r37_Lowest {g : RF} (h : GOk g) : PureC Tryz.prog 99 [eG g, I 1] (sl 1 FI ((za (rCounts g)).take 1)) := by
  have hgk := h.k
  have hgc := (counts_spec h).1
  refine PureC.of_wp Tryz.func99 (by kernel_rfl) rfl Tryz.ntmps99 (le_ rfl) (fun w0 M0 => ?_)
  refine WP.seq ?_
  refine WP.region ?_
  refine WL.box (ot rfl) (.agg _) (by decide) fun b2 => ?_
  refine WL.op (asg (oc _)) (by decide) ?_
  refine WL.nl (.thn ?_)
  refine WP.seq ?_
  refine WP.region ?_
  refine WL.op (lbs 0 rfl ag_ef36_Family (ot rfl) (le_ rfl)) (by decide) ?_
  refine WL.op (call (c_r36_Family_Counts h) (.c (ot rfl) .n)) (by decide) ?_
  refine WL.op (asg (ot rfl)) (by decide) ?_
  refine WL.nl (.thn ?_)
  refine WP.seq ?_
  refine WP.region ?_
  refine WL.op (asg (oc _)) (by decide) ?_
  refine WL.nl (.thn ?_)
  refine WP.seq ?_
  refine WP.seq ?_
  refine WP.region ?_
  refine WL.op (asg (oc _)) (by decide) ?_
  refine WL.nl (.thn ?_)
  refine WP.nilrow 3 1 ?_
  refine WP.block  ?_
  refine WP.loop (fun y : Nat × Value => [.r y.2 3 1 (lowA (rCounts g) y.1).length ((lowA (rCounts g) y.1).flatMap FI), .b b2 45 [I (g.k : Int), sl 4 FRV g.vs]]) (fun y => [(7, I (y.1 : Int)), (6, val y.2), (5, sl 1 FI (rCounts g)), (1, I 1)]) (fun y => y.1 ≤ (rCounts g).length ∧ y.2.oneCell' = true) (fun y => (rCounts g).length - y.1) (0, nilS) ⟨Nat.zero_le _, rfl⟩ (Sub.ofD 0 rfl (Sub.cons rfl (imp_eq rfl) (Sub.cons rfl (imp  _) (Sub.cons rfl (imp  _) (Sub.cons rfl (imp  _) Sub.nil))))) (fun y hi => ?_)
  obtain ⟨s, v⟩ := y
  replace hi : s ≤ (rCounts g).length ∧ v.oneCell' = true := hi
  show WP _ _ _ _ [.r v 3 1 (lowA (rCounts g) s).length ((lowA (rCounts g) s).flatMap FI), .b b2 45 [I (g.k : Int), sl 4 FRV g.vs]] [(7, I (s : Int)), (6, val v), (5, sl 1 FI (rCounts g)), (1, I 1)] _ _
  refine WP.seq ?_
  refine WP.seq ?_
  refine WP.region ?_
  refine WL.op (mv (ot rfl)) (by decide) ?_
  refine WL.op (mv (ot rfl)) (by decide) ?_
  refine WL.op (len_ us_ef34_Counts (ot rfl)) (by decide) ?_
  refine WL.op (lss (ot rfl) (ot rfl)) (by decide) ?_
  refine WL.op (mv (ot rfl)) (by decide) ?_
  refine WL.gd rfl rfl (Tells.v _ _) (fun hg => mv (ot rfl)) (by decide) ?_
  refine WL.gd rfl rfl (Tells.v _ _) (fun hg => lenr 0 rfl us_s_int (og rfl hg)) (by decide) ?_
  refine WL.gd rfl rfl (Tells.v _ _) (fun hg => mv (ot rfl)) (by decide) ?_
  refine WL.gd rfl rfl (Tells.v _ _) (fun hg => lss (og rfl hg) (og rfl hg)) (by decide) ?_
  refine WL.op (and_ (ot rfl) (ot rfl)) (by decide) ?_
  refine WL.nl (.thn ?_)
  refine WP.cond rfl (fun hc => ?_) (fun hc => ?_)
  · skip
    have hc1 : s < (rCounts g).length ∧ (lowA (rCounts g) s).length < 1 := by simp only [Bool.and_eq_true, decide_eq_true_eq] at hc; omega
    refine WP.sk (.thn ?_)
    refine WP.seq ?_
    refine WP.block ?_
    refine WP.seq ?_
    refine WP.region ?_
    refine WL.op (mv (ot rfl)) (by decide) ?_
    refine WL.op (mv (ot rfl)) (by decide) ?_
    refine WL.op (ixd el_ef34_Counts (ot rfl) (ot rfl) (by omega) (by omega)) (by decide) ?_
    refine WL.op (ld sc_int (ot rfl)) (by decide) ?_
    refine WL.op (eql (ot rfl) (oc _)) (by decide) ?_
    refine WL.nl (.thn ?_)
    refine WP.cond rfl (fun hc => ?_) (fun hc => ?_)
    · skip
      have hz : (rCounts g).getD s 0 = 0 := by have := of_decide_eq_true hc; rwa [show ((s : Nat) : Int).toNat = s from by omega, getI hc1.1] at this
      refine WP.region ?_
      refine WL.op (mv (ot rfl)) (by decide) ?_
      refine WL.op (mv (ot rfl)) (by decide) ?_
      refine WL.op (bsl1 (f := FI) (el := (s : Int)) ei_s_int (ot rfl) (.leaf (.val rfl)) rfl (by decide) (by decide)) (by decide) ?_
      refine WL.app 0 rfl ei_s_int (by decide) (ot rfl) (ot rfl) (by simp) (fun _ => rfl) (by simp only [List.length_singleton]; omega) (by simp only [List.length_singleton]; omega) (by decide) fun v30 h30 => ?_
      refine WL.op (asg (ot rfl)) (by decide) ?_
      refine WL.nl (.blk (.thn ?_))
      refine WP.region ?_
      refine WL.op (mv (ot rfl)) (by decide) ?_
      refine WL.op (add (ot rfl) (oc _) (by omega)) (by decide) ?_
      refine WL.op (asg (ot rfl)) (by decide) ?_
      exact WL.nl (.again (s + 1, v30) ⟨hc1.1, h30⟩ (by show (rCounts g).length - (s + 1) < (rCounts g).length - s; omega) (Sub.ofD 0 (Eq.trans (b := Box.r v30 3 1 ((lowA (rCounts g) s).length + 1) ((lowA (rCounts g) s).flatMap FI ++ [(s : Int)].flatMap FI) :: [.b b2 45 [I (g.k : Int), sl 4 FRV g.vs]]) rfl (row_low (lowA_pos hz hc1.2))) (Sub.cons rfl (imp_eq (congrArg I (by omega))) (Sub.cons rfl (imp  _) (Sub.cons rfl (imp  _) (Sub.cons rfl (imp  _) Sub.nil))))))
    · skip
      have hz : ¬ (rCounts g).getD s 0 = 0 := by have := of_decide_eq_false hc; rwa [show ((s : Nat) : Int).toNat = s from by omega, getI hc1.1] at this
      refine WP.sk (.blk (.thn ?_))
      refine WP.region ?_
      refine WL.op (mv (ot rfl)) (by decide) ?_
      refine WL.op (add (ot rfl) (oc _) (by omega)) (by decide) ?_
      refine WL.op (asg (ot rfl)) (by decide) ?_
      exact WL.nl (.again (s + 1, v) ⟨hc1.1, hi.2⟩ (by show (rCounts g).length - (s + 1) < (rCounts g).length - s; omega) (Sub.ofD 0 (by dsimp only; rw [lowA_neg hz]; rfl) (Sub.cons rfl (imp_eq (congrArg I (by omega))) (Sub.cons rfl (imp  _) (Sub.cons rfl (imp  _) (Sub.cons rfl (imp  _) Sub.nil))))))
  · skip
    have hc1 : ¬ (s < (rCounts g).length ∧ (lowA (rCounts g) s).length < 1) := by simp only [Bool.and_eq_false_iff, decide_eq_false_iff_not] at hc; omega
    refine WP.xt (.xthn (.xthn (.xin (.thn ?_))))
    refine WP.freeze 0 6 FI (lowA (rCounts g) s) rfl (fun _ => rfl) rfl rfl rfl ?_
    refine WP.seq ?_
    refine WP.region ?_
    refine WL.op (mv (ot rfl)) (by decide) ?_
    refine WL.op (asg (ot rfl)) (by decide) ?_
    refine WL.nl (.thn ?_)
    exact WP.rt (.r1 rfl rfl (imp_eq (by rw [lowA_end hi.1 hc1])))
theorem wr1_skip {q : Fam × RF} {s : ByteArray} {k : Int} (h : (rNeed q.2 s k 1).1 = 0) : wr1 q s k = q := if_pos h
abbrev fst1 (g : RF) : Int := ((za (rCounts g)).take 1).getD (0 : Int).toNat default
theorem wr1_do {q : Fam × RF} {s : ByteArray} {k : Int} (h : ¬ (rNeed q.2 s k 1).1 = 0) (hz : za (rCounts q.2) ≠ []) : wr1 q s k = ((fAssign q.1 s ⟨k, 1, fst1 q.2⟩).1, (rAssign q.2 s ⟨k, 1, fst1 q.2⟩).1) := by
  unfold wr1 fst1
  rw [if_neg h]
  cases hza : za (rCounts q.2) with
  | nil => exact absurd hza hz
  | cons u us => rfl
theorem sm_wr1 {q : Fam × RF} (h : Rel q.1 q.2) (hs : Sm q.2) {s : ByteArray} {k : Int} : Sm (wr1 q s k).2 := by
  unfold wr1
  split
  · exact hs
  · split
    · exact hs
    · exact sm_assign h.ok hs
theorem sm_wr {p : Fam × RF} {s : ByteArray} {n0 r0 a e : Int} {v : RV} (h : WI p s n0 r0 a a e v) (h0 : 0 ≤ a) (he : e ≤ n0) (hs : Sm p.2) : ∀ j : Nat, a + j ≤ e → Sm (wrN p s a j).2
  | 0, _ => hs
  | j + 1, hj => by
    obtain ⟨v', hw⟩ := wr_run h h0 he j (by omega)
    exact sm_wr1 hw.snd.rel (sm_wr h h0 he hs j (by omega))
theorem take1_len {L : List Int} (h : L ≠ []) : (L.take 1).length = 1 := by
  cases L with
  | nil => exact absurd rfl h
  | cons u us => rfl

theorem c_w37_write {p : Fam × RF} (h : Snd p) (hsm : Sm p.2) {s : ByteArray} {a n : Int} (hc0 : rCanWrite p.2 s a n = 0) : PureC Tryz.prog 59 [eF p.1, eG p.2, val (.string s), I a, I n] (tup [eF (wrN p s a n.toNat).1, eG (wrN p s a n.toNat).2, val (.bool true)]) := by
  obtain ⟨v, hv, h0, hn, he, hw, hn1, hn2⟩ := wi_start h hc0
  have hvn := (h.rel.ok.vol v (gl_mem hv).1).n
  refine PureC.of_wp Tryz.func59 (by kernel_rfl) rfl Tryz.ntmps59 (le_ rfl) (fun w0 M0 => ?_)
  refine WP.seq ?_
  refine WP.region ?_
  refine WL.box (ot rfl) (.agg _) (by decide) fun b5 => ?_
  refine WL.box (ot rfl) (.agg _) (by decide) fun b6 => ?_
  refine WL.alloc zr_family_Family rfl (by decide) fun b10 => ?_
  refine WL.alloc zr_ef36_Family rfl (by decide) fun b11 => ?_
  refine WL.op (asg (oc _)) (by decide) ?_
  refine WL.nl (.thn ?_)
  refine WP.seq ?_
  refine WP.region ?_
  refine WL.op (lbs 2 rfl ag_ef36_Family (ot rfl) (le_ rfl)) (by decide) ?_
  refine WL.op (mv (ot rfl)) (by decide) ?_
  refine WL.op (mv (ot rfl)) (by decide) ?_
  refine WL.op (mv (ot rfl)) (by decide) ?_
  refine WL.op (call (c_r37_Need (s := s) (a := a) (n := n) h.rel.ok hsm) (.c (ot rfl) (.c (ot rfl) (.c (ot rfl) (.c (ot rfl) .n))))) (by decide) ?_
  refine WL.op (mv (ot rfl)) (by decide) ?_
  refine WL.op (ex (ot rfl) rfl) (by decide) ?_
  refine WL.op (ex (ot rfl) rfl) (by decide) ?_
  refine WL.op (asg (ot rfl)) (by decide) ?_
  refine WL.op (asg (ot rfl)) (by decide) ?_
  refine WL.nl (.thn ?_)
  refine WP.seq ?_
  refine WP.seq ?_
  refine WP.region ?_
  refine WL.op (mv (ot rfl)) (by decide) ?_
  refine WL.op (lbs 2 rfl ag_ef36_Family (ot rfl) (le_ rfl)) (by decide) ?_
  refine WL.op (call (c_r37_Free h.rel.ok) (.c (ot rfl) .n)) (by decide) ?_
  refine WL.op (OpG.weak (R' := val (.bool false)) (gtr  (ot rfl) (ot rfl)) (imp_eq (congrArg (fun b => val (.bool b)) (decide_eq_false (by rw [free_eq h.rel.ok]; omega))))) (by decide) ?_
  refine WL.nl (.thn ?_)
  refine WP.condF rfl ?_
  refine WP.sk (.thn ?_)
  refine WP.seq ?_
  refine WP.seq ?_
  refine WP.region ?_
  refine WL.op (mv (ot rfl)) (by decide) ?_
  refine WL.op (asg (ot rfl)) (by decide) ?_
  refine WL.nl (.thn ?_)
  refine WP.block ?_
  refine WP.loop (fun y : Nat => [.b b11 45 [I 0, val nilS], .b b10 28 [val nilS, val (.map none)], .b b6 45 [I ((wrN p s a y).2.k : Int), sl 4 FRV (wrN p s a y).2.vs], .b b5 28 [sl 1 FI (wrN p s a y).1.cs, mp FV (wrN p s a y).1.vs]]) (fun y => [(15, I (a + (y : Int))), (11, val (.pointer (some ⟨b11, 0, none⟩))), (10, val (.pointer (some ⟨b10, 0, none⟩))), (6, val (.pointer (some ⟨b6, 0, none⟩))), (5, val (.pointer (some ⟨b5, 0, none⟩))), (2, val (.string s)), (3, I a), (4, I n)]) (fun y => y ≤ n.toNat) (fun y => n.toNat - y) 0 (Nat.zero_le _) (Sub.ofD 0 rfl (Sub.cons rfl (imp_eq (congrArg I (by omega))) (Sub.cons rfl (imp  _) (Sub.cons rfl (imp  _) (Sub.cons rfl (imp  _) (Sub.cons rfl (imp  _) (Sub.cons rfl (imp  _) (Sub.cons rfl (imp  _) (Sub.cons rfl (imp  _) Sub.nil))))))))) (fun j hj => ?_)
  replace hj : j ≤ n.toNat := hj
  show WP _ _ _ _ [.b b11 45 [I 0, val nilS], .b b10 28 [val nilS, val (.map none)], .b b6 45 [I ((wrN p s a j).2.k : Int), sl 4 FRV (wrN p s a j).2.vs], .b b5 28 [sl 1 FI (wrN p s a j).1.cs, mp FV (wrN p s a j).1.vs]] [(15, I (a + (j : Int))), (11, val (.pointer (some ⟨b11, 0, none⟩))), (10, val (.pointer (some ⟨b10, 0, none⟩))), (6, val (.pointer (some ⟨b6, 0, none⟩))), (5, val (.pointer (some ⟨b5, 0, none⟩))), (2, val (.string s)), (3, I a), (4, I n)] _ _
  refine WP.seq ?_
  refine WP.seq ?_
  refine WP.region ?_
  refine WL.op (mv (ot rfl)) (by decide) ?_
  refine WL.op (mv (ot rfl)) (by decide) ?_
  refine WL.op (mv (ot rfl)) (by decide) ?_
  refine WL.op (add (ot rfl) (ot rfl) (by omega)) (by decide) ?_
  refine WL.op (lss (ot rfl) (ot rfl)) (by decide) ?_
  refine WL.nl (.thn ?_)
  refine WP.cond rfl (fun hc => ?_) (fun hc => ?_)
  · skip
    have hc1 : j < n.toNat := by have := of_decide_eq_true hc; omega
    obtain ⟨vj, hwj⟩ := wr_run hw h0 he j (by omega)
    have hst := wr_step hwj h0 (by omega) (by omega) he
    have hsj := sm_wr hw h0 he hsm j (by omega)
    refine WP.sk (.thn ?_)
    refine WP.seq ?_
    refine WP.block ?_
    refine WP.seq ?_
    refine WP.region ?_
    refine WL.op (lbs 2 rfl ag_ef36_Family (ot rfl) (le_ rfl)) (by decide) ?_
    refine WL.op (mv (ot rfl)) (by decide) ?_
    refine WL.op (mv (ot rfl)) (by decide) ?_
    refine WL.op (call (c_r37_Need (s := s) (a := a + (j : Int)) (n := 1) hwj.snd.rel.ok hsj) (.c (ot rfl) (.c (ot rfl) (.c (ot rfl) (.c (oc _) .n))))) (by decide) ?_
    refine WL.op (mv (ot rfl)) (by decide) ?_
    refine WL.op (ex (ot rfl) rfl) (by decide) ?_
    refine WL.op (ex (ot rfl) rfl) (by decide) ?_
    refine WL.op (asg (ot rfl)) (by decide) ?_
    refine WL.op (asg (ot rfl)) (by decide) ?_
    refine WL.nl (.thn ?_)
    refine WP.seq ?_
    refine WP.region ?_
    refine WL.op (lbs 2 rfl ag_ef36_Family (ot rfl) (le_ rfl)) (by decide) ?_
    refine WL.op (call (c_r37_Lowest hwj.snd.rel.ok) (.c (ot rfl) (.c (oc _) .n))) (by decide) ?_
    refine WL.op (asg (ot rfl)) (by decide) ?_
    refine WL.nl (.thn ?_)
    refine WP.seq ?_
    refine WP.seq ?_
    refine WP.region ?_
    refine WL.op (mv (ot rfl)) (by decide) ?_
    refine WL.op (eql  (ot rfl) (oc _)) (by decide) ?_
    refine WL.nl (.thn ?_)
    refine WP.cond rfl (fun hc => ?_) (fun hc => ?_)
    · skip
      have hz : (rNeed (wrN p s a j).2 s (a + (j : Int)) 1).1 = 0 := of_decide_eq_true hc
      refine WP.xt (.xthn (.xin (.thn ?_)))
      refine WP.region ?_
      refine WL.op (mv (ot rfl)) (by decide) ?_
      refine WL.op (add (ot rfl) (oc _) (by omega)) (by decide) ?_
      refine WL.op (asg (ot rfl)) (by decide) ?_
      exact WL.nl (.again (j + 1) (by omega) (by omega) (Sub.ofD 0 (by show _ = ([.b b11 45 [I 0, val nilS], .b b10 28 [val nilS, val (.map none)], .b b6 45 [I ((wrN p s a (j + 1)).2.k : Int), sl 4 FRV (wrN p s a (j + 1)).2.vs], .b b5 28 [sl 1 FI (wrN p s a (j + 1)).1.cs, mp FV (wrN p s a (j + 1)).1.vs]] : List Box); rw [show (wrN p s a (j + 1)) = (wrN p s a j) from wr1_skip hz]; rfl) (Sub.cons rfl (imp_eq (congrArg I (by omega))) (Sub.cons rfl (imp  _) (Sub.cons rfl (imp  _) (Sub.cons rfl (imp  _) (Sub.cons rfl (imp  _) (Sub.cons rfl (imp  _) (Sub.cons rfl (imp  _) (Sub.cons rfl (imp  _) Sub.nil))))))))))
    · skip
      have hz : ¬ (rNeed (wrN p s a j).2 s (a + (j : Int)) 1).1 = 0 := of_decide_eq_false hc
      have hza := hst.2.1 hz
      have hfl := take1_len hza
      refine WP.sk (.thn ?_)
      refine WP.seq ?_
      refine WP.seq ?_
      refine WP.region ?_
      refine WL.op (mv (ot rfl)) (by decide) ?_
      refine WL.op (len_ us_s_int (ot rfl)) (by decide) ?_
      refine WL.op (OpG.weak (R' := val (.bool false)) (eql  (ot rfl) (oc _)) (imp_eq (congrArg (fun b => val (.bool b)) (decide_eq_false (by omega))))) (by decide) ?_
      refine WL.nl (.thn ?_)
      refine WP.condF rfl ?_
      refine WP.sk (.thn ?_)
      refine WP.seq ?_
      refine WP.region ?_
      refine WL.op (mv (ot rfl)) (by decide) ?_
      refine WL.op (mv (ot rfl)) (by decide) ?_
      refine WL.op (ixd el_s_int (ot rfl) (oc _) (by omega) (by omega)) (by decide) ?_
      refine WL.op (ld sc_int (ot rfl)) (by decide) ?_
      refine WL.op (bld zr_Extent rfl ps_Extent (.c (ot rfl) (.leaf (.val rfl)) pl_Extent_0 rfl (le_ rfl) (.c (oc _) (.leaf (.val rfl)) pl_Extent_1 rfl (le_ rfl) (.c (ot rfl) (.leaf (.val rfl)) pl_Extent_2 rfl (le_ rfl) .n)))) (by decide) ?_
      refine WL.alloc zr_Extent rfl (by decide) fun b19 => ?_
      refine WL.store 0 rfl (ot rfl) (ot rfl) (.agg _) sz_Extent rfl (le_ rfl) ?_
      refine WL.nl (.thn ?_)
      refine WP.seq ?_
      refine WP.region ?_
      refine WL.op (lbs 4 rfl ag_family_Family (ot rfl) (le_ rfl)) (by decide) ?_
      refine WL.op (mv (ot rfl)) (by decide) ?_
      refine WL.op (lbs 0 rfl ag_Extent (ot rfl) (le_ rfl)) (by decide) ?_
      refine WL.op (call (c_family_Family_Assign (s := s) (x := (⟨a + (j : Int), 1, fst1 (wrN p s a j).2⟩ : X)) hwj.snd.rel.fw) (.c (ot rfl) (.c (ot rfl) (.c (ot rfl) .n)))) (by decide) ?_
      refine WL.op (mv (ot rfl)) (by decide) ?_
      refine WL.op (ex (ot rfl) rfl) (by decide) ?_
      refine WL.op (ex (ot rfl) rfl) (by decide) ?_
      refine WL.op (ex (ot rfl) rfl) (by decide) ?_
      refine WL.store 4 rfl (ot rfl) (ot rfl) (.agg _) sz_family_Family rfl (le_ rfl) ?_
      refine WL.nl (.thn ?_)
      refine WP.region ?_
      refine WL.op (lbs 3 rfl ag_ef36_Family (ot rfl) (le_ rfl)) (by decide) ?_
      refine WL.op (mv (ot rfl)) (by decide) ?_
      refine WL.op (lbs 0 rfl ag_Extent (ot rfl) (le_ rfl)) (by decide) ?_
      refine WL.op (call (c_r36_Family_Assign (s := s) (x := (⟨a + (j : Int), 1, fst1 (wrN p s a j).2⟩ : X)) hwj.snd.rel.ok hsj) (.c (ot rfl) (.c (ot rfl) (.c (ot rfl) .n)))) (by decide) ?_
      refine WL.op (mv (ot rfl)) (by decide) ?_
      refine WL.op (ex (ot rfl) rfl) (by decide) ?_
      refine WL.op (ex (ot rfl) rfl) (by decide) ?_
      refine WL.op (ex (ot rfl) rfl) (by decide) ?_
      refine WL.store 3 rfl (ot rfl) (ot rfl) (.agg _) sz_ef36_Family rfl (le_ rfl) ?_
      refine WL.nl (.blk (.thn ?_))
      refine WP.region ?_
      refine WL.op (mv (ot rfl)) (by decide) ?_
      refine WL.op (add (ot rfl) (oc _) (by omega)) (by decide) ?_
      refine WL.op (asg (ot rfl)) (by decide) ?_
      exact WL.nl (.again (j + 1) (by omega) (by omega) (Sub.ofD 1 (by show _ = ([.b b11 45 [I 0, val nilS], .b b10 28 [val nilS, val (.map none)], .b b6 45 [I ((wrN p s a (j + 1)).2.k : Int), sl 4 FRV (wrN p s a (j + 1)).2.vs], .b b5 28 [sl 1 FI (wrN p s a (j + 1)).1.cs, mp FV (wrN p s a (j + 1)).1.vs]] : List Box); rw [show (wrN p s a (j + 1)) = _ from wr1_do hz hza]; rfl) (Sub.cons rfl (imp_eq (congrArg I (by omega))) (Sub.cons rfl (imp  _) (Sub.cons rfl (imp  _) (Sub.cons rfl (imp  _) (Sub.cons rfl (imp  _) (Sub.cons rfl (imp  _) (Sub.cons rfl (imp  _) (Sub.cons rfl (imp  _) Sub.nil))))))))))
  · skip
    have hc1 : ¬ j < n.toNat := by have := of_decide_eq_false hc; omega
    refine WP.xt (.xthn (.xthn (.xin (.thn ?_))))
    refine WP.seq ?_
    refine WP.drawsH [0, 1] ?_
    refine RG.opE (lbs 3 rfl ag_family_Family (ot rfl) (le_ rfl)) ?_
    refine RG.op (lbs 2 rfl ag_ef36_Family (ot rfl) (le_ rfl)) ?_
    refine RG.sx (OpE.store 1 rfl (ot rfl) (ot rfl) (.agg _) sz_family_Family rfl (le_ rfl)) rfl ?_
    refine RG.sx (OpE.store 0 rfl (ot rfl) (ot rfl) (.agg _) sz_ef36_Family rfl (le_ rfl)) rfl ?_
    refine RG.op (asg (oc _)) ?_
    refine RG.fin HM (by kernel_rfl) ?_
    show WL _ _ _ _ _ _ _ _ _
    refine WL.nl (.thn ?_)
    exact WP.rt (.rN rfl (.cons (.bx 1 rfl rfl ag_family_Family) (.cons (.bx 0 rfl rfl ag_ef36_Family) (.cons (.tm rfl) .nil))) (le_ rfl) (imp_eq (by rw [show n.toNat = j from by omega] <;> rfl)))
end Go.Proofs.YtjglgfnhgehpeaaGreat

/- The law of space accounting: permitted steps. -/
set_option linter.unusedVariables false
set_option linter.unusedSimpArgs false
set_option maxRecDepth 4000
namespace Go.Proofs.YtjglgfnhgehpeaaGreat
open Go.RowKit Go.Fw Go.Xt
theorem condT' {P : Program} {w0 : World} {M0 : Mask} {n : Nat} {bs : List Box} {st : St} {Q : Exit → Act → World → Prop} {i : Nat} {b : Bool} {x y : Code} (hs : Go.Fw.look st i = some (val (.bool b))) (e : b = true) (h : WP P w0 M0 n bs st x Q) : WP P w0 M0 n bs st (.cond (.tmp i) x y) Q := WP.cond hs (fun _ => h) (fun q => by rw [e] at q; cases q)
theorem ap_pos {p : Fam × RF} (h : Rel p.1 p.2) {t : St6} (he : (rApply p.2 t).2.2 = 0) : ap p t = (fA p.1 t, (rApply p.2 t).1) := by
  rw [← fA_ap h]
  unfold ap
  rw [if_pos he]
theorem ap_neg {p : Fam × RF} (h : Rel p.1 p.2) {t : St6} (he : ¬ (rApply p.2 t).2.2 = 0) : ap p t = (fA p.1 t, p.2) := by
  rw [← fA_ap h]
  unfold ap
  rw [if_neg he]
theorem sm_pm {p : Fam × RF} (h : Snd p) (hs : Sm p.2) {t : St6} (ht : t.U8) : Sm (pm p t).2 := by
  have h1 := (ap_rs ⟨h.rel, hs⟩ ht).sm
  unfold pm
  split
  · split
    · exact h1
    · exact hs
  split
  · split
    · exact h1
    · exact hs
  split
  · exact h1
  split
  · rename_i q
    obtain ⟨v, _, i1, i2, i3, hw, _⟩ := wi_start h q
    exact sm_wr hw i1 i3 hs t.n.toNat (by omega)
  · exact hs

theorem c_w37_permitted {p : Fam × RF} (h : Snd p) (hsm : Sm p.2) {t : St6} (ht : t.U8) : PureC Tryz.prog 56 [eF p.1, eG p.2, agg (FS6 t)] (tup [eF (pm p t).1, eG (pm p t).2, val (.bool true)]) := by
  have hk := ht.k; have hv := ht.v; have ho := ht.o; have ha := ht.a; have hn := ht.n; have hs := ht.s
  refine PureC.of_wp Tryz.func56 (by kernel_rfl) rfl Tryz.ntmps56 (le_ rfl) (fun w0 M0 => ?_)
  refine WP.seq ?_
  refine WP.region ?_
  refine WL.box (ot rfl) (.agg _) (by decide) fun b3 => ?_
  refine WL.box (ot rfl) (.agg _) (by decide) fun b4 => ?_
  refine WL.box (ot rfl) (.agg _) (by decide) fun b5 => ?_
  refine WL.alloc zr_family_Family rfl (by decide) fun b6 => ?_
  refine WL.alloc zr_ef36_Family rfl (by decide) fun b7 => ?_
  refine WL.op (asg (oc _)) (by decide) ?_
  refine WL.nl (.thn ?_)
  refine WP.seq ?_
  refine WP.region ?_
  refine WL.op (fv fo_ef36_Step_1 (ot rfl)) (by decide) ?_
  refine WL.op (lb 2 rfl sc_uint8 (ot rfl) rfl) (by decide) ?_
  refine WL.op (call (c_r36_Names ht.v) (.c (ot rfl) .n)) (by decide) ?_
  refine WL.op (asg (ot rfl)) (by decide) ?_
  refine WL.nl (.thn ?_)
  refine WP.seq ?_
  refine WP.seq ?_
  refine WP.region ?_
  refine WL.op (fv fo_ef36_Step_0 (ot rfl)) (by decide) ?_
  refine WL.op (lb 2 rfl sc_uint8 (ot rfl) rfl) (by decide) ?_
  refine WL.op (rem_ (ot rfl) (oc _) (by omega) (by omega)) (by decide) ?_
  refine WL.nl (.thn ?_)
  refine WP.block ?_
  refine WP.seq ?_
  refine WP.region ?_
  refine WL.op (eql (ot rfl) (oc _)) (by decide) ?_
  refine WL.op (asg (ot rfl)) (by decide) ?_
  refine WL.nl (.thn ?_)
  refine WP.cond rfl (fun hc => ?_) (fun hc => ?_)
  · skip
    have h0 : t.k % 8 = 0 := of_decide_eq_true hc
    refine WP.seq ?_
    refine WP.region ?_
    refine WL.op (lbs 4 rfl ag_family_Family (ot rfl) (le_ rfl)) (by decide) ?_
    refine WL.op (fv fo_ef36_Step_4 (ot rfl)) (by decide) ?_
    refine WL.op (lb 2 rfl sc_uint8 (ot rfl) rfl) (by decide) ?_
    refine WL.op (cv un_uint8 un_int (ot rfl) (IntWalk.i64_in _ (by omega))) (by decide) ?_
    refine WL.op (fv fo_ef36_Step_3 (ot rfl)) (by decide) ?_
    refine WL.op (lb 2 rfl sc_uint8 (ot rfl) rfl) (by decide) ?_
    refine WL.op (cv un_uint8 un_int (ot rfl) (IntWalk.i64_in _ (by omega))) (by decide) ?_
    refine WL.op (call (c_thin_CanCreate (n := t.n) (r := t.a) h.rel) (.c (ot rfl) (.c (ot rfl) (.c (ot rfl) .n)))) (by decide) ?_
    refine WL.op (neq (ot rfl) (oc _)) (by decide) ?_
    refine WL.nl (.thn ?_)
    refine WP.cond rfl (fun hc => ?_) (fun hc => ?_)
    · skip
      have hz : ¬ rCanCreate p.2 t.n t.a = 0 := by simpa using hc
      have hpm : pm p t = p := by unfold pm; rw [if_pos h0, if_neg hz]
      refine WP.seq ?_
      refine WP.drawsH [0, 1] ?_
      refine RG.opE (lbs 4 rfl ag_family_Family (ot rfl) (le_ rfl)) ?_
      refine RG.op (lbs 3 rfl ag_ef36_Family (ot rfl) (le_ rfl)) ?_
      refine RG.sx (OpE.store 1 rfl (ot rfl) (ot rfl) (.agg _) sz_family_Family rfl (le_ rfl)) rfl ?_
      refine RG.sx (OpE.store 0 rfl (ot rfl) (ot rfl) (.agg _) sz_ef36_Family rfl (le_ rfl)) rfl ?_
      refine RG.op (asg (oc _)) ?_
      refine RG.fin HM (by kernel_rfl) ?_
      show WL _ _ _ _ _ _ _ _ _
      refine WL.nl (.thn ?_)
      exact WP.rt (.rblk (.rthn (.rN rfl (.cons (.bx 1 rfl rfl ag_family_Family) (.cons (.bx 0 rfl rfl ag_ef36_Family) (.cons (.tm rfl) .nil))) (le_ rfl) (imp_eq (by rw [hpm] <;> rfl)))))
    · skip
      have hz : rCanCreate p.2 t.n t.a = 0 := by simpa using hc
      have hpa : pm p t = ap p t := by unfold pm; rw [if_pos h0, if_pos hz]
      refine WP.sk (.blk (.thn ?_))
      refine WP.seq ?_
      refine WP.region ?_
      refine WL.op (lbs 4 rfl ag_family_Family (ot rfl) (le_ rfl)) (by decide) ?_
      refine WL.op (lbs 2 rfl ag_ef36_Step (ot rfl) (le_ rfl)) (by decide) ?_
      refine WL.op (call (c_w37_apply (t := t) h.rel.fw ht) (.c (ot rfl) (.c (ot rfl) .n))) (by decide) ?_
      refine WL.store 4 rfl (ot rfl) (ot rfl) (.agg _) sz_family_Family rfl (le_ rfl) ?_
      refine WL.nl (.thn ?_)
      refine WP.seq ?_
      refine WP.seq ?_
      refine WP.region ?_
      refine WL.op (lbs 3 rfl ag_ef36_Family (ot rfl) (le_ rfl)) (by decide) ?_
      refine WL.op (lbs 2 rfl ag_ef36_Step (ot rfl) (le_ rfl)) (by decide) ?_
      refine WL.op (call (c_r36_Family_Apply (t := t) h.rel.ok hsm ht) (.c (ot rfl) (.c (ot rfl) .n))) (by decide) ?_
      refine WL.op (mv (ot rfl)) (by decide) ?_
      refine WL.op (ex (ot rfl) rfl) (by decide) ?_
      refine WL.op (ex (ot rfl) rfl) (by decide) ?_
      refine WL.op (ex (ot rfl) rfl) (by decide) ?_
      refine WL.alloc zr_ef36_Family rfl (by decide) fun b10 => ?_
      refine WL.store 0 rfl (ot rfl) (ot rfl) (.agg _) sz_ef36_Family rfl (le_ rfl) ?_
      refine WL.op (asg (ot rfl)) (by decide) ?_
      refine WL.op (asg (ot rfl)) (by decide) ?_
      refine WL.nl (.thn ?_)
      refine WP.seq ?_
      refine WP.region ?_
      refine WL.op (mv (ot rfl)) (by decide) ?_
      refine WL.op (eql (ot rfl) (oc _)) (by decide) ?_
      refine WL.nl (.thn ?_)
      refine WP.cond rfl (fun hc => ?_) (fun hc => ?_)
      · skip
        have hpm := hpa.trans (ap_pos h.rel (of_decide_eq_true hc))
        refine WP.region ?_
        refine WL.op (lbs 0 rfl ag_ef36_Family (ot rfl) (le_ rfl)) (by decide) ?_
        refine WL.store 4 rfl (ot rfl) (ot rfl) (.agg _) sz_ef36_Family rfl (le_ rfl) ?_
        refine WL.nl (.thn ?_)
        refine WP.seq ?_
        refine WP.drawsH [1, 2] ?_
        refine RG.opE (lbs 5 rfl ag_family_Family (ot rfl) (le_ rfl)) ?_
        refine RG.op (lbs 4 rfl ag_ef36_Family (ot rfl) (le_ rfl)) ?_
        refine RG.sx (OpE.store 2 rfl (ot rfl) (ot rfl) (.agg _) sz_family_Family rfl (le_ rfl)) rfl ?_
        refine RG.sx (OpE.store 1 rfl (ot rfl) (ot rfl) (.agg _) sz_ef36_Family rfl (le_ rfl)) rfl ?_
        refine RG.op (asg (oc _)) ?_
        refine RG.fin HM (by kernel_rfl) ?_
        show WL _ _ _ _ _ _ _ _ _
        refine WL.nl (.thn ?_)
        exact WP.rt (.rN rfl (.cons (.bx 2 rfl rfl ag_family_Family) (.cons (.bx 1 rfl rfl ag_ef36_Family) (.cons (.tm rfl) .nil))) (le_ rfl) (imp_eq (by rw [hpm] <;> rfl)))
      · skip
        have hpm := hpa.trans (ap_neg h.rel (of_decide_eq_false hc))
        refine WP.sk (.thn ?_)
        refine WP.seq ?_
        refine WP.drawsH [1, 2] ?_
        refine RG.opE (lbs 5 rfl ag_family_Family (ot rfl) (le_ rfl)) ?_
        refine RG.op (lbs 4 rfl ag_ef36_Family (ot rfl) (le_ rfl)) ?_
        refine RG.sx (OpE.store 2 rfl (ot rfl) (ot rfl) (.agg _) sz_family_Family rfl (le_ rfl)) rfl ?_
        refine RG.sx (OpE.store 1 rfl (ot rfl) (ot rfl) (.agg _) sz_ef36_Family rfl (le_ rfl)) rfl ?_
        refine RG.op (asg (oc _)) ?_
        refine RG.fin HM (by kernel_rfl) ?_
        show WL _ _ _ _ _ _ _ _ _
        refine WL.nl (.thn ?_)
        exact WP.rt (.rN rfl (.cons (.bx 2 rfl rfl ag_family_Family) (.cons (.bx 1 rfl rfl ag_ef36_Family) (.cons (.tm rfl) .nil))) (le_ rfl) (imp_eq (by rw [hpm] <;> rfl)))
  · skip
    have h0 : ¬ t.k % 8 = 0 := of_decide_eq_false hc
    refine WP.seq ?_
    refine WP.region ?_
    refine WL.op (eql (ot rfl) (oc _)) (by decide) ?_
    refine WL.op (asg (ot rfl)) (by decide) ?_
    refine WL.nl (.thn ?_)
    refine WP.cond rfl (fun hc => ?_) (fun hc => ?_)
    · skip
      have h1 : t.k % 8 = 1 := of_decide_eq_true hc
      refine WP.seq ?_
      refine WP.region ?_
      refine WL.op (lbs 4 rfl ag_family_Family (ot rfl) (le_ rfl)) (by decide) ?_
      refine WL.op (mv (ot rfl)) (by decide) ?_
      refine WL.op (call (c_thin_CanClone (s := nm t.v) h.rel) (.c (ot rfl) (.c (ot rfl) .n))) (by decide) ?_
      refine WL.op (neq (ot rfl) (oc _)) (by decide) ?_
      refine WL.nl (.thn ?_)
      refine WP.cond rfl (fun hc => ?_) (fun hc => ?_)
      · skip
        have hz : ¬ rCanClone p.2 (nm t.v) = 0 := by simpa using hc
        have hpm : pm p t = p := by unfold pm; rw [if_neg h0, if_pos h1, if_neg hz]
        refine WP.seq ?_
        refine WP.drawsH [0, 1] ?_
        refine RG.opE (lbs 4 rfl ag_family_Family (ot rfl) (le_ rfl)) ?_
        refine RG.op (lbs 3 rfl ag_ef36_Family (ot rfl) (le_ rfl)) ?_
        refine RG.sx (OpE.store 1 rfl (ot rfl) (ot rfl) (.agg _) sz_family_Family rfl (le_ rfl)) rfl ?_
        refine RG.sx (OpE.store 0 rfl (ot rfl) (ot rfl) (.agg _) sz_ef36_Family rfl (le_ rfl)) rfl ?_
        refine RG.op (asg (oc _)) ?_
        refine RG.fin HM (by kernel_rfl) ?_
        show WL _ _ _ _ _ _ _ _ _
        refine WL.nl (.thn ?_)
        exact WP.rt (.rblk (.rthn (.rN rfl (.cons (.bx 1 rfl rfl ag_family_Family) (.cons (.bx 0 rfl rfl ag_ef36_Family) (.cons (.tm rfl) .nil))) (le_ rfl) (imp_eq (by rw [hpm] <;> rfl)))))
      · skip
        have hz : rCanClone p.2 (nm t.v) = 0 := by simpa using hc
        have hpa : pm p t = ap p t := by unfold pm; rw [if_neg h0, if_pos h1, if_pos hz]
        refine WP.sk (.blk (.thn ?_))
        refine WP.seq ?_
        refine WP.region ?_
        refine WL.op (lbs 4 rfl ag_family_Family (ot rfl) (le_ rfl)) (by decide) ?_
        refine WL.op (lbs 2 rfl ag_ef36_Step (ot rfl) (le_ rfl)) (by decide) ?_
        refine WL.op (call (c_w37_apply (t := t) h.rel.fw ht) (.c (ot rfl) (.c (ot rfl) .n))) (by decide) ?_
        refine WL.store 4 rfl (ot rfl) (ot rfl) (.agg _) sz_family_Family rfl (le_ rfl) ?_
        refine WL.nl (.thn ?_)
        refine WP.seq ?_
        refine WP.seq ?_
        refine WP.region ?_
        refine WL.op (lbs 3 rfl ag_ef36_Family (ot rfl) (le_ rfl)) (by decide) ?_
        refine WL.op (lbs 2 rfl ag_ef36_Step (ot rfl) (le_ rfl)) (by decide) ?_
        refine WL.op (call (c_r36_Family_Apply (t := t) h.rel.ok hsm ht) (.c (ot rfl) (.c (ot rfl) .n))) (by decide) ?_
        refine WL.op (mv (ot rfl)) (by decide) ?_
        refine WL.op (ex (ot rfl) rfl) (by decide) ?_
        refine WL.op (ex (ot rfl) rfl) (by decide) ?_
        refine WL.op (ex (ot rfl) rfl) (by decide) ?_
        refine WL.alloc zr_ef36_Family rfl (by decide) fun b10 => ?_
        refine WL.store 0 rfl (ot rfl) (ot rfl) (.agg _) sz_ef36_Family rfl (le_ rfl) ?_
        refine WL.op (asg (ot rfl)) (by decide) ?_
        refine WL.op (asg (ot rfl)) (by decide) ?_
        refine WL.nl (.thn ?_)
        refine WP.seq ?_
        refine WP.region ?_
        refine WL.op (mv (ot rfl)) (by decide) ?_
        refine WL.op (eql (ot rfl) (oc _)) (by decide) ?_
        refine WL.nl (.thn ?_)
        refine WP.cond rfl (fun hc => ?_) (fun hc => ?_)
        · skip
          have hpm := hpa.trans (ap_pos h.rel (of_decide_eq_true hc))
          refine WP.region ?_
          refine WL.op (lbs 0 rfl ag_ef36_Family (ot rfl) (le_ rfl)) (by decide) ?_
          refine WL.store 4 rfl (ot rfl) (ot rfl) (.agg _) sz_ef36_Family rfl (le_ rfl) ?_
          refine WL.nl (.thn ?_)
          refine WP.seq ?_
          refine WP.drawsH [1, 2] ?_
          refine RG.opE (lbs 5 rfl ag_family_Family (ot rfl) (le_ rfl)) ?_
          refine RG.op (lbs 4 rfl ag_ef36_Family (ot rfl) (le_ rfl)) ?_
          refine RG.sx (OpE.store 2 rfl (ot rfl) (ot rfl) (.agg _) sz_family_Family rfl (le_ rfl)) rfl ?_
          refine RG.sx (OpE.store 1 rfl (ot rfl) (ot rfl) (.agg _) sz_ef36_Family rfl (le_ rfl)) rfl ?_
          refine RG.op (asg (oc _)) ?_
          refine RG.fin HM (by kernel_rfl) ?_
          show WL _ _ _ _ _ _ _ _ _
          refine WL.nl (.thn ?_)
          exact WP.rt (.rN rfl (.cons (.bx 2 rfl rfl ag_family_Family) (.cons (.bx 1 rfl rfl ag_ef36_Family) (.cons (.tm rfl) .nil))) (le_ rfl) (imp_eq (by rw [hpm] <;> rfl)))
        · skip
          have hpm := hpa.trans (ap_neg h.rel (of_decide_eq_false hc))
          refine WP.sk (.thn ?_)
          refine WP.seq ?_
          refine WP.drawsH [1, 2] ?_
          refine RG.opE (lbs 5 rfl ag_family_Family (ot rfl) (le_ rfl)) ?_
          refine RG.op (lbs 4 rfl ag_ef36_Family (ot rfl) (le_ rfl)) ?_
          refine RG.sx (OpE.store 2 rfl (ot rfl) (ot rfl) (.agg _) sz_family_Family rfl (le_ rfl)) rfl ?_
          refine RG.sx (OpE.store 1 rfl (ot rfl) (ot rfl) (.agg _) sz_ef36_Family rfl (le_ rfl)) rfl ?_
          refine RG.op (asg (oc _)) ?_
          refine RG.fin HM (by kernel_rfl) ?_
          show WL _ _ _ _ _ _ _ _ _
          refine WL.nl (.thn ?_)
          exact WP.rt (.rN rfl (.cons (.bx 2 rfl rfl ag_family_Family) (.cons (.bx 1 rfl rfl ag_ef36_Family) (.cons (.tm rfl) .nil))) (le_ rfl) (imp_eq (by rw [hpm] <;> rfl)))
    · skip
      have h1 : ¬ t.k % 8 = 1 := of_decide_eq_false hc
      refine WP.seq ?_
      refine WP.seq ?_
      refine WP.region ?_
      refine WL.op (eql (ot rfl) (oc _)) (by decide) ?_
      refine WL.op (asg (ot rfl)) (by decide) ?_
      refine WL.nl (.thn ?_)
      refine WP.cond rfl (fun hc => ?_) (fun hc => ?_)
      · skip
        have h2 : t.k % 8 = 2 := of_decide_eq_true hc
        have hc2t := hc
        have hpa : pm p t = ap p t := by unfold pm; rw [if_neg h0, if_neg h1, if_pos (.inl h2)]
        refine WP.sk (.thn ?_)
        refine condT' rfl hc2t ?_
        refine WP.sk (.blk (.thn ?_))
        refine WP.seq ?_
        refine WP.region ?_
        refine WL.op (lbs 4 rfl ag_family_Family (ot rfl) (le_ rfl)) (by decide) ?_
        refine WL.op (lbs 2 rfl ag_ef36_Step (ot rfl) (le_ rfl)) (by decide) ?_
        refine WL.op (call (c_w37_apply (t := t) h.rel.fw ht) (.c (ot rfl) (.c (ot rfl) .n))) (by decide) ?_
        refine WL.store 4 rfl (ot rfl) (ot rfl) (.agg _) sz_family_Family rfl (le_ rfl) ?_
        refine WL.nl (.thn ?_)
        refine WP.seq ?_
        refine WP.seq ?_
        refine WP.region ?_
        refine WL.op (lbs 3 rfl ag_ef36_Family (ot rfl) (le_ rfl)) (by decide) ?_
        refine WL.op (lbs 2 rfl ag_ef36_Step (ot rfl) (le_ rfl)) (by decide) ?_
        refine WL.op (call (c_r36_Family_Apply (t := t) h.rel.ok hsm ht) (.c (ot rfl) (.c (ot rfl) .n))) (by decide) ?_
        refine WL.op (mv (ot rfl)) (by decide) ?_
        refine WL.op (ex (ot rfl) rfl) (by decide) ?_
        refine WL.op (ex (ot rfl) rfl) (by decide) ?_
        refine WL.op (ex (ot rfl) rfl) (by decide) ?_
        refine WL.alloc zr_ef36_Family rfl (by decide) fun b10 => ?_
        refine WL.store 0 rfl (ot rfl) (ot rfl) (.agg _) sz_ef36_Family rfl (le_ rfl) ?_
        refine WL.op (asg (ot rfl)) (by decide) ?_
        refine WL.op (asg (ot rfl)) (by decide) ?_
        refine WL.nl (.thn ?_)
        refine WP.seq ?_
        refine WP.region ?_
        refine WL.op (mv (ot rfl)) (by decide) ?_
        refine WL.op (eql (ot rfl) (oc _)) (by decide) ?_
        refine WL.nl (.thn ?_)
        refine WP.cond rfl (fun hc => ?_) (fun hc => ?_)
        · skip
          have hpm := hpa.trans (ap_pos h.rel (of_decide_eq_true hc))
          refine WP.region ?_
          refine WL.op (lbs 0 rfl ag_ef36_Family (ot rfl) (le_ rfl)) (by decide) ?_
          refine WL.store 4 rfl (ot rfl) (ot rfl) (.agg _) sz_ef36_Family rfl (le_ rfl) ?_
          refine WL.nl (.thn ?_)
          refine WP.seq ?_
          refine WP.drawsH [1, 2] ?_
          refine RG.opE (lbs 5 rfl ag_family_Family (ot rfl) (le_ rfl)) ?_
          refine RG.op (lbs 4 rfl ag_ef36_Family (ot rfl) (le_ rfl)) ?_
          refine RG.sx (OpE.store 2 rfl (ot rfl) (ot rfl) (.agg _) sz_family_Family rfl (le_ rfl)) rfl ?_
          refine RG.sx (OpE.store 1 rfl (ot rfl) (ot rfl) (.agg _) sz_ef36_Family rfl (le_ rfl)) rfl ?_
          refine RG.op (asg (oc _)) ?_
          refine RG.fin HM (by kernel_rfl) ?_
          show WL _ _ _ _ _ _ _ _ _
          refine WL.nl (.thn ?_)
          exact WP.rt (.rN rfl (.cons (.bx 2 rfl rfl ag_family_Family) (.cons (.bx 1 rfl rfl ag_ef36_Family) (.cons (.tm rfl) .nil))) (le_ rfl) (imp_eq (by rw [hpm] <;> rfl)))
        · skip
          have hpm := hpa.trans (ap_neg h.rel (of_decide_eq_false hc))
          refine WP.sk (.thn ?_)
          refine WP.seq ?_
          refine WP.drawsH [1, 2] ?_
          refine RG.opE (lbs 5 rfl ag_family_Family (ot rfl) (le_ rfl)) ?_
          refine RG.op (lbs 4 rfl ag_ef36_Family (ot rfl) (le_ rfl)) ?_
          refine RG.sx (OpE.store 2 rfl (ot rfl) (ot rfl) (.agg _) sz_family_Family rfl (le_ rfl)) rfl ?_
          refine RG.sx (OpE.store 1 rfl (ot rfl) (ot rfl) (.agg _) sz_ef36_Family rfl (le_ rfl)) rfl ?_
          refine RG.op (asg (oc _)) ?_
          refine RG.fin HM (by kernel_rfl) ?_
          show WL _ _ _ _ _ _ _ _ _
          refine WL.nl (.thn ?_)
          exact WP.rt (.rN rfl (.cons (.bx 2 rfl rfl ag_family_Family) (.cons (.bx 1 rfl rfl ag_ef36_Family) (.cons (.tm rfl) .nil))) (le_ rfl) (imp_eq (by rw [hpm] <;> rfl)))
      · skip
        have h2 : ¬ t.k % 8 = 2 := of_decide_eq_false hc
        refine WP.region ?_
        refine WL.op (eql (ot rfl) (oc _)) (by decide) ?_
        refine WL.op (asg (ot rfl)) (by decide) ?_
        refine WL.nl (.thn ?_)
        refine WP.cond rfl (fun hc => ?_) (fun hc => ?_)
        · skip
          have h3 : t.k % 8 = 3 := of_decide_eq_true hc
          have hpa : pm p t = ap p t := by unfold pm; rw [if_neg h0, if_neg h1, if_pos (.inr h3)]
          refine WP.sk (.blk (.thn ?_))
          refine WP.seq ?_
          refine WP.region ?_
          refine WL.op (lbs 4 rfl ag_family_Family (ot rfl) (le_ rfl)) (by decide) ?_
          refine WL.op (lbs 2 rfl ag_ef36_Step (ot rfl) (le_ rfl)) (by decide) ?_
          refine WL.op (call (c_w37_apply (t := t) h.rel.fw ht) (.c (ot rfl) (.c (ot rfl) .n))) (by decide) ?_
          refine WL.store 4 rfl (ot rfl) (ot rfl) (.agg _) sz_family_Family rfl (le_ rfl) ?_
          refine WL.nl (.thn ?_)
          refine WP.seq ?_
          refine WP.seq ?_
          refine WP.region ?_
          refine WL.op (lbs 3 rfl ag_ef36_Family (ot rfl) (le_ rfl)) (by decide) ?_
          refine WL.op (lbs 2 rfl ag_ef36_Step (ot rfl) (le_ rfl)) (by decide) ?_
          refine WL.op (call (c_r36_Family_Apply (t := t) h.rel.ok hsm ht) (.c (ot rfl) (.c (ot rfl) .n))) (by decide) ?_
          refine WL.op (mv (ot rfl)) (by decide) ?_
          refine WL.op (ex (ot rfl) rfl) (by decide) ?_
          refine WL.op (ex (ot rfl) rfl) (by decide) ?_
          refine WL.op (ex (ot rfl) rfl) (by decide) ?_
          refine WL.alloc zr_ef36_Family rfl (by decide) fun b10 => ?_
          refine WL.store 0 rfl (ot rfl) (ot rfl) (.agg _) sz_ef36_Family rfl (le_ rfl) ?_
          refine WL.op (asg (ot rfl)) (by decide) ?_
          refine WL.op (asg (ot rfl)) (by decide) ?_
          refine WL.nl (.thn ?_)
          refine WP.seq ?_
          refine WP.region ?_
          refine WL.op (mv (ot rfl)) (by decide) ?_
          refine WL.op (eql (ot rfl) (oc _)) (by decide) ?_
          refine WL.nl (.thn ?_)
          refine WP.cond rfl (fun hc => ?_) (fun hc => ?_)
          · skip
            have hpm := hpa.trans (ap_pos h.rel (of_decide_eq_true hc))
            refine WP.region ?_
            refine WL.op (lbs 0 rfl ag_ef36_Family (ot rfl) (le_ rfl)) (by decide) ?_
            refine WL.store 4 rfl (ot rfl) (ot rfl) (.agg _) sz_ef36_Family rfl (le_ rfl) ?_
            refine WL.nl (.thn ?_)
            refine WP.seq ?_
            refine WP.drawsH [1, 2] ?_
            refine RG.opE (lbs 5 rfl ag_family_Family (ot rfl) (le_ rfl)) ?_
            refine RG.op (lbs 4 rfl ag_ef36_Family (ot rfl) (le_ rfl)) ?_
            refine RG.sx (OpE.store 2 rfl (ot rfl) (ot rfl) (.agg _) sz_family_Family rfl (le_ rfl)) rfl ?_
            refine RG.sx (OpE.store 1 rfl (ot rfl) (ot rfl) (.agg _) sz_ef36_Family rfl (le_ rfl)) rfl ?_
            refine RG.op (asg (oc _)) ?_
            refine RG.fin HM (by kernel_rfl) ?_
            show WL _ _ _ _ _ _ _ _ _
            refine WL.nl (.thn ?_)
            exact WP.rt (.rN rfl (.cons (.bx 2 rfl rfl ag_family_Family) (.cons (.bx 1 rfl rfl ag_ef36_Family) (.cons (.tm rfl) .nil))) (le_ rfl) (imp_eq (by rw [hpm] <;> rfl)))
          · skip
            have hpm := hpa.trans (ap_neg h.rel (of_decide_eq_false hc))
            refine WP.sk (.thn ?_)
            refine WP.seq ?_
            refine WP.drawsH [1, 2] ?_
            refine RG.opE (lbs 5 rfl ag_family_Family (ot rfl) (le_ rfl)) ?_
            refine RG.op (lbs 4 rfl ag_ef36_Family (ot rfl) (le_ rfl)) ?_
            refine RG.sx (OpE.store 2 rfl (ot rfl) (ot rfl) (.agg _) sz_family_Family rfl (le_ rfl)) rfl ?_
            refine RG.sx (OpE.store 1 rfl (ot rfl) (ot rfl) (.agg _) sz_ef36_Family rfl (le_ rfl)) rfl ?_
            refine RG.op (asg (oc _)) ?_
            refine RG.fin HM (by kernel_rfl) ?_
            show WL _ _ _ _ _ _ _ _ _
            refine WL.nl (.thn ?_)
            exact WP.rt (.rN rfl (.cons (.bx 2 rfl rfl ag_family_Family) (.cons (.bx 1 rfl rfl ag_ef36_Family) (.cons (.tm rfl) .nil))) (le_ rfl) (imp_eq (by rw [hpm] <;> rfl)))
        · skip
          have h3 : ¬ t.k % 8 = 3 := of_decide_eq_false hc
          refine WP.seq ?_
          refine WP.seq ?_
          refine WP.region ?_
          refine WL.op (lbs 4 rfl ag_family_Family (ot rfl) (le_ rfl)) (by decide) ?_
          refine WL.op (mv (ot rfl)) (by decide) ?_
          refine WL.op (fv fo_ef36_Step_3 (ot rfl)) (by decide) ?_
          refine WL.op (lb 2 rfl sc_uint8 (ot rfl) rfl) (by decide) ?_
          refine WL.op (cv un_uint8 un_int (ot rfl) (IntWalk.i64_in _ (by omega))) (by decide) ?_
          refine WL.op (fv fo_ef36_Step_4 (ot rfl)) (by decide) ?_
          refine WL.op (lb 2 rfl sc_uint8 (ot rfl) rfl) (by decide) ?_
          refine WL.op (cv un_uint8 un_int (ot rfl) (IntWalk.i64_in _ (by omega))) (by decide) ?_
          refine WL.op (call (c_thin_CanWrite (s := nm t.v) (a := t.a) (n := t.n) h.rel) (.c (ot rfl) (.c (ot rfl) (.c (ot rfl) (.c (ot rfl) .n))))) (by decide) ?_
          refine WL.op (neq (ot rfl) (oc _)) (by decide) ?_
          refine WL.nl (.thn ?_)
          refine WP.cond rfl (fun hc => ?_) (fun hc => ?_)
          · skip
            have hz : ¬ rCanWrite p.2 (nm t.v) t.a t.n = 0 := by simpa using hc
            have hpm : pm p t = p := by unfold pm; rw [if_neg h0, if_neg h1, if_neg (by omega), if_neg hz]
            refine WP.seq ?_
            refine WP.drawsH [0, 1] ?_
            refine RG.opE (lbs 4 rfl ag_family_Family (ot rfl) (le_ rfl)) ?_
            refine RG.op (lbs 3 rfl ag_ef36_Family (ot rfl) (le_ rfl)) ?_
            refine RG.sx (OpE.store 1 rfl (ot rfl) (ot rfl) (.agg _) sz_family_Family rfl (le_ rfl)) rfl ?_
            refine RG.sx (OpE.store 0 rfl (ot rfl) (ot rfl) (.agg _) sz_ef36_Family rfl (le_ rfl)) rfl ?_
            refine RG.op (asg (oc _)) ?_
            refine RG.fin HM (by kernel_rfl) ?_
            show WL _ _ _ _ _ _ _ _ _
            refine WL.nl (.thn ?_)
            exact WP.rt (.rthn (.rblk (.rthn (.rN rfl (.cons (.bx 1 rfl rfl ag_family_Family) (.cons (.bx 0 rfl rfl ag_ef36_Family) (.cons (.tm rfl) .nil))) (le_ rfl) (imp_eq (by rw [hpm] <;> rfl))))))
          · skip
            have hz : rCanWrite p.2 (nm t.v) t.a t.n = 0 := by simpa using hc
            have hpm : pm p t = wrN p (nm t.v) t.a t.n.toNat := by unfold pm; rw [if_neg h0, if_neg h1, if_neg (by omega), if_pos hz]
            refine WP.sk (.thn ?_)
            refine WP.seq ?_
            refine WP.region ?_
            refine WL.op (lbs 4 rfl ag_family_Family (ot rfl) (le_ rfl)) (by decide) ?_
            refine WL.op (lbs 3 rfl ag_ef36_Family (ot rfl) (le_ rfl)) (by decide) ?_
            refine WL.op (mv (ot rfl)) (by decide) ?_
            refine WL.op (fv fo_ef36_Step_3 (ot rfl)) (by decide) ?_
            refine WL.op (lb 2 rfl sc_uint8 (ot rfl) rfl) (by decide) ?_
            refine WL.op (cv un_uint8 un_int (ot rfl) (IntWalk.i64_in _ (by omega))) (by decide) ?_
            refine WL.op (fv fo_ef36_Step_4 (ot rfl)) (by decide) ?_
            refine WL.op (lb 2 rfl sc_uint8 (ot rfl) rfl) (by decide) ?_
            refine WL.op (cv un_uint8 un_int (ot rfl) (IntWalk.i64_in _ (by omega))) (by decide) ?_
            refine WL.op (call (c_w37_write h hsm (s := nm t.v) (a := t.a) (n := t.n) hz) (.c (ot rfl) (.c (ot rfl) (.c (ot rfl) (.c (ot rfl) (.c (ot rfl) .n)))))) (by decide) ?_
            refine WL.op (ex (ot rfl) rfl) (by decide) ?_
            refine WL.op (ex (ot rfl) rfl) (by decide) ?_
            refine WL.op (ex (ot rfl) rfl) (by decide) ?_
            refine WL.store 1 rfl (ot rfl) (ot rfl) (.agg _) sz_family_Family rfl (le_ rfl) ?_
            refine WL.store 0 rfl (ot rfl) (ot rfl) (.agg _) sz_ef36_Family rfl (le_ rfl) ?_
            refine WL.op (asg (ot rfl)) (by decide) ?_
            refine WL.nl (.thn ?_)
            exact WP.rt (.rblk (.rthn (.rN rfl (.cons (.bx 1 rfl rfl ag_family_Family) (.cons (.bx 0 rfl rfl ag_ef36_Family) (.cons (.tm rfl) .nil))) (le_ rfl) (imp_eq (by rw [hpm] <;> rfl)))))
end Go.Proofs.YtjglgfnhgehpeaaGreat

/- Permitted scripts: sound all along; what may still be made; a volume that is reserved as a whole. -/
set_option linter.unusedVariables false
set_option linter.unusedSimpArgs false
namespace Go.Proofs.YtjglgfnhgehpeaaGreat
open Go.RowKit Go.Fw Go.Xt
structure SP (p : Fam × RF) : Prop where
  snd : Snd p
  sm : Sm p.2
def pmF (p : Fam × RF) (sc : List St6) : Fam × RF := sc.foldl pm p
theorem pmF_sp : ∀ {sc : List St6} {p : Fam × RF}, SP p → (∀ t ∈ sc, t.U8) → SP (pmF p sc)
  | [], _, h, _ => h
  | t :: sc, p, h, ht => pmF_sp (sc := sc) (p := pm p t) ⟨pm_snd h.snd t, sm_pm h.snd h.sm (ht t List.mem_cons_self)⟩ fun x hx => ht x (List.mem_cons_of_mem _ hx)
theorem pmF_step {p : Fam × RF} {sc : List St6} {i : Nat} (hi : i < sc.length) : pmF p (sc.take (i + 1)) = pm (pmF p (sc.take i)) (sc.getD (i : Int).toNat default) := foldl_step _ _ hi
theorem pmF_all {p : Fam × RF} {sc : List St6} {i : Nat} (hi : sc.length ≤ i) : pmF p (sc.take i) = pmF p sc := by rw [List.take_of_length_le hi]
theorem run0_sp {k : Nat} (hk : k ≤ 65536) : SP (run0 k) where
  snd := ⟨(run0_rs hk).rel, by have := frN_nn (rCounts (run0 k).2); show 0 ≤ frN (rCounts (run0 k).2) - clS (rCounts (run0 k).2) []; simp only [clS]; omega⟩
  sm := (run0_rs hk).sm
theorem sp_room {p : Fam × RF} (h : SP p) : 0 ≤ rRoom p.2 := by rw [room_eq h.snd.rel.ok]; exact h.snd.room
theorem gok0 : GOk default := ⟨Nat.zero_le _, .nil, (fun v hv => (by cases hv)), Nat.zero_le _⟩
section
variable {f : Fam} {g : RF} {s o : ByteArray} {n r : Int}
theorem gok_create (h : Rel f g) : GOk (rCreate g s n r).1 := by
  by_cases q : (rCreate g s n r).2 = 0
  · exact ((rel_create h s n r).2 q).ok
  · unfold rCreate at q ⊢
    split
    · exact gok0
    · rename_i q1
      rw [if_neg q1] at q
      cases hm : gl s g.vs with
      | some w => exact gok0
      | none =>
        rw [hm] at q
        dsimp only at q ⊢
        split
        · exact gok0
        · rename_i q2; rw [if_neg q2] at q; exact absurd rfl q
theorem gok_clone (h : Rel f g) : GOk (rClone g s o).1 := by
  by_cases q : (rClone g s o).2 = 0
  · exact ((rel_clone h s o).2 q).ok
  · unfold rClone at q ⊢
    cases hm : gl s g.vs with
    | none => exact gok0
    | some v =>
      rw [hm] at q
      dsimp only at q ⊢
      split
      · exact gok0
      · rename_i q1
        rw [if_neg q1] at q
        cases hm2 : gl o g.vs with
        | some w => exact gok0
        | none =>
          rw [hm2] at q
          dsimp only at q ⊢
          split
          · exact gok0
          · rename_i q2; rw [if_neg q2] at q; exact absurd rfl q
theorem and_ne {A B C : Prop} [Decidable A] [Decidable B] [Decidable C] (h : A → (B ↔ C)) : (decide A && !(decide B == decide C)) = false := by
  by_cases ha : A
  · have : decide B = decide C := decide_eq_decide.2 (h ha)
    rw [this]
    simp
  · simp [ha]
theorem and_no {A B : Prop} [Decidable A] [Decidable B] (h : A → B) : (decide A && !decide B) = false := by
  by_cases ha : A
  · simp [ha, h ha]
  · simp [ha]
theorem exact_create (h : Rel f g) : (decide ((rCreate g s n r).2 = 0) && !(decide (rCanCreate g n r = 0) == decide (0 ≤ rRoom (rCreate g s n r).1))) = false := and_ne fun he => by
  have hr := create_room h.ok he
  rw [room_eq ((rel_create h s n r).2 he).ok, hr]
  have hb : ¬ (n < 1 ∨ 65536 < n ∨ r < 0 ∨ n < r) := fun q => by
    have : badN s n r := .inr q
    unfold rCreate at he
    rw [if_pos this] at he
    cases he
  unfold rCanCreate
  rw [if_neg hb, room_eq h.ok]
  split <;> omega
theorem exact_clone (h : Rel f g) : (decide ((rClone g s o).2 = 0) && !(decide (rCanClone g s = 0) == decide (0 ≤ rRoom (rClone g s o).1))) = false := and_ne fun he => by
  obtain ⟨v, hm, hr⟩ := clone_room h.ok he
  rw [room_eq ((rel_clone h s o).2 he).ok, hr, canClone_at h.ok hm]
  split <;> omega
theorem exact_write (h : Rel f g) {v : RV} (hv : v ∈ g.vs) : (decide ((rNeed g v.s 0 v.n).1 = 0) && !decide (rCanWrite g v.s 0 v.n = 0)) = false := and_no fun h0 => by
  have hvn := (h.ok.vol v hv).n
  have en := need_at h.ok (gl_of_mem h.ok.srt hv) (a := 0) (n := v.n) (Int.le_refl 0) (by omega) (by omega)
  have hc := claim_bd h.ok v.s
  unfold rCanWrite
  rw [if_pos (by rw [en]), if_neg (by omega)]
end
def fullN : ByteArray := ⟨#[102, 117, 108, 108]⟩
def newN : ByteArray := ⟨#[110, 101, 119]⟩
theorem fullN_nm : nameE fullN = true := by decide +kernel
theorem fullN_ne (n : Int) : fullN ≠ nm n := by
  unfold nm
  split
  · decide +kernel
  · intro e
    have this : fullN.size = (⟨#[UInt8.ofNat (97 + (n % 6).toNat)]⟩ : ByteArray).size := congrArg (fun b : ByteArray => b.size) e
    have h1 : fullN.size = 4 := rfl
    have h2 : (⟨#[UInt8.ofNat (97 + (n % 6).toNat)]⟩ : ByteArray).size = 1 := rfl
    omega
theorem pmF_keep : ∀ {sc : List St6} {p : Fam × RF}, SP p → (∀ t ∈ sc, t.U8) → gl fullN (pmF p sc).2.vs = gl fullN p.2.vs
  | [], _, _, _ => rfl
  | t :: sc, p, h, ht => by
    show gl fullN (pmF (pm p t) sc).2.vs = _
    rw [pmF_keep (sc := sc) ⟨pm_snd h.snd t, sm_pm h.snd h.sm (ht t List.mem_cons_self)⟩ fun x hx => ht x (List.mem_cons_of_mem _ hx)]
    exact pm_keep h.snd (fullN_ne _) (fullN_ne _)
section
variable {k : Nat} {j : Int}
theorem room0 (hk : k ≤ 65536) : rRoom (run0 k).2 = k := by
  have h := (run0_rs hk).rel.ok
  rw [room_eq h]
  show frN (rCounts (run0 k).2) - clS (rCounts (run0 k).2) [] = k
  simp only [clS]
  have hc := counts_spec h
  unfold frN
  rw [hc.1, sumR_congr (g := fun _ => 1) fun i _ => if_pos (by rw [hc.2 i]; rfl), sumR_one]
  show (k : Int) - 0 = k
  omega
theorem can0 (hk : k ≤ 65536) (hj : 1 ≤ j ∧ j ≤ 65536) : rCanCreate (run0 k).2 j j = if (k : Int) < j then 11 else 0 := by
  unfold rCanCreate
  rw [if_neg (by omega), room0 hk]
abbrev fp (k : Nat) (j : Int) : Fam × RF := ((fCreate (run0 k).1 fullN j j).1, (rCreate (run0 k).2 fullN j j).1)
theorem full_create (hk : k ≤ 65536) (hj : 1 ≤ j ∧ j ≤ 255) : rCreate (run0 k).2 fullN j j = (rWith (run0 k).2 ⟨fullN, j, j, []⟩, 0) := by
  unfold rCreate
  rw [if_neg (by unfold badN; rw [fullN_nm]; simp; omega)]
  rfl
theorem full_sp (hk : k ≤ 65536) (hj : 1 ≤ j ∧ j ≤ 255) (hjk : j ≤ k) : SP (fp k j) ∧ gl fullN (fp k j).2.vs = some ⟨fullN, j, j, []⟩ := by
  have h := (run0_rs hk).rel
  have e := full_create hk hj
  have e2 : (rCreate (run0 k).2 fullN j j).2 = 0 := by rw [e]
  refine ⟨⟨⟨(rel_create h fullN j j).2 e2, ?_⟩, ?_⟩, ?_⟩
  · show 0 ≤ room (rCreate (run0 k).2 fullN j j).1
    rw [create_room h.ok e2, ← room_eq h.ok, room0 hk]
    omega
  · exact sm_create h.ok (run0_rs hk).sm hj.2
  · show gl fullN (rCreate (run0 k).2 fullN j j).1.vs = _
    rw [e]
    show gl fullN (rWithL (run0 k).2.vs _) = _
    have := gl_with h.ok ⟨fullN, j, j, []⟩ fullN
    rwa [if_pos rfl] at this
end
section
variable {p : Fam × RF} {j : Int}
theorem full_write (h : SP p) (hj : 1 ≤ j) (hg : gl fullN p.2.vs = some ⟨fullN, j, j, []⟩) : rCanWrite p.2 fullN 0 j = 0 := reserved_ok h.snd.rel.ok hg (Int.le_refl 0) (by omega) (by show 0 + j ≤ j; omega) (.inr rfl)
theorem full_end (h : SP p) (hj : 1 ≤ j) (hg : gl fullN p.2.vs = some ⟨fullN, j, j, []⟩) :
    SP (wrN p fullN 0 j.toNat) ∧ tup [agg (FInf (rInfo (wrN p fullN 0 j.toNat).2 fullN).1), I (rInfo (wrN p fullN 0 j.toNat).2 fullN).2] = tup [agg [val (.string fullN), I j, I j, I (sumN ((gl fullN (wrN p fullN 0 j.toNat).2.vs).getD default).l), I j], I 0] ∧ rClaim (wrN p fullN 0 j.toNat).2 fullN = (0, 0) := by
  have hc := full_write h hj hg
  obtain ⟨v, hv, h0, hn, he, hw, hn1, hn2⟩ := wi_start h.snd hc
  have hvv : v = ⟨fullN, j, j, []⟩ := by rw [hg] at hv; exact (Option.some.inj hv).symm
  subst hvv
  obtain ⟨v2, h2⟩ := wr_run hw h0 he j.toNat (by omega)
  have hs2 : Sm (wrN p fullN 0 j.toNat).2 := sm_wr hw h0 he h.sm j.toNat (by omega)
  have hok := h2.snd.rel.ok
  have hm2 := gl_mem h2.at_
  have hv2 := hok.vol v2 hm2.1
  have hn2 : v2.n = j := h2.n
  have hr2 : v2.r = j := h2.r
  have hfull : exH (rCounts (wrN p fullN 0 j.toNat).2) v2.l = j := by
    have := h2.full
    rw [show (0 : Int) + (j.toNat : Nat) = v2.n from by omega, parts_full hv2.ok fun x hx => (hv2.inn x hx).1] at this
    omega
  refine ⟨⟨h2.snd, hs2⟩, ?_, ?_⟩
  · have := info_tup hok hm2.1
    rw [hm2.2, hn2, hr2, hfull] at this
    rw [this, h2.at_]
    rfl
  · have := claim_at hok hm2.1
    rw [hm2.2] at this
    rw [this]
    unfold clV
    rw [hfull, hr2]
    show (max 0 (j - j), (0 : Int)) = _
    rw [Int.sub_self]
    rfl
end
end Go.Proofs.YtjglgfnhgehpeaaGreat

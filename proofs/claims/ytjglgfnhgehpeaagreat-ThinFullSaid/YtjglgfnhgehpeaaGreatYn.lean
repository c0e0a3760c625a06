/- Parts: Cntc, Lay4, Cntd, FmP, Map. -/
import Derived.Test.YtjglgfnhgehpeaaGreatYm
import Derived.Test.YtjglgfnhgehpeaaGreatYg
import Derived.Test.YtjglgfnhgehpeaaGreatYf
import Derived.Test.YtjglgfnhgehpeaaGreatYl
import Derived.Shelf.SlMaps.Clone
import Derived.WalkKit
/- Counts of slots: Drop. -/
set_option linter.unusedVariables false
set_option linter.unusedSimpArgs false
set_option maxRecDepth 4000
namespace Go.Proofs.YtjglgfnhgehpeaaGreat
open Go.RowKit Go.Fw Go.Xt

def fr1 (out : List Int) (x : X) (k : Nat) : List Int := ((List.range k).map fun (j : Nat) => x.s + (j : Int)).filter fun (s : Int) => decide (out.getD s.toNat 0 = 0)
def frd (out : List Int) (xs : List X) : List Int := xs.flatMap fun x => fr1 out x x.n.toNat
theorem fr1_step (out : List Int) (x : X) (k : Nat) : fr1 out x (k + 1) = fr1 out x k ++ (if out.getD (x.s + (k : Int)).toNat 0 = 0 then [x.s + (k : Int)] else []) := by
  unfold fr1
  rw [List.range_succ, List.map_append, List.filter_append]
  congr 1
  by_cases h : out.getD (x.s + (k : Int)).toNat 0 = 0
  · rw [if_pos h, List.map_singleton, List.filter_cons_of_pos (by exact decide_eq_true h), List.filter_nil]
  · rw [if_neg h, List.map_singleton, List.filter_cons_of_neg (by simp only [decide_eq_true_eq]; exact h), List.filter_nil]
theorem frd_step {out : List Int} {xs : List X} {i : Nat} (hi : i < xs.length) : frd out (xs.take (i + 1)) = frd out (xs.take i) ++ fr1 out (xs.getD (i : Int).toNat default) (xs.getD (i : Int).toNat default).n.toNat := by
  unfold frd
  rw [getD_at hi, List.take_add_one, List.getElem?_eq_getElem hi]
  show List.flatMap _ (_ ++ [xs[i]]) = _
  rw [List.flatMap_append]; simp
theorem fr1_le (out : List Int) (x : X) (k m : Nat) : (fr1 out x k).length ≤ (fr1 out x (k + m)).length := by
  induction m with
  | zero => exact Nat.le_refl _
  | succ m ih => rw [← Nat.add_assoc, fr1_step, List.length_append]; omega
theorem frd_le {out : List Int} {xs : List X} {i k : Nat} (hi : i < xs.length) (hk : k ≤ (xs.getD (i : Int).toNat default).n.toNat) : (frd out (xs.take i) ++ fr1 out (xs.getD (i : Int).toNat default) k).length ≤ (frd out xs).length := by
  have h1 : frd out xs = frd out (xs.take (i + 1)) ++ frd out (xs.drop (i + 1)) := by
    unfold frd; rw [← List.flatMap_append, List.take_append_drop]
  have h2 := fr1_le out (xs.getD (i : Int).toNat default) k ((xs.getD (i : Int).toNat default).n.toNat - k)
  rw [show k + ((xs.getD (i : Int).toNat default).n.toNat - k) = (xs.getD (i : Int).toNat default).n.toNat from by omega] at h2
  rw [h1, frd_step hi, List.length_append, List.length_append, List.length_append]
  omega
theorem frd_mem {out : List Int} {xs : List X} {u : Int} : u ∈ frd out xs ↔ (∃ x ∈ xs, x.s ≤ u ∧ u < x.s + x.n) ∧ out.getD u.toNat 0 = 0 := by
  unfold frd fr1
  simp only [List.mem_flatMap, List.mem_filter, List.mem_map, List.mem_range, decide_eq_true_eq]
  constructor
  · rintro ⟨x, hx, ⟨j, hj, rfl⟩, h⟩; exact ⟨⟨x, hx, by omega, by omega⟩, h⟩
  · rintro ⟨⟨x, hx, h1, h2⟩, h⟩; exact ⟨x, hx, ⟨(u - x.s).toNat, by omega, by omega⟩, h⟩
theorem app1 {A B : List Int} {s : Int} {b10 b7 b4 b2 : Box} {v : Value} {T : TypeId} (h : B = A ++ [s]) : [b10, b7, b4, b2, .r v T 3 (A.length + 1) ((A.map un).flatMap FX ++ [un s].flatMap FX)] = [b10, b7, b4, b2, .r v T 3 B.length ((B.map un).flatMap FX)] := by
  subst h; simp
def dropE (cs : List Int) (xs : List X) : List Int × List X × Int :=
  if permB cs.length xs then (if (chg (-1) cs xs).any (fun k => decide (k < 0)) then ([], [], 8) else (chg (-1) cs xs, mruns ((srt (frd (chg (-1) cs xs) xs)).map un), 0)) else ([], [], 2)

theorem c_refcount_Counts_Drop {cs : List Int} {xs : List X} (hs : SortC Tryz.prog 146 147 encU 3) (hb : Cb cs) (hl : xs.length ≤ 100000) (hfl : (frd (chg (-1) cs xs) xs).length ≤ 1000000) : PureC Tryz.prog 77 [eC cs, sl 3 FX xs] (tup [eC (dropE cs xs).1, sl 3 FX (dropE cs xs).2.1, I (dropE cs xs).2.2]) := by
  refine PureC.of_wp Tryz.func77 (by kernel_rfl) rfl Tryz.ntmps77 (le_ rfl) (fun w0 M0 => ?_)
  refine WP.nilrow 65 3 ?_
  refine WP.seq  ?_
  refine WP.region ?_
  refine WL.box (ot rfl) (.agg _) (by decide) fun b2 => ?_
  refine WL.alloc zr_refcount_Counts rfl (by decide) fun b4 => ?_
  refine WL.op (asg (oc _)) (by decide) ?_
  refine WL.op (asg (oc _)) (by decide) ?_
  refine WL.nl (.thn ?_)
  refine WP.seq ?_
  refine WP.seq ?_
  refine WP.region ?_
  refine WL.op (lbs 1 rfl ag_refcount_Counts (ot rfl) (le_ rfl)) (by decide) ?_
  refine WL.op (mv (ot rfl)) (by decide) ?_
  refine WL.op (call (c_refcount_Counts_permitted (by have := hb.1; omega) (by omega)) (.c (ot rfl) (.c (ot rfl) .n))) (by decide) ?_
  refine WL.op (not_ (ot rfl)) (by decide) ?_
  refine WL.nl (.thn ?_)
  refine WP.cond rfl (fun hc => ?_) (fun hc => ?_)
  · skip
    refine WP.seq ?_
    refine WP.region ?_
    refine WL.op (bld zr_refcount_Counts rfl ps_refcount_Counts .n) (by decide) ?_
    refine WL.store 0 rfl (ot rfl) (ot rfl) (.agg _) sz_refcount_Counts rfl (le_ rfl) ?_
    refine WL.op (asg (oc _)) (by decide) ?_
    refine WL.op (asg (oc _)) (by decide) ?_
    refine WL.nl (.thn ?_)
    exact WP.rt (.rthn (.rN rfl (.cons (.bx 0 rfl rfl ag_refcount_Counts) (.cons (.tm rfl) (.cons (.tm rfl) .nil))) (le_ rfl) (impT (.c (by rw [dropE, if_neg (by simpa using hc)]; exact impA (.c sl_nil .n)) (.c (by rw [dropE, if_neg (by simpa using hc)]; exact sl_nil) (.c (imp_eq (by rw [dropE, if_neg (by simpa using hc)])) .n))))))
  · skip
    have hp0 : permB cs.length xs = true := by simpa using hc
    have hp := permB_iff.1 hp0
    obtain ⟨hcl, hcg⟩ := chg_ok (-1) cs _ xs rfl hp
    refine WP.sk (.thn ?_)
    refine WP.seq ?_
    refine WP.region ?_
    refine WL.op (lbs 1 rfl ag_refcount_Counts (ot rfl) (le_ rfl)) (by decide) ?_
    refine WL.op (mv (ot rfl)) (by decide) ?_
    refine WL.op (call (c_refcount_Counts_changed (.inr rfl) (by have := hb.1; omega) hl (fun s => by have := hb.2 s; omega) hp0) (.c (ot rfl) (.c (ot rfl) (.c (oc _) .n)))) (by decide) ?_
    refine WL.alloc zr_refcount_Counts rfl (by decide) fun b7 => ?_
    refine WL.store 0 rfl (ot rfl) (ot rfl) (.agg _) sz_refcount_Counts rfl (le_ rfl) ?_
    refine WL.nl (.thn ?_)
    refine WP.seq ?_
    refine WP.seq ?_
    refine WP.region ?_
    refine WL.op (fv fo_refcount_Counts_0 (ot rfl)) (by decide) ?_
    refine WL.op (lb 0 rfl sc_s_int (ot rfl) rfl) (by decide) ?_
    refine WL.op (call (c_slices_ContainsFunc (p := fun k => decide (k < 0)) (by rw [hcl]; have := hb.1; omega) c_refcount_Drop_1) (.c (ot rfl) (.c (ofn _) .n))) (by decide) ?_
    refine WL.nl (.thn ?_)
    refine WP.cond rfl (fun hc => ?_) (fun hc => ?_)
    · skip
      refine WP.seq ?_
      refine WP.region ?_
      refine WL.op (bld zr_refcount_Counts rfl ps_refcount_Counts .n) (by decide) ?_
      refine WL.store 1 rfl (ot rfl) (ot rfl) (.agg _) sz_refcount_Counts rfl (le_ rfl) ?_
      refine WL.op (asg (oc _)) (by decide) ?_
      refine WL.op (asg (oc _)) (by decide) ?_
      refine WL.nl (.thn ?_)
      exact WP.rt (.rthn (.rN rfl (.cons (.bx 1 rfl rfl ag_refcount_Counts) (.cons (.tm rfl) (.cons (.tm rfl) .nil))) (le_ rfl) (impT (.c (by rw [dropE, if_pos hp0, if_pos hc]; exact impA (.c sl_nil .n)) (.c (by rw [dropE, if_pos hp0, if_pos hc]; exact sl_nil) (.c (imp_eq (by rw [dropE, if_pos hp0, if_pos hc])) .n))))))
    · skip
      have hc2 := hc
      refine WP.sk (.thn ?_)
      refine WP.seq ?_
      refine WP.region ?_
      refine WL.op (asg (oc _)) (by decide) ?_
      refine WL.nl (.thn ?_)
      refine WP.seq ?_
      refine WP.seq ?_
      refine WP.region ?_
      refine WL.op (mv (ot rfl)) (by decide) ?_
      refine WL.op (len_ us_s_api_Extent (ot rfl)) (by decide) ?_
      refine WL.op (mv (oc _)) (by decide) ?_
      refine WL.nl (.thn ?_)
      refine WP.block ?_
      refine WP.loop (fun y : Nat × Value => [.b b7 25 [sl 1 FI (chg (-1) cs xs)], .b b4 25 [val (.slice none 0 0)], .b b2 25 [sl 1 FI cs], .r y.2 65 3 (frd (chg (-1) cs xs) (xs.take y.1)).length (((frd (chg (-1) cs xs) (xs.take y.1)).map un).flatMap FX)]) (fun y => [(26, I (y.1 : Int)), (25, I (xs.length : Int)), (24, sl 3 FX xs), (7, val (.pointer (some ⟨b7, 0, none⟩))), (4, val (.pointer (some ⟨b4, 0, none⟩))), (8, val y.2)]) (fun y => y.1 ≤ xs.length ∧ y.2.oneCell' = true) (fun y => xs.length - y.1) (0, nilS) ⟨Nat.zero_le _, rfl⟩ (Sub.ofD 0 rfl (Sub.cons rfl (imp_eq rfl) (Sub.cons rfl (imp _) (Sub.cons rfl (imp _) (Sub.cons rfl (imp _) (Sub.cons rfl (imp _) (Sub.cons rfl (imp _) Sub.nil))))))) (fun y hi => ?_)
      obtain ⟨i, v⟩ := y
      replace hi : i ≤ xs.length ∧ v.oneCell' = true := hi
      show WP _ _ _ _ [.b b7 25 [sl 1 FI (chg (-1) cs xs)], .b b4 25 [val (.slice none 0 0)], .b b2 25 [sl 1 FI cs], .r v 65 3 (frd (chg (-1) cs xs) (xs.take i)).length (((frd (chg (-1) cs xs) (xs.take i)).map un).flatMap FX)] [(26, I (i : Int)), (25, I (xs.length : Int)), (24, sl 3 FX xs), (7, val (.pointer (some ⟨b7, 0, none⟩))), (4, val (.pointer (some ⟨b4, 0, none⟩))), (8, val v)] _ _
      refine WP.seq ?_
      refine WP.region ?_
      refine WL.op (lss (ot rfl) (ot rfl)) (by decide) ?_
      refine WL.nl (.thn ?_)
      refine WP.seq ?_
      refine WP.cond rfl (fun hc => ?_) (fun hc => ?_)
      · skip
        have hc1 : i < xs.length := by have := of_decide_eq_true hc; omega
        have hx := hp _ (getX_mem' hc1)
        have hcl2 := hb.1
        refine WP.sk (.thn ?_)
        refine WP.seq ?_
        refine WP.block ?_
        refine WP.seq ?_
        refine WP.region ?_
        refine WL.op (ixd el_s_api_Extent (ot rfl) (ot rfl) (by omega) (by omega)) (by decide) ?_
        refine WL.op (ls ag_Extent (ot rfl) (le_ rfl)) (by decide) ?_
        refine WL.alloc zr_Extent rfl (by decide) fun b10 => ?_
        refine WL.store 0 rfl (ot rfl) (ot rfl) (.agg _) sz_Extent rfl (le_ rfl) ?_
        refine WL.nl (.thn ?_)
        refine WP.seq ?_
        refine WP.region ?_
        refine WL.op (fv fo_Extent_2 (ot rfl)) (by decide) ?_
        refine WL.op (lb 0 rfl sc_int (ot rfl) rfl) (by decide) ?_
        refine WL.op (asg (ot rfl)) (by decide) ?_
        refine WL.nl (.thn ?_)
        refine WP.block ?_
        refine WP.loop (fun q : Nat × Value => [.b b10 65 (FX (xs.getD (i : Int).toNat default)), .b b7 25 [sl 1 FI (chg (-1) cs xs)], .b b4 25 [val (.slice none 0 0)], .b b2 25 [sl 1 FI cs], .r q.2 65 3 ((frd (chg (-1) cs xs) (xs.take i) ++ fr1 (chg (-1) cs xs) (xs.getD (i : Int).toNat default) q.1)).length ((((frd (chg (-1) cs xs) (xs.take i) ++ fr1 (chg (-1) cs xs) (xs.getD (i : Int).toNat default) q.1)).map un).flatMap FX)]) (fun q => [(11, I ((xs.getD (i : Int).toNat default).s + q.1)), (10, val (.pointer (some ⟨b10, 0, none⟩))), (26, I (i : Int)), (25, I (xs.length : Int)), (24, sl 3 FX xs), (7, val (.pointer (some ⟨b7, 0, none⟩))), (4, val (.pointer (some ⟨b4, 0, none⟩))), (8, val q.2)]) (fun q => (q.1 : Int) ≤ (xs.getD (i : Int).toNat default).n ∧ q.2.oneCell' = true) (fun q => (xs.getD (i : Int).toNat default).n.toNat - q.1) (0, v) ⟨by show ((0 : Nat) : Int) ≤ _; omega, hi.2⟩ (Sub.ofD 0 (by simp only [fr1, List.range_zero, List.map_nil, List.filter_nil, List.append_nil]; rfl) (Sub.cons rfl (imp_eq (congrArg I (by show _ = _ + ((0 : Nat) : Int); omega))) (Sub.cons rfl (imp _) (Sub.cons rfl (imp _) (Sub.cons rfl (imp _) (Sub.cons rfl (imp _) (Sub.cons rfl (imp _) (Sub.cons rfl (imp _) (Sub.cons rfl (imp _) Sub.nil))))))))) (fun q hk => ?_)
        obtain ⟨k, u⟩ := q
        replace hk : (k : Int) ≤ (xs.getD (i : Int).toNat default).n ∧ u.oneCell' = true := hk
        show WP _ _ _ _ [.b b10 65 (FX (xs.getD (i : Int).toNat default)), .b b7 25 [sl 1 FI (chg (-1) cs xs)], .b b4 25 [val (.slice none 0 0)], .b b2 25 [sl 1 FI cs], .r u 65 3 ((frd (chg (-1) cs xs) (xs.take i) ++ fr1 (chg (-1) cs xs) (xs.getD (i : Int).toNat default) k)).length ((((frd (chg (-1) cs xs) (xs.take i) ++ fr1 (chg (-1) cs xs) (xs.getD (i : Int).toNat default) k)).map un).flatMap FX)] [(11, I ((xs.getD (i : Int).toNat default).s + k)), (10, val (.pointer (some ⟨b10, 0, none⟩))), (26, I (i : Int)), (25, I (xs.length : Int)), (24, sl 3 FX xs), (7, val (.pointer (some ⟨b7, 0, none⟩))), (4, val (.pointer (some ⟨b4, 0, none⟩))), (8, val u)] _ _
        refine WP.seq ?_
        refine WP.seq ?_
        refine WP.region ?_
        refine WL.op (mv (ot rfl)) (by decide) ?_
        refine WL.op (fv fo_Extent_2 (ot rfl)) (by decide) ?_
        refine WL.op (lb 0 rfl sc_int (ot rfl) rfl) (by decide) ?_
        refine WL.op (fv fo_Extent_1 (ot rfl)) (by decide) ?_
        refine WL.op (lb 0 rfl sc_int (ot rfl) rfl) (by decide) ?_
        refine WL.op (add (ot rfl) (ot rfl) (by omega)) (by decide) ?_
        refine WL.op (lss (ot rfl) (ot rfl)) (by decide) ?_
        refine WL.nl (.thn ?_)
        refine WP.cond rfl (fun hc => ?_) (fun hc => ?_)
        · skip
          have hk1 : (k : Int) < (xs.getD (i : Int).toNat default).n := by have := of_decide_eq_true hc; omega
          have hfle := frd_le (out := (chg (-1) cs xs)) hc1 (show k ≤ (xs.getD (i : Int).toNat default).n.toNat by omega)
          refine WP.sk (.thn ?_)
          refine WP.seq ?_
          refine WP.block ?_
          refine WP.seq ?_
          refine WP.region ?_
          refine WL.op (fv fo_refcount_Counts_0 (ot rfl)) (by decide) ?_
          refine WL.op (lb 1 rfl sc_s_int (ot rfl) rfl) (by decide) ?_
          refine WL.op (mv (ot rfl)) (by decide) ?_
          refine WL.op (ixd el_s_int (ot rfl) (ot rfl) (by omega) (by omega)) (by decide) ?_
          refine WL.op (ld sc_int (ot rfl)) (by decide) ?_
          refine WL.op (eql (ot rfl) (oc _)) (by decide) ?_
          refine WL.nl (.thn ?_)
          refine WP.cond rfl (fun hc => ?_) (fun hc => ?_)
          · skip
            have hz0 : (chg (-1) cs xs).getD ((xs.getD (i : Int).toNat default).s + (k : Int)).toNat 0 = 0 := by rw [← getI (by omega)]; exact of_decide_eq_true hc
            refine WP.region ?_
            refine WL.op (mv (ot rfl)) (by decide) ?_
            refine WL.op (mv (ot rfl)) (by decide) ?_
            refine WL.op (bld zr_Extent rfl ps_Extent (.c (oc _) (.leaf (.val rfl)) pl_Extent_1 rfl (le_ rfl) (.c (ot rfl) (.leaf (.val rfl)) pl_Extent_2 rfl (le_ rfl) .n))) (by decide) ?_
            refine WL.op (bsl1 (f := FX) (el := un ((xs.getD (i : Int).toNat default).s + k)) ei_s_api_Extent (ot rfl) (.agg _) rfl (by decide) (by decide)) (by decide) ?_
            refine WL.app 4 rfl ei_s_api_Extent (by decide) (ot rfl) (ot rfl) (by simp) (fun _ => rfl) (by simp only [List.length_singleton]; omega) (by simp only [List.length_singleton]; omega) (by decide) fun v51 h51 => ?_
            refine WL.op (asg (ot rfl)) (by decide) ?_
            refine WL.nl (.blk (.thn ?_))
            refine WP.region ?_
            refine WL.op (mv (ot rfl)) (by decide) ?_
            refine WL.op (add (ot rfl) (oc _) (by omega)) (by decide) ?_
            refine WL.op (asg (ot rfl)) (by decide) ?_
            exact WL.nl (.again (k + 1, v51) ⟨by show ((k + 1 : Nat) : Int) ≤ _; omega, h51⟩ (by show (xs.getD (i : Int).toNat default).n.toNat - (k + 1) < (xs.getD (i : Int).toNat default).n.toNat - k; omega) (Sub.ofD 0 (Eq.trans (b := [.b b10 65 (FX (xs.getD (i : Int).toNat default)), .b b7 25 [sl 1 FI (chg (-1) cs xs)], .b b4 25 [val (.slice none 0 0)], .b b2 25 [sl 1 FI cs], .r v51 65 3 ((frd (chg (-1) cs xs) (xs.take i) ++ fr1 (chg (-1) cs xs) (xs.getD (i : Int).toNat default) k).length + 1) (((frd (chg (-1) cs xs) (xs.take i) ++ fr1 (chg (-1) cs xs) (xs.getD (i : Int).toNat default) k).map un).flatMap FX ++ [un ((xs.getD (i : Int).toNat default).s + k)].flatMap FX)]) rfl (app1 ((congrArg (_ ++ ·) ((fr1_step _ _ _).trans (congrArg (_ ++ ·) (if_pos hz0)))).trans (List.append_assoc _ _ _).symm))) (Sub.cons rfl (imp_eq (congrArg I (by omega))) (Sub.cons rfl (imp _) (Sub.cons rfl (imp _) (Sub.cons rfl (imp _) (Sub.cons rfl (imp _) (Sub.cons rfl (imp _) (Sub.cons rfl (imp _) (Sub.cons rfl (imp _) Sub.nil))))))))))
          · skip
            have hz0 : ¬ (chg (-1) cs xs).getD ((xs.getD (i : Int).toNat default).s + (k : Int)).toNat 0 = 0 := by rw [← getI (by omega)]; exact of_decide_eq_false hc
            refine WP.sk (.blk (.thn ?_))
            refine WP.region ?_
            refine WL.op (mv (ot rfl)) (by decide) ?_
            refine WL.op (add (ot rfl) (oc _) (by omega)) (by decide) ?_
            refine WL.op (asg (ot rfl)) (by decide) ?_
            exact WL.nl (.again (k + 1, u) ⟨by show ((k + 1 : Nat) : Int) ≤ _; omega, hk.2⟩ (by show (xs.getD (i : Int).toNat default).n.toNat - (k + 1) < (xs.getD (i : Int).toNat default).n.toNat - k; omega) (Sub.ofD 0 (by dsimp only; rw [fr1_step, if_neg hz0, List.append_nil]; rfl) (Sub.cons rfl (imp_eq (congrArg I (by omega))) (Sub.cons rfl (imp _) (Sub.cons rfl (imp _) (Sub.cons rfl (imp _) (Sub.cons rfl (imp _) (Sub.cons rfl (imp _) (Sub.cons rfl (imp _) (Sub.cons rfl (imp _) Sub.nil))))))))))
        · skip
          have hk1 : ¬ (k : Int) < (xs.getD (i : Int).toNat default).n := by have := of_decide_eq_false hc; omega
          refine WP.xt (.xthn (.xthn (.xin (.blk (.thn ?_)))))
          refine WP.region ?_
          refine WL.op (add (ot rfl) (oc _) (by omega)) (by decide) ?_
          refine WL.op (mv (ot rfl)) (by decide) ?_
          exact WL.nl (.again (i + 1, u) ⟨hc1, hk.2⟩ (by show xs.length - (i + 1) < xs.length - i; omega) (Sub.ofD 1 (by dsimp only; rw [frd_step hc1, show k = (xs.getD (i : Int).toNat default).n.toNat from by have := hk.1; omega]; rfl) (Sub.cons rfl (imp_eq (congrArg I (by omega))) (Sub.cons rfl (imp _) (Sub.cons rfl (imp _) (Sub.cons rfl (imp _) (Sub.cons rfl (imp _) (Sub.cons rfl (imp _) Sub.nil))))))))
      · skip
        have hc1 : ¬ i < xs.length := by have := of_decide_eq_false hc; omega
        refine WP.xt (.xthn (.xthn (.xin (.thn ?_))))
        refine WP.seq ?_
        have hL2 : frd (chg (-1) cs xs) (xs.take i) = frd (chg (-1) cs xs) xs := by rw [List.take_of_length_le (by omega)]
        refine WP.freeze 3 8 FX ((frd (chg (-1) cs xs) (xs.take i)).map un) rfl (fun _ => rfl) (List.length_map ..).symm rfl rfl ?_
        refine WP.draws  ?_
        refine RG.op (lbs 0 rfl ag_refcount_Counts (ot rfl) (le_ rfl)) ?_
        refine RG.op (mv (ot rfl)) ?_
        refine RG.op (call (c_extent_Runs (U := frd (chg (-1) cs xs) (xs.take i)) (by rw [hL2]; exact hfl) (fun u hu => by rw [hL2] at hu; obtain ⟨⟨x, hx, h1, h2⟩, _⟩ := frd_mem.1 hu; have := hp x hx; have := hb.1; omega) hs) (.c (ot rfl) .n)) ?_
        refine RG.fin HM (by kernel_rfl) ?_
        show WL _ _ _ _ _ _ _ _ _
        refine WL.store 1 rfl (ot rfl) (ot rfl) (.agg _) sz_refcount_Counts rfl (le_ rfl) ?_
        refine WL.op (asg (ot rfl)) (by decide) ?_
        refine WL.op (asg (oc _)) (by decide) ?_
        refine WL.nl (.thn ?_)
        exact WP.rt (.rN rfl (.cons (.bx 1 rfl rfl ag_refcount_Counts) (.cons (.tm rfl) (.cons (.tm rfl) .nil))) (le_ rfl) (imp_eq (by rw [dropE, if_pos hp0, if_neg (by rw [hc2]; exact Bool.false_ne_true), hL2]; rfl)))
end Go.Proofs.YtjglgfnhgehpeaaGreat

/- Sizes and places: see Lay. -/

/- Counts of slots: Single. -/
set_option linter.unusedVariables false
set_option linter.unusedSimpArgs false
set_option maxRecDepth 4000
namespace Go.Proofs.YtjglgfnhgehpeaaGreat
open Go.RowKit Go.Fw Go.Xt

def FB (b : Bool) : List Rp := [val (.bool b)]
theorem fB_len (L : List Bool) : (L.flatMap FB).length = L.length := by rw [flat_len (sz := 1) (f := FB) (fun _ => rfl)]; omega
theorem fB_rep (k : Nat) (z : Bool) : (List.replicate k z).flatMap FB = List.replicate k (val (.bool z)) := by
  induction k with
  | zero => rfl
  | succ k ih => rw [List.replicate_succ, List.flatMap_cons, ih]; rfl
theorem fB_get {L : List Bool} {k : Nat} (hk : k < L.length) : (L.flatMap FB)[k * 1]? = some (val (.bool (L.getD k false))) := by
  have h := flat_at (sz := 1) (f := FB) (fun _ => rfl) L k L[k] (List.getElem?_eq_getElem hk)
  have h2 : (FB L[k])[0]? = (((L.flatMap FB).drop (k * 1)).take 1)[0]? := by rw [h]
  rw [List.getElem?_take, if_pos (by decide), List.getElem?_drop] at h2
  rw [List.getD_eq_getElem?_getD, List.getElem?_eq_getElem hk]
  exact h2.symm
theorem fB_set {q : Bool} : ∀ {L : List Bool} {k : Nat}, k < L.length → setAt (L.flatMap FB) (k * 1) [val (.bool q)] = (L.set k q).flatMap FB
  | [], k, hk => by simp at hk
  | x :: L, 0, hk => rfl
  | x :: L, k + 1, hk => by
    have := fB_set (q := q) (L := L) (k := k) (by simpa using hk)
    unfold setAt at *
    simp only [Nat.mul_one] at *
    rw [List.flatMap_cons, List.set_cons_succ, List.flatMap_cons, ← this]
    show ((FB x ++ L.flatMap FB).take (k + 1)) ++ _ ++ ((FB x ++ L.flatMap FB).drop (k + 1 + 1)) = _
    rfl
def sg1 (cs : List Int) (a : List Bool × Int) (s : Nat) : List Bool × Int := (a.1.set s true, if (!a.1.getD s false && decide (cs.getD s 0 = 1)) = true then a.2 + 1 else a.2)
def sgk (cs : List Int) (a : List Bool × Int) (s : Nat) : Nat → List Bool × Int
  | 0 => a
  | k + 1 => sg1 cs (sgk cs a s k) (s + k)
def sgx (cs : List Int) (a : List Bool × Int) (x : X) : List Bool × Int := sgk cs a x.s.toNat x.n.toNat
def sgl (cs : List Int) (xs : List X) : List Bool × Int := xs.foldl (sgx cs) (List.replicate cs.length false, 0)
def singleE (cs : List Int) (xs : List X) : Int := (sgl cs xs).2
theorem sg1_le (cs : List Int) (a : List Bool × Int) (s : Nat) : a.2 ≤ (sg1 cs a s).2 ∧ (sg1 cs a s).2 ≤ a.2 + 1 := by
  obtain ⟨p, q⟩ := a
  unfold sg1
  dsimp only
  split <;> constructor <;> omega
theorem sgk_ok (cs : List Int) (a : List Bool × Int) (s k : Nat) : (sgk cs a s k).1.length = a.1.length ∧ a.2 ≤ (sgk cs a s k).2 ∧ (sgk cs a s k).2 ≤ a.2 + k := by
  induction k with
  | zero => exact ⟨rfl, by show _ ≤ a.2; omega, by show a.2 ≤ _; omega⟩
  | succ k ih =>
    obtain ⟨h1, h2, h3⟩ := ih
    have h4 := sg1_le cs (sgk cs a s k) (s + k)
    refine ⟨by show ((sgk cs a s k).1.set _ _).length = _; rw [List.length_set]; exact h1, ?_, ?_⟩
    · show _ ≤ (sg1 cs (sgk cs a s k) (s + k)).2
      omega
    · show (sg1 cs (sgk cs a s k) (s + k)).2 ≤ _
      omega
theorem sgl_step {cs : List Int} {xs : List X} {i : Nat} (hi : i < xs.length) : sgl cs (xs.take (i + 1)) = sgk cs (sgl cs (xs.take i)) (xs.getD (i : Int).toNat default).s.toNat (xs.getD (i : Int).toNat default).n.toNat := foldl_step _ _ hi
theorem sgl_ok (cs : List Int) {xs : List X} (hp : ∀ x ∈ xs, 1 ≤ x.n ∧ 0 ≤ x.s ∧ x.s + x.n ≤ cs.length) : ∀ i, i ≤ xs.length → (sgl cs (xs.take i)).1.length = cs.length ∧ 0 ≤ (sgl cs (xs.take i)).2 ∧ (sgl cs (xs.take i)).2 ≤ ((i * cs.length : Nat) : Int)
  | 0, _ => ⟨List.length_replicate .., by show (0 : Int) ≤ 0; omega, by show (0 : Int) ≤ _; omega⟩
  | i + 1, hi => by
    have h := sgl_ok cs hp i (by omega)
    have hx := hp _ (getX_mem' (by omega : i < xs.length))
    rw [sgl_step (by omega)]
    have h2 := sgk_ok cs (sgl cs (xs.take i)) (xs.getD (i : Int).toNat default).s.toNat (xs.getD (i : Int).toNat default).n.toNat
    rw [Nat.succ_mul]
    omega

theorem c_refcount_Counts_Single {cs : List Int} {xs : List X} (hcs : cs.length ≤ 65536) (hl : xs.length ≤ 100000) (hp : permB cs.length xs = true) : PureC Tryz.prog 68 [eC cs, sl 3 FX xs] (I (singleE cs xs)) := by
  have hp := permB_iff.1 hp
  refine PureC.of_wp Tryz.func68 (by kernel_rfl) rfl Tryz.ntmps68 (le_ rfl) (fun w0 M0 => ?_)
  refine WP.seq ?_
  refine WP.region ?_
  refine WL.box (ot rfl) (.agg _) (by decide) fun b2 => ?_
  refine WL.op (asg (oc _)) (by decide) ?_
  refine WL.nl (.thn ?_)
  refine WP.seq ?_
  refine WP.region ?_
  refine WL.op (fv fo_refcount_Counts_0 (ot rfl)) (by decide) ?_
  refine WL.op (lb 0 rfl sc_s_int (ot rfl) rfl) (by decide) ?_
  refine WL.op (len_ us_s_int (ot rfl)) (by decide) ?_
  refine WL.mkr (OpN.mks ei_s_bool zr_bool rfl (ot rfl) (ot rfl) (by omega) (by omega)) (by decide) fun v14 h14 => ?_
  refine WL.op (asg (ot rfl)) (by decide) ?_
  refine WL.nl (.thn ?_)
  refine WP.seq ?_
  refine WP.region ?_
  refine WL.op (asg (oc _)) (by decide) ?_
  refine WL.nl (.thn ?_)
  refine WP.seq ?_
  refine WP.seq ?_
  refine WP.region ?_
  refine WL.op (mv (ot rfl)) (by decide) ?_
  refine WL.op (len_ us_s_api_Extent (ot rfl)) (by decide) ?_
  refine WL.op (mv (oc _)) (by decide) ?_
  refine WL.nl (.thn ?_)
  refine WP.block  ?_
  refine WP.rowAt' 0 rfl fun g cap hv => ?_
  refine WP.loop (fun y : Nat => [.r v14 4 1 cs.length ((sgl cs (xs.take y)).1.flatMap FB), .b b2 25 [sl 1 FI cs]]) (fun y => [(17, I (y : Int)), (6, I (sgl cs (xs.take y)).2), (16, I (xs.length : Int)), (15, sl 3 FX xs), (5, val v14), (2, val (.pointer (some ⟨b2, 0, none⟩)))]) (fun y => y ≤ xs.length) (fun y => xs.length - y) 0 (Nat.zero_le _) (Sub.ofD 0 (by rw [List.take_zero]; show _ = [Box.r v14 4 1 cs.length ((List.replicate cs.length false).flatMap FB), .b b2 25 [sl 1 FI cs]]; rw [fB_rep]; rfl) (Sub.cons rfl (imp_eq rfl) (Sub.cons rfl (imp_eq rfl) (Sub.cons rfl (imp _) (Sub.cons rfl (imp _) (Sub.cons rfl (imp _) (Sub.cons rfl (imp _) Sub.nil))))))) (fun i hi => ?_)
  replace hi : i ≤ xs.length := hi
  show WP _ _ _ _ [.r v14 4 1 cs.length ((sgl cs (xs.take i)).1.flatMap FB), .b b2 25 [sl 1 FI cs]] [(17, I (i : Int)), (6, I (sgl cs (xs.take i)).2), (16, I (xs.length : Int)), (15, sl 3 FX xs), (5, val v14), (2, val (.pointer (some ⟨b2, 0, none⟩)))] _ _
  refine WP.seq ?_
  refine WP.region ?_
  refine WL.op (lss (ot rfl) (ot rfl)) (by decide) ?_
  refine WL.nl (.thn ?_)
  refine WP.seq ?_
  refine WP.cond rfl (fun hc => ?_) (fun hc => ?_)
  · skip
    have hc1 : i < xs.length := by have := of_decide_eq_true hc; omega
    have hx := hp _ (getX_mem' hc1)
    have hso := sgl_ok cs hp i hi
    have hmul := Nat.mul_le_mul (Nat.le_trans hi hl) hcs
    refine WP.sk (.thn ?_)
    refine WP.seq ?_
    refine WP.block ?_
    refine WP.seq ?_
    refine WP.region ?_
    refine WL.op (ixd el_s_api_Extent (ot rfl) (ot rfl) (by omega) (by omega)) (by decide) ?_
    refine WL.op (ls ag_Extent (ot rfl) (le_ rfl)) (by decide) ?_
    refine WL.alloc zr_Extent rfl (by decide) fun b8 => ?_
    refine WL.store 0 rfl (ot rfl) (ot rfl) (.agg _) sz_Extent rfl (le_ rfl) ?_
    refine WL.nl (.thn ?_)
    refine WP.seq ?_
    refine WP.region ?_
    refine WL.op (fv fo_refcount_Counts_0 (ot rfl)) (by decide) ?_
    refine WL.op (lb 2 rfl sc_s_int (ot rfl) rfl) (by decide) ?_
    refine WL.op (len_ us_s_int (ot rfl)) (by decide) ?_
    refine WL.op (asg (ot rfl)) (by decide) ?_
    refine WL.nl (.thn ?_)
    refine WP.seq ?_
    refine WP.seq ?_
    refine WP.region ?_
    refine WL.op (fv fo_Extent_2 (ot rfl)) (by decide) ?_
    refine WL.op (lb 0 rfl sc_int (ot rfl) rfl) (by decide) ?_
    refine WL.op (OpG.weak (R' := val (.bool false)) (lss  (ot rfl) (oc _) ) (imp_eq (congrArg (fun b => val (.bool b)) (decide_eq_false (by omega))))) (by decide) ?_
    refine WL.op (mv (ot rfl)) (by decide) ?_
    refine WL.gT rfl rfl ?_ -- g3
    refine WL.op (fv fo_Extent_1 (ot rfl)) (by decide) ?_
    refine WL.gT rfl rfl ?_ -- g3
    refine WL.op (lb 0 rfl sc_int (ot rfl) rfl) (by decide) ?_
    refine WL.gT rfl rfl ?_ -- g3
    refine WL.op (mv (ot rfl)) (by decide) ?_
    refine WL.gT rfl rfl ?_ -- g3
    refine WL.op (fv fo_Extent_2 (ot rfl)) (by decide) ?_
    refine WL.gT rfl rfl ?_ -- g3
    refine WL.op (lb 0 rfl sc_int (ot rfl) rfl) (by decide) ?_
    refine WL.gT rfl rfl ?_ -- g3
    refine WL.op (mv (ot rfl)) (by decide) ?_
    refine WL.gT rfl rfl ?_ -- g3
    refine WL.op (mn_ (ot rfl) (ot rfl)) (by decide) ?_
    refine WL.gT rfl rfl ?_ -- g3
    refine WL.op (sub (ot rfl) (ot rfl) (by omega)) (by decide) ?_
    refine WL.gT rfl rfl ?_ -- g3
    refine WL.op (OpG.weak (R' := val (.bool true)) (leq  (ot rfl) (ot rfl) ) (imp_eq (congrArg (fun b => val (.bool b)) (decide_eq_true (by omega))))) (by decide) ?_
    refine WL.op (pickF (ot rfl) (ot rfl)) (by decide) ?_
    refine WL.nl (.thn ?_)
    refine WP.condT rfl ?_
    refine WP.region ?_
    refine WL.op (mv (ot rfl)) (by decide) ?_
    refine WL.op (fv fo_Extent_2 (ot rfl)) (by decide) ?_
    refine WL.op (lb 0 rfl sc_int (ot rfl) rfl) (by decide) ?_
    refine WL.op (fv fo_Extent_1 (ot rfl)) (by decide) ?_
    refine WL.op (lb 0 rfl sc_int (ot rfl) rfl) (by decide) ?_
    refine WL.op (add (ot rfl) (ot rfl) (by omega)) (by decide) ?_
    refine WL.op (mn_ (ot rfl) (ot rfl)) (by decide) ?_
    refine WL.op (asg (ot rfl)) (by decide) ?_
    refine WL.nl (.thn ?_)
    refine WP.seq ?_
    refine WP.seq ?_
    refine WP.region ?_
    refine WL.op (fv fo_Extent_1 (ot rfl)) (by decide) ?_
    refine WL.op (lb 0 rfl sc_int (ot rfl) rfl) (by decide) ?_
    refine WL.op (OpG.weak (R' := val (.bool false)) (lss  (ot rfl) (oc _) ) (imp_eq (congrArg (fun b => val (.bool b)) (decide_eq_false (by omega))))) (by decide) ?_
    refine WL.nl (.thn ?_)
    refine WP.condF rfl ?_
    refine WP.sk (.thn ?_)
    refine WP.seq ?_
    refine WP.region ?_
    refine WL.op (fv fo_Extent_2 (ot rfl)) (by decide) ?_
    refine WL.op (lb 0 rfl sc_int (ot rfl) rfl) (by decide) ?_
    refine WL.op (mx_ (ot rfl) (oc _)) (by decide) ?_
    refine WL.op (asg (ot rfl)) (by decide) ?_
    refine WL.nl (.thn ?_)
    refine WP.block ?_
    refine WP.loop (fun q : Nat => [.b b8 65 (FX (xs.getD (i : Int).toNat default)), .r v14 4 1 cs.length (((sgk cs (sgl cs (xs.take i)) (xs.getD (i : Int).toNat default).s.toNat q)).1.flatMap FB), .b b2 25 [sl 1 FI cs]]) (fun q => [(10, I ((xs.getD (i : Int).toNat default).s + q)), (6, I (sgk cs (sgl cs (xs.take i)) (xs.getD (i : Int).toNat default).s.toNat q).2), (9, I ((xs.getD (i : Int).toNat default).s + (xs.getD (i : Int).toNat default).n)), (8, val (.pointer (some ⟨b8, 0, none⟩))), (17, I (i : Int)), (16, I (xs.length : Int)), (15, sl 3 FX xs), (5, val v14), (2, val (.pointer (some ⟨b2, 0, none⟩)))]) (fun q => (q : Int) ≤ (xs.getD (i : Int).toNat default).n) (fun q => (xs.getD (i : Int).toNat default).n.toNat - q) 0 (by omega) (Sub.ofD 0 rfl (Sub.cons rfl (imp_eq (congrArg I (by omega))) (Sub.cons rfl (imp_eq rfl) (Sub.cons rfl (imp_eq (congrArg I (by omega))) (Sub.cons rfl (imp _) (Sub.cons rfl (imp _) (Sub.cons rfl (imp _) (Sub.cons rfl (imp _) (Sub.cons rfl (imp _) (Sub.cons rfl (imp _) Sub.nil)))))))))) (fun k hk => ?_)
    replace hk : (k : Int) ≤ (xs.getD (i : Int).toNat default).n := hk
    show WP _ _ _ _ [.b b8 65 (FX (xs.getD (i : Int).toNat default)), .r v14 4 1 cs.length (((sgk cs (sgl cs (xs.take i)) (xs.getD (i : Int).toNat default).s.toNat k)).1.flatMap FB), .b b2 25 [sl 1 FI cs]] [(10, I ((xs.getD (i : Int).toNat default).s + k)), (6, I (sgk cs (sgl cs (xs.take i)) (xs.getD (i : Int).toNat default).s.toNat k).2), (9, I ((xs.getD (i : Int).toNat default).s + (xs.getD (i : Int).toNat default).n)), (8, val (.pointer (some ⟨b8, 0, none⟩))), (17, I (i : Int)), (16, I (xs.length : Int)), (15, sl 3 FX xs), (5, val v14), (2, val (.pointer (some ⟨b2, 0, none⟩)))] _ _
    refine WP.seq ?_
    refine WP.seq ?_
    refine WP.region ?_
    refine WL.op (mv (ot rfl)) (by decide) ?_
    refine WL.op (mv (ot rfl)) (by decide) ?_
    refine WL.op (lss (ot rfl) (ot rfl)) (by decide) ?_
    refine WL.nl (.thn ?_)
    refine WP.cond rfl (fun hc => ?_) (fun hc => ?_)
    · skip
      have hk1 : (k : Int) < (xs.getD (i : Int).toNat default).n := by have := of_decide_eq_true hc; omega
      have hgo := sgk_ok cs (sgl cs (xs.take i)) (xs.getD (i : Int).toNat default).s.toNat k
      refine WP.sk (.thn ?_)
      refine WP.seq ?_
      refine WP.block ?_
      refine WP.seq ?_
      refine WP.seq ?_
      refine WP.region ?_
      refine WL.op (mv (ot rfl)) (by decide) ?_
      refine WL.op (mv (ot rfl)) (by decide) ?_
      refine WL.op (ixr' (hv (by omega)) el_s_bool (ot rfl) (ot rfl) (by omega) (by omega)) (by decide) ?_
      refine WL.op (lr' 1 (hv (by omega)) rfl sc_bool (ot rfl) (fB_get (L := (sgk cs (sgl cs (xs.take i)) (xs.getD (i : Int).toNat default).s.toNat k).1) (by omega))) (by decide) ?_
      refine WL.op (not_ (ot rfl)) (by decide) ?_
      refine WL.op (mv (ot rfl)) (by decide) ?_
      refine WL.gd rfl rfl (Tells.v _ _) (fun hg => fv fo_refcount_Counts_0 (ot rfl)) (by decide) ?_
      refine WL.gd rfl rfl (Tells.v _ _) (fun hg => lb 2 rfl sc_s_int (og rfl hg) rfl) (by decide) ?_
      refine WL.gd rfl rfl (Tells.v _ _) (fun hg => mv (ot rfl)) (by decide) ?_
      refine WL.gd rfl rfl (Tells.v _ _) (fun hg => ixd el_s_int (og rfl hg) (og rfl hg) (by omega) (by omega)) (by decide) ?_
      refine WL.gd rfl rfl (Tells.v _ _) (fun hg => ld sc_int (og rfl hg)) (by decide) ?_
      refine WL.gd rfl rfl (Tells.v _ _) (fun hg => eql (og rfl hg) (oc _)) (by decide) ?_
      refine WL.op (and_ (ot rfl) (ot rfl)) (by decide) ?_
      refine WL.nl (.thn ?_)
      refine WP.cond rfl (fun hc => ?_) (fun hc => ?_)
      · skip
        have hz0 : (!(sgk cs (sgl cs (xs.take i)) (xs.getD (i : Int).toNat default).s.toNat k).1.getD ((xs.getD (i : Int).toNat default).s.toNat + k) false && decide (cs.getD ((xs.getD (i : Int).toNat default).s.toNat + k) 0 = 1)) = true := by rw [show (xs.getD (i : Int).toNat default).s.toNat + k = ((xs.getD (i : Int).toNat default).s + (k : Int)).toNat from by omega, ← getI (by omega)]; exact hc
        refine WP.region ?_
        refine WL.op (mv (ot rfl)) (by decide) ?_
        refine WL.op (add (ot rfl) (oc _) (by omega)) (by decide) ?_
        refine WL.op (asg (ot rfl)) (by decide) ?_
        refine WL.nl (.thn ?_)
        refine WP.region ?_
        refine WL.op (mv (ot rfl)) (by decide) ?_
        refine WL.op (mv (ot rfl)) (by decide) ?_
        refine WL.op (ixr' (hv (by omega)) el_s_bool (ot rfl) (ot rfl) (by omega) (by omega)) (by decide) ?_
        refine WL.storeR' 1 (hv (by omega)) rfl (ot rfl) (oc _) (.leaf (.val rfl)) sz_bool rfl (by rw [fB_len]; omega) ?_
        refine WL.nl (.blk (.thn ?_))
        refine WP.region ?_
        refine WL.op (mv (ot rfl)) (by decide) ?_
        refine WL.op (add (ot rfl) (oc _) (by omega)) (by decide) ?_
        refine WL.op (asg (ot rfl)) (by decide) ?_
        exact WL.nl (.again (k + 1) (by omega) (by omega) (Sub.ofD 0 (Eq.trans (b := [.b b8 65 (FX (xs.getD (i : Int).toNat default)), .r v14 4 1 cs.length (setAt ((sgk cs (sgl cs (xs.take i)) (xs.getD (i : Int).toNat default).s.toNat k).1.flatMap FB) (((xs.getD (i : Int).toNat default).s + k).toNat * 1) [val (.bool true)]), .b b2 25 [sl 1 FI cs]]) rfl (by rw [fB_set (by omega), show ((xs.getD (i : Int).toNat default).s + (k : Int)).toNat = (xs.getD (i : Int).toNat default).s.toNat + k from by omega]; rfl)) (Sub.cons rfl (imp_eq (congrArg I (by omega))) (Sub.cons rfl (imp_eq (congrArg I (by show _ = (if _ then _ else _); rw [if_pos hz0]))) (Sub.cons rfl (imp_eq rfl) (Sub.cons rfl (imp _) (Sub.cons rfl (imp _) (Sub.cons rfl (imp _) (Sub.cons rfl (imp _) (Sub.cons rfl (imp _) (Sub.cons rfl (imp _) Sub.nil)))))))))))
      · skip
        have hz0 : ¬ (!(sgk cs (sgl cs (xs.take i)) (xs.getD (i : Int).toNat default).s.toNat k).1.getD ((xs.getD (i : Int).toNat default).s.toNat + k) false && decide (cs.getD ((xs.getD (i : Int).toNat default).s.toNat + k) 0 = 1)) = true := by rw [show (xs.getD (i : Int).toNat default).s.toNat + k = ((xs.getD (i : Int).toNat default).s + (k : Int)).toNat from by omega, ← getI (by omega)]; rw [hc]; exact Bool.false_ne_true
        refine WP.sk (.thn ?_)
        refine WP.region ?_
        refine WL.op (mv (ot rfl)) (by decide) ?_
        refine WL.op (mv (ot rfl)) (by decide) ?_
        refine WL.op (ixr' (hv (by omega)) el_s_bool (ot rfl) (ot rfl) (by omega) (by omega)) (by decide) ?_
        refine WL.storeR' 1 (hv (by omega)) rfl (ot rfl) (oc _) (.leaf (.val rfl)) sz_bool rfl (by rw [fB_len]; omega) ?_
        refine WL.nl (.blk (.thn ?_))
        refine WP.region ?_
        refine WL.op (mv (ot rfl)) (by decide) ?_
        refine WL.op (add (ot rfl) (oc _) (by omega)) (by decide) ?_
        refine WL.op (asg (ot rfl)) (by decide) ?_
        exact WL.nl (.again (k + 1) (by omega) (by omega) (Sub.ofD 0 (Eq.trans (b := [.b b8 65 (FX (xs.getD (i : Int).toNat default)), .r v14 4 1 cs.length (setAt ((sgk cs (sgl cs (xs.take i)) (xs.getD (i : Int).toNat default).s.toNat k).1.flatMap FB) (((xs.getD (i : Int).toNat default).s + k).toNat * 1) [val (.bool true)]), .b b2 25 [sl 1 FI cs]]) rfl (by rw [fB_set (by omega), show ((xs.getD (i : Int).toNat default).s + (k : Int)).toNat = (xs.getD (i : Int).toNat default).s.toNat + k from by omega]; rfl)) (Sub.cons rfl (imp_eq (congrArg I (by omega))) (Sub.cons rfl (imp_eq (congrArg I (by show _ = (if _ then _ else _); rw [if_neg hz0]))) (Sub.cons rfl (imp_eq rfl) (Sub.cons rfl (imp _) (Sub.cons rfl (imp _) (Sub.cons rfl (imp _) (Sub.cons rfl (imp _) (Sub.cons rfl (imp _) (Sub.cons rfl (imp _) Sub.nil)))))))))))
    · skip
      have hk1 : ¬ (k : Int) < (xs.getD (i : Int).toNat default).n := by have := of_decide_eq_false hc; omega
      refine WP.xt (.xthn (.xthn (.xin (.blk (.thn ?_)))))
      refine WP.region ?_
      refine WL.op (add (ot rfl) (oc _) (by omega)) (by decide) ?_
      refine WL.op (mv (ot rfl)) (by decide) ?_
      exact WL.nl (.again (i + 1) hc1 (by omega) (Sub.ofD 1 (by rw [sgl_step hc1, show k = (xs.getD (i : Int).toNat default).n.toNat from by omega]; rfl) (Sub.cons rfl (imp_eq (congrArg I (by omega))) (Sub.cons rfl (imp_eq (congrArg I (by rw [sgl_step hc1, show k = (xs.getD (i : Int).toNat default).n.toNat from by omega]))) (Sub.cons rfl (imp _) (Sub.cons rfl (imp _) (Sub.cons rfl (imp _) (Sub.cons rfl (imp _) Sub.nil))))))))
  · skip
    have hc1 : ¬ i < xs.length := by have := of_decide_eq_false hc; omega
    refine WP.xt (.xthn (.xthn (.xin (.thn ?_))))
    refine WP.seq ?_
    refine WP.region ?_
    refine WL.op (mv (ot rfl)) (by decide) ?_
    refine WL.op (asg (ot rfl)) (by decide) ?_
    refine WL.nl (.thn ?_)
    exact WP.rt (.r1 rfl rfl (imp_eq (congrArg I (by rw [List.take_of_length_le (by omega)]; rfl))))
end Go.Proofs.YtjglgfnhgehpeaaGreat

/- Families of volumes, plainly: what the code computes. -/
set_option linter.unusedVariables false
set_option linter.unusedSimpArgs false
namespace Go.Proofs.YtjglgfnhgehpeaaGreat
open Go.RowKit Go.Fw Go.Xt
def chOk (i : Nat) (b : UInt8) : Bool := (decide (97 ≤ b.toNat) && decide (b.toNat ≤ 122)) || (decide (0 < i) && decide (48 ≤ b.toNat) && decide (b.toNat ≤ 57))
def nameAll (s : ByteArray) (k : Nat) : Bool := (List.range k).all fun i => chOk i (chr s i)
def nameE (s : ByteArray) : Bool := nameAll s s.size && decide (1 ≤ s.size) && decide (s.size ≤ 16)
theorem nameAll_succ (s : ByteArray) (k : Nat) : nameAll s (k + 1) = (nameAll s k && chOk k (chr s k)) := by
  unfold nameAll
  rw [List.range_succ, List.all_append]
  simp
theorem nameAll_no {s : ByteArray} {i m : Nat} (h : chOk i (chr s i) = false) (hi : i < m) : nameAll s m = false := by
  unfold nameAll
  rw [List.all_eq_false]
  exact ⟨i, by simpa using hi, by rw [h]; exact Bool.false_ne_true⟩
theorem nameE_no {s : ByteArray} {i : Nat} (hi : i < s.size) (h : chOk i (chr s i) = false) : nameE s = false := by
  unfold nameE
  rw [nameAll_no h hi]; rfl
theorem ba_empty (s : ByteArray) : s = ⟨#[]⟩ ↔ s.size = 0 := by
  constructor
  · rintro rfl; rfl
  · intro h
    have : s.data = #[] := Array.eq_empty_of_size_eq_zero h
    cases s; exact congrArg _ this
theorem nameE_end {s : ByteArray} (h : nameAll s s.size = true) : (!decide (s = ⟨#[]⟩) && decide ((s.size : Int) ≤ 16)) = nameE s := by
  unfold nameE
  rw [h, Bool.true_and]
  congr 1
  · by_cases q : s.size = 0
    · rw [decide_eq_true ((ba_empty s).2 q), decide_eq_false (by omega)]; rfl
    · rw [decide_eq_false fun e => q ((ba_empty s).1 e), decide_eq_true (by omega)]; rfl
  · by_cases q : s.size ≤ 16
    · rw [decide_eq_true (by omega), decide_eq_true q]
    · rw [decide_eq_false (by omega), decide_eq_false q]
theorem nameE_end' {s : ByteArray} (h : nameAll s s.size = true) : (decide (1 ≤ (s.size : Int)) && decide ((s.size : Int) ≤ 16)) = nameE s := by
  unfold nameE
  rw [h, Bool.true_and]
  congr 1
  · by_cases q : 1 ≤ s.size
    · rw [decide_eq_true (by omega), decide_eq_true q]
    · rw [decide_eq_false (by omega), decide_eq_false q]
  · by_cases q : s.size ≤ 16
    · rw [decide_eq_true (by omega), decide_eq_true q]
    · rw [decide_eq_false (by omega), decide_eq_false q]
structure Vol where
  n : Int
  r : Int
  t : Tr
instance : Inhabited Vol := ⟨⟨0, 0, .nil⟩⟩
structure Fam where
  cs : List Int
  vs : List (ByteArray × Vol)
instance : Inhabited Fam := ⟨⟨[], []⟩⟩
def FV (v : Vol) : List Rp := [I v.n, I v.r, tree v.t]
abbrev eF (f : Fam) : Rp := agg [sl 1 FI f.cs, mp FV f.vs]
def vac (f : Fam) (s : ByteArray) : Int := if (lookK s f.vs).isSome then 10 else if 32 ≤ f.vs.length then 7 else 0
def badN (s : ByteArray) (n r : Int) : Prop := nameE s = false ∨ n < 1 ∨ 65536 < n ∨ r < 0 ∨ n < r
instance (s : ByteArray) (n r : Int) : Decidable (badN s n r) := by unfold badN; infer_instance
def fNew (k : Int) : Fam × Int := if 0 ≤ k ∧ k ≤ 65536 then (⟨List.replicate k.toNat 0, []⟩, 0) else (default, 1)
def fCreate (f : Fam) (s : ByteArray) (n r : Int) : Fam × Int :=
  if badN s n r then (default, 1) else if vac f s = 0 then (⟨f.cs, putK s ⟨n, r, .nil⟩ f.vs⟩, 0) else (default, vac f s)
def fClone (f : Fam) (s o : ByteArray) : Fam × Int := match lookK s f.vs with
  | none => (default, 9)
  | some v => if nameE o = false then (default, 1) else if vac f o = 0 then (if (addE f.cs v.t.list).2 = 0 then (⟨(addE f.cs v.t.list).1, putK o ⟨v.n, 0, v.t⟩ f.vs⟩, 0) else (default, (addE f.cs v.t.list).2)) else (default, vac f o)
def fDelete (f : Fam) (s : ByteArray) : Fam × List X × Int := match lookK s f.vs with
  | none => (default, [], 9)
  | some v => if (dropE f.cs v.t.list).2.2 = 0 then (⟨(dropE f.cs v.t.list).1, delK s f.vs⟩, (dropE f.cs v.t.list).2.1, 0) else (default, [], (dropE f.cs v.t.list).2.2)
def has (v : Vol) (a n : Int) : Bool := decide (0 ≤ a) && decide (0 ≤ n) && decide (a ≤ v.n) && decide (n ≤ v.n - a)
def fFind (f : Fam) (s : ByteArray) (a n : Int) : Vol × Int := match lookK s f.vs with
  | none => (default, 9)
  | some v => if has v a n then (v, 0) else (default, 2)
def fAsg (f : Fam) (s : ByteArray) (x : X) (v : Vol) : Fam × List X × Int :=
  (⟨(dropE (addE f.cs [x]).1 (tPut v.t x).2.1).1, putK s ⟨v.n, v.r, (tPut v.t x).1⟩ f.vs⟩, (dropE (addE f.cs [x]).1 (tPut v.t x).2.1).2.1, (dropE (addE f.cs [x]).1 (tPut v.t x).2.1).2.2)
def fAssign (f : Fam) (s : ByteArray) (x : X) : Fam × List X × Int :=
  if (fFind f s x.a x.n).2 = 0 then (if (addE f.cs [x]).2 = 0 then (if (tPut (fFind f s x.a x.n).1.t x).2.2 = 0 then fAsg f s x (fFind f s x.a x.n).1 else (default, [], 2)) else (default, [], 2)) else (default, [], (fFind f s x.a x.n).2)
def fUnm (f : Fam) (s : ByteArray) (a n : Int) (v : Vol) : Fam × List X × Int :=
  (⟨(dropE f.cs (tCut v.t a n).2.1).1, putK s ⟨v.n, v.r, (tCut v.t a n).1⟩ f.vs⟩, (dropE f.cs (tCut v.t a n).2.1).2.1, (dropE f.cs (tCut v.t a n).2.1).2.2)
def fUnmap (f : Fam) (s : ByteArray) (a n : Int) : Fam × List X × Int :=
  if (fFind f s a n).2 = 0 then (if (tCut (fFind f s a n).1.t a n).2.2 = 0 then fUnm f s a n (fFind f s a n).1 else (default, [], 2)) else (default, [], (fFind f s a n).2)
structure Inf where
  s : ByteArray
  n : Int
  r : Int
  m : Int
  e : Int
deriving DecidableEq
instance : Inhabited Inf := ⟨⟨⟨#[]⟩, 0, 0, 0, 0⟩⟩
def FInf (i : Inf) : List Rp := [val (.string i.s), I i.n, I i.r, I i.m, I i.e]
def fInfo (f : Fam) (s : ByteArray) : Inf × Int :=
  if (fFind f s 0 0).2 = 0 then (⟨s, (fFind f s 0 0).1.n, (fFind f s 0 0).1.r, (fFind f s 0 0).1.t.blocks, singleE f.cs (fFind f s 0 0).1.t.list⟩, 0) else (default, (fFind f s 0 0).2)
def fCount (f : Fam) (s : Int) : Int := if s < 0 ∨ (f.cs.length : Int) ≤ s then 0 else f.cs.getD s.toNat 0
def fLookup (f : Fam) (s : ByteArray) (a : Int) : Int × Bool × Int :=
  if (fFind f s a 1).2 = 0 then ((sem (fFind f s a 1).1.t.list a).getD 0, (sem (fFind f s a 1).1.t.list a).isSome, 0) else (0, false, (fFind f s a 1).2)
def fRange (f : Fam) (s : ByteArray) (a n : Int) : List X × Int := ((tCut (fFind f s a n).1.t a n).2.1, (fFind f s a n).2)
structure Fw0 (f : Fam) : Prop where
  len : f.cs.length ≤ 65536
  cb : ∀ s : Nat, 0 ≤ f.cs.getD s 0 ∧ f.cs.getD s 0 ≤ 10000000
  vol : ∀ x ∈ f.vs, Wt x.2.t ∧ 0 ≤ x.2.n ∧ x.2.n ≤ 65536 ∧ permB f.cs.length x.2.t.list = true
  num : f.vs.length ≤ 1000
theorem Fw0.Cb {f : Fam} (h : Fw0 f) : Cb f.cs := ⟨h.len, fun s => by have := h.cb s; omega⟩
theorem lookK_mem {α : Type} {s : ByteArray} {v : α} : ∀ {l : List (ByteArray × α)}, lookK s l = some v → (s, v) ∈ l
  | [], h => by cases h
  | x :: l, h => by
    unfold lookK at h
    split at h
    · rename_i e; cases h; rw [e]; exact List.mem_cons_self
    · exact List.mem_cons_of_mem _ (lookK_mem h)
theorem Fw0.find {f : Fam} (h : Fw0 f) (s : ByteArray) (a n : Int) : Wt (fFind f s a n).1.t ∧ 0 ≤ (fFind f s a n).1.n ∧ (fFind f s a n).1.n ≤ 65536 ∧ permB f.cs.length (fFind f s a n).1.t.list = true := by
  have hd : Wt (default : Vol).t ∧ 0 ≤ (default : Vol).n ∧ (default : Vol).n ≤ 65536 ∧ permB f.cs.length (default : Vol).t.list = true := ⟨wt_nil', by decide, by decide, rfl⟩
  unfold fFind
  split
  · exact hd
  · rename_i v hv
    split
    · exact h.vol _ (lookK_mem hv)
    · exact hd
theorem fr1_len (out : List Int) (x : X) (k : Nat) : (fr1 out x k).length ≤ k := by
  unfold fr1
  exact Nat.le_trans (List.length_filter_le _ _) (by simp)
theorem frd_len (out : List Int) : ∀ xs : List X, (∀ x ∈ xs, 0 ≤ x.n) → ((frd out xs).length : Int) ≤ sumN xs
  | [], _ => by simp [frd, sumN]
  | x :: xs, h => by
    have h1 := fr1_len out x x.n.toNat
    have h2 := frd_len out xs fun y hy => h y (List.mem_cons_of_mem _ hy)
    have h3 := h x List.mem_cons_self
    show ((fr1 out x x.n.toNat ++ frd out xs).length : Int) ≤ x.n + sumN xs
    rw [List.length_append]
    omega
theorem frd_ok {out : List Int} {xs : List X} (h : Ok 0 xs) : (frd out xs).length ≤ 1000000 := by
  have h1 := frd_len out xs fun x hx => by have := h.starts x hx; omega
  have h2 := h.sum (Int.le_refl 0)
  by_cases q : xs = []
  · subst q; show (0 : Nat) ≤ _; omega
  · have := h2.2.1 q; omega
theorem ok_len {xs : List X} (h : Ok 0 xs) : xs.length ≤ 65536 := by
  have h2 := h.sum (Int.le_refl 0)
  by_cases q : xs = []
  · subst q; simp
  · have := h2.2.1 q; omega
theorem tPut_old {t : Tr} (h : Wt t) (x : X) : Ok 0 (tPut t x).2.1 := by
  unfold tPut
  split
  · rename_i hw
    obtain ⟨h1, ⟨a1, a2, a3, a4⟩, ⟨b1, b2, b3, b4⟩⟩ := hw
    show Ok 0 (put t x).2.list
    rw [(put_spec h a1 ⟨h1, b1, by omega, by omega⟩).2.1]
    exact ok_parts h.2.1 (by omega)
  · exact trivial
theorem tCut_old {t : Tr} (h : Wt t) (a n : Int) : Ok 0 (tCut t a n).2.1 := by
  unfold tCut
  split
  · rename_i hw
    obtain ⟨w1, w2, w3, w4⟩ := hw
    split
    · exact trivial
    · show Ok 0 (cut t a n).2.list
      rw [(cut_spec h w1 (by omega)).2.1]
      exact ok_parts h.2.1 (by omega)
  · exact trivial
theorem addE_cb {cs : List Int} {x : X} (h1 : cs.length ≤ 65536) (h2 : ∀ s : Nat, 0 ≤ cs.getD s 0 ∧ cs.getD s 0 ≤ 10000000) : Cb (addE cs [x]).1 := by
  unfold addE
  split
  · rename_i hp
    obtain ⟨g1, g2⟩ := chg_ok 1 cs 1 [x] rfl (permB_iff.1 hp)
    refine ⟨by show (chg 1 cs [x]).length ≤ _; omega, fun s => ?_⟩
    show 0 ≤ (chg 1 cs [x]).getD s 0 ∧ (chg 1 cs [x]).getD s 0 ≤ _
    rw [g2]
    have := hits_nn [x] s
    have := hits_le [x] s
    have := h2 s
    simp only [List.length_singleton] at *
    omega
  · exact ⟨by simp, fun s => by simp⟩
end Go.Proofs.YtjglgfnhgehpeaaGreat

/- maps.Clone of the volumes' map. -/
namespace Go.Proofs.YtjglgfnhgehpeaaGreat
open Go.Shelf Go.RowKit Go.Lib Go.Fw
theorem um_vols : Tryz.prog.underlying 26 = some (.map 9 114) := by kernel_rfl
set_option maxRecDepth 100000 in
set_option maxHeartbeats 2000000 in
theorem c_maps_Clone : CloneM Tryz.prog 78 := ⟨enters_of Tryz.func78 rfl rfl, fun b es clock w hb => by
  have mixed := HM
  have hq := fun w => run_eql_map_nil_sl (P := Tryz.prog) w 26 _ _ (some b) um_vols
  go_enter Tryz.func78, Tryz.ntmps78
  go_wp2
  rw [run_callFunc_extern Tryz.func114 (by kernel_rfl) (by kernel_rfl) (by kernel_rfl) (e := Extern.MapsClone.clone) (by kernel_rfl), run_maps_clone_sl w 26 hb]
  simp only [Result.andThen]
  rw [Oper.upon_value]
  go_wp2
  rw [run_typeAssert_map_sl _ 26 _ _ _ _ um_vols]
  simp only [Result.andThen]
  rw [Oper.upon_value]
  go_wp2
  go_ret
  exact ⟨rfl, rfl⟩⟩
set_option maxHeartbeats 2000000 in
theorem clone_nil (w : World) : Calls Tryz.prog 78 #[.map none] w fun e w' => e = .returned (.map none) ∧ w' = w := by
  have mixed := HM
  have hq := fun w => run_eql_map_nil_sl (P := Tryz.prog) w 26 _ _ none um_vols
  go_enter Tryz.func78, Tryz.ntmps78
  go_wp2
  go_ret
  exact ⟨rfl, rfl⟩
theorem c_maps_Clone_nil : PureC Tryz.prog 78 [val (.map none)] (val (.map none)) := ⟨enters_of Tryz.func78 rfl rfl, fun w M vs hm hvs => by
  cases vs with
  | nil => exact hvs.elim
  | cons v vs =>
    cases vs with
    | nil =>
      have : v = .map none := hvs.1
      subst this
      exact (clone_nil w).mono fun e w' ⟨h1, h2⟩ => ⟨_, h1, rfl, h2 ▸ Below.refl _ _⟩
    | cons _ _ => exact hvs.2.elim⟩
end Go.Proofs.YtjglgfnhgehpeaaGreat

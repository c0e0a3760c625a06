/- ExtreeOf: what it computes. -/
import Derived.Test.YtjglgfnhgehpeaaLawD
import Derived.Test.YtjglgfnhgehpeaaRowEnc
import Derived.Test.YtjglgfnhgehpeaaFwn
set_option linter.unusedVariables false
set_option linter.unusedSimpArgs false
set_option maxRecDepth 4000
namespace Go.Proofs.Ytjglgfnhgehpeaa
open Go.RowKit Go.Fw Go.Xt

def jE (l : List X) : List X × Int := if Xt.Ok 0 l then (Jn l, 0) else ([], 1)
def ofT (l : List X) : Tr := l.foldl (fun t x => join t x .nil) .nil
def ofE (l : List X) : Tr × Int := if Xt.Ok 0 l then (ofT (Jn l), 0) else (.nil, 1)
theorem ofT_step {xs : List X} {i : Nat} (hi : i < xs.length) : ofT (xs.take (i + 1)) = join (ofT (xs.take i)) (xs.getD (i : Int).toNat default) .nil := by
  unfold ofT
  rw [getD_at hi, List.take_add_one, List.getElem?_eq_getElem hi]
  show List.foldl _ _ (_ ++ [xs[i]]) = _
  rw [List.foldl_append]; rfl
theorem ofT_ok (xs : List X) : (ofT xs).Bal ∧ (ofT xs).list = xs := by
  have : ∀ (n : Nat), n ≤ xs.length → (ofT (xs.take n)).Bal ∧ (ofT (xs.take n)).list = xs.take n := by
    intro n
    induction n with
    | zero => intro _; exact ⟨trivial, rfl⟩
    | succ n ih =>
      intro h
      obtain ⟨h1, h2⟩ := ih (by omega)
      rw [ofT_step (by omega)]
      refine ⟨join_bal h1 trivial, ?_⟩
      rw [join_list h1 (show Tr.Bal .nil from trivial), h2, getD_at (by omega), List.take_add_one, List.getElem?_eq_getElem (by omega)]; rfl
  have := this xs.length (Nat.le_refl _)
  rwa [List.take_length] at this
theorem ofE_like (l : List X) : (ofE l).2 = (jE l).2 ∧ (ofE l).1.list = (jE l).1 ∧ Wt (ofE l).1 ∧ (jE l).1.length ≤ l.length := by
  unfold ofE jE
  split
  · rename_i h
    obtain ⟨j1, j2, j3⟩ := jn_spec h
    obtain ⟨o1, o2⟩ := ofT_ok (Jn l)
    exact ⟨rfl, o2, ⟨o1, by show Xt.Ok 0 (ofT (Jn l)).list; rw [o2]; exact j1, by show Nf (ofT (Jn l)).list; rw [o2]; exact j2⟩, jn_len l⟩
  · exact ⟨rfl, rfl, wt_nil, Nat.zero_le _⟩
theorem flatX {L : List X} {k : Nat} (hk : k < L.length) : ((L.flatMap FX).drop (k * 3)).take 3 = FX (L.getD k default) := by
  have h := flat_at (sz := 3) (f := FX) (fun _ => rfl) L k L[k] (List.getElem?_eq_getElem hk)
  rw [h, List.getD_eq_getElem?_getD, List.getElem?_eq_getElem hk]; rfl
theorem flatX_len (L : List X) : (L.flatMap FX).length = L.length * 3 := flat_len (sz := 3) (f := FX) (fun _ => rfl) L
theorem fol_test2 (L : List X) (x : X) : (decide (0 ≤ (L.length : Int) - 1) && decide ((lastX L).a + (lastX L).n = x.a) && decide ((lastX L).s + (lastX L).n = x.s)) = decide (0 < L.length ∧ Fol (lastX L) x) := by
  refine Bool.eq_iff_iff.2 ?_
  rw [Bool.and_eq_true, Bool.and_eq_true, decide_eq_true_iff, decide_eq_true_iff, decide_eq_true_iff, decide_eq_true_iff]
  unfold Fol
  exact ⟨fun ⟨⟨h1, h2⟩, h3⟩ => ⟨by omega, h2, h3⟩, fun ⟨h1, h2, h3⟩ => ⟨⟨by omega, h2⟩, h3⟩⟩
abbrev BP (b6 : Nat) (rs6 : List Rp) (y : Value × List X) : List Box := [.b b6 31 rs6, .r y.1 31 3 y.2.length (y.2.flatMap FX)]
theorem e_push : Enters Try.prog 74 := enters_of Try.func74 rfl rfl

theorem c_r32_Join_err (xs : List X) (hl : xs.length ≤ 100000) (ho : ¬ Xt.Ok 0 xs) : PureC Try.prog 26 [sl 3 FX xs] (tup [sl 3 FX ([] : List X), I 1]) := by
  refine PureC.of_wp Try.func26 (by kernel_rfl) rfl Try.ntmps26 (le_ rfl) (fun w0 M0 => ?_)
  refine WP.seq ?_
  -- region 0 ref.go:27
  refine WP.region ?_
  refine WL.op (asg (oc _)) (by decide) ?_
  refine WL.op (asg (oc _)) (by decide) ?_
  refine WL.nl (.thn ?_)
  refine WP.seq ?_
  refine WP.seq ?_
  -- region 1 ref.go:28
  refine WP.region ?_
  refine WL.op (mv (ot rfl)) (by decide) ?_
  refine WL.op (OpG.weak (R' := val (.bool false)) (call (c_r32_Valid xs hl) (.c (ot rfl) .n)) (imp_eq (congrArg (fun b => val (.bool b)) (decide_eq_false ho)))) (by decide) ?_
  refine WL.op (not_ (ot rfl)) (by decide) ?_
  refine WL.nl (.thn ?_)
  -- ref.go:28
  refine WP.condT rfl ?_
  refine WP.seq ?_
  -- region 2 ref.go:29
  refine WP.region ?_
  refine WL.op (asg (oc _)) (by decide) ?_
  refine WL.op (asg (oc _)) (by decide) ?_
  refine WL.nl (.thn ?_)
  exact WP.rt (.rthn (.rN rfl (.cons (.tm rfl) (.cons (.tm rfl) .nil)) (le_ rfl) (impT (.c sl_nil (.c (imp _) .n)))))
theorem c_r32_JoinE (xs : List X) (hl : xs.length ≤ 100000) : PureC Try.prog 26 [sl 3 FX xs] (tup [sl 3 FX (jE xs).1, I (jE xs).2]) := by
  unfold jE
  split
  · rename_i h; exact c_r32_Join xs hl h
  · rename_i h; exact c_r32_Join_err xs hl h

theorem l_push {w0 : World} {M0 : Mask} {b6 : Nat} {rs6 : List Rp} {v : Value} {L : List X} {x : X} {w : World} {vs : List Value} (ho : Xt.Ok 0 L) (hx : 0 ≤ x.a ∧ 1 ≤ x.n ∧ 0 ≤ x.s ∧ x.a + x.n ≤ 65536 ∧ x.s + x.n ≤ 65536) (hn : L.length ≤ 100000) (hv1 : v.oneCell' = true) (hm : Mem w0 M0 (BP b6 rs6 (v, L)) w) (hvs : TupAll w (mkM M0 (BP b6 rs6 (v, L))) [val v, ext x] vs) :
    Calls Try.prog 74 vs.toArray w (Lent w0 M0 (BP b6 rs6 (v, L)) (BP b6 rs6) (fun y => y.2 = push L x ∧ y.1.oneCell' = true) (fun y => val y.1) w) := by
  have hlast := last_ok ho
  unfold lastX at hlast
  refine calls_lent Try.func74 rfl Try.ntmps74 (le_ rfl) hm hvs ?_
  show WP _ _ _ _ [.b b6 31 rs6, .r v 31 3 L.length (L.flatMap FX)] _ _ _
  refine WP.seq ?_
  -- region 0 extent.go:39
  refine WP.region ?_
  refine WL.box (ot rfl) (.agg _) (by decide) fun b3 => ?_
  refine WL.op (asg (oc _)) (by decide) ?_
  refine WL.nl (.thn ?_)
  refine WP.seq ?_
  refine WP.seq ?_
  -- region 1 extent.go:40
  refine WP.region ?_
  refine WL.op (mv (ot rfl)) (by decide) ?_
  refine WL.op (lenr 2 rfl us_s_api_Extent (ot rfl)) (by decide) ?_
  refine WL.op (sub (ot rfl) (oc _) (by omega)) (by decide) ?_
  refine WL.op (asg (ot rfl)) (by decide) ?_
  refine WL.nl (.thn ?_)
  refine WP.seq ?_
  -- region 2 draws extent.go:40
  refine WP.rowAt' 2 rfl fun g cap hv => ?_
  refine WP.draws  ?_
  refine RG.op (mv (ot rfl)) ?_
  refine RG.op (geq (ot rfl) (oc _)) ?_
  refine RG.op (mv (ot rfl)) ?_
  refine RG.gd rfl rfl (Tells.v _ _) (fun hg => mv (ot rfl)) ?_
  refine RG.gd rfl rfl (Tells.v _ _) (fun hg => mv (ot rfl)) ?_
  refine RG.gd rfl rfl (Tells.v _ _) (fun hg => ixr' (hv (by simp at hg; omega)) el_s_api_Extent (og rfl hg) (og rfl hg) (by simp at hg; omega) (by omega)) ?_
  refine RG.gd rfl rfl (Tells.v _ _) (fun hg => OpG.weak (lrs' 2 (hv (by simp at hg; omega)) rfl ag_Extent (og rfl hg) (by rw [flatX_len]; simp at hg; omega)) (imp_eq (congrArg agg (flatX (by simp at hg; omega))))) ?_
  refine RG.gd rfl rfl (Tells.v _ _) (fun hg => call (c_extent_end (lastX L) (by have hz := hlast (by simp at hg; omega); unfold lastX; omega)) (.c (og rfl hg) .n)) ?_
  refine RG.gd rfl rfl (Tells.v _ _) (fun hg => fv fo_Extent_0 (ot rfl)) ?_
  refine RG.gd rfl rfl (Tells.v _ _) (fun hg => lb 0 rfl sc_int (og rfl hg) rfl) ?_
  refine RG.gd rfl rfl (Tells.v _ _) (fun hg => eql (og rfl hg) (og rfl hg)) ?_
  refine RG.op (and_ (ot rfl) (ot rfl)) ?_
  refine RG.op (mv (ot rfl)) ?_
  refine RG.gd rfl rfl (Tells.v _ _) (fun hg => mv (ot rfl)) ?_
  refine RG.gd rfl rfl (Tells.v _ _) (fun hg => mv (ot rfl)) ?_
  refine RG.gd rfl rfl (Tells.v _ _) (fun hg => ixr' (hv (by simp at hg; omega)) el_s_api_Extent (og rfl hg) (og rfl hg) (by simp at hg; omega) (by omega)) ?_
  refine RG.gd rfl rfl (Tells.v _ _) (fun hg => fv fo_Extent_2 (og rfl hg)) ?_
  refine RG.gd rfl rfl (Tells.v _ _) (fun hg => lr' 2 (hv (by simp at hg; omega)) rfl sc_int (og rfl hg) (flat_get (j := 2) (by simp at hg; omega) (by decide))) ?_
  refine RG.gd rfl rfl (Tells.v _ _) (fun hg => mv (ot rfl)) ?_
  refine RG.gd rfl rfl (Tells.v _ _) (fun hg => mv (ot rfl)) ?_
  refine RG.gd rfl rfl (Tells.v _ _) (fun hg => ixr' (hv (by simp at hg; omega)) el_s_api_Extent (og rfl hg) (og rfl hg) (by simp at hg; omega) (by omega)) ?_
  refine RG.gd rfl rfl (Tells.v _ _) (fun hg => fv fo_Extent_1 (og rfl hg)) ?_
  refine RG.gd rfl rfl (Tells.v _ _) (fun hg => lr' 2 (hv (by simp at hg; omega)) rfl sc_int (og rfl hg) (flat_get (j := 1) (by simp at hg; omega) (by decide))) ?_
  refine RG.gd rfl rfl (Tells.v _ _) (fun hg => have hz := hlast (by simp at hg; omega); add (og rfl hg) (og rfl hg) (by omega)) ?_
  refine RG.gd rfl rfl (Tells.v _ _) (fun hg => fv fo_Extent_2 (ot rfl)) ?_
  refine RG.gd rfl rfl (Tells.v _ _) (fun hg => lb 0 rfl sc_int (og rfl hg) rfl) ?_
  refine RG.gd rfl rfl (Tells.v _ _) (fun hg => eql (og rfl hg) (og rfl hg)) ?_
  refine RG.op (and_ (ot rfl) (ot rfl)) ?_
  refine RG.fin HM (by kernel_rfl) ?_
  show WL _ _ _ _ _ _ _ _ _
  refine WL.nl (.thn ?_)
  -- extent.go:40
  refine WP.condB (decide (0 < L.length ∧ Fol (lastX L) x)) rfl (fol_test2 _ _) (fun hc => ?_) (fun hc => ?_)
  · skip
    have hp0 := of_decide_eq_true hc
    have hm := hp0.1
    have hz := hlast hm
    have hp := hp0.2
    refine WP.seq ?_
    -- region 3 draws extent.go:41
    refine WP.draws ?_
    refine RG.op (mv (ot rfl)) ?_
    refine RG.op (mv (ot rfl)) ?_
    refine RG.op (ixr' (hv hm) el_s_api_Extent (ot rfl) (ot rfl) (by omega) (by omega)) ?_
    refine RG.op (fv fo_Extent_1 (ot rfl)) ?_
    refine RG.op (lr' 2 (hv hm) rfl sc_int (ot rfl) (flat_get (j := 1) (by omega) (by decide))) ?_
    refine RG.op (fv fo_Extent_1 (ot rfl)) ?_
    refine RG.op (lb 0 rfl sc_int (ot rfl) rfl) ?_
    refine RG.op (add (ot rfl) (ot rfl) (by omega)) ?_
    refine RG.op (ixr' (hv hm) el_s_api_Extent (ot rfl) (ot rfl) (by omega) (by omega)) ?_
    refine RG.op (fv fo_Extent_1 (ot rfl)) ?_
    refine RG.fin HM (by kernel_rfl) ?_
    show WL _ _ _ _ _ _ _ _ _
    refine WL.storeR' 2 (hv hm) rfl (ot rfl) (ot rfl) (.leaf (.val rfl)) sz_int rfl (by rw [flatX_len]; omega) ?_
    refine WL.nl (.thn ?_)
    refine WP.seq ?_
    -- region 4 extent.go:42
    refine WP.region ?_
    refine WL.op (mv (ot rfl)) (by decide) ?_
    refine WL.op (asg (ot rfl)) (by decide) ?_
    refine WL.nl (.thn ?_)
    exact WP.rt (.rthn (Lead.lent (i := 4) rfl rfl rfl 1 (v, push L x) ⟨rfl, hv1⟩ (Eq.trans (b := [.b b6 31 rs6, .r v 31 3 (L.length) (setAt (L.flatMap FX) (((L.length : Int) - 1).toNat * 3 + 1) [I ((lastX L).n + x.n)])]) rfl (by rw [push_fol hm hp, flat_set (by omega)]; unfold BP; dsimp only; rw [List.length_set])) (imp _)))
  · skip
    have hp : 0 < L.length → ¬ Fol (lastX L) x := fun hm hf => of_decide_eq_false hc ⟨hm, hf⟩
    refine WP.sk (.thn ?_)
    refine WP.seq ?_
    -- region 5 extent.go:44
    refine WP.region ?_
    refine WL.op (mv (ot rfl)) (by decide) ?_
    refine WL.op (lbs 0 rfl ag_Extent (ot rfl) (le_ rfl)) (by decide) ?_
    refine WL.op (bsl1 (f := FX) (el := x) ei_s_api_Extent (ot rfl) (.agg _) rfl (by decide) (by decide)) (by decide) ?_
    refine WL.app 2 rfl ei_s_api_Extent (by decide) (ot rfl) (ot rfl) (by simp) (fun _ => rfl) (by simp only [List.length_singleton]; omega) (by simp only [List.length_singleton]; omega) (by decide) fun v51 h51 => ?_
    refine WL.op (asg (ot rfl)) (by decide) ?_
    refine WL.nl (.thn ?_)
    exact WP.rt (Lead.lent (i := 4) rfl rfl rfl 1 (v51, push L x) ⟨rfl, h51⟩ (Eq.trans (b := [.b b6 31 rs6, .r v51 31 3 (L.length + 1) (L.flatMap FX ++ [x].flatMap FX)]) rfl (by rw [push_not hp]; unfold BP; dsimp only; rw [List.flatMap_append, List.length_append]; rfl)) (imp _))
theorem c_extent_Join_ok (xs : List X) (hl : xs.length ≤ 100000) (ho : Xt.Ok 0 xs) : PureC Try.prog 56 [sl 3 FX xs] (tup [sl 3 FX (Jn xs), I 0]) := by
  refine PureC.of_wp Try.func56 (by kernel_rfl) rfl Try.ntmps56 (le_ rfl) (fun w0 M0 => ?_)
  refine WP.nilrow 31 3 ?_
  refine WP.seq  ?_
  -- region 0 extent.go:48
  refine WP.region ?_
  refine WL.op (asg (oc _)) (by decide) ?_
  refine WL.op (asg (oc _)) (by decide) ?_
  refine WL.nl (.thn ?_)
  refine WP.seq ?_
  refine WP.seq ?_
  -- region 1 extent.go:49
  refine WP.region ?_
  refine WL.op (mv (ot rfl)) (by decide) ?_
  refine WL.op (OpG.weak (R' := val (.bool true)) (call (c_extent_Valid xs hl) (.c (ot rfl) .n)) (imp_eq (congrArg (fun b => val (.bool b)) (decide_eq_true ho)))) (by decide) ?_
  refine WL.op (not_ (ot rfl)) (by decide) ?_
  refine WL.nl (.thn ?_)
  -- extent.go:49
  refine WP.condF rfl ?_
  refine WP.sk (.thn ?_)
  refine WP.seq ?_
  -- region 3 extent.go:52
  refine WP.region ?_
  refine WL.op (asg (oc _)) (by decide) ?_
  refine WL.nl (.thn ?_)
  refine WP.seq ?_
  refine WP.seq ?_
  -- region 4 extent.go:53
  refine WP.region ?_
  refine WL.op (mv (ot rfl)) (by decide) ?_
  refine WL.op (len_ us_s_api_Extent (ot rfl)) (by decide) ?_
  refine WL.op (mv (oc _)) (by decide) ?_
  refine WL.nl (.thn ?_)
  refine WP.block ?_
  refine WP.loop (fun y : Nat × Value => [.r y.2 31 3 (Jn (xs.take y.1)).length ((Jn (xs.take y.1)).flatMap FX)]) (fun y => [(12, I (y.1 : Int)), (11, I (xs.length : Int)), (10, sl 3 FX xs), (4, val y.2)]) (fun y => y.1 ≤ xs.length ∧ y.2.oneCell' = true) (fun y => xs.length - y.1) (0, nilS) ⟨Nat.zero_le _, rfl⟩ (Sub.ofD 0 rfl (Sub.cons rfl (imp_eq rfl) (Sub.cons rfl (imp _) (Sub.cons rfl (imp _) (Sub.cons rfl (imp _) Sub.nil))))) (fun y hi => ?_)
  obtain ⟨i, v⟩ := y
  replace hi : i ≤ xs.length ∧ v.oneCell' = true := hi
  show WP _ _ _ _ [.r v 31 3 (Jn (xs.take i)).length ((Jn (xs.take i)).flatMap FX)] [(12, I (i : Int)), (11, I (xs.length : Int)), (10, sl 3 FX xs), (4, val v)] _ _
  refine WP.seq ?_
  -- region 5 extent.go:53
  refine WP.region ?_
  refine WL.op (lss (ot rfl) (ot rfl)) (by decide) ?_
  refine WL.nl (.thn ?_)
  refine WP.seq ?_
  -- extent.go:53
  refine WP.cond rfl (fun hc => ?_) (fun hc => ?_)
  · skip
    have hc1 : i < xs.length := by have := of_decide_eq_true hc; omega
    have hx := ok_at hc1 ho
    have hLo : Xt.Ok 0 (Jn (xs.take i)) := (jn_spec (Xt.Ok.append_left (B := xs.drop i) (by rw [List.take_append_drop]; exact ho))).1
    have hjl : (Jn (xs.take i)).length ≤ i := Nat.le_trans (jn_len _) (List.length_take_le _ _)
    refine WP.sk (.thn ?_)
    refine WP.seq ?_
    refine WP.block ?_
    refine WP.seq ?_
    -- region 6 extent.go:53
    refine WP.region ?_
    refine WL.op (ixd el_s_api_Extent (ot rfl) (ot rfl) (by omega) (by omega)) (by decide) ?_
    refine WL.op (ls ag_Extent (ot rfl) (le_ rfl)) (by decide) ?_
    refine WL.alloc zr_Extent rfl (by decide) fun b6 => ?_
    refine WL.store 0 rfl (ot rfl) (ot rfl) (.agg _) sz_Extent rfl (le_ rfl) ?_
    refine WL.nl (.thn ?_)
    -- region 7 extent.go:54
    refine WP.region ?_
    refine WL.op (mv (ot rfl)) (by decide) ?_
    refine WL.op (lbs 0 rfl ag_Extent (ot rfl) (le_ rfl)) (by decide) ?_
    refine WL.lent (bx := BP b6 (FX (xs.getD (i : Int).toNat default))) (I := fun y => y.2 = push (Jn (xs.take i)) (xs.getD (i : Int).toNat default) ∧ y.1.oneCell' = true) (R := fun y => val y.1) (fun a w hok => ⟨_, _, run_callF e_push (xs := [.tmp 16, .tmp 17]) (Rs := [val v, ext (xs.getD (i : Int).toNat default)]) a w, l_push (v := v) (L := Jn (xs.take i)) hLo hx (by omega) hi.2 hok.mem (OFs.ok (.c (ot rfl) (.c (ot rfl) .n)) hok)⟩) (by decide) fun y hy => ?_
    obtain ⟨v18, L18⟩ := y
    obtain ⟨hL18, hv18⟩ := hy
    replace hL18 : L18 = push (Jn (xs.take i)) (xs.getD (i : Int).toNat default) := hL18
    subst hL18
    refine WL.op (asg (ot rfl)) (by decide) ?_
    refine WL.nl (.blk (.thn ?_))
    -- region 8 extent.go:53
    refine WP.region ?_
    refine WL.op (add (ot rfl) (oc _) (by omega)) (by decide) ?_
    refine WL.op (mv (ot rfl)) (by decide) ?_
    exact WL.nl (.again (i + 1, v18) ⟨hc1, hv18⟩ (by show xs.length - (i + 1) < xs.length - i; omega) (Sub.ofD 1 (by rw [jn_step hc1]; rfl) (Sub.cons rfl (imp_eq (congrArg I (by omega))) (Sub.cons rfl (imp _) (Sub.cons rfl (imp _) (Sub.cons rfl (imp _) Sub.nil))))))
  · skip
    have hc1 : ¬ i < xs.length := by have := of_decide_eq_false hc; omega
    refine WP.xt (.xthn (.xthn (.xin (.thn ?_))))
    refine WP.seq ?_
    -- region 9 extent.go:56
    refine WP.region ?_
    refine WL.op (mv (ot rfl)) (by decide) ?_
    refine WL.op (asg (ot rfl)) (by decide) ?_
    refine WL.op (asg (oc _)) (by decide) ?_
    refine WL.nl (.thn ?_)
    have hL2 : Jn (xs.take i) = Jn xs := by rw [List.take_of_length_le (by omega)]
    refine WP.freeze 0 2 FX (Jn (xs.take i)) rfl (fun _ => rfl) rfl rfl rfl ?_
    exact WP.rt (.rN rfl (.cons (.tm rfl) (.cons (.tm rfl) .nil)) (le_ rfl) (imp_eq (by rw [hL2])))
theorem c_extent_Join_err (xs : List X) (hl : xs.length ≤ 100000) (ho : ¬ Xt.Ok 0 xs) : PureC Try.prog 56 [sl 3 FX xs] (tup [sl 3 FX ([] : List X), I 1]) := by
  refine PureC.of_wp Try.func56 (by kernel_rfl) rfl Try.ntmps56 (le_ rfl) (fun w0 M0 => ?_)
  refine WP.seq ?_
  -- region 0 extent.go:48
  refine WP.region ?_
  refine WL.op (asg (oc _)) (by decide) ?_
  refine WL.op (asg (oc _)) (by decide) ?_
  refine WL.nl (.thn ?_)
  refine WP.seq ?_
  refine WP.seq ?_
  -- region 1 extent.go:49
  refine WP.region ?_
  refine WL.op (mv (ot rfl)) (by decide) ?_
  refine WL.op (OpG.weak (R' := val (.bool false)) (call (c_extent_Valid xs hl) (.c (ot rfl) .n)) (imp_eq (congrArg (fun b => val (.bool b)) (decide_eq_false ho)))) (by decide) ?_
  refine WL.op (not_ (ot rfl)) (by decide) ?_
  refine WL.nl (.thn ?_)
  -- extent.go:49
  refine WP.condT rfl ?_
  refine WP.seq ?_
  -- region 2 extent.go:50
  refine WP.region ?_
  refine WL.op (asg (oc _)) (by decide) ?_
  refine WL.op (asg (oc _)) (by decide) ?_
  refine WL.nl (.thn ?_)
  exact WP.rt (.rthn (.rN rfl (.cons (.tm rfl) (.cons (.tm rfl) .nil)) (le_ rfl) (impT (.c sl_nil (.c (imp _) .n)))))
theorem c_extent_Join (xs : List X) (hl : xs.length ≤ 100000) : PureC Try.prog 56 [sl 3 FX xs] (tup [sl 3 FX (jE xs).1, I (jE xs).2]) := by
  unfold jE
  split
  · rename_i h; exact c_extent_Join_ok xs hl h
  · rename_i h; exact c_extent_Join_err xs hl h

theorem c_x_Of_ok (l : List X) (hl : l.length ≤ 100000) (ho : Xt.Ok 0 l) : PureC Try.prog 32 [sl 3 FX l] (tup [eT (ofT (Jn l)), I 0]) := by
  have hjl := jn_len l
  refine PureC.of_wp Try.func32 (by kernel_rfl) rfl Try.ntmps32 (le_ rfl) (fun w0 M0 => ?_)
  refine WP.seq ?_
  -- region 0 extree.go:147
  refine WP.region ?_
  refine WL.alloc zr_Tree rfl (by decide) fun b2 => ?_
  refine WL.op (asg (oc _)) (by decide) ?_
  refine WL.nl (.thn ?_)
  refine WP.seq ?_
  -- region 1 extree.go:148
  refine WP.region ?_
  refine WL.op (mv (ot rfl)) (by decide) ?_
  refine WL.op (call (c_extent_Join_ok l hl ho) (.c (ot rfl) .n)) (by decide) ?_
  refine WL.op (mv (ot rfl)) (by decide) ?_
  refine WL.op (ex (ot rfl) rfl) (by decide) ?_
  refine WL.op (ex (ot rfl) rfl) (by decide) ?_
  refine WL.op (asg (ot rfl)) (by decide) ?_
  refine WL.op (asg (ot rfl)) (by decide) ?_
  refine WL.nl (.thn ?_)
  refine WP.seq ?_
  refine WP.seq ?_
  -- region 2 extree.go:149
  refine WP.region ?_
  refine WL.op (mv (ot rfl)) (by decide) ?_
  refine WL.op (neq (ot rfl) (oc _)) (by decide) ?_
  refine WL.nl (.thn ?_)
  -- extree.go:149
  refine WP.condF rfl ?_
  refine WP.sk (.thn ?_)
  refine WP.seq ?_
  -- region 4 extree.go:152
  refine WP.region ?_
  refine WL.alloc zr_Tree rfl (by decide) fun b5 => ?_
  refine WL.nl (.thn ?_)
  refine WP.seq ?_
  refine WP.seq ?_
  -- region 5 extree.go:153
  refine WP.region ?_
  refine WL.op (mv (ot rfl)) (by decide) ?_
  refine WL.op (len_ us_s_api_Extent (ot rfl)) (by decide) ?_
  refine WL.op (mv (oc _)) (by decide) ?_
  refine WL.nl (.thn ?_)
  refine WP.block ?_
  refine WP.loop (fun y : Nat => [.b b5 26 [tree (ofT ((Jn l).take y))], .b b2 26 [tree .nil]]) (fun y => [(19, I (y : Int)), (18, I ((Jn l).length : Int)), (17, sl 3 FX (Jn l)), (5, val (.pointer (some ⟨b5, 0, none⟩))), (2, val (.pointer (some ⟨b2, 0, none⟩)))]) (fun y => y ≤ (Jn l).length) (fun y => (Jn l).length - y) 0 (Nat.zero_le _) (Sub.ofD 0 rfl (Sub.cons rfl (imp_eq rfl) (Sub.cons rfl (imp _) (Sub.cons rfl (imp _) (Sub.cons rfl (imp _) (Sub.cons rfl (imp _) Sub.nil)))))) (fun i hi => ?_)
  replace hi : i ≤ (Jn l).length := hi
  show WP _ _ _ _ [.b b5 26 [tree (ofT ((Jn l).take i))], .b b2 26 [tree .nil]] [(19, I (i : Int)), (18, I ((Jn l).length : Int)), (17, sl 3 FX (Jn l)), (5, val (.pointer (some ⟨b5, 0, none⟩))), (2, val (.pointer (some ⟨b2, 0, none⟩)))] _ _
  refine WP.seq ?_
  -- region 6 extree.go:153
  refine WP.region ?_
  refine WL.op (lss (ot rfl) (ot rfl)) (by decide) ?_
  refine WL.nl (.thn ?_)
  refine WP.seq ?_
  -- extree.go:153
  refine WP.cond rfl (fun hc => ?_) (fun hc => ?_)
  · skip
    have hc1 : i < (Jn l).length := by have := of_decide_eq_true hc; omega
    have hbd : Bd ((ofT ((Jn l).take i)).list ++ (((Jn l).getD (i : Int).toNat default) :: Tr.nil.list)) := by
      rw [(ofT_ok _).2]
      refine (Xt.Ok.append_left (B := (Jn l).drop (i + 1)) (lo := 0) ?_).bd (Int.le_refl 0)
      show Xt.Ok 0 ((Jn l).take i ++ [((Jn l).getD (i : Int).toNat default)] ++ (Jn l).drop (i + 1))
      rw [getD_at hc1, List.append_assoc]
      show Xt.Ok 0 ((Jn l).take i ++ (Jn l)[i] :: (Jn l).drop (i + 1))
      rw [← List.drop_eq_getElem_cons hc1, List.take_append_drop]
      exact (jn_spec ho).1
    refine WP.sk (.thn ?_)
    refine WP.seq ?_
    refine WP.block ?_
    refine WP.seq ?_
    -- region 7 extree.go:153
    refine WP.region ?_
    refine WL.op (ixd el_s_api_Extent (ot rfl) (ot rfl) (by omega) (by omega)) (by decide) ?_
    refine WL.op (ls ag_Extent (ot rfl) (le_ rfl)) (by decide) ?_
    refine WL.alloc zr_Extent rfl (by decide) fun b7 => ?_
    refine WL.store 0 rfl (ot rfl) (ot rfl) (.agg _) sz_Extent rfl (le_ rfl) ?_
    refine WL.nl (.thn ?_)
    -- region 8 extree.go:154
    refine WP.region ?_
    refine WL.op (fv fo_Tree_0 (ot rfl)) (by decide) ?_
    refine WL.op (lb 1 rfl sc_p_extree_node (ot rfl) rfl) (by decide) ?_
    refine WL.op (lbs 0 rfl ag_Extent (ot rfl) (le_ rfl)) (by decide) ?_
    refine WL.op (call (c_x_join (l := ofT ((Jn l).take i)) (r := .nil) (ofT_ok _).1 trivial hbd) (.c (ot rfl) (.c (ot rfl) (.c (oc _) .n)))) (by decide) ?_
    refine WL.op (fv fo_Tree_0 (ot rfl)) (by decide) ?_
    refine WL.store 1 rfl (ot rfl) (ot rfl) (.leaf (leaf_tree _)) sz_p_extree_node rfl (le_ rfl) ?_
    refine WL.nl (.blk (.thn ?_))
    -- region 9 extree.go:153
    refine WP.region ?_
    refine WL.op (add (ot rfl) (oc _) (by omega)) (by decide) ?_
    refine WL.op (mv (ot rfl)) (by decide) ?_
    exact WL.nl (.again (i + 1) hc1 (by omega) (Sub.ofD 1 (by rw [ofT_step hc1]; rfl) (Sub.cons rfl (imp_eq (congrArg I (by omega))) (Sub.cons rfl (imp _) (Sub.cons rfl (imp _) (Sub.cons rfl (imp _) (Sub.cons rfl (imp _) Sub.nil)))))))
  · skip
    have hc1 : ¬ i < (Jn l).length := by have := of_decide_eq_false hc; omega
    have hjl := jn_len l
    refine WP.xt (.xthn (.xthn (.xin (.thn ?_))))
    refine WP.seq ?_
    -- region 10 extree.go:156
    refine WP.region ?_
    refine WL.op (lbs 0 rfl ag_Tree (ot rfl) (le_ rfl)) (by decide) ?_
    refine WL.store 1 rfl (ot rfl) (ot rfl) (.agg _) sz_Tree rfl (le_ rfl) ?_
    refine WL.op (asg (oc _)) (by decide) ?_
    refine WL.nl (.thn ?_)
    have hL2 : ofT ((Jn l).take i) = ofT (Jn l) := by rw [List.take_of_length_le (by omega)]
    exact WP.rt (.rN rfl (.cons (.bx 1 rfl rfl ag_Tree) (.cons (.tm rfl) .nil)) (le_ rfl) (imp_eq (by rw [← hL2]; rfl)))
theorem c_x_Of_err (l : List X) (hl : l.length ≤ 100000) (ho : ¬ Xt.Ok 0 l) : PureC Try.prog 32 [sl 3 FX l] (tup [eT .nil, I 1]) := by
  refine PureC.of_wp Try.func32 (by kernel_rfl) rfl Try.ntmps32 (le_ rfl) (fun w0 M0 => ?_)
  refine WP.seq ?_
  -- region 0 extree.go:147
  refine WP.region ?_
  refine WL.alloc zr_Tree rfl (by decide) fun b2 => ?_
  refine WL.op (asg (oc _)) (by decide) ?_
  refine WL.nl (.thn ?_)
  refine WP.seq ?_
  -- region 1 extree.go:148
  refine WP.region ?_
  refine WL.op (mv (ot rfl)) (by decide) ?_
  refine WL.op (call (c_extent_Join_err l hl ho) (.c (ot rfl) .n)) (by decide) ?_
  refine WL.op (mv (ot rfl)) (by decide) ?_
  refine WL.op (ex (ot rfl) rfl) (by decide) ?_
  refine WL.op (ex (ot rfl) rfl) (by decide) ?_
  refine WL.op (asg (ot rfl)) (by decide) ?_
  refine WL.op (asg (ot rfl)) (by decide) ?_
  refine WL.nl (.thn ?_)
  refine WP.seq ?_
  refine WP.seq ?_
  -- region 2 extree.go:149
  refine WP.region ?_
  refine WL.op (mv (ot rfl)) (by decide) ?_
  refine WL.op (neq (ot rfl) (oc _)) (by decide) ?_
  refine WL.nl (.thn ?_)
  -- extree.go:149
  refine WP.condT rfl ?_
  refine WP.seq ?_
  -- region 3 extree.go:150
  refine WP.region ?_
  refine WL.op (bld zr_Tree rfl ps_Tree .n) (by decide) ?_
  refine WL.op (mv (ot rfl)) (by decide) ?_
  refine WL.store 0 rfl (ot rfl) (ot rfl) (.agg _) sz_Tree rfl (le_ rfl) ?_
  refine WL.op (asg (ot rfl)) (by decide) ?_
  refine WL.nl (.thn ?_)
  exact WP.rt (.rthn (.rN rfl (.cons (.bx 0 rfl rfl ag_Tree) (.cons (.tm rfl) .nil)) (le_ rfl) (imp _)))
theorem c_x_Of (l : List X) (hl : l.length ≤ 100000) : PureC Try.prog 32 [sl 3 FX l] (tup [eT (ofE l).1, I (ofE l).2]) := by
  unfold ofE
  split
  · rename_i h; exact c_x_Of_ok l hl h
  · rename_i h; exact c_x_Of_err l hl h

theorem c_w33_ExtreeOf {xs : List X} (_hX : ∀ x ∈ xs, I6 x) : PureC Try.prog 10 [sl 3 FX xs] (val (.bool true)) := by
  obtain ⟨k1, k2, k3, k4⟩ := ofE_like xs
  refine PureC.of_wp Try.func10 (by kernel_rfl) rfl Try.ntmps10 (le_ rfl) (fun w0 M0 => ?_)
  refine WP.seq ?_
  -- region 0 law.go:99
  refine WP.region ?_
  refine WL.op (asg (oc _)) (by decide) ?_
  refine WL.nl (.thn ?_)
  refine WP.seq ?_
  refine WP.seq ?_
  -- region 1 law.go:100
  refine WP.region ?_
  refine WL.op (call c_w33_awake .n) (by decide) ?_
  refine WL.op (not_ (ot rfl)) (by decide) ?_
  refine WL.nl (.thn ?_)
  -- law.go:100
  refine WP.condF rfl ?_
  refine WP.sk (.thn ?_)
  refine WP.seq ?_
  refine WP.seq ?_
  -- region 3 law.go:103
  refine WP.region ?_
  refine WL.op (mv (ot rfl)) (by decide) ?_
  refine WL.op (len_ us_s_api_Extent (ot rfl)) (by decide) ?_
  refine WL.op (gtr (ot rfl) (oc _)) (by decide) ?_
  refine WL.nl (.thn ?_)
  -- law.go:103
  refine WP.cond rfl (fun hc => ?_) (fun hc => ?_)
  · skip
    refine WP.seq ?_
    -- region 4 law.go:104
    refine WP.region ?_
    refine WL.op (asg (oc _)) (by decide) ?_
    refine WL.nl (.thn ?_)
    exact WP.rt (.rthn (.r1 rfl rfl (imp _)))
  · skip
    have hle : xs.length ≤ 40 := by have := of_decide_eq_false hc; omega
    refine WP.sk (.thn ?_)
    refine WP.seq ?_
    -- region 5 law.go:106
    refine WP.region ?_
    refine WL.mkr (OpN.bsl0 ei_s_api_Extent) (by decide) fun v13 h13 => ?_
    refine WL.op (mv (ot rfl)) (by decide) ?_
    refine WL.app' 0 rfl ei_s_api_Extent (by decide) (ot rfl) (ot rfl) h13 (fun _ => rfl) (by omega) (by omega) (by decide) fun v15 h15 => ?_
    refine WL.freeze 0 15 FX xs rfl (fun _ => rfl) (Nat.zero_add _) rfl rfl ?_
    refine WL.op (call (c_x_Of xs (by omega)) (.c (ot rfl) .n)) (by decide) ?_
    refine WL.op (mv (ot rfl)) (by decide) ?_
    refine WL.op (ex (ot rfl) rfl) (by decide) ?_
    refine WL.op (ex (ot rfl) rfl) (by decide) ?_
    refine WL.alloc zr_Tree rfl (by decide) fun b3 => ?_
    refine WL.store 0 rfl (ot rfl) (ot rfl) (.agg _) sz_Tree rfl (le_ rfl) ?_
    refine WL.op (asg (ot rfl)) (by decide) ?_
    refine WL.nl (.thn ?_)
    refine WP.seq ?_
    -- region 6 law.go:107
    refine WP.region ?_
    refine WL.op (mv (ot rfl)) (by decide) ?_
    refine WL.op (call (c_r32_JoinE xs (by omega)) (.c (ot rfl) .n)) (by decide) ?_
    refine WL.op (mv (ot rfl)) (by decide) ?_
    refine WL.op (ex (ot rfl) rfl) (by decide) ?_
    refine WL.op (ex (ot rfl) rfl) (by decide) ?_
    refine WL.op (asg (ot rfl)) (by decide) ?_
    refine WL.op (asg (ot rfl)) (by decide) ?_
    refine WL.nl (.thn ?_)
    refine WP.seq ?_
    -- region 7 law.go:108
    refine WP.region ?_
    refine WL.op (mv (ot rfl)) (by decide) ?_
    refine WL.op (mv (ot rfl)) (by decide) ?_
    refine WL.op (OpG.weak (R' := val (.bool true)) (eql  (ot rfl) (ot rfl)) (imp_eq (congrArg (fun b => val (.bool b)) (decide_eq_true k1)))) (by decide) ?_
    refine WL.op (mv (ot rfl)) (by decide) ?_
    refine WL.gT rfl rfl ?_ -- g3
    refine WL.op (lbs 0 rfl ag_Tree (ot rfl) (le_ rfl)) (by decide) ?_
    refine WL.gT rfl rfl ?_ -- g3
    refine WL.op (call (c_w33_all (t := (ofE xs).1) (by rw [k2]; omega)) (.c (ot rfl) .n)) (by decide) ?_
    refine WL.gT rfl rfl ?_ -- g3
    refine WL.op (mv (ot rfl)) (by decide) ?_
    refine WL.gT rfl rfl ?_ -- g3
    refine WL.op (OpG.weak (R' := val (.bool true)) (call (c_r32_Same (ofE xs).1.list (jE xs).1 (by rw [k2]; omega) (by omega)) (.c (ot rfl) (.c (ot rfl) .n))) (imp_eq (congrArg (fun b => val (.bool b)) (decide_eq_true k2)))) (by decide) ?_
    refine WL.op (pickT (ot rfl) (ot rfl)) (by decide) ?_
    refine WL.op (mv (ot rfl)) (by decide) ?_
    refine WL.gT rfl rfl ?_ -- g9
    refine WL.op (lbs 0 rfl ag_Tree (ot rfl) (le_ rfl)) (by decide) ?_
    refine WL.gT rfl rfl ?_ -- g9
    refine WL.op (call (c_w33_balanced k3) (.c (ot rfl) .n)) (by decide) ?_
    refine WL.op (pickT (ot rfl) (ot rfl)) (by decide) ?_
    refine WL.op (asg (ot rfl)) (by decide) ?_
    refine WL.nl (.thn ?_)
    exact WP.rt (.r1 rfl rfl (imp _))
end Go.Proofs.Ytjglgfnhgehpeaa

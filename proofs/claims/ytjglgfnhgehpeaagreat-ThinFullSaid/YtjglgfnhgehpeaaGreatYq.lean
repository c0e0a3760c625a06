/- Parts: Nam, Lay5, R34, FmD. -/
import Derived.Test.YtjglgfnhgehpeaaGreatYp
import Derived.Test.YtjglgfnhgehpeaaGreatYg
import Derived.Test.YtjglgfnhgehpeaaGreatYf
/- The names of a family: maps.Keys, slices.Sorted. -/
set_option linter.unusedVariables false
set_option linter.unusedSimpArgs false
set_option maxRecDepth 4000
namespace Go.Proofs.YtjglgfnhgehpeaaGreat
open Go.RowKit Go.Fw Go.Xt Go.Sort Go.Maps
def keysB (l : List (ByteArray × Vol)) : List (List UInt8) := l.map fun x => x.1.data.toList
def sortK (l : List (ByteArray × Vol)) : List (List UInt8) := (keysB l).mergeSort leB
def FSt (b : List UInt8) : List Rp := [val (encStr b)]
def keyR (l : List (ByteArray × Vol)) : Rp :=
  ⟨fun v w M => ∃ b c, v = .func (.func 110) #[] #[.pointer (some ⟨b, 0, none⟩)] ∧ b < w.heap.size ∧ ¬ M b ∧ w.cell? ⟨b, 0, none⟩ = some c ∧ (mp FV l).h c w M,
   fun ⟨b, c, h1, h2, h3, h4, h5⟩ k => ⟨b, c, h1, Nat.lt_of_lt_of_le h2 k.size, fun hm => (k.mask b hm).elim h3 (fun h => by omega), (World.cell?_of_block (w := _) (a := ⟨b, 0, none⟩) (k.block b h2 h3)).trans h4, (mp FV l).keep h5 k⟩⟩
theorem e_keys1 : Enters Tryz.prog 110 := enters_of Tryz.func110 (by kernel_rfl) rfl
theorem c_maps_Keys {l : List (ByteArray × Vol)} : PureC Tryz.prog 72 [mp FV l] (keyR l) := ⟨enters_of Tryz.func72 (by kernel_rfl) rfl, fun w M vs hm hvs => by
  match vs, hvs with
  | [v], ⟨h1, _⟩ =>
    have hv : ∃ mb, v = .map mb := by
      rcases h1 with ⟨h, _⟩ | ⟨b, h, _⟩
      · exact ⟨_, h⟩
      · exact ⟨_, h⟩
    obtain ⟨mb, rfl⟩ := hv
    have hc := (callsIn_wide (n := 5)).1 (AnyZ.keys_in Tryz.keysX Fence.wide 5 trivial rfl mb w)
    refine Calls.mono hc ?_
    rintro e w' ⟨rfl, rfl⟩
    have hb : Below w.heap.size w (w.alloc (.cells #[.map mb] 26)) := (Below.refl _ w).alloc (Nat.le_refl _) _
    refine ⟨_, rfl, ?_, hb⟩
    exact ⟨w.heap.size, .map mb, rfl, by simp, fun h => by have := hm _ h; omega, by simp, Rp.keep _ h1 (Kp.of_below _ hb)⟩⟩
theorem sortsX (m : Nat) : AnyZ.SortsIn Tryz.prog Tryz.sortedX_ren Fence.wide m :=
  ⟨fun blk off cap ss W hH hblk hsz => callsIn_wide.2 (AnyM.slices_Sort_string Tryz.sortX2 blk off cap ss W hH hblk hsz),
   fun p cap W => callsIn_wide.2 (AnyM.slices_Sort_string_none Tryz.sortX2 p cap W)⟩
theorem sl_own {w : World} {M : Mask} {v : Value} {ss : List (List UInt8)} {n0 : Nat} {T : TypeId} (h : w.ownsRow n0 T 1 v ss.length (ss.map encStr)) (hm : ∀ b, M b → b < n0) : (sl 1 FSt ss).h v w M := by
  rcases h.2 with ⟨rfl, h0⟩ | ⟨g, cap, cur, rfl, d0, d1, d2, d3, d4, d5⟩
  · have : ss = [] := List.eq_nil_of_length_eq_zero h0
    subst this
    exact ⟨none, 0, rfl, Nat.le_refl _, .inl rfl⟩
  · refine ⟨_, cap, rfl, d2, .inr ⟨g, 0, rfl, (Array.getElem?_eq_some_iff.1 d1).1, fun hg => by have := hm g hg; omega, fun i x hx => ⟨⟨encStr x, ?_, rfl, rfl⟩, trivial⟩⟩⟩
    have hi := (List.getElem?_eq_some_iff.1 hx).1
    rw [Nat.zero_add, Nat.mul_one, cell_of_row w g i cur T (0, 0) d1]
    have h5 : (cur.toList.take (ss.length * 1))[i]? = (ss.map encStr)[i]? := by rw [d5]
    rw [List.getElem?_take, if_pos (by omega), List.getElem?_map, hx] at h5
    rw [← Array.getElem?_toList, h5]; rfl
theorem keys_of {w : World} {M : Mask} : ∀ {l : List (ByteArray × Vol)} {es : List MapEntry}, MapAll w M (mapK FV l) es → (∀ x ∈ l, x.1.size ≤ 1000) → ∀ x ∈ es, ∃ s : ByteArray, x.key = .string s ∧ s.size ≤ 1000
  | [], [], _, _, x, hx => by cases hx
  | y :: l, e :: es, ⟨⟨h1, _⟩, h3⟩, hk, x, hx => by
    rcases List.mem_cons.1 hx with rfl | hx
    · exact ⟨_, h1, hk y List.mem_cons_self⟩
    · exact keys_of h3 (fun z hz => hk z (List.mem_cons_of_mem _ hz)) x hx
theorem keys_list {w : World} {M : Mask} {H : Type} {f : MapEntry → Lit × DataW H} : ∀ {l : List (ByteArray × Vol)} {es : List MapEntry}, MapAll w M (mapK FV l) es → (∀ x ∈ es, ∃ s : ByteArray, x.key = .string s ∧ strOf (f x).1 = s.data.toList) → (es.map f).map (fun p => strOf p.1) = keysB l
  | [], [], _, _ => rfl
  | y :: l, e :: es, ⟨⟨h1, _⟩, h3⟩, hk => by
    obtain ⟨s, k1, k2⟩ := hk e List.mem_cons_self
    rw [h1] at k1
    have : y.1 = s := by injection k1
    have ih := keys_list (f := f) h3 fun x hx => hk x (List.mem_cons_of_mem _ hx)
    show strOf (f e).1 :: (es.map f).map (fun p => strOf p.1) = y.1.data.toList :: keysB l
    rw [ih, k2, this]
theorem c_slices_Sorted {l : List (ByteArray × Vol)} (hl : l.length ≤ 1000) (hk : ∀ x ∈ l, x.1.size ≤ 1000) : PureC Tryz.prog 71 [keyR l] (sl 1 FSt (sortK l)) := ⟨enters_of Tryz.func71 (by kernel_rfl) rfl, fun w M vs hm hvs => by
  match vs, hvs with
  | [v], ⟨⟨b, c, hv, h2, h3, h4, h5⟩, _⟩ =>
    subst hv
    rcases h5 with ⟨rfl, rfl⟩ | ⟨g, rfl, g2, g3, es, clock, g4, g6, g5⟩
    · have hseq : SeqGives Fence.wide 2 Tryz.prog 110 #[.pointer (some ⟨b, 0, none⟩)] encStr (fun ss : List (List UInt8) => ss = []) 0 w :=
        AnyZ.keys_gives_nil (ρ := Tryz.keysX_ren) { Tryz.keysX with } Fence.wide _ trivial rfl b w h2 h4
      have cS := AnyZ.sorted_in Tryz.sortedX Fence.wide 5 trivial trivial trivial trivial rfl (by omega) (sortsX _) (enters_of Tryz.func109 (by kernel_rfl) rfl) 110 #[.pointer (some ⟨b, 0, none⟩)] trivial e_keys1 _ 0 (Nat.zero_le _) (by omega) _ hseq
      refine Calls.mono ((callsIn_wide (n := 5)).1 cS) ?_
      rintro e w' ⟨v, ss, rfl, rfl, hrow, _, hb⟩
      exact ⟨v, rfl, (by
        have : sortK [] = [] := by simp [sortK, keysB]
        rw [this]
        exact sl_own (by simpa using hrow) hm), hb⟩
    · let R : Value → Option (DataW Unit × List MemPlace) := fun _ => some (.nil, [])
      have hrd : ∀ x ∈ es, ∃ s : ByteArray, x.key = .string s ∧ s.size ≤ 1000 ∧ WideElems.rd Tryz.prog 9 R x = some (.string s.data.toList, .nil) := fun x hx => by
        obtain ⟨s, k1, k2⟩ := keys_of g5 hk x hx
        refine ⟨s, k1, k2, ?_⟩
        unfold WideElems.rd
        rw [k1, WideMaps.keyOf_string_mk un_string (by unfold maxLen; omega)]
        rfl
      have hF : WideElems.Fit Tryz.prog 9 R es.toArray clock := ⟨by have := g5.size; simp only [List.length_map] at this; simp only [List.size_toArray]; unfold maxLen; omega, g6, fun x hx => by
        obtain ⟨s, _, _, k3⟩ := hrd x (by simpa using hx)
        exact ⟨_, k3⟩⟩
      have hown : w.ownsMap Tryz.prog 9 R g 1000 (.map ((es.map (WideElems.rg Tryz.prog 9 R)).foldr DataW.insert [])) := ⟨es.toArray, clock, g4, hF, by have := g5.size; simp only [List.length_map] at this; simp only [List.size_toArray]; omega, by simp⟩
      have hkeys : (strKeys (.map ((es.map (WideElems.rg Tryz.prog 9 R)).foldr DataW.insert []) : DataW Unit)).Perm (keysB l) := by
        have h1 := (WideShapes.sorted_perm (es.map (WideElems.rg Tryz.prog 9 R))).map (fun p => strOf p.1)
        refine h1.trans (List.Perm.of_eq ?_)
        exact keys_list g5 fun x hx => by
          obtain ⟨s, k1, _, k3⟩ := hrd x hx
          exact ⟨s, k1, by unfold WideElems.rg; rw [k3]; rfl⟩
      have hsz : Maps.size (.map ((es.map (WideElems.rg Tryz.prog 9 R)).foldr DataW.insert []) : DataW Unit) ≤ 1000 := hown.size_le
      have hseq : SeqGives Fence.wide 2 Tryz.prog 110 #[.pointer (some ⟨b, 0, none⟩)] encStr (fun ss => ss.Perm (strKeys (.map ((es.map (WideElems.rg Tryz.prog 9 R)).foldr DataW.insert []) : DataW Unit))) (Maps.size (.map ((es.map (WideElems.rg Tryz.prog 9 R)).foldr DataW.insert []) : DataW Unit)) w :=
        AnyZ.keys_gives (ρ := Tryz.keysX_ren) { Tryz.keysX with } Fence.wide _ trivial rfl (by omega) b g 1000 _ w h2 h4 hown
      have cS := AnyZ.sorted_in Tryz.sortedX Fence.wide 5 trivial trivial trivial trivial rfl (by omega) (sortsX _) (enters_of Tryz.func109 (by kernel_rfl) rfl) 110 #[.pointer (some ⟨b, 0, none⟩)] trivial e_keys1 _ _ (by unfold maxLen; omega) (by omega) _ hseq
      refine Calls.mono ((callsIn_wide (n := 5)).1 cS) ?_
      rintro e w' ⟨v, ss, rfl, hS, hrow, _, hb⟩
      refine ⟨v, rfl, ?_, hb⟩
      have e1 : ss.mergeSort leB = sortK l := mergeSort_of_perm (hS.trans hkeys)
      have e2 : ss.length = (ss.mergeSort leB).length := (List.length_mergeSort ss).symm
      rw [← e1]
      exact sl_own (by rw [← e2]; exact hrow) hm⟩
end Go.Proofs.YtjglgfnhgehpeaaGreat

/- Sizes and places of this program's types, each asked of the kernel. -/
namespace Go.Proofs.YtjglgfnhgehpeaaGreat
open Go.Fw
theorem ei_ef34_Counts : elemInfo Tryz.prog 128 = some (3, 1, 8, 1) := by kernel_rfl
theorem el_ef34_Counts : elemSz Tryz.prog 128 = some 1 := by kernel_rfl
theorem us_ef34_Counts : Tryz.prog.underlying 128 = some (.slice 3) := by kernel_rfl
end Go.Proofs.YtjglgfnhgehpeaaGreat

/- The reference of the counts. -/
set_option linter.unusedVariables false
set_option linter.unusedSimpArgs false
set_option maxRecDepth 4000
namespace Go.Proofs.YtjglgfnhgehpeaaGreat
open Go.RowKit Go.Fw Go.Xt
theorem permB_all (N : Int) (xs : List X) : permB N xs = xs.all (perm1 N) := by unfold permB; rw [foldl_and, Bool.true_and]
theorem permB_step {N : Int} {xs : List X} {i : Nat} (hi : i < xs.length) : permB N (xs.take (i + 1)) = (permB N (xs.take i) && perm1 N (xs.getD (i : Int).toNat default)) := foldl_step _ _ hi
theorem permB_no {N : Int} {xs : List X} {i : Nat} (hi : i < xs.length) (h : perm1 N (xs.getD (i : Int).toNat default) = false) : permB N xs = false := by
  rw [permB_all, List.all_eq_false]
  exact ⟨_, getX_mem' hi, by rw [h]; exact Bool.false_ne_true⟩

theorem c_r34_New {k : Nat} (hk : k ≤ 65536) : PureC Tryz.prog 116 [I (k : Int)] (tup [sl 1 FI (List.replicate k 0), I 0]) := by
  refine PureC.of_wp Tryz.func116 (by kernel_rfl) rfl Tryz.ntmps116 (le_ rfl) (fun w0 M0 => ?_)
  refine WP.seq ?_
  refine WP.region ?_
  refine WL.op (asg (oc _)) (by decide) ?_
  refine WL.op (asg (oc _)) (by decide) ?_
  refine WL.nl (.thn ?_)
  refine WP.seq ?_
  refine WP.seq ?_
  refine WP.region ?_
  refine WL.op (mv (ot rfl)) (by decide) ?_
  refine WL.op (OpG.weak (R' := val (.bool false)) (lss (ot rfl) (oc _)) (imp_eq (congrArg (fun b => val (.bool b)) (decide_eq_false (by omega))))) (by decide) ?_
  refine WL.op (mv (ot rfl)) (by decide) ?_
  refine WL.gT rfl rfl ?_ -- g2
  refine WL.op (mv (ot rfl)) (by decide) ?_
  refine WL.gT rfl rfl ?_ -- g2
  refine WL.op (OpG.weak (R' := val (.bool false)) (gtr (ot rfl) (oc _)) (imp_eq (congrArg (fun b => val (.bool b)) (decide_eq_false (by omega))))) (by decide) ?_
  refine WL.op (pickF (ot rfl) (ot rfl)) (by decide) ?_
  refine WL.nl (.thn ?_)
  refine WP.condF rfl ?_
  refine WP.sk (.thn ?_)
  refine WP.seq ?_
  refine WP.region ?_
  refine WL.op (mv (ot rfl)) (by decide) ?_
  refine WL.mkr (OpN.mks ei_ef34_Counts zr_int rfl (ot rfl) (ot rfl) (by omega) (by omega)) (by decide) fun v11 h11 => ?_
  refine WL.op (asg (ot rfl)) (by decide) ?_
  refine WL.op (asg (oc _)) (by decide) ?_
  refine WL.nl (.thn ?_)
  refine WP.freeze 0 2 FI (List.replicate k 0) rfl (fun _ => rfl) (List.length_replicate ..).symm (fI_rep k 0).symm rfl ?_
  exact WP.rt (.rN rfl (.cons (.tm rfl) (.cons (.tm rfl) .nil)) (le_ rfl) (imp _))
theorem c_r34_Counts_permitted {cs : List Int} {xs : List X} (hcs : cs.length ≤ 1000000) (hl : xs.length ≤ 1000000) : PureC Tryz.prog 151 [sl 1 FI cs, sl 3 FX xs] (val (.bool (permB cs.length xs))) := by
  refine PureC.of_wp Tryz.func151 (by kernel_rfl) rfl Tryz.ntmps151 (le_ rfl) (fun w0 M0 => ?_)
  refine WP.seq ?_
  refine WP.region ?_
  refine WL.op (asg (oc _)) (by decide) ?_
  refine WL.nl (.thn ?_)
  refine WP.seq ?_
  refine WP.seq ?_
  refine WP.region ?_
  refine WL.op (asg (oc _)) (by decide) ?_
  refine WL.nl (.thn ?_)
  refine WP.block ?_
  refine WP.loop (fun y : Nat => []) (fun y => [(5, I (y : Int)), (1, sl 3 FX xs), (0, sl 1 FI cs)]) (fun y => y ≤ xs.length ∧ permB cs.length (xs.take y) = true) (fun y => xs.length - y) 0 ⟨Nat.zero_le _, rfl⟩ (Sub.of (Sub.cons rfl (imp_eq rfl) (Sub.cons rfl (imp _) (Sub.cons rfl (imp _) Sub.nil)))) (fun i hi => ?_)
  replace hi : i ≤ xs.length ∧ permB cs.length (xs.take i) = true := hi
  show WP _ _ _ _ [] [(5, I (i : Int)), (1, sl 3 FX xs), (0, sl 1 FI cs)] _ _
  refine WP.seq ?_
  refine WP.seq ?_
  refine WP.region ?_
  refine WL.op (mv (ot rfl)) (by decide) ?_
  refine WL.op (mv (ot rfl)) (by decide) ?_
  refine WL.op (len_ us_s_api_Extent (ot rfl)) (by decide) ?_
  refine WL.op (lss (ot rfl) (ot rfl)) (by decide) ?_
  refine WL.nl (.thn ?_)
  refine WP.cond rfl (fun hc => ?_) (fun hc => ?_)
  · skip
    have hc1 : i < xs.length := by have := of_decide_eq_true hc; omega
    refine WP.sk (.thn ?_)
    refine WP.seq ?_
    refine WP.block ?_
    refine WP.seq ?_
    refine WP.draws ?_
    refine RG.op (mv (ot rfl)) ?_
    refine RG.op (mv (ot rfl)) ?_
    refine RG.op (ixd el_s_api_Extent (ot rfl) (ot rfl) (by omega) (by omega)) ?_
    refine RG.op (fa fo_Extent_1 (ot rfl)) ?_
    refine RG.op (ld sc_int (ot rfl)) ?_
    refine RG.op (lss (ot rfl) (oc _)) ?_
    refine RG.op (mv (ot rfl)) ?_
    refine RG.gd rfl rfl (Tells.v _ _) (fun hg => mv (ot rfl)) ?_
    refine RG.gd rfl rfl (Tells.v _ _) (fun hg => mv (ot rfl)) ?_
    refine RG.gd rfl rfl (Tells.v _ _) (fun hg => ixd el_s_api_Extent (og rfl hg) (og rfl hg) (by omega) (by omega)) ?_
    refine RG.gd rfl rfl (Tells.v _ _) (fun hg => fa fo_Extent_2 (og rfl hg)) ?_
    refine RG.gd rfl rfl (Tells.v _ _) (fun hg => ld sc_int (og rfl hg)) ?_
    refine RG.gd rfl rfl (Tells.v _ _) (fun hg => lss (og rfl hg) (oc _)) ?_
    refine RG.op (or_ (ot rfl) (ot rfl)) ?_
    refine RG.op (mv (ot rfl)) ?_
    refine RG.gd rfl rfl (Tells.v _ _) (fun hg => mv (ot rfl)) ?_
    refine RG.gd rfl rfl (Tells.v _ _) (fun hg => mv (ot rfl)) ?_
    refine RG.gd rfl rfl (Tells.v _ _) (fun hg => ixd el_s_api_Extent (og rfl hg) (og rfl hg) (by omega) (by omega)) ?_
    refine RG.gd rfl rfl (Tells.v _ _) (fun hg => fa fo_Extent_2 (og rfl hg)) ?_
    refine RG.gd rfl rfl (Tells.v _ _) (fun hg => ld sc_int (og rfl hg)) ?_
    refine RG.gd rfl rfl (Tells.v _ _) (fun hg => mv (ot rfl)) ?_
    refine RG.gd rfl rfl (Tells.v _ _) (fun hg => len_ us_ef34_Counts (og rfl hg)) ?_
    refine RG.gd rfl rfl (Tells.v _ _) (fun hg => geq (og rfl hg) (og rfl hg)) ?_
    refine RG.op (or_ (ot rfl) (ot rfl)) ?_
    refine RG.op (mv (ot rfl)) ?_
    refine RG.gd rfl rfl (Tells.v _ _) (fun hg => mv (ot rfl)) ?_
    refine RG.gd rfl rfl (Tells.v _ _) (fun hg => mv (ot rfl)) ?_
    refine RG.gd rfl rfl (Tells.v _ _) (fun hg => ixd el_s_api_Extent (og rfl hg) (og rfl hg) (by omega) (by omega)) ?_
    refine RG.gd rfl rfl (Tells.v _ _) (fun hg => fa fo_Extent_1 (og rfl hg)) ?_
    refine RG.gd rfl rfl (Tells.v _ _) (fun hg => ld sc_int (og rfl hg)) ?_
    refine RG.gd rfl rfl (Tells.v _ _) (fun hg => mv (ot rfl)) ?_
    refine RG.gd rfl rfl (Tells.v _ _) (fun hg => len_ us_ef34_Counts (og rfl hg)) ?_
    refine RG.gd rfl rfl (Tells.v _ _) (fun hg => mv (ot rfl)) ?_
    refine RG.gd rfl rfl (Tells.v _ _) (fun hg => mv (ot rfl)) ?_
    refine RG.gd rfl rfl (Tells.v _ _) (fun hg => ixd el_s_api_Extent (og rfl hg) (og rfl hg) (by omega) (by omega)) ?_
    refine RG.gd rfl rfl (Tells.v _ _) (fun hg => fa fo_Extent_2 (og rfl hg)) ?_
    refine RG.gd rfl rfl (Tells.v _ _) (fun hg => ld sc_int (og rfl hg)) ?_
    refine RG.gd rfl rfl (Tells.v _ _) (fun hg => sub (og rfl hg) (og rfl hg) (by simp only [Bool.or_eq_false_iff, decide_eq_false_iff_not] at hg; omega)) ?_
    refine RG.gd rfl rfl (Tells.v _ _) (fun hg => gtr (og rfl hg) (og rfl hg)) ?_
    refine RG.op (or_ (ot rfl) (ot rfl)) ?_
    refine RG.fin HM (by kernel_rfl) ?_
    show WL _ _ _ _ _ _ _ _ _
    refine WL.nl (.thn ?_)
    refine WP.cond rfl (fun hc => ?_) (fun hc => ?_)
    · skip
      have hno : perm1 cs.length (xs.getD (i : Int).toNat default) = false := by
        unfold perm1
        simp only [Bool.and_eq_false_iff, Bool.or_eq_true, decide_eq_true_eq, decide_eq_false_iff_not] at hc ⊢
        omega
      refine WP.seq ?_
      refine WP.region ?_
      refine WL.op (asg (oc _)) (by decide) ?_
      refine WL.nl (.thn ?_)
      exact WP.rt (.rblk (.rthn (.rthn (.rblk (.rthn (.r1 rfl rfl (imp_eq (congrArg (fun b => val (.bool b)) (permB_no hc1 hno).symm))))))))
    · skip
      have hok : perm1 cs.length (xs.getD (i : Int).toNat default) = true := by
        unfold perm1
        simp only [Bool.and_eq_true, Bool.or_eq_false_iff, decide_eq_true_eq, decide_eq_false_iff_not] at hc ⊢
        omega
      refine WP.sk (.blk (.thn ?_))
      refine WP.region ?_
      refine WL.op (mv (ot rfl)) (by decide) ?_
      refine WL.op (add (ot rfl) (oc _) (by omega)) (by decide) ?_
      refine WL.op (asg (ot rfl)) (by decide) ?_
      exact WL.nl (.again (i + 1) ⟨hc1, by rw [permB_step hc1, hi.2, hok]; rfl⟩ (by omega) (Sub.of (Sub.cons rfl (imp_eq (congrArg I (by omega))) (Sub.cons rfl (imp _) (Sub.cons rfl (imp _) Sub.nil)))))
  · skip
    have hc1 : ¬ i < xs.length := by have := of_decide_eq_false hc; omega
    have hend : permB cs.length xs = true := by have := hi.2; rwa [List.take_of_length_le (by omega)] at this
    refine WP.xt (.xthn (.xthn (.xin (.thn ?_))))
    refine WP.seq ?_
    refine WP.region ?_
    refine WL.op (asg (oc _)) (by decide) ?_
    refine WL.nl (.thn ?_)
    exact WP.rt (.r1 rfl rfl (imp_eq (congrArg (fun b => val (.bool b)) hend.symm)))
theorem c_r34_Counts_changed {cs : List Int} {xs : List X} {d : Int} (hd : d = 1 ∨ d = -1) (hcs0 : cs.length ≤ 1000000) (hl : xs.length ≤ 100000) (hcs : ∀ s : Nat, -1000000000 ≤ cs.getD s 0 ∧ cs.getD s 0 ≤ 1000000000) (hp : permB cs.length xs = true) : PureC Tryz.prog 152 [sl 1 FI cs, sl 3 FX xs, I d] (sl 1 FI (chg d cs xs)) := by
  have hp := permB_iff.1 hp
  have hchg := fun i : Nat => chg_ok d cs _ (xs.take i) rfl (fun x hx => hp x (List.mem_of_mem_take hx))
  refine PureC.of_wp Tryz.func152 (by kernel_rfl) rfl Tryz.ntmps152 (le_ rfl) (fun w0 M0 => ?_)
  refine WP.seq ?_
  refine WP.region ?_
  refine WL.op (asg (oc _)) (by decide) ?_
  refine WL.nl (.thn ?_)
  refine WP.seq ?_
  refine WP.region ?_
  refine WL.mkr (OpN.bsl0 ei_ef34_Counts) (by decide) fun v10 h10 => ?_
  refine WL.op (mv (ot rfl)) (by decide) ?_
  refine WL.app' (xs := cs) 0 rfl ei_ef34_Counts (by decide) (ot rfl) (ot rfl) h10 (fun _ => rfl) (by omega) (by omega) (by decide) fun v12 h12 => ?_
  refine WL.op (asg (ot rfl)) (by decide) ?_
  refine WL.nl (.thn ?_)
  refine WP.seq ?_
  refine WP.seq ?_
  refine WP.region ?_
  refine WL.op (asg (oc _)) (by decide) ?_
  refine WL.nl (.thn ?_)
  refine WP.block  ?_
  refine WP.weak (bs' := [.r v12 3 1 cs.length ((cs).flatMap FI)]) (st' := [(8, I 0), (7, val v12), (2, I d), (1, sl 3 FX xs)]) ?_ (Sub.ofD 0 (by simp only [List.nil_append, Nat.zero_add]; rfl) (Sub.cons rfl (imp_eq rfl) (Sub.cons rfl (imp _) (Sub.cons rfl (imp _) (Sub.cons rfl (imp _) Sub.nil)))))
  refine WP.rowAt' 0 rfl fun g cap hv => ?_
  refine WP.loop (fun y : Nat => [.r v12 3 1 cs.length ((chg d cs (xs.take y)).flatMap FI)]) (fun y => [(8, I (y : Int)), (7, val v12), (2, I d), (1, sl 3 FX xs)]) (fun y => y ≤ xs.length) (fun y => xs.length - y) 0 (Nat.zero_le _) (Sub.ofD 0 rfl (Sub.cons rfl (imp_eq rfl) (Sub.cons rfl (imp _) (Sub.cons rfl (imp _) (Sub.cons rfl (imp _) Sub.nil))))) (fun i hi => ?_)
  replace hi : i ≤ xs.length := hi
  show WP _ _ _ _ [.r v12 3 1 cs.length ((chg d cs (xs.take i)).flatMap FI)] [(8, I (i : Int)), (7, val v12), (2, I d), (1, sl 3 FX xs)] _ _
  refine WP.seq ?_
  refine WP.seq ?_
  refine WP.region ?_
  refine WL.op (mv (ot rfl)) (by decide) ?_
  refine WL.op (mv (ot rfl)) (by decide) ?_
  refine WL.op (len_ us_s_api_Extent (ot rfl)) (by decide) ?_
  refine WL.op (lss (ot rfl) (ot rfl)) (by decide) ?_
  refine WL.nl (.thn ?_)
  refine WP.cond rfl (fun hc => ?_) (fun hc => ?_)
  · skip
    have hc1 : i < xs.length := by have := of_decide_eq_true hc; omega
    have hx := hp _ (getX_mem' hc1)
    have hstep := chg_step (d := d) (cs := cs) hc1
    obtain ⟨hcl, hcg⟩ := hchg i
    refine WP.sk (.thn ?_)
    refine WP.seq ?_
    refine WP.block ?_
    refine WP.seq ?_
    refine WP.region ?_
    refine WL.op (mv (ot rfl)) (by decide) ?_
    refine WL.op (mv (ot rfl)) (by decide) ?_
    refine WL.op (ixd el_s_api_Extent (ot rfl) (ot rfl) (by omega) (by omega)) (by decide) ?_
    refine WL.op (fa fo_Extent_2 (ot rfl)) (by decide) ?_
    refine WL.op (ld sc_int (ot rfl)) (by decide) ?_
    refine WL.op (asg (ot rfl)) (by decide) ?_
    refine WL.nl (.thn ?_)
    refine WP.block ?_
    refine WP.loop (fun q : Nat => [.r v12 3 1 cs.length ((inc d (chg d cs (xs.take i)) (xs.getD (i : Int).toNat default).s.toNat q).flatMap FI)]) (fun q => [(9, I ((xs.getD (i : Int).toNat default).s + q)), (8, I (i : Int)), (7, val v12), (2, I d), (1, sl 3 FX xs)]) (fun q => (q : Int) ≤ (xs.getD (i : Int).toNat default).n) (fun q => (xs.getD (i : Int).toNat default).n.toNat - q) 0 (by omega) (Sub.ofD 0 rfl (Sub.cons rfl (imp_eq (congrArg I (by omega))) (Sub.cons rfl (imp _) (Sub.cons rfl (imp _) (Sub.cons rfl (imp _) (Sub.cons rfl (imp _) Sub.nil)))))) (fun k hk => ?_)
    replace hk : (k : Int) ≤ (xs.getD (i : Int).toNat default).n := hk
    show WP _ _ _ _ [.r v12 3 1 cs.length ((inc d (chg d cs (xs.take i)) (xs.getD (i : Int).toNat default).s.toNat k).flatMap FI)] [(9, I ((xs.getD (i : Int).toNat default).s + k)), (8, I (i : Int)), (7, val v12), (2, I d), (1, sl 3 FX xs)] _ _
    refine WP.seq ?_
    refine WP.seq ?_
    refine WP.draws ?_
    refine RG.op (mv (ot rfl)) ?_
    refine RG.op (mv (ot rfl)) ?_
    refine RG.op (mv (ot rfl)) ?_
    refine RG.op (ixd el_s_api_Extent (ot rfl) (ot rfl) (by omega) (by omega)) ?_
    refine RG.op (fa fo_Extent_2 (ot rfl)) ?_
    refine RG.op (ld sc_int (ot rfl)) ?_
    refine RG.op (mv (ot rfl)) ?_
    refine RG.op (mv (ot rfl)) ?_
    refine RG.op (ixd el_s_api_Extent (ot rfl) (ot rfl) (by omega) (by omega)) ?_
    refine RG.op (fa fo_Extent_1 (ot rfl)) ?_
    refine RG.op (ld sc_int (ot rfl)) ?_
    refine RG.op (add (ot rfl) (ot rfl) (by omega)) ?_
    refine RG.op (lss (ot rfl) (ot rfl)) ?_
    refine RG.fin HM (by kernel_rfl) ?_
    show WL _ _ _ _ _ _ _ _ _
    refine WL.nl (.thn ?_)
    refine WP.cond rfl (fun hc => ?_) (fun hc => ?_)
    · skip
      have hk1 : (k : Int) < (xs.getD (i : Int).toNat default).n := by have := of_decide_eq_true hc; omega
      have hin1 := inc_len d (chg d cs (xs.take i)) (xs.getD (i : Int).toNat default).s.toNat k
      have hin2 := inc_get d (chg d cs (xs.take i)) (xs.getD (i : Int).toNat default).s.toNat k (by omega) ((xs.getD (i : Int).toNat default).s + k).toNat
      rw [hcg] at hin2
      have hh1 := hits_nn (xs.take i) (((xs.getD (i : Int).toNat default).s + k).toNat : Nat)
      have hh2 := hits_le (xs.take i) (((xs.getD (i : Int).toNat default).s + k).toNat : Nat)
      have hh3 : (xs.take i).length ≤ i := List.length_take_le _ _
      have hcb := hcs ((xs.getD (i : Int).toNat default).s + k).toNat
      rw [if_neg (by omega)] at hin2
      have hbd : -1001000000 ≤ (inc d (chg d cs (xs.take i)) (xs.getD (i : Int).toNat default).s.toNat k).getD ((xs.getD (i : Int).toNat default).s + k).toNat 0 ∧ (inc d (chg d cs (xs.take i)) (xs.getD (i : Int).toNat default).s.toNat k).getD ((xs.getD (i : Int).toNat default).s + k).toNat 0 ≤ 1001000000 := by
        rw [hin2]
        rcases hd with rfl | rfl <;> omega
      refine WP.sk (.thn ?_)
      refine WP.seq ?_
      refine WP.block ?_
      refine WP.region ?_
      refine WL.op (mv (ot rfl)) (by decide) ?_
      refine WL.op (mv (ot rfl)) (by decide) ?_
      refine WL.op (ixr' (hv (by omega)) el_ef34_Counts (ot rfl) (ot rfl) (by omega) (by omega)) (by decide) ?_
      refine WL.op (lr' 0 (hv (by omega)) rfl sc_int (ot rfl) (fI_get (L := inc d (chg d cs (xs.take i)) (xs.getD (i : Int).toNat default).s.toNat k) (by omega))) (by decide) ?_
      refine WL.op (mv (ot rfl)) (by decide) ?_
      refine WL.op (add (ot rfl) (ot rfl) (by omega)) (by decide) ?_
      refine WL.op (ixr' (hv (by omega)) el_ef34_Counts (ot rfl) (ot rfl) (by omega) (by omega)) (by decide) ?_
      refine WL.storeR' 0 (hv (by omega)) rfl (ot rfl) (ot rfl) (.leaf (.val rfl)) sz_int rfl (by rw [fI_len, hin1]; omega) ?_
      refine WL.nl (.blk (.thn ?_))
      refine WP.region ?_
      refine WL.op (mv (ot rfl)) (by decide) ?_
      refine WL.op (add (ot rfl) (oc _) (by omega)) (by decide) ?_
      refine WL.op (asg (ot rfl)) (by decide) ?_
      exact WL.nl (.again (k + 1) (by omega) (by omega) (Sub.ofD 0 (Eq.trans (b := [.r v12 3 1 cs.length (setAt ((inc d (chg d cs (xs.take i)) (xs.getD (i : Int).toNat default).s.toNat k).flatMap FI) (((xs.getD (i : Int).toNat default).s + k).toNat * 1) [I ((inc d (chg d cs (xs.take i)) (xs.getD (i : Int).toNat default).s.toNat k).getD ((xs.getD (i : Int).toNat default).s + k).toNat 0 + d)])]) rfl (by rw [fI_set (by rw [hin1]; omega), show ((xs.getD (i : Int).toNat default).s + (k : Int)).toNat = (xs.getD (i : Int).toNat default).s.toNat + k from by omega]; rfl)) (Sub.cons rfl (imp_eq (congrArg I (by omega))) (Sub.cons rfl (imp _) (Sub.cons rfl (imp _) (Sub.cons rfl (imp _) (Sub.cons rfl (imp _) Sub.nil)))))))
    · skip
      have hk1 : ¬ (k : Int) < (xs.getD (i : Int).toNat default).n := by have := of_decide_eq_false hc; omega
      refine WP.xt (.xthn (.xthn (.xin (.blk (.thn ?_)))))
      refine WP.region ?_
      refine WL.op (mv (ot rfl)) (by decide) ?_
      refine WL.op (add (ot rfl) (oc _) (by omega)) (by decide) ?_
      refine WL.op (asg (ot rfl)) (by decide) ?_
      exact WL.nl (.again (i + 1) hc1 (by omega) (Sub.ofD 0 (by rw [hstep, show k = (xs.getD (i : Int).toNat default).n.toNat from by omega]; rfl) (Sub.cons rfl (imp_eq (congrArg I (by omega))) (Sub.cons rfl (imp _) (Sub.cons rfl (imp _) (Sub.cons rfl (imp _) Sub.nil))))))
  · skip
    have hc1 : ¬ i < xs.length := by have := of_decide_eq_false hc; omega
    refine WP.xt (.xthn (.xthn (.xin (.thn ?_))))
    refine WP.seq ?_
    refine WP.region ?_
    refine WL.op (mv (ot rfl)) (by decide) ?_
    refine WL.op (asg (ot rfl)) (by decide) ?_
    refine WL.nl (.thn ?_)
    have hL2 : chg d cs (xs.take i) = chg d cs xs := by rw [List.take_of_length_le (by omega)]
    refine WP.freeze 0 6 FI (chg d cs (xs.take i)) rfl (fun _ => rfl) (hchg i).1.symm rfl rfl ?_
    exact WP.rt (.r1 rfl rfl (imp_eq (by rw [← hL2])))
theorem c_r34_Counts_Add {cs : List Int} {xs : List X} (hb : Cb cs) (hl : xs.length ≤ 100000) : PureC Tryz.prog 117 [sl 1 FI cs, sl 3 FX xs] (tup [sl 1 FI (addE cs xs).1, I (addE cs xs).2]) := by
  refine PureC.of_wp Tryz.func117 (by kernel_rfl) rfl Tryz.ntmps117 (le_ rfl) (fun w0 M0 => ?_)
  refine WP.seq ?_
  refine WP.region ?_
  refine WL.op (asg (oc _)) (by decide) ?_
  refine WL.op (asg (oc _)) (by decide) ?_
  refine WL.nl (.thn ?_)
  refine WP.seq ?_
  refine WP.seq ?_
  refine WP.region ?_
  refine WL.op (mv (ot rfl)) (by decide) ?_
  refine WL.op (mv (ot rfl)) (by decide) ?_
  refine WL.op (call (c_r34_Counts_permitted (by have := hb.1; omega) (by omega)) (.c (ot rfl) (.c (ot rfl) .n))) (by decide) ?_
  refine WL.op (not_ (ot rfl)) (by decide) ?_
  refine WL.nl (.thn ?_)
  refine WP.cond rfl (fun hc => ?_) (fun hc => ?_)
  · skip
    have hp0 : ¬ permB cs.length xs = true := by simpa using hc
    refine WP.seq ?_
    refine WP.region ?_
    refine WL.op (asg (oc _)) (by decide) ?_
    refine WL.op (asg (oc _)) (by decide) ?_
    refine WL.nl (.thn ?_)
    exact WP.rt (.rthn (.rN rfl (.cons (.tm rfl) (.cons (.tm rfl) .nil)) (le_ rfl) (by rw [show addE cs xs = ([], 2) from if_neg hp0]; exact impT (.c sl_nil (.c (imp  _) .n)))))
  · skip
    have hp0 : permB cs.length xs = true := by simpa using hc
    refine WP.sk (.thn ?_)
    refine WP.seq ?_
    refine WP.region ?_
    refine WL.op (mv (ot rfl)) (by decide) ?_
    refine WL.op (mv (ot rfl)) (by decide) ?_
    refine WL.op (call (c_r34_Counts_changed (.inl rfl) (by have := hb.1; omega) hl (fun s => by have := hb.2 s; omega) hp0) (.c (ot rfl) (.c (ot rfl) (.c (oc _) .n)))) (by decide) ?_
    refine WL.op (asg (ot rfl)) (by decide) ?_
    refine WL.op (asg (oc _)) (by decide) ?_
    refine WL.nl (.thn ?_)
    exact WP.rt (.rN rfl (.cons (.tm rfl) (.cons (.tm rfl) .nil)) (le_ rfl) (by rw [show addE cs xs = (chg 1 cs xs, 0) from if_pos hp0]; exact imp  _))
end Go.Proofs.YtjglgfnhgehpeaaGreat

/- Families: what is asked of them. -/
set_option linter.unusedVariables false
set_option linter.unusedSimpArgs false
set_option maxRecDepth 4000
namespace Go.Proofs.YtjglgfnhgehpeaaGreat
open Go.RowKit Go.Fw Go.Xt
def zs (cs : List Int) (i : Nat) : List Int := ((List.range i).filter fun s => decide (cs.getD s 0 = 0)).map fun (s : Nat) => (s : Int)
theorem zs_step (cs : List Int) (i : Nat) : zs cs (i + 1) = zs cs i ++ (if cs.getD i 0 = 0 then [(i : Int)] else []) := by
  unfold zs
  rw [List.range_succ, List.filter_append, List.map_append]
  congr 1
  by_cases h : cs.getD i 0 = 0
  · rw [if_pos h, List.filter_cons_of_pos (by exact decide_eq_true h), List.filter_nil]; rfl
  · rw [if_neg h, List.filter_cons_of_neg (by simp only [decide_eq_true_eq]; exact h), List.filter_nil]; rfl
theorem zs_le (cs : List Int) (i : Nat) : (zs cs i).length ≤ i := by
  unfold zs
  rw [List.length_map]
  exact Nat.le_trans (List.length_filter_le _ _) (by simp)
theorem zs_mem {cs : List Int} {i : Nat} {u : Int} : u ∈ zs cs i ↔ 0 ≤ u ∧ u < i ∧ cs.getD u.toNat 0 = 0 := by
  unfold zs
  simp only [List.mem_map, List.mem_filter, List.mem_range, decide_eq_true_eq]
  constructor
  · rintro ⟨s, ⟨h1, h2⟩, rfl⟩; exact ⟨by omega, by omega, h2⟩
  · rintro ⟨h1, h2, h3⟩; exact ⟨u.toNat, ⟨by omega, h3⟩, by omega⟩
theorem app2 {A B : List Int} {s : Int} {b1 : Box} {v : Value} {T : TypeId} (h : B = A ++ [s]) : [.r v T 3 (A.length + 1) ((A.map un).flatMap FX ++ [un s].flatMap FX), b1] = [.r v T 3 B.length ((B.map un).flatMap FX), b1] := by
  subst h; simp

theorem c_refcount_Counts_Zero {cs : List Int} (hc0 : cs.length ≤ 65536) : PureC Tryz.prog 76 [eC cs] (sl 3 FX (mruns ((srt (zs cs cs.length)).map un))) := by
  refine PureC.of_wp Tryz.func76 (by kernel_rfl) rfl Tryz.ntmps76 (le_ rfl) (fun w0 M0 => ?_)
  refine WP.seq ?_
  refine WP.region ?_
  refine WL.box (ot rfl) (.agg _) (by decide) fun b1 => ?_
  refine WL.op (asg (oc _)) (by decide) ?_
  refine WL.nl (.thn ?_)
  refine WP.seq ?_
  refine WP.region ?_
  refine WL.op (asg (oc _)) (by decide) ?_
  refine WL.nl (.thn ?_)
  refine WP.seq ?_
  refine WP.seq ?_
  refine WP.region ?_
  refine WL.op (fv fo_refcount_Counts_0 (ot rfl)) (by decide) ?_
  refine WL.op (lb 0 rfl sc_s_int (ot rfl) rfl) (by decide) ?_
  refine WL.op (len_ us_s_int (ot rfl)) (by decide) ?_
  refine WL.op (mv (oc _)) (by decide) ?_
  refine WL.nl (.thn ?_)
  refine WP.nilrow 65 3 ?_
  refine WP.block  ?_
  refine WP.loop (fun y : Nat × Value => [.r y.2 65 3 (zs cs y.1).length (((zs cs y.1).map un).flatMap FX), .b b1 25 [sl 1 FI cs]]) (fun y => [(9, I (y.1 : Int)), (8, I (cs.length : Int)), (7, sl 1 FI cs), (3, val y.2)]) (fun y => y.1 ≤ cs.length ∧ y.2.oneCell' = true) (fun y => cs.length - y.1) (0, nilS) ⟨Nat.zero_le _, rfl⟩ (Sub.ofD 0 rfl (Sub.cons rfl (imp_eq rfl) (Sub.cons rfl (imp _) (Sub.cons rfl (imp _) (Sub.cons rfl (imp _) Sub.nil))))) (fun y hi => ?_)
  obtain ⟨i, v⟩ := y
  replace hi : i ≤ cs.length ∧ v.oneCell' = true := hi
  show WP _ _ _ _ [.r v 65 3 (zs cs i).length (((zs cs i).map un).flatMap FX), .b b1 25 [sl 1 FI cs]] [(9, I (i : Int)), (8, I (cs.length : Int)), (7, sl 1 FI cs), (3, val v)] _ _
  refine WP.seq ?_
  refine WP.region ?_
  refine WL.op (lss (ot rfl) (ot rfl)) (by decide) ?_
  refine WL.nl (.thn ?_)
  refine WP.seq ?_
  refine WP.cond rfl (fun hc => ?_) (fun hc => ?_)
  · skip
    have hc1 : i < cs.length := by have := of_decide_eq_true hc; omega
    have hzl := zs_le cs i
    refine WP.sk (.thn ?_)
    refine WP.seq ?_
    refine WP.block ?_
    refine WP.seq ?_
    refine WP.region ?_
    refine WL.op (mv (ot rfl)) (by decide) ?_
    refine WL.op (ixd el_s_int (ot rfl) (ot rfl) (by omega) (by omega)) (by decide) ?_
    refine WL.op (ld sc_int (ot rfl)) (by decide) ?_
    refine WL.op (asg (ot rfl)) (by decide) ?_
    refine WL.op (asg (ot rfl)) (by decide) ?_
    refine WL.nl (.thn ?_)
    refine WP.seq ?_
    refine WP.region ?_
    refine WL.op (mv (ot rfl)) (by decide) ?_
    refine WL.op (eql (ot rfl) (oc _)) (by decide) ?_
    refine WL.nl (.thn ?_)
    refine WP.cond rfl (fun hc => ?_) (fun hc => ?_)
    · skip
      have hz0 : cs.getD i 0 = 0 := by have := of_decide_eq_true hc; rw [show ((i : Nat) : Int).toNat = i from by omega, getI hc1] at this; exact this
      refine WP.region ?_
      refine WL.op (mv (ot rfl)) (by decide) ?_
      refine WL.op (mv (ot rfl)) (by decide) ?_
      refine WL.op (bld zr_Extent rfl ps_Extent (.c (oc _) (.leaf (.val rfl)) pl_Extent_1 rfl (le_ rfl) (.c (ot rfl) (.leaf (.val rfl)) pl_Extent_2 rfl (le_ rfl) .n))) (by decide) ?_
      refine WL.op (bsl1 (f := FX) (el := un (i : Int)) ei_s_api_Extent (ot rfl) (.agg _) rfl (by decide) (by decide)) (by decide) ?_
      refine WL.app 0 rfl ei_s_api_Extent (by decide) (ot rfl) (ot rfl) (by simp) (fun _ => rfl) (by simp only [List.length_singleton]; omega) (by simp only [List.length_singleton]; omega) (by decide) fun v20 h20 => ?_
      refine WL.op (asg (ot rfl)) (by decide) ?_
      refine WL.nl (.blk (.thn ?_))
      refine WP.region ?_
      refine WL.op (add (ot rfl) (oc _) (by omega)) (by decide) ?_
      refine WL.op (mv (ot rfl)) (by decide) ?_
      exact WL.nl (.again (i + 1, v20) ⟨hc1, h20⟩ (by show cs.length - (i + 1) < cs.length - i; omega) (Sub.ofD 0 (Eq.trans (b := [.r v20 65 3 ((zs cs i).length + 1) (((zs cs i).map un).flatMap FX ++ [un (i : Int)].flatMap FX), .b b1 25 [sl 1 FI cs]]) rfl (app2 ((zs_step cs i).trans (congrArg (_ ++ ·) (if_pos hz0))))) (Sub.cons rfl (imp_eq (congrArg I (by omega))) (Sub.cons rfl (imp _) (Sub.cons rfl (imp _) (Sub.cons rfl (imp _) Sub.nil))))))
    · skip
      have hz0 : ¬ cs.getD i 0 = 0 := by have := of_decide_eq_false hc; rw [show ((i : Nat) : Int).toNat = i from by omega, getI hc1] at this; exact this
      refine WP.sk (.blk (.thn ?_))
      refine WP.region ?_
      refine WL.op (add (ot rfl) (oc _) (by omega)) (by decide) ?_
      refine WL.op (mv (ot rfl)) (by decide) ?_
      exact WL.nl (.again (i + 1, v) ⟨hc1, hi.2⟩ (by show cs.length - (i + 1) < cs.length - i; omega) (Sub.ofD 0 (by dsimp only; rw [zs_step, if_neg hz0, List.append_nil]; rfl) (Sub.cons rfl (imp_eq (congrArg I (by omega))) (Sub.cons rfl (imp _) (Sub.cons rfl (imp _) (Sub.cons rfl (imp _) Sub.nil))))))
  · skip
    have hc1 : ¬ i < cs.length := by have := of_decide_eq_false hc; omega
    have hi1 := hi.1
    refine WP.xt (.xthn (.xthn (.xin (.thn ?_))))
    have hL2 : zs cs i = zs cs cs.length := by rw [show i = cs.length from by omega]
    refine WP.freeze 0 3 FX ((zs cs i).map un) rfl (fun _ => rfl) (List.length_map ..).symm rfl rfl ?_
    refine WP.seq ?_
    refine WP.region ?_
    refine WL.op (mv (ot rfl)) (by decide) ?_
    refine WL.op (call (c_extent_Runs (U := zs cs i) (by have := zs_le cs i; omega) (fun u hu => by have := zs_mem.1 hu; omega) sortC) (.c (ot rfl) .n)) (by decide) ?_
    refine WL.op (asg (ot rfl)) (by decide) ?_
    refine WL.nl (.thn ?_)
    exact WP.rt (.r1 rfl rfl (imp_eq (by rw [hL2])))
theorem c_family_Family_Free {f : Fam} (h : Fw0 f) : PureC Tryz.prog 30 [eF f] (sl 3 FX (mruns ((srt (zs f.cs f.cs.length)).map un))) := by
  refine PureC.of_wp Tryz.func30 (by kernel_rfl) rfl Tryz.ntmps30 (le_ rfl) (fun w0 M0 => ?_)
  refine WP.seq ?_
  refine WP.region ?_
  refine WL.box (ot rfl) (.agg _) (by decide) fun b1 => ?_
  refine WL.op (asg (oc _)) (by decide) ?_
  refine WL.nl (.thn ?_)
  refine WP.seq ?_
  refine WP.region ?_
  refine WL.op (fv fo_family_Family_0 (ot rfl)) (by decide) ?_
  refine WL.op (lbs 0 rfl ag_refcount_Counts (ot rfl) (le_ rfl)) (by decide) ?_
  refine WL.op (call (c_refcount_Counts_Zero h.len) (.c (ot rfl) .n)) (by decide) ?_
  refine WL.op (asg (ot rfl)) (by decide) ?_
  refine WL.nl (.thn ?_)
  exact WP.rt (.r1 rfl rfl (imp _))
theorem c_family_Family_Names {f : Fam} (h : f.vs.length ≤ 1000) (hk : ∀ x ∈ f.vs, x.1.size ≤ 1000) : PureC Tryz.prog 22 [eF f] (sl 1 FSt (sortK f.vs)) := by
  refine PureC.of_wp Tryz.func22 (by kernel_rfl) rfl Tryz.ntmps22 (le_ rfl) (fun w0 M0 => ?_)
  refine WP.seq ?_
  refine WP.region ?_
  refine WL.box (ot rfl) (.agg _) (by decide) fun b1 => ?_
  refine WL.op (asg (oc _)) (by decide) ?_
  refine WL.nl (.thn ?_)
  refine WP.seq ?_
  refine WP.region ?_
  refine WL.op (fv fo_family_Family_1 (ot rfl)) (by decide) ?_
  refine WL.op (lb 0 rfl sc_m_string_family_volume (ot rfl) rfl) (by decide) ?_
  refine WL.op (call c_maps_Keys (.c (ot rfl) .n)) (by decide) ?_
  refine WL.op (call (c_slices_Sorted h hk) (.c (ot rfl) .n)) (by decide) ?_
  refine WL.op (asg (ot rfl)) (by decide) ?_
  refine WL.nl (.thn ?_)
  exact WP.rt (.r1 rfl rfl (imp _))
theorem c_family_Family_Range {f : Fam} {s : ByteArray} {a n : Int} (h : Fw0 f) : PureC Tryz.prog 26 [eF f, val (.string s), I a, I n] (tup [sl 3 FX (fRange f s a n).1, I (fRange f s a n).2]) := by
  have hq := h.find s a n
  refine PureC.of_wp Tryz.func26 (by kernel_rfl) rfl Tryz.ntmps26 (le_ rfl) (fun w0 M0 => ?_)
  refine WP.seq ?_
  refine WP.region ?_
  refine WL.box (ot rfl) (.agg _) (by decide) fun b4 => ?_
  refine WL.op (asg (oc _)) (by decide) ?_
  refine WL.op (asg (oc _)) (by decide) ?_
  refine WL.nl (.thn ?_)
  refine WP.seq ?_
  refine WP.region ?_
  refine WL.op (lbs 0 rfl ag_family_Family (ot rfl) (le_ rfl)) (by decide) ?_
  refine WL.op (mv (ot rfl)) (by decide) ?_
  refine WL.op (mv (ot rfl)) (by decide) ?_
  refine WL.op (mv (ot rfl)) (by decide) ?_
  refine WL.op (call (c_family_Family_find h) (.c (ot rfl) (.c (ot rfl) (.c (ot rfl) (.c (ot rfl) .n))))) (by decide) ?_
  refine WL.op (mv (ot rfl)) (by decide) ?_
  refine WL.op (ex (ot rfl) rfl) (by decide) ?_
  refine WL.op (ex (ot rfl) rfl) (by decide) ?_
  refine WL.alloc zr_family_volume rfl (by decide) fun b10 => ?_
  refine WL.store 0 rfl (ot rfl) (ot rfl) (.agg _) sz_family_volume rfl (le_ rfl) ?_
  refine WL.op (asg (ot rfl)) (by decide) ?_
  refine WL.nl (.thn ?_)
  refine WP.seq ?_
  refine WP.region ?_
  refine WL.op (fv fo_family_volume_1 (ot rfl)) (by decide) ?_
  refine WL.op (lbs 0 rfl ag_Tree (ot rfl) (le_ rfl)) (by decide) ?_
  refine WL.op (mv (ot rfl)) (by decide) ?_
  refine WL.op (mv (ot rfl)) (by decide) ?_
  refine WL.op (call (c_x_Tree_Range (t := (fFind f s a n).1.t) hq.1) (.c (ot rfl) (.c (ot rfl) (.c (ot rfl) .n)))) (by decide) ?_
  refine WL.op (mv (ot rfl)) (by decide) ?_
  refine WL.op (asg (ot rfl)) (by decide) ?_
  refine WL.op (asg (ot rfl)) (by decide) ?_
  refine WL.nl (.thn ?_)
  exact WP.rt (.rN rfl (.cons (.tm rfl) (.cons (.tm rfl) .nil)) (le_ rfl) (imp _))
end Go.Proofs.YtjglgfnhgehpeaaGreat

/- Parts: RowEnc, Cnt, Cntb. -/
import Derived.Test.YtjglgfnhgehpeaaGreatZh
import Derived.Test.YtjglgfnhgehpeaaGreatZm
import Derived.Test.YtjglgfnhgehpeaaGreatZl
import Derived.Test.YtjglgfnhgehpeaaGreatZf
import Derived.Test.YtjglgfnhgehpeaaGreatZk
/- How this set's arguments lie in memory. -/
namespace Go.Proofs.YtjglgfnhgehpeaaGreat
open Go.ChangeShapes Go.WideShapes Go.ChangeAt Go.RowKit Go.Fw Go.Xt
theorem u8_bounds {n : Int} (h : (Lit.int .u8 n).wf = true) : 0 ≤ n ∧ n ≤ 255 := by
  have h := Bool.and_eq_true_iff.1 h
  exact ⟨of_decide_eq_true h.1, of_decide_eq_true h.2⟩
theorem u16_bounds {n : Int} (h : (Lit.int .u16 n).wf = true) : 0 ≤ n ∧ n ≤ 65535 := by
  have h := Bool.and_eq_true_iff.1 h
  exact ⟨of_decide_eq_true h.1, of_decide_eq_true h.2⟩
theorem i64_bounds {n : Int} (h : (Lit.int .i64 n).wf = true) : -9223372036854775808 ≤ n ∧ n ≤ 9223372036854775807 := by
  have h := Bool.and_eq_true_iff.1 h
  exact ⟨of_decide_eq_true h.1, of_decide_eq_true h.2⟩
def encS (x : Sp) : List Value := [.bool x.c, .int .u8 x.a, .int .u8 x.n, .int .u8 x.s]
abbrev ksS : List (Option IntKind) := [none, some .u8, some .u8, some .u8]
theorem decS (cs : List Value) (h : SkAll ksS cs) : ∃ x, U8 x ∧ cs = encS x := by
  match cs, h with
  | [c0, c1, c2, c3], ⟨⟨b, h0⟩, ⟨n1, h1, w1⟩, ⟨n2, h2, w2⟩, ⟨n3, h3, w3⟩, _⟩ =>
    subst h0; subst h1; subst h2; subst h3
    exact ⟨⟨b, n1, n2, n3⟩, ⟨(u8_bounds w1).1, (u8_bounds w1).2, (u8_bounds w2).1, (u8_bounds w2).2, (u8_bounds w3).1, (u8_bounds w3).2⟩, rfl⟩
def encX (x : X) : List Value := [.int .i64 x.a, .int .i64 x.n, .int .i64 x.s]
def I6 (x : X) : Prop := (-9223372036854775808 ≤ x.a ∧ x.a ≤ 9223372036854775807) ∧ (-9223372036854775808 ≤ x.n ∧ x.n ≤ 9223372036854775807) ∧ (-9223372036854775808 ≤ x.s ∧ x.s ≤ 9223372036854775807)
abbrev ksX : List (Option IntKind) := [some .i64, some .i64, some .i64]
theorem sk3 {k1 k2 k3 : Option IntKind} : ∀ {cs : List Value}, SkAll [k1, k2, k3] cs → ∃ c1 c2 c3, cs = [c1, c2, c3] ∧ skOk k1 c1 ∧ skOk k2 c2 ∧ skOk k3 c3
  | [c1, c2, c3], h => ⟨c1, c2, c3, rfl, h.1, h.2.1, h.2.2.1⟩
theorem decX (cs : List Value) (h : SkAll ksX cs) : ∃ x, I6 x ∧ cs = encX x := by
  obtain ⟨c1, c2, c3, e, ⟨n1, h1, w1⟩, ⟨n2, h2, w2⟩, ⟨n3, h3, w3⟩⟩ := sk3 h
  subst h1; subst h2; subst h3
  exact ⟨⟨n1, n2, n3⟩, ⟨i64_bounds w1, i64_bounds w2, i64_bounds w3⟩, e⟩
end Go.Proofs.YtjglgfnhgehpeaaGreat

/- Counts of slots. -/
set_option linter.unusedVariables false
set_option linter.unusedSimpArgs false
set_option maxRecDepth 4000
namespace Go.Proofs.YtjglgfnhgehpeaaGreat
open Go.RowKit Go.Fw Go.Xt

def FI (k : Int) : List Rp := [I k]
abbrev eC (cs : List Int) : Rp := agg [sl 1 FI cs]
theorem fI_len (L : List Int) : (L.flatMap FI).length = L.length := by rw [flat_len (sz := 1) (f := FI) (fun _ => rfl)]; omega
theorem fI_rep (k : Nat) (z : Int) : (List.replicate k z).flatMap FI = List.replicate k (I z) := by
  induction k with
  | zero => rfl
  | succ k ih => rw [List.replicate_succ, List.flatMap_cons, ih]; rfl
theorem fI_get {L : List Int} {k : Nat} (hk : k < L.length) : (L.flatMap FI)[k * 1]? = some (I (L.getD k 0)) := by
  have h := flat_at (sz := 1) (f := FI) (fun _ => rfl) L k L[k] (List.getElem?_eq_getElem hk)
  have h2 : (FI L[k])[0]? = (((L.flatMap FI).drop (k * 1)).take 1)[0]? := by rw [h]
  rw [List.getElem?_take, if_pos (by decide), List.getElem?_drop] at h2
  rw [List.getD_eq_getElem?_getD, List.getElem?_eq_getElem hk]
  exact h2.symm
theorem fI_set {q : Int} : ∀ {L : List Int} {k : Nat}, k < L.length → setAt (L.flatMap FI) (k * 1) [I q] = (L.set k q).flatMap FI
  | [], k, hk => by simp at hk
  | x :: L, 0, hk => rfl
  | x :: L, k + 1, hk => by
    have := fI_set (q := q) (L := L) (k := k) (by simpa using hk)
    unfold setAt at *
    simp only [Nat.mul_one] at *
    rw [List.flatMap_cons, List.set_cons_succ, List.flatMap_cons, ← this]
    show ((FI x ++ L.flatMap FI).take (k + 1)) ++ _ ++ ((FI x ++ L.flatMap FI).drop (k + 1 + 1)) = _
    rfl
theorem getI {L : List Int} {k : Nat} (hk : k < L.length) : L.getD k default = L.getD k 0 := by
  rw [List.getD_eq_getElem?_getD, List.getD_eq_getElem?_getD, List.getElem?_eq_getElem hk]; rfl

theorem foldl_step {α β : Type} [Inhabited α] (f : β → α → β) (b : β) {xs : List α} {i : Nat} (hi : i < xs.length) : (xs.take (i + 1)).foldl f b = f ((xs.take i).foldl f b) (xs.getD (i : Int).toNat default) := by
  rw [show ((i : Nat) : Int).toNat = i from by omega, List.getD_eq_getElem?_getD, List.take_add_one, List.getElem?_eq_getElem hi]
  show List.foldl _ _ (_ ++ [xs[i]]) = _
  rw [List.foldl_append]; rfl

theorem c_refcount_fold {g : FuncId} {caps : List Rp} {xs : List X} {stp : Bool → X → Bool} {b0 : Bool} (hl : xs.length ≤ 1000000) (hf : ∀ (b : Bool) (x : X), PureC Tryz.prog g ([val (.bool b), ext x] ++ caps) (val (.bool (stp b x)))) : PureC Tryz.prog 137 [sl 3 FX xs, val (.bool b0), fnR g caps] (val (.bool (xs.foldl stp b0))) := by
  refine PureC.of_wp Tryz.func137 (by kernel_rfl) rfl Tryz.ntmps137 (le_ rfl) (fun w0 M0 => ?_)
  refine WP.seq ?_
  refine WP.region ?_
  refine WL.op (asg (oc _)) (by decide) ?_
  refine WL.nl (.thn ?_)
  refine WP.seq ?_
  refine WP.seq ?_
  refine WP.region ?_
  refine WL.op (mv (ot rfl)) (by decide) ?_
  refine WL.op (len_ us_s_api_Extent (ot rfl)) (by decide) ?_
  refine WL.op (mv (oc _)) (by decide) ?_
  refine WL.nl (.thn ?_)
  refine WP.block ?_
  refine WP.loop (fun y : Nat => []) (fun y => [(11, I (y : Int)), (10, I (xs.length : Int)), (9, sl 3 FX xs), (1, val (.bool ((xs.take y).foldl stp b0))), (2, fnR g caps)]) (fun y => y ≤ xs.length) (fun y => xs.length - y) 0 (Nat.zero_le _) (Sub.of (Sub.cons rfl (imp_eq rfl) (Sub.cons rfl (imp _) (Sub.cons rfl (imp _) (Sub.cons rfl (imp_eq rfl) (Sub.cons rfl (imp _) Sub.nil)))))) (fun i hi => ?_)
  replace hi : i ≤ xs.length := hi
  show WP _ _ _ _ [] [(11, I (i : Int)), (10, I (xs.length : Int)), (9, sl 3 FX xs), (1, val (.bool ((xs.take i).foldl stp b0))), (2, fnR g caps)] _ _
  refine WP.seq ?_
  refine WP.region ?_
  refine WL.op (lss (ot rfl) (ot rfl)) (by decide) ?_
  refine WL.nl (.thn ?_)
  refine WP.seq ?_
  refine WP.cond rfl (fun hc => ?_) (fun hc => ?_)
  · skip
    have hc1 : i < xs.length := by have := of_decide_eq_true hc; omega
    
    refine WP.sk (.thn ?_)
    refine WP.seq ?_
    refine WP.block ?_
    refine WP.seq ?_
    refine WP.region ?_
    refine WL.op (ixd el_s_api_Extent (ot rfl) (ot rfl) (by omega) (by omega)) (by decide) ?_
    refine WL.op (ls ag_Extent (ot rfl) (le_ rfl)) (by decide) ?_
    refine WL.alloc zr_Extent rfl (by decide) fun b8 => ?_
    refine WL.store 0 rfl (ot rfl) (ot rfl) (.agg _) sz_Extent rfl (le_ rfl) ?_
    refine WL.nl (.thn ?_)
    refine WP.region ?_
    refine WL.op (mv (ot rfl)) (by decide) ?_
    refine WL.op (mv (ot rfl)) (by decide) ?_
    refine WL.op (lbs 0 rfl ag_Extent (ot rfl) (le_ rfl)) (by decide) ?_
    refine WL.op (callv (hf ((xs.take i).foldl stp b0) (xs.getD (i : Int).toNat default)) (ot rfl) (.c (ot rfl) (.c (ot rfl) .n))) (by decide) ?_
    refine WL.op (asg (ot rfl)) (by decide) ?_
    refine WL.nl (.blk (.thn ?_))
    refine WP.region ?_
    refine WL.op (add (ot rfl) (oc _) (by omega)) (by decide) ?_
    refine WL.op (mv (ot rfl)) (by decide) ?_
    exact WL.nl (.again (i + 1) hc1 (by omega) (Sub.ofD 1 rfl (Sub.cons rfl (imp_eq (congrArg I (by omega))) (Sub.cons rfl (imp _) (Sub.cons rfl (imp _) (Sub.cons rfl (imp_eq (congrArg (fun b => val (.bool b)) (foldl_step stp b0 hc1).symm)) (Sub.cons rfl (imp _) Sub.nil)))))))
  · skip
    have hc1 : ¬ i < xs.length := by have := of_decide_eq_false hc; omega
    refine WP.xt (.xthn (.xthn (.xin (.thn ?_))))
    refine WP.seq ?_
    refine WP.region ?_
    refine WL.op (mv (ot rfl)) (by decide) ?_
    refine WL.op (asg (ot rfl)) (by decide) ?_
    refine WL.nl (.thn ?_)
    exact WP.rt (.r1 rfl rfl (imp_eq (congrArg (fun b => val (.bool b)) (by rw [List.take_of_length_le (by omega)]))))
theorem c_refcount_permitted_1 {cs : List Int} {ok : Bool} {x : X} (hl : cs.length ≤ 1000000) : PureC Tryz.prog 138 ([val (.bool ok), ext x] ++ [at_ [sl 1 FI cs]]) (val (.bool (ok && perm1 cs.length x))) := by
  refine PureC.of_wp Tryz.func138 (by kernel_rfl) rfl Tryz.ntmps138 (le_ rfl) (fun w0 M0 => ?_)
  refine WP.seq ?_
  refine WP.region ?_
  refine WL.box (ot rfl) (.agg _) (by decide) fun b4 => ?_
  refine WL.op (asg (oc _)) (by decide) ?_
  refine WL.nl (.thn ?_)
  refine WP.seq ?_
  refine WP.region ?_
  refine WL.op (mv (ot rfl)) (by decide) ?_
  refine WL.op (mv (ot rfl)) (by decide) ?_
  refine WL.gd rfl rfl (Tells.v _ _) (fun hg => fv fo_Extent_1 (ot rfl)) (by decide) ?_
  refine WL.gd rfl rfl (Tells.v _ _) (fun hg => lb 0 rfl sc_int (og rfl hg) rfl) (by decide) ?_
  refine WL.gd rfl rfl (Tells.v _ _) (fun hg => geq (og rfl hg) (oc _)) (by decide) ?_
  refine WL.op (and_ (ot rfl) (ot rfl)) (by decide) ?_
  refine WL.op (mv (ot rfl)) (by decide) ?_
  refine WL.gd rfl rfl (Tells.v _ _) (fun hg => fv fo_Extent_2 (ot rfl)) (by decide) ?_
  refine WL.gd rfl rfl (Tells.v _ _) (fun hg => lb 0 rfl sc_int (og rfl hg) rfl) (by decide) ?_
  refine WL.gd rfl rfl (Tells.v _ _) (fun hg => geq (og rfl hg) (oc _)) (by decide) ?_
  refine WL.op (and_ (ot rfl) (ot rfl)) (by decide) ?_
  refine WL.op (mv (ot rfl)) (by decide) ?_
  refine WL.gd rfl rfl (Tells.v _ _) (fun hg => fv fo_Extent_2 (ot rfl)) (by decide) ?_
  refine WL.gd rfl rfl (Tells.v _ _) (fun hg => lb 0 rfl sc_int (og rfl hg) rfl) (by decide) ?_
  refine WL.gd rfl rfl (Tells.v _ _) (fun hg => fa fo_refcount_Counts_0 (ot rfl)) (by decide) ?_
  refine WL.gd rfl rfl (Tells.v _ _) (fun hg => ld sc_s_int (og rfl hg)) (by decide) ?_
  refine WL.gd rfl rfl (Tells.v _ _) (fun hg => len_ us_s_int (og rfl hg)) (by decide) ?_
  refine WL.gd rfl rfl (Tells.v _ _) (fun hg => leq (og rfl hg) (og rfl hg)) (by decide) ?_
  refine WL.op (and_ (ot rfl) (ot rfl)) (by decide) ?_
  refine WL.op (mv (ot rfl)) (by decide) ?_
  refine WL.gd rfl rfl (Tells.v _ _) (fun hg => fv fo_Extent_1 (ot rfl)) (by decide) ?_
  refine WL.gd rfl rfl (Tells.v _ _) (fun hg => lb 0 rfl sc_int (og rfl hg) rfl) (by decide) ?_
  refine WL.gd rfl rfl (Tells.v _ _) (fun hg => fa fo_refcount_Counts_0 (ot rfl)) (by decide) ?_
  refine WL.gd rfl rfl (Tells.v _ _) (fun hg => ld sc_s_int (og rfl hg)) (by decide) ?_
  refine WL.gd rfl rfl (Tells.v _ _) (fun hg => len_ us_s_int (og rfl hg)) (by decide) ?_
  refine WL.gd rfl rfl (Tells.v _ _) (fun hg => fv fo_Extent_2 (ot rfl)) (by decide) ?_
  refine WL.gd rfl rfl (Tells.v _ _) (fun hg => lb 0 rfl sc_int (og rfl hg) rfl) (by decide) ?_
  refine WL.gd rfl rfl (Tells.v _ _) (fun hg => sub (og rfl hg) (og rfl hg) (by simp at hg; omega)) (by decide) ?_
  refine WL.gd rfl rfl (Tells.v _ _) (fun hg => leq (og rfl hg) (og rfl hg)) (by decide) ?_
  refine WL.op (and_ (ot rfl) (ot rfl)) (by decide) ?_
  refine WL.op (asg (ot rfl)) (by decide) ?_
  refine WL.nl (.thn ?_)
  exact WP.rt (.r1 rfl rfl (imp_eq (congrArg (fun b => val (.bool b)) (by simp only [perm1, Bool.and_assoc]))))
theorem c_refcount_Counts_permitted {cs : List Int} {xs : List X} (hc : cs.length ≤ 1000000) (hl : xs.length ≤ 1000000) : PureC Tryz.prog 106 [eC cs, sl 3 FX xs] (val (.bool (permB cs.length xs))) := by
  refine PureC.of_wp Tryz.func106 (by kernel_rfl) rfl Tryz.ntmps106 (le_ rfl) (fun w0 M0 => ?_)
  refine WP.seq ?_
  refine WP.region ?_
  refine WL.op (boxi (ot rfl) (.agg _)) (by decide) ?_
  refine WL.op (asg (oc _)) (by decide) ?_
  refine WL.nl (.thn ?_)
  refine WP.seq ?_
  refine WP.region ?_
  refine WL.op (mv (ot rfl)) (by decide) ?_
  refine WL.op (mkfn (ot rfl)) (by decide) ?_
  refine WL.op (call (c_refcount_fold (stp := fun ok x => ok && perm1 cs.length x) hl (fun b x => c_refcount_permitted_1 hc)) (.c (ot rfl) (.c (oc _) (.c (ot rfl) .n)))) (by decide) ?_
  refine WL.op (asg (ot rfl)) (by decide) ?_
  refine WL.nl (.thn ?_)
  exact WP.rt (.r1 rfl rfl (imp _))
theorem getX_mem' {xs : List X} {i : Nat} (hi : i < xs.length) : xs.getD (i : Int).toNat default ∈ xs := by
  rw [show ((i : Nat) : Int).toNat = i from by omega]; exact getX_mem hi
theorem chg_step {d : Int} {cs : List Int} {xs : List X} {i : Nat} (hi : i < xs.length) : chg d cs (xs.take (i + 1)) = inc d (chg d cs (xs.take i)) (xs.getD (i : Int).toNat default).s.toNat (xs.getD (i : Int).toNat default).n.toNat := by
  unfold chg
  exact foldl_step _ _ hi
theorem c_refcount_Counts_changed {cs : List Int} {xs : List X} {d : Int} (hd : d = 1 ∨ d = -1) (hc : cs.length ≤ 1000000) (hl : xs.length ≤ 100000) (hcs : ∀ s : Nat, -1000000000 ≤ cs.getD s 0 ∧ cs.getD s 0 ≤ 1000000000) (hp : permB cs.length xs = true) : PureC Tryz.prog 107 [eC cs, sl 3 FX xs, I d] (eC (chg d cs xs)) := by
  have hp := permB_iff.1 hp
  have hchg := fun i : Nat => chg_ok d cs _ (xs.take i) rfl (fun x hx => hp x (List.mem_of_mem_take hx))
  refine PureC.of_wp Tryz.func107 (by kernel_rfl) rfl Tryz.ntmps107 (le_ rfl) (fun w0 M0 => ?_)
  refine WP.seq ?_
  refine WP.region ?_
  refine WL.box (ot rfl) (.agg _) (by decide) fun b3 => ?_
  refine WL.alloc zr_refcount_Counts rfl (by decide) fun b6 => ?_
  refine WL.nl (.thn ?_)
  refine WP.seq ?_
  refine WP.region ?_
  refine WL.op (fv fo_refcount_Counts_0 (ot rfl)) (by decide) ?_
  refine WL.op (lb 1 rfl sc_s_int (ot rfl) rfl) (by decide) ?_
  refine WL.op (len_ us_s_int (ot rfl)) (by decide) ?_
  refine WL.mkr (OpN.mks ei_s_int zr_int rfl (ot rfl) (ot rfl) (by omega) (by omega)) (by decide) fun v14 h14 => ?_
  refine WL.op (asg (ot rfl)) (by decide) ?_
  refine WL.nl (.thn ?_)
  refine WP.seq ?_
  refine WP.region ?_
  refine WL.op (mv (ot rfl)) (by decide) ?_
  refine WL.op (fv fo_refcount_Counts_0 (ot rfl)) (by decide) ?_
  refine WL.op (lb 2 rfl sc_s_int (ot rfl) rfl) (by decide) ?_
  refine WL.copy 0 rfl ei_s_int (ot rfl) (ot rfl) (fun _ => rfl) rfl (by decide) ?_
  refine WL.nl (.thn ?_)
  refine WP.seq ?_
  refine WP.seq ?_
  refine WP.region ?_
  refine WL.op (mv (ot rfl)) (by decide) ?_
  refine WL.op (len_ us_s_api_Extent (ot rfl)) (by decide) ?_
  refine WL.op (mv (oc _)) (by decide) ?_
  refine WL.nl (.thn ?_)
  refine WP.block  ?_
  refine WP.rowAt' 0 rfl fun g cap hv => ?_
  refine WP.loop (fun y : Nat => [.r v14 3 1 cs.length ((chg d cs (xs.take y)).flatMap FI), .b b6 25 [val (.slice none 0 0)], .b b3 25 [sl 1 FI cs]]) (fun y => [(21, I (y : Int)), (20, I (xs.length : Int)), (19, sl 3 FX xs), (7, val v14), (2, I d), (6, val (.pointer (some ⟨b6, 0, none⟩)))]) (fun y => y ≤ xs.length) (fun y => xs.length - y) 0 (Nat.zero_le _) (Sub.ofD 0 rfl (Sub.cons rfl (imp_eq rfl) (Sub.cons rfl (imp _) (Sub.cons rfl (imp _) (Sub.cons rfl (imp _) (Sub.cons rfl (imp _) (Sub.cons rfl (imp _) Sub.nil))))))) (fun i hi => ?_)
  replace hi : i ≤ xs.length := hi
  show WP _ _ _ _ [.r v14 3 1 cs.length ((chg d cs (xs.take i)).flatMap FI), .b b6 25 [val (.slice none 0 0)], .b b3 25 [sl 1 FI cs]] [(21, I (i : Int)), (20, I (xs.length : Int)), (19, sl 3 FX xs), (7, val v14), (2, I d), (6, val (.pointer (some ⟨b6, 0, none⟩)))] _ _
  refine WP.seq ?_
  refine WP.region ?_
  refine WL.op (lss (ot rfl) (ot rfl)) (by decide) ?_
  refine WL.nl (.thn ?_)
  refine WP.seq ?_
  refine WP.cond rfl (fun hc => ?_) (fun hc => ?_)
  · skip
    have hc1 : i < xs.length := by have := of_decide_eq_true hc; omega
    have hx := hp _ (getX_mem' hc1)
    have hstep := chg_step (d := d) (cs := cs) hc1
    obtain ⟨hcl, hcg⟩ := hchg i
    refine WP.sk (.thn ?_)
    refine WP.seq ?_
    refine WP.block ?_
    refine WP.seq ?_
    refine WP.region ?_
    refine WL.op (ixd el_s_api_Extent (ot rfl) (ot rfl) (by omega) (by omega)) (by decide) ?_
    refine WL.op (ls ag_Extent (ot rfl) (le_ rfl)) (by decide) ?_
    refine WL.alloc zr_Extent rfl (by decide) fun b9 => ?_
    refine WL.store 0 rfl (ot rfl) (ot rfl) (.agg _) sz_Extent rfl (le_ rfl) ?_
    refine WL.nl (.thn ?_)
    refine WP.seq ?_
    refine WP.region ?_
    refine WL.op (fv fo_Extent_2 (ot rfl)) (by decide) ?_
    refine WL.op (lb 0 rfl sc_int (ot rfl) rfl) (by decide) ?_
    refine WL.op (asg (ot rfl)) (by decide) ?_
    refine WL.nl (.thn ?_)
    refine WP.block ?_
    refine WP.loop (fun q : Nat => [.b b9 65 (FX (xs.getD (i : Int).toNat default)), .r v14 3 1 cs.length ((inc d (chg d cs (xs.take i)) (xs.getD (i : Int).toNat default).s.toNat q).flatMap FI), .b b6 25 [val (.slice none 0 0)], .b b3 25 [sl 1 FI cs]]) (fun q => [(10, I ((xs.getD (i : Int).toNat default).s + q)), (9, val (.pointer (some ⟨b9, 0, none⟩))), (21, I (i : Int)), (20, I (xs.length : Int)), (19, sl 3 FX xs), (7, val v14), (2, I d), (6, val (.pointer (some ⟨b6, 0, none⟩)))]) (fun q => (q : Int) ≤ (xs.getD (i : Int).toNat default).n) (fun q => (xs.getD (i : Int).toNat default).n.toNat - q) 0 (by omega) (Sub.ofD 0 rfl (Sub.cons rfl (imp_eq (congrArg I (by omega))) (Sub.cons rfl (imp _) (Sub.cons rfl (imp _) (Sub.cons rfl (imp _) (Sub.cons rfl (imp _) (Sub.cons rfl (imp _) (Sub.cons rfl (imp _) (Sub.cons rfl (imp _) Sub.nil))))))))) (fun k hk => ?_)
    replace hk : (k : Int) ≤ (xs.getD (i : Int).toNat default).n := hk
    show WP _ _ _ _ [.b b9 65 (FX (xs.getD (i : Int).toNat default)), .r v14 3 1 cs.length ((inc d (chg d cs (xs.take i)) (xs.getD (i : Int).toNat default).s.toNat k).flatMap FI), .b b6 25 [val (.slice none 0 0)], .b b3 25 [sl 1 FI cs]] [(10, I ((xs.getD (i : Int).toNat default).s + k)), (9, val (.pointer (some ⟨b9, 0, none⟩))), (21, I (i : Int)), (20, I (xs.length : Int)), (19, sl 3 FX xs), (7, val v14), (2, I d), (6, val (.pointer (some ⟨b6, 0, none⟩)))] _ _
    refine WP.seq ?_
    refine WP.seq ?_
    refine WP.region ?_
    refine WL.op (mv (ot rfl)) (by decide) ?_
    refine WL.op (fv fo_Extent_2 (ot rfl)) (by decide) ?_
    refine WL.op (lb 0 rfl sc_int (ot rfl) rfl) (by decide) ?_
    refine WL.op (fv fo_Extent_1 (ot rfl)) (by decide) ?_
    refine WL.op (lb 0 rfl sc_int (ot rfl) rfl) (by decide) ?_
    refine WL.op (add (ot rfl) (ot rfl) (by omega)) (by decide) ?_
    refine WL.op (lss (ot rfl) (ot rfl)) (by decide) ?_
    refine WL.nl (.thn ?_)
    refine WP.cond rfl (fun hc => ?_) (fun hc => ?_)
    · skip
      have hk1 : (k : Int) < (xs.getD (i : Int).toNat default).n := by have := of_decide_eq_true hc; omega
      have hin1 := inc_len d (chg d cs (xs.take i)) (xs.getD (i : Int).toNat default).s.toNat k
      have hin2 := inc_get d (chg d cs (xs.take i)) (xs.getD (i : Int).toNat default).s.toNat k (by omega) ((xs.getD (i : Int).toNat default).s + k).toNat
      rw [hcg] at hin2
      have hh1 := hits_nn (xs.take i) (((xs.getD (i : Int).toNat default).s + k).toNat : Nat)
      have hh2 := hits_le (xs.take i) (((xs.getD (i : Int).toNat default).s + k).toNat : Nat)
      have hh3 : (xs.take i).length ≤ i := List.length_take_le _ _
      have hcb := hcs ((xs.getD (i : Int).toNat default).s + k).toNat
      rw [if_neg (by omega)] at hin2
      have hbd : -1001000000 ≤ (inc d (chg d cs (xs.take i)) (xs.getD (i : Int).toNat default).s.toNat k).getD ((xs.getD (i : Int).toNat default).s + k).toNat 0 ∧ (inc d (chg d cs (xs.take i)) (xs.getD (i : Int).toNat default).s.toNat k).getD ((xs.getD (i : Int).toNat default).s + k).toNat 0 ≤ 1001000000 := by
        rw [hin2]
        rcases hd with rfl | rfl <;> omega
      refine WP.sk (.thn ?_)
      refine WP.seq ?_
      refine WP.block ?_
      refine WP.region ?_
      refine WL.op (mv (ot rfl)) (by decide) ?_
      refine WL.op (mv (ot rfl)) (by decide) ?_
      refine WL.op (ixr' (hv (by omega)) el_s_int (ot rfl) (ot rfl) (by omega) (by omega)) (by decide) ?_
      refine WL.op (lr' 1 (hv (by omega)) rfl sc_int (ot rfl) (fI_get (L := inc d (chg d cs (xs.take i)) (xs.getD (i : Int).toNat default).s.toNat k) (by omega))) (by decide) ?_
      refine WL.op (mv (ot rfl)) (by decide) ?_
      refine WL.op (add (ot rfl) (ot rfl) (by omega)) (by decide) ?_
      refine WL.op (ixr' (hv (by omega)) el_s_int (ot rfl) (ot rfl) (by omega) (by omega)) (by decide) ?_
      refine WL.storeR' 1 (hv (by omega)) rfl (ot rfl) (ot rfl) (.leaf (.val rfl)) sz_int rfl (by rw [fI_len, hin1]; omega) ?_
      refine WL.nl (.blk (.thn ?_))
      refine WP.region ?_
      refine WL.op (mv (ot rfl)) (by decide) ?_
      refine WL.op (add (ot rfl) (oc _) (by omega)) (by decide) ?_
      refine WL.op (asg (ot rfl)) (by decide) ?_
      exact WL.nl (.again (k + 1) (by omega) (by omega) (Sub.ofD 0 (Eq.trans (b := [.b b9 65 (FX (xs.getD (i : Int).toNat default)), .r v14 3 1 cs.length (setAt ((inc d (chg d cs (xs.take i)) (xs.getD (i : Int).toNat default).s.toNat k).flatMap FI) (((xs.getD (i : Int).toNat default).s + k).toNat * 1) [I ((inc d (chg d cs (xs.take i)) (xs.getD (i : Int).toNat default).s.toNat k).getD ((xs.getD (i : Int).toNat default).s + k).toNat 0 + d)]), .b b6 25 [val (.slice none 0 0)], .b b3 25 [sl 1 FI cs]]) rfl (by rw [fI_set (by rw [hin1]; omega), show ((xs.getD (i : Int).toNat default).s + (k : Int)).toNat = (xs.getD (i : Int).toNat default).s.toNat + k from by omega]; rfl)) (Sub.cons rfl (imp_eq (congrArg I (by omega))) (Sub.cons rfl (imp _) (Sub.cons rfl (imp _) (Sub.cons rfl (imp _) (Sub.cons rfl (imp _) (Sub.cons rfl (imp _) (Sub.cons rfl (imp _) (Sub.cons rfl (imp _) Sub.nil))))))))))
    · skip
      have hk1 : ¬ (k : Int) < (xs.getD (i : Int).toNat default).n := by have := of_decide_eq_false hc; omega
      refine WP.xt (.xthn (.xthn (.xin (.blk (.thn ?_)))))
      refine WP.region ?_
      refine WL.op (add (ot rfl) (oc _) (by omega)) (by decide) ?_
      refine WL.op (mv (ot rfl)) (by decide) ?_
      exact WL.nl (.again (i + 1) hc1 (by omega) (Sub.ofD 1 (by rw [hstep, show k = (xs.getD (i : Int).toNat default).n.toNat from by omega]; rfl) (Sub.cons rfl (imp_eq (congrArg I (by omega))) (Sub.cons rfl (imp _) (Sub.cons rfl (imp _) (Sub.cons rfl (imp _) (Sub.cons rfl (imp _) (Sub.cons rfl (imp _) Sub.nil))))))))
  · skip
    have hc1 : ¬ i < xs.length := by have := of_decide_eq_false hc; omega
    refine WP.xt (.xthn (.xthn (.xin (.thn ?_))))
    refine WP.seq ?_
    refine WP.region ?_
    refine WL.op (mv (ot rfl)) (by decide) ?_
    refine WL.freeze 0 44 FI (chg d cs (xs.take i)) rfl (fun _ => rfl) (hchg i).1.symm rfl rfl ?_
    refine WL.op (bld zr_refcount_Counts rfl ps_refcount_Counts (.c (ot rfl) (.leaf (.sl _ _ _)) pl_refcount_Counts_0 rfl (le_ rfl) .n)) (by decide) ?_
    refine WL.store 1 rfl (ot rfl) (ot rfl) (.agg _) sz_refcount_Counts rfl (le_ rfl) ?_
    refine WL.nl (.thn ?_)
    have hL2 : chg d cs (xs.take i) = chg d cs xs := by rw [List.take_of_length_le (by omega)]
    exact WP.rt (.rB rfl (.bx 1 rfl rfl ag_refcount_Counts) (imp_eq (by rw [← hL2]; rfl)))
theorem c_refcount_New {k : Nat} (hk : k ≤ 65536) : PureC Tryz.prog 62 [I (k : Int)] (tup [eC (List.replicate k 0), I 0]) := by
  refine PureC.of_wp Tryz.func62 (by kernel_rfl) rfl Tryz.ntmps62 (le_ rfl) (fun w0 M0 => ?_)
  refine WP.seq ?_
  refine WP.region ?_
  refine WL.alloc zr_refcount_Counts rfl (by decide) fun b2 => ?_
  refine WL.op (asg (oc _)) (by decide) ?_
  refine WL.nl (.thn ?_)
  refine WP.seq ?_
  refine WP.seq ?_
  refine WP.region ?_
  refine WL.op (mv (ot rfl)) (by decide) ?_
  refine WL.op (OpG.weak (R' := val (.bool false)) (lss (ot rfl) (oc _)) (imp_eq (congrArg (fun b => val (.bool b)) (decide_eq_false (by omega))))) (by decide) ?_
  refine WL.op (mv (ot rfl)) (by decide) ?_
  refine WL.gT rfl rfl ?_ -- g2
  refine WL.op (mv (ot rfl)) (by decide) ?_
  refine WL.gT rfl rfl ?_ -- g2
  refine WL.op (OpG.weak (R' := val (.bool false)) (gtr (ot rfl) (oc _)) (imp_eq (congrArg (fun b => val (.bool b)) (decide_eq_false (by omega))))) (by decide) ?_
  refine WL.op (pickF (ot rfl) (ot rfl)) (by decide) ?_
  refine WL.nl (.thn ?_)
  refine WP.condF rfl ?_
  refine WP.sk (.thn ?_)
  refine WP.seq ?_
  refine WP.region ?_
  refine WL.op (mv (ot rfl)) (by decide) ?_
  refine WL.mkr (OpN.mks ei_s_int zr_int rfl (ot rfl) (ot rfl) (by omega) (by omega)) (by decide) fun v12 h12 => ?_
  refine WL.freeze 0 12 FI (List.replicate k 0) rfl (fun _ => rfl) (List.length_replicate ..).symm (fI_rep k 0).symm rfl ?_
  refine WL.op (bld zr_refcount_Counts rfl ps_refcount_Counts (.c (ot rfl) (.leaf (.sl _ _ _)) pl_refcount_Counts_0 rfl (le_ rfl) .n)) (by decide) ?_
  refine WL.store 1 rfl (ot rfl) (ot rfl) (.agg _) sz_refcount_Counts rfl (le_ rfl) ?_
  refine WL.op (asg (oc _)) (by decide) ?_
  refine WL.nl (.thn ?_)
  exact WP.rt (.rN rfl (.cons (.bx 1 rfl rfl ag_refcount_Counts) (.cons (.tm rfl) .nil)) (le_ rfl) (imp _))
end Go.Proofs.YtjglgfnhgehpeaaGreat

/- Counts of slots: more. -/
set_option linter.unusedVariables false
set_option linter.unusedSimpArgs false
set_option maxRecDepth 4000
namespace Go.Proofs.YtjglgfnhgehpeaaGreat
open Go.RowKit Go.Fw Go.Xt

theorem All2.imp {w : World} {M : Mask} {Rs Rs' : List Rp} (h : ImpT Rs Rs') : ∀ {cs : List Value}, All2 w M Rs cs → All2 w M Rs' cs := by
  induction h with
  | n => intro cs h; exact h
  | c h _ ih =>
    intro cs hv
    cases cs with
    | nil => exact hv.elim
    | cons v vs => exact ⟨⟨h _ _ _ hv.1.1, hv.1.2⟩, ih hv.2⟩
theorem impA {Rs Rs' : List Rp} (h : ImpT Rs Rs') : ∀ v w M, (agg Rs).h v w M → (agg Rs').h v w M := fun v w M ⟨vs, h1, h2⟩ => ⟨vs, h1, All2.imp h h2⟩
/-- the place of the first of a kind, or -1 -/
def fidx {α : Type} (p : α → Bool) (L : List α) : Int := match L.findIdx? p with
  | some k => k
  | none => -1
theorem fidx_some {α : Type} [Inhabited α] {p : α → Bool} {L : List α} {i : Nat} (hi : i < L.length) (hn : ∀ x ∈ L.take i, p x = false) (hp : p (L.getD (i : Int).toNat default) = true) : fidx p L = i := by
  rw [show ((i : Nat) : Int).toNat = i from by omega, List.getD_eq_getElem?_getD, List.getElem?_eq_getElem hi] at hp
  have : L.findIdx? p = some i := by
    rw [List.findIdx?_eq_some_iff_getElem]
    refine ⟨hi, hp, fun j hj => ?_⟩
    have := hn L[j] (List.mem_take_iff_getElem.2 ⟨j, by omega, rfl⟩)
    simpa using this
  unfold fidx
  rw [this]
theorem fidx_none {α : Type} {p : α → Bool} {L : List α} (hn : ∀ x ∈ L, p x = false) : fidx p L = -1 := by
  have : L.findIdx? p = none := by
    rw [List.findIdx?_eq_none_iff]
    intro x hx; exact hn x hx
  unfold fidx
  rw [this]
theorem take_none {α : Type} [Inhabited α] {p : α → Bool} {L : List α} {i : Nat} (hi : i < L.length) (hn : ∀ x ∈ L.take i, p x = false) (hp : p (L.getD (i : Int).toNat default) = false) : ∀ x ∈ L.take (i + 1), p x = false := by
  intro x hx
  rw [List.take_add_one, List.getElem?_eq_getElem hi] at hx
  rcases List.mem_append.1 hx with hx | hx
  · exact hn x hx
  · rw [show ((i : Nat) : Int).toNat = i from by omega, List.getD_eq_getElem?_getD, List.getElem?_eq_getElem hi] at hp
    have : x = L[i] := by simpa using hx
    rw [this]; exact hp
theorem fidx_any {α : Type} {p : α → Bool} {L : List α} : decide (0 ≤ fidx p L) = L.any p := by
  unfold fidx
  cases h : L.findIdx? p with
  | none =>
    rw [List.findIdx?_eq_none_iff] at h
    have : L.any p = false := by
      rw [List.any_eq_false]
      intro x hx; rw [h x hx]; exact Bool.false_ne_true
    rw [this]; rfl
  | some k =>
    obtain ⟨h1, h2, _⟩ := List.findIdx?_eq_some_iff_getElem.1 h
    show decide ((0 : Int) ≤ (k : Int)) = _
    rw [decide_eq_true (by omega), List.any_eq_true.2 ⟨L[k], List.getElem_mem h1, h2⟩]

theorem c_slices_IndexFunc_int {g : FuncId} {caps : List Rp} {xs : List Int} {p : Int → Bool} (hl : xs.length ≤ 1000000) (hf : ∀ x : Int, PureC Tryz.prog g ([I x] ++ caps) (val (.bool (p x)))) : PureC Tryz.prog 149 [sl 1 FI xs, fnR g caps] (I (fidx p xs)) := by
  refine PureC.of_wp Tryz.func149 (by kernel_rfl) rfl Tryz.ntmps149 (le_ rfl) (fun w0 M0 => ?_)
  refine WP.seq ?_
  refine WP.region ?_
  refine WL.op (asg (oc _)) (by decide) ?_
  refine WL.nl (.thn ?_)
  refine WP.seq ?_
  refine WP.seq ?_
  refine WP.region ?_
  refine WL.op (mv (ot rfl)) (by decide) ?_
  refine WL.op (len_ us_s_int (ot rfl)) (by decide) ?_
  refine WL.op (mv (oc _)) (by decide) ?_
  refine WL.nl (.thn ?_)
  refine WP.block ?_
  refine WP.loop (fun y : Nat => []) (fun y => [(8, I (y : Int)), (7, I (xs.length : Int)), (0, sl 1 FI xs), (1, fnR g caps)]) (fun y => y ≤ xs.length ∧ ∀ x ∈ xs.take y, p x = false) (fun y => xs.length - y) 0 ⟨Nat.zero_le _, fun _ h => (by simp at h)⟩ (Sub.of (Sub.cons rfl (imp_eq rfl) (Sub.cons rfl (imp _) (Sub.cons rfl (imp _) (Sub.cons rfl (imp _) Sub.nil))))) (fun i hi => ?_)
  replace hi : i ≤ xs.length ∧ ∀ x ∈ xs.take i, p x = false := hi
  show WP _ _ _ _ [] [(8, I (i : Int)), (7, I (xs.length : Int)), (0, sl 1 FI xs), (1, fnR g caps)] _ _
  refine WP.seq ?_
  refine WP.region ?_
  refine WL.op (lss (ot rfl) (ot rfl)) (by decide) ?_
  refine WL.nl (.thn ?_)
  refine WP.seq ?_
  refine WP.cond rfl (fun hc => ?_) (fun hc => ?_)
  · skip
    have hc1 : i < xs.length := by have := of_decide_eq_true hc; omega
    refine WP.sk (.thn ?_)
    refine WP.seq ?_
    refine WP.block ?_
    refine WP.seq ?_
    refine WP.region ?_
    refine WL.op (mv (ot rfl)) (by decide) ?_
    refine WL.op (asg (ot rfl)) (by decide) ?_
    refine WL.nl (.thn ?_)
    refine WP.seq ?_
    refine WP.region ?_
    refine WL.op (mv (ot rfl)) (by decide) ?_
    refine WL.op (mv (ot rfl)) (by decide) ?_
    refine WL.op (mv (ot rfl)) (by decide) ?_
    refine WL.op (ixd el_s_int (ot rfl) (ot rfl) (by omega) (by omega)) (by decide) ?_
    refine WL.op (ld sc_int (ot rfl)) (by decide) ?_
    refine WL.op (callv (hf (xs.getD (i : Int).toNat default)) (ot rfl) (.c (ot rfl) .n)) (by decide) ?_
    refine WL.nl (.thn ?_)
    refine WP.cond rfl (fun hc => ?_) (fun hc => ?_)
    · skip
      refine WP.seq ?_
      refine WP.region ?_
      refine WL.op (mv (ot rfl)) (by decide) ?_
      refine WL.op (asg (ot rfl)) (by decide) ?_
      refine WL.nl (.thn ?_)
      exact WP.rt (.rblk (.rthn (.rthn (.rblk (.rthn (.r1 rfl rfl (imp_eq (congrArg I (fidx_some hc1 hi.2 hc).symm))))))))
    · skip
      refine WP.sk (.blk (.thn ?_))
      refine WP.region ?_
      refine WL.op (add (ot rfl) (oc _) (by omega)) (by decide) ?_
      refine WL.op (mv (ot rfl)) (by decide) ?_
      exact WL.nl (.again (i + 1) ⟨hc1, take_none hc1 hi.2 hc⟩ (by omega) (Sub.ofD 0 rfl (Sub.cons rfl (imp_eq (congrArg I (by omega))) (Sub.cons rfl (imp _) (Sub.cons rfl (imp _) (Sub.cons rfl (imp _) Sub.nil))))))
  · skip
    have hc1 : ¬ i < xs.length := by have := of_decide_eq_false hc; omega
    refine WP.xt (.xthn (.xthn (.xin (.thn ?_))))
    refine WP.seq ?_
    refine WP.region ?_
    refine WL.op (asg (oc _)) (by decide) ?_
    refine WL.nl (.thn ?_)
    exact WP.rt (.r1 rfl rfl (imp_eq (congrArg I (fidx_none (by have := hi.2; rwa [List.take_of_length_le (by omega)] at this)).symm)))
theorem c_slices_IndexFunc_ext {g : FuncId} {caps : List Rp} {xs : List X} {p : X → Bool} (hl : xs.length ≤ 1000000) (hf : ∀ x : X, PureC Tryz.prog g ([ext x] ++ caps) (val (.bool (p x)))) : PureC Tryz.prog 172 [sl 3 FX xs, fnR g caps] (I (fidx p xs)) := by
  refine PureC.of_wp Tryz.func172 (by kernel_rfl) rfl Tryz.ntmps172 (le_ rfl) (fun w0 M0 => ?_)
  refine WP.seq ?_
  refine WP.region ?_
  refine WL.op (asg (oc _)) (by decide) ?_
  refine WL.nl (.thn ?_)
  refine WP.seq ?_
  refine WP.seq ?_
  refine WP.region ?_
  refine WL.op (mv (ot rfl)) (by decide) ?_
  refine WL.op (len_ us_s_api_Extent (ot rfl)) (by decide) ?_
  refine WL.op (mv (oc _)) (by decide) ?_
  refine WL.nl (.thn ?_)
  refine WP.block ?_
  refine WP.loop (fun y : Nat => []) (fun y => [(8, I (y : Int)), (7, I (xs.length : Int)), (0, sl 3 FX xs), (1, fnR g caps)]) (fun y => y ≤ xs.length ∧ ∀ x ∈ xs.take y, p x = false) (fun y => xs.length - y) 0 ⟨Nat.zero_le _, fun _ h => (by simp at h)⟩ (Sub.of (Sub.cons rfl (imp_eq rfl) (Sub.cons rfl (imp _) (Sub.cons rfl (imp _) (Sub.cons rfl (imp _) Sub.nil))))) (fun i hi => ?_)
  replace hi : i ≤ xs.length ∧ ∀ x ∈ xs.take i, p x = false := hi
  show WP _ _ _ _ [] [(8, I (i : Int)), (7, I (xs.length : Int)), (0, sl 3 FX xs), (1, fnR g caps)] _ _
  refine WP.seq ?_
  refine WP.region ?_
  refine WL.op (lss (ot rfl) (ot rfl)) (by decide) ?_
  refine WL.nl (.thn ?_)
  refine WP.seq ?_
  refine WP.cond rfl (fun hc => ?_) (fun hc => ?_)
  · skip
    have hc1 : i < xs.length := by have := of_decide_eq_true hc; omega
    refine WP.sk (.thn ?_)
    refine WP.seq ?_
    refine WP.block ?_
    refine WP.seq ?_
    refine WP.region ?_
    refine WL.op (mv (ot rfl)) (by decide) ?_
    refine WL.op (asg (ot rfl)) (by decide) ?_
    refine WL.nl (.thn ?_)
    refine WP.seq ?_
    refine WP.region ?_
    refine WL.op (mv (ot rfl)) (by decide) ?_
    refine WL.op (mv (ot rfl)) (by decide) ?_
    refine WL.op (mv (ot rfl)) (by decide) ?_
    refine WL.op (ixd el_s_api_Extent (ot rfl) (ot rfl) (by omega) (by omega)) (by decide) ?_
    refine WL.op (ls ag_Extent (ot rfl) (le_ rfl)) (by decide) ?_
    refine WL.op (callv (hf (xs.getD (i : Int).toNat default)) (ot rfl) (.c (ot rfl) .n)) (by decide) ?_
    refine WL.nl (.thn ?_)
    refine WP.cond rfl (fun hc => ?_) (fun hc => ?_)
    · skip
      refine WP.seq ?_
      refine WP.region ?_
      refine WL.op (mv (ot rfl)) (by decide) ?_
      refine WL.op (asg (ot rfl)) (by decide) ?_
      refine WL.nl (.thn ?_)
      exact WP.rt (.rblk (.rthn (.rthn (.rblk (.rthn (.r1 rfl rfl (imp_eq (congrArg I (fidx_some hc1 hi.2 hc).symm))))))))
    · skip
      refine WP.sk (.blk (.thn ?_))
      refine WP.region ?_
      refine WL.op (add (ot rfl) (oc _) (by omega)) (by decide) ?_
      refine WL.op (mv (ot rfl)) (by decide) ?_
      exact WL.nl (.again (i + 1) ⟨hc1, take_none hc1 hi.2 hc⟩ (by omega) (Sub.ofD 0 rfl (Sub.cons rfl (imp_eq (congrArg I (by omega))) (Sub.cons rfl (imp _) (Sub.cons rfl (imp _) (Sub.cons rfl (imp _) Sub.nil))))))
  · skip
    have hc1 : ¬ i < xs.length := by have := of_decide_eq_false hc; omega
    refine WP.xt (.xthn (.xthn (.xin (.thn ?_))))
    refine WP.seq ?_
    refine WP.region ?_
    refine WL.op (asg (oc _)) (by decide) ?_
    refine WL.nl (.thn ?_)
    exact WP.rt (.r1 rfl rfl (imp_eq (congrArg I (fidx_none (by have := hi.2; rwa [List.take_of_length_le (by omega)] at this)).symm)))
theorem c_slices_ContainsFunc {g : FuncId} {caps : List Rp} {xs : List Int} {p : Int → Bool} (hl : xs.length ≤ 1000000) (hf : ∀ x : Int, PureC Tryz.prog g ([I x] ++ caps) (val (.bool (p x)))) : PureC Tryz.prog 112 [sl 1 FI xs, fnR g caps] (val (.bool (xs.any p))) := by
  refine PureC.of_wp Tryz.func112 (by kernel_rfl) rfl Tryz.ntmps112 (le_ rfl) (fun w0 M0 => ?_)
  refine WP.seq ?_
  refine WP.region ?_
  refine WL.op (asg (oc _)) (by decide) ?_
  refine WL.nl (.thn ?_)
  refine WP.seq ?_
  refine WP.region ?_
  refine WL.op (mv (ot rfl)) (by decide) ?_
  refine WL.op (mv (ot rfl)) (by decide) ?_
  refine WL.op (call (c_slices_IndexFunc_int hl hf) (.c (ot rfl) (.c (ot rfl) .n))) (by decide) ?_
  refine WL.op (geq (ot rfl) (oc _)) (by decide) ?_
  refine WL.op (asg (ot rfl)) (by decide) ?_
  refine WL.nl (.thn ?_)
  exact WP.rt (.r1 rfl rfl (imp_eq (congrArg (fun b => val (.bool b)) fidx_any)))
theorem c_refcount_Drop_1 (k : Int) : PureC Tryz.prog 113 ([I k] ++ []) (val (.bool (decide (k < 0)))) := by
  refine PureC.of_wp Tryz.func113 (by kernel_rfl) rfl Tryz.ntmps113 (le_ rfl) (fun w0 M0 => ?_)
  refine WP.seq ?_
  refine WP.region ?_
  refine WL.op (asg (oc _)) (by decide) ?_
  refine WL.nl (.thn ?_)
  refine WP.seq ?_
  refine WP.region ?_
  refine WL.op (mv (ot rfl)) (by decide) ?_
  refine WL.op (lss (ot rfl) (oc _)) (by decide) ?_
  refine WL.op (asg (ot rfl)) (by decide) ?_
  refine WL.nl (.thn ?_)
  exact WP.rt (.r1 rfl rfl (imp _))

def addE (cs : List Int) (xs : List X) : List Int × Int := if permB cs.length xs then (chg 1 cs xs, 0) else ([], 2)
/-- counts in bounds -/
def Cb (cs : List Int) : Prop := cs.length ≤ 65536 ∧ ∀ s : Nat, 0 ≤ cs.getD s 0 ∧ cs.getD s 0 ≤ 100000000

theorem c_refcount_Counts_Add {cs : List Int} {xs : List X} (hb : Cb cs) (hl : xs.length ≤ 100000) : PureC Tryz.prog 70 [eC cs, sl 3 FX xs] (tup [eC (addE cs xs).1, I (addE cs xs).2]) := by
  refine PureC.of_wp Tryz.func70 (by kernel_rfl) rfl Tryz.ntmps70 (le_ rfl) (fun w0 M0 => ?_)
  refine WP.seq ?_
  refine WP.region ?_
  refine WL.box (ot rfl) (.agg _) (by decide) fun b2 => ?_
  refine WL.alloc zr_refcount_Counts rfl (by decide) fun b4 => ?_
  refine WL.op (asg (oc _)) (by decide) ?_
  refine WL.nl (.thn ?_)
  refine WP.seq ?_
  refine WP.seq ?_
  refine WP.region ?_
  refine WL.op (lbs 1 rfl ag_refcount_Counts (ot rfl) (le_ rfl)) (by decide) ?_
  refine WL.op (mv (ot rfl)) (by decide) ?_
  refine WL.op (call (c_refcount_Counts_permitted (by have := hb.1; omega) (by omega)) (.c (ot rfl) (.c (ot rfl) .n))) (by decide) ?_
  refine WL.op (not_ (ot rfl)) (by decide) ?_
  refine WL.nl (.thn ?_)
  refine WP.cond rfl (fun hc => ?_) (fun hc => ?_)
  · skip
    refine WP.seq ?_
    refine WP.region ?_
    refine WL.op (bld zr_refcount_Counts rfl ps_refcount_Counts .n) (by decide) ?_
    refine WL.store 0 rfl (ot rfl) (ot rfl) (.agg _) sz_refcount_Counts rfl (le_ rfl) ?_
    refine WL.op (asg (oc _)) (by decide) ?_
    refine WL.nl (.thn ?_)
    exact WP.rt (.rthn (.rN rfl (.cons (.bx 0 rfl rfl ag_refcount_Counts) (.cons (.tm rfl) .nil)) (le_ rfl) (impT (.c (by rw [addE, if_neg (by simpa using hc)]; exact impA (.c sl_nil .n)) (.c (imp_eq (by rw [addE, if_neg (by simpa using hc)])) .n)))))
  · skip
    refine WP.sk (.thn ?_)
    refine WP.seq ?_
    refine WP.region ?_
    refine WL.op (lbs 1 rfl ag_refcount_Counts (ot rfl) (le_ rfl)) (by decide) ?_
    refine WL.op (mv (ot rfl)) (by decide) ?_
    refine WL.op (call (c_refcount_Counts_changed (.inl rfl) (by have := hb.1; omega) hl (fun s => by have := hb.2 s; omega) (by simpa using hc)) (.c (ot rfl) (.c (ot rfl) (.c (oc _) .n)))) (by decide) ?_
    refine WL.store 0 rfl (ot rfl) (ot rfl) (.agg _) sz_refcount_Counts rfl (le_ rfl) ?_
    refine WL.op (asg (oc _)) (by decide) ?_
    refine WL.nl (.thn ?_)
    exact WP.rt (.rN rfl (.cons (.bx 0 rfl rfl ag_refcount_Counts) (.cons (.tm rfl) .nil)) (le_ rfl) (imp_eq (by rw [addE, if_pos (by simpa using hc)]; rfl)))
theorem c_refcount_Counts_Of {cs : List Int} {s : Int} : PureC Tryz.prog 75 [eC cs, I s] (I (if s < 0 ∨ (cs.length : Int) ≤ s then 0 else cs.getD s.toNat 0)) := by
  refine PureC.of_wp Tryz.func75 (by kernel_rfl) rfl Tryz.ntmps75 (le_ rfl) (fun w0 M0 => ?_)
  refine WP.seq ?_
  refine WP.region ?_
  refine WL.box (ot rfl) (.agg _) (by decide) fun b2 => ?_
  refine WL.op (asg (oc _)) (by decide) ?_
  refine WL.nl (.thn ?_)
  refine WP.seq ?_
  refine WP.seq ?_
  refine WP.region ?_
  refine WL.op (mv (ot rfl)) (by decide) ?_
  refine WL.op (lss (ot rfl) (oc _)) (by decide) ?_
  refine WL.op (mv (ot rfl)) (by decide) ?_
  refine WL.gd rfl rfl (Tells.v _ _) (fun hg => mv (ot rfl)) (by decide) ?_
  refine WL.gd rfl rfl (Tells.v _ _) (fun hg => fv fo_refcount_Counts_0 (ot rfl)) (by decide) ?_
  refine WL.gd rfl rfl (Tells.v _ _) (fun hg => lb 0 rfl sc_s_int (og rfl hg) rfl) (by decide) ?_
  refine WL.gd rfl rfl (Tells.v _ _) (fun hg => len_ us_s_int (og rfl hg)) (by decide) ?_
  refine WL.gd rfl rfl (Tells.v _ _) (fun hg => geq (og rfl hg) (og rfl hg)) (by decide) ?_
  refine WL.op (or_ (ot rfl) (ot rfl)) (by decide) ?_
  refine WL.nl (.thn ?_)
  refine WP.cond rfl (fun hc => ?_) (fun hc => ?_)
  · skip
    refine WP.seq ?_
    refine WP.region ?_
    refine WL.op (asg (oc _)) (by decide) ?_
    refine WL.nl (.thn ?_)
    exact WP.rt (.rthn (.r1 rfl rfl (imp_eq (congrArg I (by rw [if_pos (by simpa using hc)])))))
  · skip
    have hc2 : 0 ≤ s ∧ s < cs.length := by simp only [Bool.or_eq_false_iff, decide_eq_false_iff_not] at hc; omega
    refine WP.sk (.thn ?_)
    refine WP.seq ?_
    refine WP.region ?_
    refine WL.op (fv fo_refcount_Counts_0 (ot rfl)) (by decide) ?_
    refine WL.op (lb 0 rfl sc_s_int (ot rfl) rfl) (by decide) ?_
    refine WL.op (mv (ot rfl)) (by decide) ?_
    refine WL.op (ixd el_s_int (ot rfl) (ot rfl) (by omega) (by omega)) (by decide) ?_
    refine WL.op (ld sc_int (ot rfl)) (by decide) ?_
    refine WL.op (asg (ot rfl)) (by decide) ?_
    refine WL.nl (.thn ?_)
    exact WP.rt (.r1 rfl rfl (imp_eq (congrArg I (by rw [if_neg (by omega), getI (by omega)]))))
end Go.Proofs.YtjglgfnhgehpeaaGreat

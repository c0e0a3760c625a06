/- Calls that write what the caller lent; guards that are decided; slices written out. No program in sight. -/
import Derived.Test.YtjglgfnhgehpeaaFwt
namespace Go.Fw
open Go.RowKit Go.Proofs
set_option linter.unusedVariables false
set_option linter.unusedSimpArgs false
section
variable {P : Program} {w0 : World} {M0 : Mask} {n : Nat} {bs : List Box} {st : St} {ops : Array Oper} {l : List Oper} {Q : Exit → Act → World → Prop} {c : Code}

theorem Ok.mem {a : Act} {w : World} (h : Ok w0 M0 n bs st a w) : Mem w0 M0 bs w := ⟨h.boxes, h.nodup, h.fresh, h.below, h.msk, h.m0⟩
theorem Mem.ok {a : Act} {w w' : World} (h : Ok w0 M0 n bs st a w) {bs' : List Box} (hd : defs bs' = defs bs) (hm : Mem w0 M0 bs' w') (hk : Kp w (mkM M0 bs) w' (mkM M0 bs')) : Ok w0 M0 n bs' st a w' :=
  ⟨h.defers.trans hd.symm, h.size, fun i R hi => R.keep (h.facts i R hi) hk, hm.boxes, hm.nodup, hm.fresh, hm.below, hm.msk, hm.m0⟩

/-- what has been kept since a world: a fact of no slot -/
def since (w : World) (M : Mask) : Rp := ⟨fun _ w' M' => Kp w M w' M', fun h k => h.trans k⟩
abbrev sinceAt : Nat := 1000000
theorem look_app (s s' : St) (i : Nat) : look (s ++ s') i = (look s i).or (look s' i) := by
  induction s with
  | nil => rfl
  | cons x s ih =>
    obtain ⟨u, r⟩ := x
    simp only [List.cons_append, look]
    split
    · rfl
    · exact ih
theorem Ok.tail {x : Box} {a : Act} {w : World} (h : Ok w0 M0 n (x :: bs) st a w) (hx : x.mark = none) : Ok w0 M0 n bs st a w := by
  have hsub : ∀ g, g ∈ blks bs → g ∈ blks (x :: bs) := fun g hg => by
    obtain ⟨u, hu, e⟩ := List.mem_filterMap.1 hg
    exact mem_blks (List.mem_cons_of_mem _ hu) e
  have hk := Kp.less w (M := mkM M0 (x :: bs)) (M' := mkM M0 bs) fun b hb => hb.imp id (hsub b)
  refine ⟨h.defers.trans (defs_cons hx bs), h.size, fun i R hi => R.keep (h.facts i R hi) hk, fun y hy => (h.boxes y (List.mem_cons_of_mem _ hy)).same (fun _ _ _ => rfl) hk, ?_, fun g hg => h.fresh g (hsub g hg), h.below, fun b hb => h.msk b (hb.imp id (hsub b)), fun g hg => h.m0 g (hsub g hg)⟩
  have := h.nodup
  unfold blks at *
  rw [List.filterMap_cons] at this
  cases hxb : x.blk with
  | none => rw [hxb] at this; exact this
  | some g => rw [hxb] at this; exact (List.nodup_cons.1 this).2
abbrev noMark (bs : List Box) : Bool := bs.all fun x => x.mark.isNone
theorem Ok.drop {a : Act} {w : World} (k : Nat) (h : Ok w0 M0 n bs st a w) (hx : noMark (bs.take k) = true) : Ok w0 M0 n (bs.drop k) st a w := by
  induction k generalizing bs with
  | zero => exact h
  | succ k ih => cases bs with
    | nil => exact h
    | cons x bs =>
      simp only [noMark, List.take_succ_cons, List.all_cons, Bool.and_eq_true, Option.isNone_iff_eq_none] at hx
      exact ih (h.tail hx.1) hx.2
theorem Sub.ofD {st' : St} {bs' : List Box} (k : Nat) (hb : bs.drop k = bs') (h : ∀ i R, look st' i = some R → ∃ R', look st i = some R' ∧ ∀ v w M, R'.h v w M → R.h v w M) (hx : noMark (bs.take k) = true := by rfl) : Sub w0 M0 n bs st bs' st' := fun a w hok => by
  subst hb
  exact Sub.of h a w (hok.drop k hx)
/-- a call whose caller has lent it the boxes bs: args as facts, the post open -/
theorem calls_lent {f : FuncId} {fn : Func} {args : List Rp} {R : Ending → World → Prop} (hf : P.funcs[f]? = some fn) (hb : fn.body = some c) (hn : fn.ntmps = n) (hl : args.length ≤ n) {w : World} {vs : List Value} (hm : Mem w0 M0 bs w) (hvs : TupAll w (mkM M0 bs) args vs)
    (h : WP P w0 M0 n bs (argst 0 args ++ [(sinceAt, since w (mkM M0 bs))]) c (bodyPost P fn R)) (hd : defs bs = [] := by rfl) : Calls P f vs.toArray w R := by
  refine calls_of_wp hf hb (h _ _ ⟨hd.symm, ?_, ?_, hm.boxes, hm.nodup, hm.fresh, hm.below, hm.msk, hm.m0⟩)
  · have := TupAll.length hvs
    simp; omega
  · intro t R ht
    rw [look_app] at ht
    cases hq : look (argst 0 args) t with
    | none =>
      rw [hq] at ht
      simp only [Option.none_or, look] at ht
      split at ht
      · cases ht; exact Kp.refl w _
      · cases ht
    | some R' =>
    rw [hq] at ht
    cases ht
    obtain ⟨v, h1, h2, h3⟩ := look_argst hvs t R hq
    have h4 : (vs.toArray ++ Array.replicate (fn.ntmps - vs.toArray.size) undef).getD t undef = v := by
      have hlt := (List.getElem?_eq_some_iff.1 h2).1
      simp only [Nat.sub_zero] at h2 hlt
      rw [Array.getD_eq_getD_getElem?, Array.getElem?_append_left (by simpa using hlt)]
      simp [h2]
    show R.h ((vs.toArray ++ Array.replicate (fn.ntmps - vs.toArray.size) undef).getD t undef) w _
    rw [h4]
    exact h3

/-- what a call may do with what it was lent: it ends with a value and one of a family of states -/
def Lent {α : Type} (w0 : World) (M0 : Mask) (bs : List Box) (bx : α → List Box) (I : α → Prop) (R : α → Rp) (w : World) : Ending → World → Prop := fun e w' =>
  ∃ v y, e = .returned v ∧ I y ∧ (R y).h v w' (mkM M0 (bx y)) ∧ Mem w0 M0 (bx y) w' ∧ Kp w (mkM M0 bs) w' (mkM M0 (bx y))
theorem Lead.lent {α : Type} {bx : α → List Box} {I : α → Prop} {R : α → Rp} {w : World} {bs0 : List Box} {fn : Func} {i : Nat} {R0 : Rp} (hr : fn.results = #[.tmp i]) (hs : look st i = some R0) (hsin : look st sinceAt = some (since w (mkM M0 bs0))) (k : Nat) (y : α) (hI : I y) (hb : bs.drop k = bx y) (hR : ∀ v w M, R0.h v w M → (R y).h v w M) (hx : noMark (bs.take k) = true := by rfl) (hd : defs bs = [] := by rfl) :
    Lead w0 M0 n bs st .ret (bodyPost P fn (Lent w0 M0 bs0 bx I R w)) := fun a w' hok => by
  have h1 := hok.drop k hx
  rw [hb] at h1
  exact ⟨hok.defers.trans hd, _, results_tmp hr _ _ _, _, y, rfl, hI, hR _ _ _ (h1.facts i R0 hs), h1.mem, h1.facts _ _ hsin⟩
theorem WL.lent {α : Type} {bx : α → List Box} {I : α → Prop} {R : α → Rp} {d : Nat} {op : Op} {ty : TypeId} {pos : String} {af : Array Edge}
    (h : ∀ a w, Ok w0 M0 n bs st a w → ∃ f vs, (execOp a.eval ⟨none, op, ty, "", #[], none⟩).run P w = .ok (.enter f vs) w ∧ Calls P f vs w (Lent w0 M0 bs bx I R w)) (hd : d < n)
    (rest : ∀ y, I y → WL P w0 M0 n (bx y) ((d, R y) :: st) ops l Q) (hdf : ∀ y, defs (bx y) = defs bs := by intro y; rfl) : WL P w0 M0 n bs st ops (⟨some d, op, ty, pos, af, none⟩ :: l) Q := by
  intro a w hok
  obtain ⟨f, vs, h1, h2⟩ := h a w hok
  refine wpList_plain rfl fun K hK => wp_of_does rfl ?_
  rw [exec_eq, h1]
  refine Calls.mono h2 ?_
  rintro e w' ⟨v, y, rfl, hI, hR, hm, hk⟩
  exact ⟨v, rfl, hK _ _ (rest y hI _ _ ((Mem.ok hok (hdf y) hm hk).setFact hd hR))⟩
theorem run_callF {f : FuncId} (he : Enters P f) {xs : List Operand} {Rs : List Rp} {ats : Array TypeId} {ty : TypeId} (a : Act) (w : World) : (execOp a.eval ⟨none, .call ⟨.value (.func f), xs.toArray, ats⟩, ty, "", #[], none⟩).run P w = .ok (.enter f (xs.map a.eval).toArray) w := by
  have := he (xs.map a.eval).toArray w
  simp [execOp, resolve, Deferred.ofValue, Act.eval, invoke, this]
theorem run_callV {f : FuncId} (he : Enters P f) {i : Nat} {xs : List Operand} {cap : Array Value} {ats : Array TypeId} {ty : TypeId} (a : Act) (w : World) (hv : a.tmps.getD i undef = .func (.func f) #[] cap) : (execOp a.eval ⟨none, .call ⟨.value (.tmp i), xs.toArray, ats⟩, ty, "", #[], none⟩).run P w = .ok (.enter f ((xs.map a.eval).toArray ++ cap)) w := by
  have := he ((xs.map a.eval).toArray ++ cap) w
  have hv : a.eval (.tmp i) = .func (.func f) #[] cap := hv
  simp [execOp, resolve, Deferred.ofValue, hv, invoke, this]
theorem OFs.ok {xs : List Operand} {Rs : List Rp} (h : OFs (look st) xs Rs) {a : Act} {w : World} (hok : Ok w0 M0 n bs st a w) : TupAll w (mkM M0 bs) Rs (xs.map a.eval) := by
  rw [eval_ev]
  exact h.all fun x _ i R' _ hi => hok.facts i R' hi

/-! ### decided guards -/
theorem wanted_of {a : Act} {j dj : Nat} {b want : Bool} {d : Option Nat} {op : Op} {ty : TypeId} {pos : String} {af : Array Edge} (hj : ((ops[j]?).bind (·.dst)) = some dj) (hv : a.tmps.getD dj undef = .bool b) : Region.wanted ⟨d, op, ty, pos, af, some (j, want)⟩ (yielded ops a.tmps) = (b == want) := by
  unfold Region.wanted yielded
  simp only [hj, Option.bind_some]
  rw [Array.getD_eq_getD_getElem?] at hv
  cases hq : a.tmps[dj]? with
  | none => rw [hq] at hv; simp [undef] at hv
  | some u => rw [hq] at hv; simp at hv; subst hv; rfl
theorem WL.gT {d : Option Nat} {op : Op} {ty : TypeId} {pos : String} {af : Array Edge} {j dj : Nat} {want : Bool} (hj : ((ops[j]?).bind (·.dst)) = some dj) (hf : look st dj = some (val (.bool want))) (h : WL P w0 M0 n bs st ops (⟨d, op, ty, pos, af, none⟩ :: l) Q) :
    WL P w0 M0 n bs st ops (⟨d, op, ty, pos, af, some (j, want)⟩ :: l) Q := by
  intro a w hok
  have h1 := h a w hok
  have hw : Region.wanted ⟨d, op, ty, pos, af, some (j, want)⟩ (yielded ops a.tmps) = true := by rw [wanted_of hj (hok.facts dj _ hf)]; simp
  simp only [wpList] at h1 ⊢
  rw [if_pos (by simp [Region.wanted])] at h1
  rw [if_pos hw]
  refine h1.imp (fun h => ?_) (fun h => ?_)
  · unfold Oper.wp at *
    rw [exec_eq] at *
    exact h
  · refine ⟨?_, h.2⟩
    have := h.1
    unfold Oper.asks at *
    rw [exec_eq] at *
    exact this
theorem WL.gF {d : Nat} {op : Op} {ty : TypeId} {pos : String} {af : Array Edge} {j dj : Nat} {b want : Bool} (hj : ((ops[j]?).bind (·.dst)) = some dj) (hf : look st dj = some (val (.bool b))) (hb : b ≠ want) (hd : d < n) (h : WL P w0 M0 n bs ((d, val undef) :: st) ops l Q) :
    WL P w0 M0 n bs st ops (⟨some d, op, ty, pos, af, some (j, want)⟩ :: l) Q := by
  intro a w hok
  have hw : Region.wanted ⟨some d, op, ty, pos, af, some (j, want)⟩ (yielded ops a.tmps) = false := by rw [wanted_of hj (hok.facts dj _ hf)]; simpa using hb
  simp only [wpList]
  rw [if_neg (by rw [hw]; exact Bool.false_ne_true)]
  exact h _ _ (hok.setFact hd rfl)
theorem WL.gU {d : Nat} {op : Op} {ty : TypeId} {pos : String} {af : Array Edge} {j dj : Nat} {want : Bool} (hj : ((ops[j]?).bind (·.dst)) = some dj) (hf : look st dj = some (val undef)) (hd : d < n) (h : WL P w0 M0 n bs ((d, val undef) :: st) ops l Q) :
    WL P w0 M0 n bs st ops (⟨some d, op, ty, pos, af, some (j, want)⟩ :: l) Q := by
  intro a w hok
  have hv : a.tmps.getD dj undef = undef := hok.facts dj _ hf
  have hw : Region.wanted ⟨some d, op, ty, pos, af, some (j, want)⟩ (yielded ops a.tmps) = false := by
    unfold Region.wanted yielded
    simp only [hj, Option.bind_some]
    rw [Array.getD_eq_getD_getElem?] at hv
    cases hq : a.tmps[dj]? with
    | none => rfl
    | some u => rw [hq] at hv; simp at hv; subst hv; rfl
  simp only [wpList]
  rw [if_neg (by rw [hw]; exact Bool.false_ne_true)]
  exact h _ _ (hok.setFact hd rfl)
/-- a guard that is open -/
theorem WL.gd {d dj j : Nat} {op : Op} {ty : TypeId} {pos : String} {af : Array Edge} {R Rg : Rp} {want : Bool} {p : Prop} (hj : ((ops[j]?).bind (·.dst)) = some dj) (hg : look st dj = some Rg) (ht : Tells Rg want p) (h : p → OpG P bs (look st) op ty R) (hd : d < n)
    (rest : WL P w0 M0 n bs ((d, Fw.gd p R) :: st) ops l Q) : WL P w0 M0 n bs st ops (⟨some d, op, ty, pos, af, some (j, want)⟩ :: l) Q := by
  intro a w hok
  rcases ht _ _ _ (hok.facts dj _ hg) with ⟨hp, hv⟩ | ⟨hp, hv⟩
  · have key : WL P w0 M0 n bs st ops (⟨some d, op, ty, pos, af, none⟩ :: l) Q := WL.op (h hp) hd fun a' w' hok' => rest a' w' ⟨hok'.defers, hok'.size, fun t R' ht' => by
      simp only [look] at ht'
      split at ht'
      · rename_i e; subst e; cases ht'; exact .inl ⟨hp, hok'.facts t R (by simp [look])⟩
      · rename_i e; exact hok'.facts t R' (by simp only [look]; rw [if_neg e]; exact ht'), hok'.boxes, hok'.nodup, hok'.fresh, hok'.below, hok'.msk, hok'.m0⟩
    have h1 := key a w hok
    have hw : Region.wanted ⟨some d, op, ty, pos, af, some (j, want)⟩ (yielded ops a.tmps) = true := by rw [wanted_of hj hv]; simp
    simp only [wpList] at h1 ⊢
    rw [if_pos (by simp [Region.wanted])] at h1
    rw [if_pos hw]
    refine h1.imp (fun h => ?_) (fun h => ?_)
    · unfold Oper.wp at *
      rw [exec_eq] at *
      exact h
    · refine ⟨?_, h.2⟩
      have := h.1
      unfold Oper.asks at *
      rw [exec_eq] at *
      exact this
  · have hw : Region.wanted ⟨some d, op, ty, pos, af, some (j, want)⟩ (yielded ops a.tmps) = false := by
      unfold Region.wanted yielded
      simp only [hj, Option.bind_some]
      rw [Array.getD_eq_getD_getElem?] at hv
      cases hq : a.tmps[dj]? with
      | none => rfl
      | some u =>
        rw [hq] at hv
        cases u <;> first | rfl | (rename_i bb; have : bb ≠ want := fun e => hv (by rw [e]; rfl); cases bb <;> cases want <;> first | rfl | exact absurd rfl this)
    simp only [wpList]
    rw [if_neg (by rw [hw]; exact Bool.false_ne_true)]
    exact rest _ _ (hok.setFact hd (.inr ⟨hp, rfl⟩))
theorem pickT {lk : Nat → Option Rp} {x y z : Operand} {ty : TypeId} {R : Rp} (hx : OF lk x (val (.bool true))) (hy : OF lk y R) : OpG P bs lk (.pick x y z) ty R := OpG.pure fun σ w M hf _ => by
  have h1 : ev σ x = _ := hx σ w M (hf x (by simp [Op.operands]))
  exact ⟨_, by simp [execOp, h1, asBool], hy σ w M (hf y (by simp [Op.operands]))⟩
theorem pickF {lk : Nat → Option Rp} {x y z : Operand} {ty : TypeId} {R : Rp} (hx : OF lk x (val (.bool false))) (hz : OF lk z R) : OpG P bs lk (.pick x y z) ty R := OpG.pure fun σ w M hf _ => by
  have h1 : ev σ x = _ := hx σ w M (hf x (by simp [Op.operands]))
  exact ⟨_, by simp [execOp, h1, asBool], hz σ w M (hf z (by simp [Op.operands]))⟩

/-! ### slices written out -/
theorem mfn {lk : Nat → Option Rp} {f : FuncId} {i : Nat} {ty : TypeId} {p : Value} (hx : lk i = some (val p)) : OpG P bs lk (.makeFunc (.func f) #[] #[.tmp i]) ty (val (.func (.func f) #[] #[p])) := opr fun σ w M hf => by
  have h1 : σ i = p := hf (.tmp i) (by simp [Op.operands]) i _ rfl hx
  simp [execOp, Instr.makeFunc, ev, h1]
theorem bsl1 {α : Type} {lk : Nat → Option Rp} {T ty e : TypeId} {sz bytes : Nat} {x : Operand} {R : Rp} {f : α → List Rp} {el : α} (hT : elemInfo P T = some (e, sz, bytes, sz)) (hx : OF lk x R) (hfl : Flat R (f el)) (hf : (f el).length = sz) (h0 : 0 < sz) (h1 : sz ≤ 1000) :
    OpG P bs lk (.buildSlice T 1 #[(0, x)]) ty (sl sz f [el]) := fun σ w M hm hfa _ => by
  obtain ⟨vs, g1, g2⟩ := hfl _ _ _ (hx σ w M (hfa x (by simp [Op.operands])))
  have hlv := g2.length
  unfold elemInfo at hT
  split at hT
  · rename_i e' hu
    cases hi : P.info? e' with
    | none => rw [hi] at hT; simp at hT
    | some ti =>
      cases hz : ti.zero with
      | none => rw [hi] at hT; simp [hz] at hT
      | some z =>
        rw [hi] at hT
        simp only [Option.bind_some, hz, Option.map_some, Option.some.injEq, Prod.mk.injEq] at hT
        obtain ⟨rfl, t1, t2, t3⟩ := hT
        have hb : Below w.heap.size w (w.alloc (.cells vs.toArray e')) := (Below.refl _ w).alloc (Nat.le_refl _) _
        have hfold : ∀ (cs : List Value), cs.length = vs.length → (vs.zipIdx 0).foldl (fun cs (c, j) => cs.setIfInBounds (0 * sz + j) c) cs.toArray = vs.toArray := by
          have key : ∀ (vs pre suf : List Value), suf.length = vs.length → (vs.zipIdx pre.length).foldl (fun cs (c, j) => cs.setIfInBounds (0 * sz + j) c) (pre ++ suf).toArray = (pre ++ vs).toArray := by
            intro vs
            induction vs with
            | nil => intro pre suf h; have : suf = [] := List.eq_nil_of_length_eq_zero h; simp [this]
            | cons v vs ih =>
              intro pre suf h
              cases suf with
              | nil => simp at h
              | cons s suf =>
                simp only [List.zipIdx_cons, List.foldl_cons, List.setIfInBounds_toArray, Nat.zero_mul, Nat.zero_add]
                have hset : (pre ++ s :: suf).set pre.length v = (pre ++ [v]) ++ suf := by simp
                rw [hset]
                have := ih (pre ++ [v]) suf (by simpa using h)
                simp only [List.length_append, List.length_cons, List.length_nil, Nat.zero_add, Nat.zero_mul] at this
                rw [this]
                simp
          intro cs hc
          exact key vs [] cs hc
        have hrun : (Instr.buildSlice T 1 #[(0, ev σ x)]).run P w = .ok (.slice (some ⟨w.heap.size, 0, none⟩) 1 1) (w.alloc (.cells vs.toArray e')) := by
          have hfill : ∀ cs : Array Value, cs.size = sz → Instr.fill (fun i => some (i * sz, sz)) cs [(0, ev σ x)] = some vs.toArray := fun cs hc => by
            have e := hfold cs.toList (by simp; omega)
            simp only [Instr.fill, g1]
            rw [if_neg (by simp; omega)]
            refine congrArg some (Eq.trans ?_ e)
            simp
          unfold Instr.buildSlice
          have hsz : ti.size = sz := t1
          have h2 : ¬ (1 * sz > 2 ^ 24) := by omega
          have h3 : ¬ (1 * sz = 0) := by omega
          simp only [Sem.run_bind, run_underlying hu, Result.andThen_ok, sizeOf, typeInfo, run_program, hi, Sem.run_pure, hsz, Sem.run_ite, if_neg h2, if_neg h3, zeroValue, hz]
          rw [hfill _ (by simp)]
          simp [newRow]
        have : (execOp (ev σ) ⟨none, .buildSlice T 1 #[(0, x)], ty, "", #[], none⟩).run P w = .ok (.value (.slice (some ⟨w.heap.size, 0, none⟩) 1 1)) (w.alloc (.cells vs.toArray e')) := by
          simp [execOp, hrun]
        rw [this]
        refine ⟨⟨some ⟨w.heap.size, 0, none⟩, 1, rfl, Nat.le_refl _, .inr ⟨w.heap.size, 0, rfl, by simp, fun h => by have := hm _ h; omega, fun i y hy => ?_⟩⟩, hb⟩
        have hi0 : i = 0 ∧ y = el := by
          cases i with
          | zero => simp at hy; exact ⟨rfl, hy.symm⟩
          | succ i => simp at hy
        obtain ⟨rfl, rfl⟩ := hi0
        refine CellsAt.of_all2 (g2.keep (Kp.of_below M hb)) fun j v hv => ?_
        have h4 := heap_alloc_new w (.cells vs.toArray e')
        simp only [World.cell?, h4, Nat.zero_mul, Nat.zero_add]
        simpa using hv
  · cases hT
end
end Go.Fw

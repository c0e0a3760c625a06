/- Parts: Fwp. -/
import Derived.Test.YtjglgfnhgehpeaaGreatYa
/- Entering a function, its end, boxes of its own, stores, loops, regions in any order. No program in sight. -/
namespace Go.Fw
open Go.RowKit Go.Proofs
set_option linter.unusedVariables false
set_option linter.unusedSimpArgs false

def argst : Nat → List Rp → St
  | _, [] => []
  | i, r :: rs => (i, r) :: argst (i + 1) rs
theorem look_argst {w : World} {M : Mask} : ∀ {rs : List Rp} {vs : List Value} {i : Nat}, TupAll w M rs vs → ∀ t R, look (argst i rs) t = some R → ∃ v, i ≤ t ∧ vs[t - i]? = some v ∧ R.h v w M
  | [], [], _, _, t, R, h => by simp [argst, look] at h
  | r :: rs, v :: vs, i, h, t, R, hl => by
    simp only [argst, look] at hl
    split at hl
    · rename_i e; subst e; cases hl; exact ⟨v, Nat.le_refl _, by simp, h.1⟩
    · obtain ⟨v', h1, h2, h3⟩ := look_argst h.2 t R hl
      exact ⟨v', by omega, by rw [show t - i = (t - (i + 1)) + 1 from by omega]; simpa using h2, h3⟩

def Post (res : Rp) (w0 : World) (M0 : Mask) : Ending → World → Prop := fun e w' => ∃ v, e = .returned v ∧ res.h v w' M0 ∧ Below w0.heap.size w0 w'

theorem PureC.of_wp {P : Program} {f : FuncId} {fn : Func} {c : Code} {args : List Rp} {res : Rp} {n : Nat} (hf : P.funcs[f]? = some fn) (hname : (fn.name == "runtime.NumGoroutine") = false) (hb : fn.body = some c)
    (hn : fn.ntmps = n) (hl : args.length ≤ n) (h : ∀ w0 M0, WP P w0 M0 n [] (argst 0 args) c (bodyPost P fn (Post res w0 M0))) : PureC P f args res := by
  refine ⟨enters_of hf hname hb, fun w M vs hm hvs => calls_of_wp hf hb (h w M _ _ ⟨rfl, ?_, ?_, by simp, List.nodup_nil, fun _ h => (by cases h), Below.refl _ _, fun b hb => ?_, fun _ h => (by cases h)⟩)⟩
  · have : args.length = vs.length := by
      clear h hl hb hf
      induction args generalizing vs with
      | nil => cases vs <;> simp_all [TupAll]
      | cons r rs ih => cases vs with
        | nil => simp [TupAll] at hvs
        | cons v vs => simp [ih vs hvs.2]
    simp; omega
  · intro t R ht
    obtain ⟨v, h1, h2, h3⟩ := look_argst hvs t R ht
    have h4 : (vs.toArray ++ Array.replicate (fn.ntmps - vs.toArray.size) undef).getD t undef = v := by
      have hlt := (List.getElem?_eq_some_iff.1 h2).1
      simp only [Nat.sub_zero] at h2 hlt
      rw [Array.getD_eq_getD_getElem?, Array.getElem?_append_left (by simpa using hlt)]
      simp [h2]
    show R.h ((vs.toArray ++ Array.replicate (fn.ntmps - vs.toArray.size) undef).getD t undef) w _
    rw [h4]
    exact R.keep h3 (Kp.less w fun b hb => hb.elim id fun h => by cases h)
  · exact hm b (hb.elim id fun h => by cases h)

section
variable {P : Program} {w0 : World} {M0 : Mask} {n : Nat} {bs : List Box} {st : St} {ops : Array Oper} {l : List Oper} {Q : Exit → Act → World → Prop} {fn : Func} {res : Rp}

theorem Ok.low {R : Rp} {a : Act} {w : World} (hok : Ok w0 M0 n bs st a w) {v : Value} (h : R.h v w (mkM M0 bs)) : R.h v w M0 := R.keep h (Kp.less w fun b hb => .inl hb)

theorem fin1 {t : Nat} {R : Rp} (hr : fn.results = #[.tmp t]) (hs : look st t = some R) (hR : ∀ v w M, R.h v w M → res.h v w M) {a : Act} {w : World} (hok : Ok w0 M0 n bs st a w) (hd : defs bs = []) : bodyPost P fn (Post res w0 M0) .ret a w :=
  ⟨hok.defers.trans hd, _, results_tmp hr _ _ _, _, rfl, hok.low (hR _ _ _ (hok.facts t R hs)), hok.below⟩
def rvS (tmps : Array Value) : ResultVar → Sem Value
  | .tmp i => pure (tmps.getD i undef)
  | .cell p ty => do loadVar ty (← asAddr (tmps.getD p undef))
theorem results_eq (fn : Func) (tmps : Array Value) : results fn tmps = (do let vs ← fn.results.mapM (rvS tmps); pure (if h : vs.size = 1 then vs[0] else .tuple vs)) := by
  unfold results
  congr 1
inductive RV (P : Program) (bs : List Box) (st : St) : ResultVar → Rp → Prop
  | tm {t : Nat} {R : Rp} : look st t = some R → RV P bs st (.tmp t) R
  | bx {t : Nat} {b : Nat} {bt ty : TypeId} {rs : List Rp} (i : Nat) : look st t = some (val (.pointer (some ⟨b, 0, none⟩))) → bs[i]? = some (.b b bt rs) → aggs P ty = some rs.length → RV P bs st (.cell t ty) (agg rs)
  | sc {t : Nat} {b : Nat} {bt ty : TypeId} {rs : List Rp} {R : Rp} (i : Nat) : look st t = some (val (.pointer (some ⟨b, 0, none⟩))) → bs[i]? = some (.b b bt rs) → scal P ty = true → rs[0]? = some R → RV P bs st (.cell t ty) R
theorem RV.run {x : ResultVar} {R : Rp} (h : RV P bs st x R) {a : Act} {w : World} (hok : Ok w0 M0 n bs st a w) :
    ∃ v, (rvS a.tmps x).run P w = .ok v w ∧ R.h v w (mkM M0 bs) := by
  cases h with
  | tm h => exact ⟨_, rfl, hok.facts _ _ h⟩
  | @bx t b bt ty rs i h1 h2 h3 =>
    have h4 : a.tmps.getD t undef = _ := hok.facts _ _ h1
    obtain ⟨cs, h5, h6⟩ := box_cells (hok.boxes _ (List.mem_of_getElem? h2))
    refine ⟨.agg cs.toArray, ?_, cs, rfl, h5⟩
    have hl := run_loadVar_agg (P := P) (T := ty) (cs := cs) (h3.trans (by rw [h5.length])) (w := w) (b := b) (o := 0) (fun j v hv => by rw [Nat.zero_add]; exact h6 j v hv)
    simp only [rvS, Sem.run_bind, h4, asAddr, Sem.run_pure, Result.andThen_ok, hl]
  | @sc t b bt ty rs R i h1 h2 h3 h7 =>
    have h4 : a.tmps.getD t undef = _ := hok.facts _ _ h1
    obtain ⟨cs, h5, h6⟩ := box_cells (hok.boxes _ (List.mem_of_getElem? h2))
    obtain ⟨v, g1, g2, _⟩ := h5.get 0 R h7
    refine ⟨v, ?_, g2⟩
    simp only [rvS, Sem.run_bind, h4, asAddr, Sem.run_pure, Result.andThen_ok, run_loadVar_scal h3 (h6 0 v g1)]
inductive RVs (P : Program) (bs : List Box) (st : St) : List ResultVar → List Rp → Prop
  | nil : RVs P bs st [] []
  | cons {x : ResultVar} {xs : List ResultVar} {R : Rp} {Rs : List Rp} : RV P bs st x R → RVs P bs st xs Rs → RVs P bs st (x :: xs) (R :: Rs)
theorem RVs.run {xs : List ResultVar} {Rs : List Rp} (h : RVs P bs st xs Rs) {a : Act} {w : World} (hok : Ok w0 M0 n bs st a w) :
    ∃ vs : List Value, (xs.mapM (rvS a.tmps)).run P w = .ok vs w ∧ TupAll w (mkM M0 bs) Rs vs := by
  induction h with
  | nil => exact ⟨[], by simp, trivial⟩
  | cons h _ ih =>
    obtain ⟨v, h1, h2⟩ := h.run hok
    obtain ⟨vs, h3, h4⟩ := ih
    exact ⟨v :: vs, by simp only [List.mapM_cons, Sem.run_bind, h1, Result.andThen_ok, h3, Sem.run_pure], h2, h4⟩
theorem TupAll.imp {w : World} {M : Mask} : ∀ {Rs : List Rp} {vs : List Value}, TupAll w M Rs vs → ∀ {Rs' : List Rp}, (∀ vs, TupAll w M Rs vs → TupAll w M Rs' vs) → TupAll w M Rs' vs := fun h _ k => k _ h
theorem TupAll.length {w : World} {M : Mask} : ∀ {rs : List Rp} {vs : List Value}, TupAll w M rs vs → rs.length = vs.length
  | [], [], _ => rfl
  | _ :: _, _ :: _, h => by simp [TupAll.length h.2]
theorem finN {xs : List ResultVar} {Rs : List Rp} (hr : fn.results = xs.toArray) (hs : RVs P bs st xs Rs) (h2 : 2 ≤ Rs.length) (hR : ∀ v w M, (tup Rs).h v w M → res.h v w M) {a : Act} {w : World} (hok : Ok w0 M0 n bs st a w) (hd : defs bs = []) :
    a.defers = [] ∧ ∃ v, (results fn a.tmps).run P w = .ok v w ∧ Post res w0 M0 (.returned v) w := by
  obtain ⟨vs, h3, h4⟩ := hs.run hok
  refine ⟨hok.defers.trans hd, .tuple vs.toArray, ?_, _, rfl, hok.low (hR _ _ _ ⟨vs, rfl, h4⟩), hok.below⟩
  have hl : vs.length ≠ 1 := by have := h4.length; omega
  rw [results_eq, hr, List.mapM_toArray]
  simp only [Sem.run_bind, Sem.run_map, h3, Result.andThen_ok, Sem.run_pure]
  simp [hl]
theorem finB {x : ResultVar} {R : Rp} (hr : fn.results = #[x]) (hs : RV P bs st x R) (hR : ∀ v w M, R.h v w M → res.h v w M) {a : Act} {w : World} (hok : Ok w0 M0 n bs st a w) (hd : defs bs = []) :
    a.defers = [] ∧ ∃ v, (results fn a.tmps).run P w = .ok v w ∧ Post res w0 M0 (.returned v) w := by
  obtain ⟨v, h3, h4⟩ := hs.run hok
  refine ⟨hok.defers.trans hd, v, ?_, _, rfl, hok.low (hR _ _ _ h4), hok.below⟩
  rw [results_eq, hr, List.mapM_toArray]
  simp only [Sem.run_bind, Sem.run_map, List.mapM_cons, List.mapM_nil, h3, Result.andThen_ok, Sem.run_pure]
  simp

def Flat (R : Rp) (rs : List Rp) : Prop := ∀ v w M, R.h v w M → ∃ cs : List Value, v.cells = cs.toArray ∧ All2 w M rs cs
theorem Flat.agg (rs : List Rp) : Flat (agg rs) rs := fun v w M ⟨vs, h1, h2⟩ => ⟨vs, by subst h1; rfl, h2⟩
theorem cells_one {v : Value} (h : v.oneCell' = true) : v.cells = [v].toArray := by cases v <;> first | rfl | simp [Value.oneCell'] at h
def Leaf (R : Rp) : Prop := ∀ v w M, R.h v w M → v.oneCell' = true
theorem Flat.leaf {R : Rp} (h : Leaf R) : Flat R [R] := fun v w M hv => ⟨[v], cells_one (h v w M hv), ⟨hv, h v w M hv⟩, trivial⟩
theorem Leaf.val {u : Value} (h : u.oneCell' = true) : Leaf (val u) := fun v w M hv => by have : v = u := hv; rw [this]; exact h
theorem Leaf.at_ (rs : List Rp) : Leaf (at_ rs) := fun v w M ⟨b, o, h, _⟩ => by rw [h]; rfl
theorem Leaf.sl {α : Type} (sz : Nat) (f : α → List Rp) (xs : List α) : Leaf (sl sz f xs) := fun v w M ⟨A, c, h, _⟩ => by rw [h]; rfl

theorem Ok.newBox {a : Act} {w : World} (h : Ok w0 M0 n bs st a w) {d : Nat} (hd : d < n) {T : TypeId} {rs : List Rp} {cs : List Value} (hc : All2 w (mkM M0 bs) rs cs) :
    Ok w0 M0 n (.b w.heap.size T rs :: bs) ((d, val (.pointer (some ⟨w.heap.size, 0, none⟩))) :: st) (a.put (some d) (.pointer (some ⟨w.heap.size, 0, none⟩))) (w.alloc (.cells cs.toArray T)) := by
  have hb : Below w.heap.size w (w.alloc (.cells cs.toArray T)) := (Below.refl _ w).alloc (Nat.le_refl _) _
  have hk : Kp w (mkM M0 bs) (w.alloc (.cells cs.toArray T)) (mkM M0 (.b w.heap.size T rs :: bs)) := ⟨fun b hb' _ => hb.block b hb', hb.size, fun b hb' => by
    rcases hb' with h1 | h1
    · exact .inl (.inl h1)
    · rcases (List.mem_cons (l := blks bs)).1 h1 with h2 | h2
      · exact .inr (Nat.le_of_eq h2.symm)
      · exact .inl (.inr h2)⟩
  exact
  { defers := h.defers.trans (defs_cons rfl bs).symm
    size := by simp [Act.put, h.size]
    facts := fun t R' ht => by
      rw [getD_put (by rw [h.size]; exact hd)]
      simp only [look] at ht
      split at ht
      · rename_i e; subst e; rw [if_pos rfl]; cases ht; rfl
      · rename_i e; rw [if_neg e]; exact R'.keep (h.facts t R' ht) hk
    boxes := fun x hx => by
      rcases List.mem_cons.1 hx with rfl | hx
      · exact ⟨cs, heap_alloc_new w _, hc.keep hk⟩
      · exact (h.boxes x hx).same (fun g _ hg => hb.block g hg) hk
    nodup := by
      show (w.heap.size :: blks bs).Nodup
      rw [List.nodup_cons]
      refine ⟨fun hm => ?_, h.nodup⟩
      have := h.msk w.heap.size (.inr hm)
      omega
    fresh := fun x hx => by
      rcases (List.mem_cons (l := blks bs)).1 hx with e | hx
      · have e : x = w.heap.size := e
        subst e; exact h.below.size
      · exact h.fresh x hx
    below := h.below.trans (hb.mono h.below.size)
    msk := fun b hb' => by
      rcases hb' with h1 | h1
      · exact Nat.lt_of_lt_of_le (h.msk b (.inl h1)) hb.size
      · rcases (List.mem_cons (l := blks bs)).1 h1 with h2 | h2
        · have h2 : b = w.heap.size := h2
          subst h2; simp
        · exact Nat.lt_of_lt_of_le (h.msk b (.inr h2)) hb.size
    m0 := fun g hg hm => by
      rcases (List.mem_cons (l := blks bs)).1 hg with h2 | h2
      · have h2 : g = w.heap.size := h2
        have := h.msk g (.inl hm); omega
      · exact h.m0 g h2 hm }

theorem WL.box {d : Nat} {T ty : TypeId} {x : Operand} {pos : String} {af : Array Edge} {R : Rp} {rs : List Rp} (h : OF (look st) x R) (hfl : Flat R rs) (hd : d < n)
    (rest : ∀ b, WL P w0 M0 n (.b b T rs :: bs) ((d, val (.pointer (some ⟨b, 0, none⟩))) :: st) ops l Q) : WL P w0 M0 n bs st ops (⟨some d, .box T x, ty, pos, af, none⟩ :: l) Q := by
  intro a w hok
  obtain ⟨cs, h1, h2⟩ := hfl _ _ _ (h (fun t => a.tmps.getD t undef) w _ fun i R' _ hi => hok.facts i R' hi)
  refine wl_op (o := ⟨some d, .box T x, ty, pos, af, none⟩) rfl ?_
  rw [eval_ev, exec_eq]
  have h3 : ∀ σ : Nat → Value, (ev σ x).cells = cs.toArray → (execOp (ev σ) ⟨none, .box T x, ty, "", #[], none⟩).run P w = .ok (.value (.pointer (some ⟨w.heap.size, 0, none⟩))) (w.alloc (.cells cs.toArray T)) := fun σ h1 => by
    simp [execOp, Instr.box, newVar, newRow, h1]
  rw [h3 _ h1]
  exact rest _ _ _ (hok.newBox hd h2)
def zeros (P : Program) (T : TypeId) : Option (List Value) := (P.info? T).bind fun i => i.zero.map fun v => v.cells.toList
theorem All2.vals {w : World} {M : Mask} : ∀ {cs : List Value}, cs.all (·.oneCell') = true → All2 w M (cs.map val) cs
  | [], _ => trivial
  | c :: cs, h => by simp only [List.all_cons, Bool.and_eq_true] at h; exact ⟨⟨rfl, h.1⟩, All2.vals h.2⟩
theorem run_alloc {T : TypeId} {cs : List Value} (hz : zeros P T = some cs) (w : World) : (Instr.alloc T true (.tuple #[])).run P w = .ok (.pointer (some ⟨w.heap.size, 0, none⟩)) (w.alloc (.cells cs.toArray T)) := by
  unfold zeros at hz
  cases hi : P.info? T with
  | none => rw [hi] at hz; simp at hz
  | some i =>
    cases hv : i.zero with
    | none => rw [hi] at hz; simp [hv] at hz
    | some v =>
      rw [hi] at hz
      simp only [Option.bind_some, hv, Option.map_some, Option.some.injEq] at hz
      subst hz
      simp [Instr.alloc, zeroValue, typeInfo, hi, hv, newVar, newRow]
theorem WL.alloc {d : Nat} {T ty : TypeId} {pos : String} {af : Array Edge} {cs : List Value} (hz : zeros P T = some cs) (h1 : cs.all (·.oneCell') = true) (hd : d < n)
    (rest : ∀ b, WL P w0 M0 n (.b b T (cs.map val) :: bs) ((d, val (.pointer (some ⟨b, 0, none⟩))) :: st) ops l Q) : WL P w0 M0 n bs st ops (⟨some d, .alloc T, ty, pos, af, none⟩ :: l) Q := by
  intro a w hok
  refine wl_op (o := ⟨some d, .alloc T, ty, pos, af, none⟩) rfl ?_
  rw [eval_ev, exec_eq]
  have h3 : (execOp (ev fun t => a.tmps.getD t undef) ⟨none, .alloc T, ty, "", #[], none⟩).run P w = .ok (.value (.pointer (some ⟨w.heap.size, 0, none⟩))) (w.alloc (.cells cs.toArray T)) := by
    simp [execOp, run_alloc hz]
  rw [h3]
  exact rest _ _ _ (hok.newBox hd (All2.vals h1))

def setAt (rs : List Rp) (o : Nat) (rs' : List Rp) : List Rp := rs.take o ++ rs' ++ rs.drop (o + rs'.length)
theorem run_storeCells_in (g : Nat) (T : TypeId) : ∀ (vs : List Value) (i : Nat) (cur : List Value) (w : World) (o : Nat), w.heap[g]? = some (.cells cur.toArray T (0, 0)) → o + i + vs.length ≤ cur.length → (∀ v ∈ vs, v.oneCell' = true) →
    ∃ w', (storeCells ⟨g, o, none⟩ vs i).run P w = .ok () w' ∧ w'.heap[g]? = some (.cells (cur.take (o + i) ++ vs ++ cur.drop (o + i + vs.length)).toArray T (0, 0)) ∧ (∀ b, b ≠ g → w'.heap[b]? = w.heap[b]?) ∧
      w'.heap.size = w.heap.size ∧ w'.os = w.os ∧ w'.tape = w.tape ∧ w'.output = w.output
  | [], i, cur, w, o, hg, hl, h1 => ⟨w, by simp [storeCells], by simpa using hg, fun _ _ => rfl, rfl, rfl, rfl, rfl⟩
  | v :: vs, i, cur, w, o, hg, hl, h1 => by
    simp only [List.length_cons] at hl
    have hlt : o + i < cur.length := by omega
    have hcell : w.cell? ⟨g, o + i, none⟩ = some cur[o + i] := by simp [World.cell?, hg, hlt]
    have hfr : w.frozen? ⟨g, o + i, none⟩ = false := by simp [World.frozen?, hg]
    have hset : (w.setCell ⟨g, o + i, none⟩ v).heap[g]? = some (.cells (cur.set (o + i) v).toArray T (0, 0)) := by
      have hgl := (Array.getElem?_eq_some_iff.1 hg)
      simp only [World.setCell, Array.getElem?_modify, if_true, hg]
      simp
    obtain ⟨w', k1, k2, k3, k4, k5, k6, k7⟩ := run_storeCells_in g T vs (i + 1) (cur.set (o + i) v) (w.setCell ⟨g, o + i, none⟩ v) o hset (by simp; omega) (fun u hu => h1 u (List.mem_cons_of_mem _ hu))
    refine ⟨w', ?_, ?_, ?_, by rw [k4]; simp [World.setCell], k5, k6, k7⟩
    · unfold storeCells
      rw [add_at]
      simp only [Sem.run_bind, run_store P w _ v .plain (h1 v (by simp)), hcell, hfr, Result.andThen_ok, Bool.false_eq_true, if_false]
      exact k1
    · rw [k2]
      congr 3
      apply List.ext_getElem?
      intro j
      simp only [List.getElem?_append, List.length_append, List.length_take, List.length_cons, List.length_set, List.getElem?_take, List.getElem?_drop, List.getElem?_set, List.length_drop]
      by_cases c1 : j < o + i
      · simp [show j < min (o + (i + 1)) cur.length from by omega, show j < min (o + i) cur.length from by omega, show j < min (o + (i + 1)) cur.length + vs.length from by omega, show j < min (o + i) cur.length + (vs.length + 1) from by omega, show j < o + (i + 1) from by omega, c1, show ¬ o + i = j from by omega]
      · by_cases c2 : j = o + i
        · subst c2
          simp [show o + i < min (o + (i + 1)) cur.length from by omega, show ¬ o + i < min (o + i) cur.length from by omega, show o + i < min (o + (i + 1)) cur.length + vs.length from by omega, show o + i < min (o + i) cur.length + (vs.length + 1) from by omega, show o + i < o + (i + 1) from by omega, show o + i - min (o + i) cur.length = 0 from by omega, hlt]
        · by_cases c3 : j < o + i + 1 + vs.length
          · simp [show ¬ j < min (o + (i + 1)) cur.length from by omega, show ¬ j < min (o + i) cur.length from by omega, show j < min (o + (i + 1)) cur.length + vs.length from by omega, show j < min (o + i) cur.length + (vs.length + 1) from by omega, show j - min (o + i) cur.length = (j - min (o + (i + 1)) cur.length) + 1 from by omega]
          · simp [show ¬ j < min (o + (i + 1)) cur.length from by omega, show ¬ j < min (o + i) cur.length from by omega, show ¬ j < min (o + (i + 1)) cur.length + vs.length from by omega, show ¬ j < min (o + i) cur.length + (vs.length + 1) from by omega,
              show o + (i + 1) + vs.length + (j - (min (o + (i + 1)) cur.length + vs.length)) = o + i + (vs.length + 1) + (j - (min (o + i) cur.length + (vs.length + 1))) from by omega, show ¬ o + i = o + i + (vs.length + 1) + (j - (min (o + i) cur.length + (vs.length + 1))) from by omega]
    · intro b hb
      rw [k3 b hb]
      exact Below.heap_setCell w ⟨g, o + i, none⟩ v b hb

def sizeT (P : Program) (T : TypeId) : Option Nat := (P.info? T).map (·.size)
theorem Ok.store {a : Act} {w w' : World} (h : Ok w0 M0 n bs st a w) {i b : Nat} {bt : TypeId} {rs rs' : List Rp} (hb : bs[i]? = some (.b b bt rs)) {cs : List Value} (hc : w'.heap[b]? = some (.cells cs.toArray bt (0, 0))) (h2 : All2 w (mkM M0 bs) rs' cs)
    (ho : ∀ j, j ≠ b → w'.heap[j]? = w.heap[j]?) (hs : w'.heap.size = w.heap.size) (h5 : w'.os = w.os) (h6 : w'.tape = w.tape) (h7 : w'.output = w.output) :
    Ok w0 M0 n (bs.set i (.b b bt rs')) st a w' := by
  have hmap : blks (bs.set i (.b b bt rs')) = blks bs := by
    have : ∀ (bs : List Box) (i : Nat), bs[i]? = some (.b b bt rs) → blks (bs.set i (.b b bt rs')) = blks bs := by
      intro bs
      induction bs with
      | nil => intro i h; simp at h
      | cons x bs ih =>
        intro i h
        cases i with
        | zero => simp at h; subst h; rfl
        | succ i => have := ih i (by simpa using h); rw [List.set_cons_succ]; unfold blks at *; rw [List.filterMap_cons, List.filterMap_cons, this]
    exact this bs i hb
  have hM : mkM M0 (bs.set i (.b b bt rs')) = mkM M0 bs := by unfold mkM; rw [hmap]
  have hbm : b ∈ blks bs := mem_blks (List.mem_of_getElem? hb) rfl
  have hk : Kp w (mkM M0 bs) w' (mkM M0 bs) := ⟨fun j _ hj => ho j fun e => hj (e ▸ .inr hbm), by omega, fun _ h => .inl h⟩
  have huniq : ∀ (bs : List Box) (i j : Nat) (x : Box), (blks bs).Nodup → bs[i]? = some (.b b bt rs) → bs[j]? = some x → x.blk = some b → i = j := by
    intro bs
    induction bs with
    | nil => intro i j x _ h; simp at h
    | cons y bs ih =>
      intro i j x hnd hi hj hx
      have hnd' : (blks bs).Nodup := by
        unfold blks at *
        rw [List.filterMap_cons] at hnd
        cases hy : y.blk with
        | none => rw [hy] at hnd; exact hnd
        | some g => rw [hy] at hnd; exact (List.nodup_cons.1 hnd).2
      have hno : ∀ (k : Nat) (z : Box), y.blk = some b → bs[k]? = some z → z.blk = some b → False := fun k z hy hk hz => by
        unfold blks at hnd
        rw [List.filterMap_cons, hy] at hnd
        exact (List.nodup_cons.1 hnd).1 (mem_blks (List.mem_of_getElem? hk) hz)
      cases i with
      | zero => cases j with
        | zero => rfl
        | succ j => simp at hi; subst hi; exact (hno j x rfl (by simpa using hj) hx).elim
      | succ i => cases j with
        | zero => simp at hj; subst hj; exact (hno i _ hx (by simpa using hi) rfl).elim
        | succ j => rw [ih i j x hnd' (by simpa using hi) (by simpa using hj) hx]
  refine ⟨h.defers.trans (defs_set (y := .b b bt rs') hb rfl).symm, h.size, fun t R ht => ?_, fun x hx => ?_, by rw [hmap]; exact h.nodup, fun g hg => h.fresh g (by rw [← hmap]; exact hg), ⟨h5.trans h.below.os, h6.trans h.below.tape, h7.trans h.below.output, by rw [hs]; exact h.below.size, fun j hj => ?_⟩, fun j hj => ?_, fun g hg => h.m0 g (by rw [← hmap]; exact hg)⟩
  · rw [hM]; exact R.keep (h.facts t R ht) hk
  · rw [hM]
    obtain ⟨j, hj⟩ := List.getElem?_of_mem hx
    rw [List.getElem?_set] at hj
    split at hj
    · split at hj
      · cases hj; exact ⟨cs, hc, h2.keep hk⟩
      · cases hj
    · rename_i e
      exact (h.boxes x (List.mem_of_getElem? hj)).same (fun g hg _ => ho g fun e' => e (huniq bs i j x h.nodup hb hj (e' ▸ hg))) hk
  · have : j ≠ b := fun e => by have := h.fresh b hbm; omega
    rw [ho j this]; exact h.below.block j hj
  · rw [hM] at hj; rw [hs]; exact h.msk j hj

theorem WL.store (i : Nat) {T ty bt : TypeId} {x y : Operand} {pos : String} {af : Array Edge} {R : Rp} {b o m : Nat} {rs rs' : List Rp} (hb : bs[i]? = some (.b b bt rs)) (hx : OF (look st) x (val (.pointer (some ⟨b, o, none⟩)))) (hy : OF (look st) y R) (hfl : Flat R rs')
    (hm : sizeT P T = some m) (hl : rs'.length = m) (hr : o + m ≤ rs.length)
    (rest : WL P w0 M0 n (bs.set i (.b b bt (setAt rs o rs'))) st ops l Q) : WL P w0 M0 n bs st ops (⟨none, .store T x y, ty, pos, af, none⟩ :: l) Q := by
  intro a w hok
  have h1 : ev (fun t => a.tmps.getD t undef) x = _ := hx _ w _ fun i R' _ hi => hok.facts i R' hi
  obtain ⟨vs, h2, h3⟩ := hfl _ _ _ (hy (fun t => a.tmps.getD t undef) w _ fun i R' _ hi => hok.facts i R' hi)
  obtain ⟨cs, h4, h5⟩ := hok.boxes _ (List.mem_of_getElem? hb)
  have hlv := h3.length
  have hlc := h5.length
  obtain ⟨w', k1, k2, k3, k4, k5, k6, k7⟩ := run_storeCells_in (P := P) b bt vs 0 cs w o h4 (by omega) h3.one
  have hrun : ∀ v : Value, v.cells = vs.toArray → (storeVar T ⟨b, o, none⟩ v).run P w = .ok () w' := fun v h2 => by
    unfold sizeT at hm
    cases hi : P.info? T with
    | none => rw [hi] at hm; simp at hm
    | some ti =>
      rw [hi] at hm
      simp only [Option.map_some, Option.some.injEq] at hm
      have hne : vs.length = ti.size := by omega
      simp [storeVar, h2, sizeOf, typeInfo, hi, hne, k1]
  refine wpList_plain rfl fun K hK => ?_
  unfold Oper.wp
  rw [eval_ev, exec_eq]
  simp only [execOp, h1, Instr.storeAt, Instr.sureAddr, Sem.run_bind, Sem.run_pure, Result.andThen_ok, hrun _ h2]
  refine hK _ _ (rest _ _ (hok.store (w' := w') hb (cs := cs.take o ++ vs ++ cs.drop (o + vs.length)) (by simpa using k2) ?_ k3 k4 k5 k6 k7))
  unfold setAt
  rw [hlv]
  exact ((h5.take o).append h3).append (h5.drop _)
end
end Go.Fw

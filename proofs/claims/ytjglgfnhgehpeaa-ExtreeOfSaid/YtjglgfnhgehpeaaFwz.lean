/- Calls that hand back a row of their own making. No program in sight. -/
import Derived.Test.YtjglgfnhgehpeaaFwy
namespace Go.Fw
open Go.RowKit Go.Proofs
set_option linter.unusedVariables false
set_option linter.unusedSimpArgs false
section
variable {P : Program} {w0 : World} {M0 : Mask} {n : Nat} {bs : List Box} {st : St} {ops : Array Oper} {l : List Oper} {Q : Exit → Act → World → Prop}
def NewPost (w0 : World) (M0 : Mask) (e : TypeId) (sz k : Nat) (rs : List Rp) : Ending → World → Prop := fun en w' => ∃ v, en = .returned v ∧ v.oneCell' = true ∧ Mem w0 M0 [.r v e sz k rs] w'
/-- the call makes a row and hands it back -/
def NewC (P : Program) (f : FuncId) (args : List Rp) (e : TypeId) (sz k : Nat) (rs : List Rp) : Prop := Enters P f ∧ ∀ (w : World) (M : Mask) (vs : List Value), (∀ b, M b → b < w.heap.size) → TupAll w M args vs → Calls P f vs.toArray w (NewPost w M e sz k rs)
theorem NewC.of_wp {f : FuncId} {fn : Func} {c : Code} {args : List Rp} {e : TypeId} {sz k : Nat} {rs : List Rp} (hf : P.funcs[f]? = some fn) (hname : (fn.name == "runtime.NumGoroutine") = false) (hb : fn.body = some c)
    (hn : fn.ntmps = n) (hl : args.length ≤ n) (h : ∀ w0 M0, WP P w0 M0 n [] (argst 0 args) c (bodyPost P fn (NewPost w0 M0 e sz k rs))) : NewC P f args e sz k rs := by
  refine ⟨enters_of hf hname hb, fun w M vs hm hvs => ?_⟩
  refine calls_lent (bs := []) hf hb hn hl (w0 := w) (M0 := M) ⟨by simp, List.nodup_nil, fun _ h => (by cases h), Below.refl _ _, fun b hb => hm b (hb.elim id fun h => by cases h), fun _ h => (by cases h)⟩
    (hvs.keep (Kp.less w fun b hb => hb.elim id fun h => by cases h)) fun a w' hok => ?_
  refine h w M a w' ⟨hok.defers, hok.size, fun t R ht => hok.facts t R ?_, hok.boxes, hok.nodup, hok.fresh, hok.below, hok.msk, hok.m0⟩
  rw [look_app, ht]; rfl
theorem Lead.new {fn : Func} {e : TypeId} {sz m i : Nat} {rs : List Rp} {v : Value} (hr : fn.results = #[.tmp i]) (hs : look st i = some (val v)) (hv : v.oneCell' = true) (k : Nat) (hb : bs.drop k = [.r v e sz m rs]) (hx : noMark (bs.take k) = true := by rfl) (hd : defs bs = [] := by rfl) :
    Lead w0 M0 n bs st .ret (bodyPost P fn (NewPost w0 M0 e sz m rs)) := fun a w' hok => by
  have h1 := hok.drop k hx
  rw [hb] at h1
  have h2 : a.tmps.getD i undef = v := h1.facts i _ hs
  exact ⟨hok.defers.trans hd, _, results_tmp hr _ _ _, _, rfl, by rw [h2]; exact hv, by rw [h2]; exact h1.mem⟩
theorem WL.new {f : FuncId} {xs : List Operand} {Rs rs : List Rp} {ats : Array TypeId} {e : TypeId} {sz k d : Nat} {ty : TypeId} {pos : String} {af : Array Edge} (hc : NewC P f Rs e sz k rs) (hx : OFs (look st) xs Rs) (hd : d < n)
    (rest : ∀ v : Value, v.oneCell' = true → WL P w0 M0 n (.r v e sz k rs :: bs) ((d, val v) :: st) ops l Q) : WL P w0 M0 n bs st ops (⟨some d, .call ⟨.value (.func f), xs.toArray, ats⟩, ty, pos, af, none⟩ :: l) Q := by
  intro a w hok
  refine wpList_plain rfl fun K hK => wp_of_does rfl ?_
  rw [exec_eq, run_callF hc.1 (Rs := Rs) a w]
  refine Calls.mono (hc.2 w (mkM M0 bs) _ hok.msk (hx.ok hok)) ?_
  rintro en w' ⟨v, rfl, hv, hm⟩
  refine ⟨v, rfl, hK _ _ (rest v hv _ _ ?_)⟩
  have hok' := (hok.new hm).2
  exact hok'.setFact hd rfl
theorem run_append_zero (w : World) {base size k : Nat} {v : Value} {xs : List Value} {T ty e : TypeId} {i : TypeInfo} (ht : P.underlying T = some (.slice e)) (hi : P.info? e = some i) (hown : w.ownsRow base e size v k xs) (A : Option Addr) (c : Nat) :
    (Builtin.append_ #[T, T] ty #[v, .slice A 0 c]).run P w = .ok v w := by
  rcases hown.2 with ⟨rfl, rfl⟩ | ⟨g, cap, cur, rfl, _, _, hnc, _⟩
  · cases A <;> simp [Builtin.append_, run_underlying ht, sizeOf, typeInfo, hi, Builtin.lenOf, Builtin.firstCells, loadCells, loadCellsFrom]
  · cases A <;> simp [Builtin.append_, run_underlying ht, sizeOf, typeInfo, hi, Builtin.lenOf, Builtin.firstCells, loadCells, loadCellsFrom, hnc, storeCells]
/-- append(v, x...) of one's own row v, of whatever length -/
theorem WL.app' {α : Type} (i : Nat) {T ty e : TypeId} {sz bytes m d : Nat} {v : Value} {x y : Operand} {pos : String} {af : Array Edge} {rs : List Rp} {f : α → List Rp} {xs : List α} (hb : bs[i]? = some (.r v e sz m rs)) (hT : elemInfo P T = some (e, sz, bytes, sz)) (hsz : 0 < sz) (hx : OF (look st) x (val v)) (hy : OF (look st) y (sl sz f xs)) (hv : v.oneCell' = true) (hf : ∀ x, (f x).length = sz)
    (hl : m + xs.length ≤ 9223372036854775807) (hby : (m + xs.length) * bytes ≤ 140737488355328) (hd : d < n)
    (rest : ∀ v' : Value, v'.oneCell' = true → WL P w0 M0 n (bs.set i (.r v' e sz (m + xs.length) (rs ++ xs.flatMap f))) ((d, val v') :: st) ops l Q) :
    WL P w0 M0 n bs st ops (⟨some d, .call ⟨.builtin .append, #[x, y], #[T, T]⟩, ty, pos, af, none⟩ :: l) Q := by
  by_cases hne : xs = []
  · subst hne
    intro a w hok
    have h1 : ev (fun t => a.tmps.getD t undef) x = _ := hx _ w _ fun i R' _ hi => hok.facts i R' hi
    obtain ⟨A, c, h2, _⟩ := hy (fun t => a.tmps.getD t undef) w _ fun i R' _ hi => hok.facts i R' hi
    obtain ⟨cs, c1, c2⟩ := hok.boxes _ (List.mem_of_getElem? hb)
    unfold elemInfo at hT
    split at hT
    · rename_i e' hu
      cases hi : P.info? e' with
      | none => rw [hi] at hT; simp at hT
      | some ti =>
        cases hz : ti.zero with
        | none => rw [hi] at hT; simp [hz] at hT
        | some z =>
          rw [hi] at hT
          simp only [Option.bind_some, hz, Option.map_some, Option.some.injEq, Prod.mk.injEq] at hT
          obtain ⟨rfl, t1, t2, t3⟩ := hT
          refine wpList_plain rfl fun K hK => ?_
          unfold Oper.wp
          rw [eval_ev, exec_eq]
          have hrun : (execOp (ev fun t => a.tmps.getD t undef) ⟨none, .call ⟨.builtin .append, #[x, y], #[T, T]⟩, ty, "", #[], none⟩).run P w = .ok (.value v) w := by
            simp only [execOp, resolve, invoke, builtin, Sem.run_bind, Sem.run_pure, Result.andThen_ok, List.map_toArray, List.map_cons, List.map_nil, h1, h2, List.length_nil, run_append_zero (P := P) w hu hi c1 A c]
          rw [hrun]
          have hset : bs.set i (.r v e' sz (m + ([] : List α).length) (rs ++ ([] : List α).flatMap f)) = bs := by
            simp only [List.length_nil, Nat.add_zero, List.flatMap_nil, List.append_nil]
            obtain ⟨hlt, he⟩ := List.getElem?_eq_some_iff.1 hb
            rw [← he, List.set_getElem_self]
          have hr := rest v hv
          rw [hset] at hr
          exact hK _ _ (hr _ _ (hok.setFact hd rfl))
    · cases hT
  · exact WL.app i hb hT hsz hx hy hne hf hl hby hd rest
theorem OpN.call {f : FuncId} {xs : List Operand} {Rs rs : List Rp} {ats : Array TypeId} {e : TypeId} {sz k : Nat} {ty : TypeId} {lk : Nat → Option Rp} (hc : NewC P f Rs e sz k rs) (hx : OFs lk xs Rs) :
    OpN P bs lk (.call ⟨.value (.func f), xs.toArray, ats⟩) ty e sz k rs := by
  intro σ w M hm hf _
  have h1 : (execOp (ev σ) ⟨none, .call ⟨.value (.func f), xs.toArray, ats⟩, ty, "", #[], none⟩).run P w = .ok (.enter f (xs.map (ev σ)).toArray) w := by
    have := hc.1 (xs.map (ev σ)).toArray w
    simp [execOp, resolve, Deferred.ofValue, ev, invoke, this]
  rw [h1]
  refine Calls.mono (hc.2 w M _ hm (hx.all fun x hx => hf x (by simp [Op.operands, Call.operands, hx]))) ?_
  rintro en w' ⟨v, rfl, hv, hm'⟩
  exact ⟨v, rfl, hv, hm'⟩
end
section
variable {P : Program} {bs : List Box} {lk : Nat → Option Rp} {ty T T' : TypeId} {x y : Operand}
theorem nes {n : Nat} {us cs : List Int} (hT : intFields P T n = true) (ha : us.length = n) (hc : cs.length = n) (hx : OF lk x (agg (us.map fun n => val (.int .i64 n)))) (hy : OF lk y (agg (cs.map fun n => val (.int .i64 n)))) :
    OpG P bs lk (.binOp .neq T x y T') ty (val (.bool (!decide (us = cs)))) := opr fun σ w M hf => by
  obtain ⟨vs, e1, k1⟩ := hx σ w M (hf x (by simp [Op.operands, Call.operands]))
  obtain ⟨qs, e2, k2⟩ := hy σ w M (hf y (by simp [Op.operands, Call.operands]))
  rw [agg_ints (v := undef) k1] at e1
  rw [agg_ints (v := undef) k2] at e2
  unfold intFields at hT
  split at hT
  · rename_i fs hu
    simp only [Bool.and_eq_true, decide_eq_true_eq, Bool.not_eq_true'] at hT
    obtain ⟨⟨⟨h1, h2⟩, h3⟩, h4⟩ := hT
    have hf' : P.fieldsOf T = fs := by simp [Program.fieldsOf, hu]
    have hr := run_eqFields_ints (P := P) w 9998 (us.map (.int .i64)) (cs.map (.int .i64)) fs.toList 0 us cs h4 (by simpa [h1] using ha) (by simpa [h1] using hc) rfl rfl
    have hq := run_equalIn_agg (P := P) w 9999 T (us.map (.int .i64)).toArray (cs.map (.int .i64)).toArray (by rw [hf']; exact hu) h2
    rw [hf'] at hq
    simp only [execOp, e1, e2, Sem.run_bind, run_eqGuard_agg w _ T x y _ _ h3, Result.andThen_ok, run_neq_struct, hq, hr]
    rfl
  · cases hT
end
end Go.Fw

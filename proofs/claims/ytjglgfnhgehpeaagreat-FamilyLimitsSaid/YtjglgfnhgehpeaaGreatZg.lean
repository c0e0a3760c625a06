/- Parts: Fwh, Fwg, Plain. -/
import Derived.Test.YtjglgfnhgehpeaaGreatZf
import Derived.Shelf.SlMaps.Clone
import Derived.Laws.IdiomStrings
import Derived.Laws.Strings
/- Maps: read; made, written, frozen. No program in sight. -/
namespace Go.Fw
open Go.RowKit Go.Proofs
set_option linter.unusedVariables false
set_option linter.unusedSimpArgs false
/-! ### lists of keys and elements -/
def lookK {α : Type} (k : ByteArray) : List (ByteArray × α) → Option α
  | [] => none
  | x :: l => if k = x.1 then some x.2 else lookK k l
def putK {α : Type} (k : ByteArray) (a : α) : List (ByteArray × α) → List (ByteArray × α)
  | [] => [(k, a)]
  | x :: l => if k = x.1 then (k, a) :: l else x :: putK k a l
def delK {α : Type} (k : ByteArray) : List (ByteArray × α) → List (ByteArray × α)
  | [] => []
  | x :: l => if k = x.1 then l else x :: delK k l
abbrev mapK {α β : Type} (f : α → β) (l : List (ByteArray × α)) : List (ByteArray × β) := l.map fun x => (x.1, f x.2)
theorem lookK_map {α β : Type} (f : α → β) (k : ByteArray) : ∀ l : List (ByteArray × α), lookK k (mapK f l) = (lookK k l).map f
  | [] => rfl
  | x :: l => by
    show (if k = x.1 then some (f x.2) else lookK k (mapK f l)) = (if k = x.1 then some x.2 else lookK k l).map f
    rw [lookK_map f k l]
    split <;> rfl
theorem putK_map {α β : Type} (f : α → β) (k : ByteArray) (a : α) : ∀ l : List (ByteArray × α), putK k (f a) (mapK f l) = mapK f (putK k a l)
  | [] => rfl
  | x :: l => by
    show (if k = x.1 then (k, f a) :: mapK f l else (x.1, f x.2) :: putK k (f a) (mapK f l)) = mapK f (if k = x.1 then (k, a) :: l else x :: putK k a l)
    rw [putK_map f k a l]
    split <;> rfl
theorem delK_map {α β : Type} (f : α → β) (k : ByteArray) : ∀ l : List (ByteArray × α), delK k (mapK f l) = mapK f (delK k l)
  | [] => rfl
  | x :: l => by
    show (if k = x.1 then mapK f l else (x.1, f x.2) :: delK k (mapK f l)) = mapK f (if k = x.1 then l else x :: delK k l)
    rw [delK_map f k l]
    split <;> rfl
/-! ### the model's maps -/
theorem ba_beq (a b : ByteArray) : (a == b) = decide (a = b) := by
  rw [Bool.eq_iff_iff, MapKept.bytes_beq, decide_eq_true_eq]
theorem MapAll.size {w : World} {M : Mask} : ∀ {kv : List (ByteArray × List Rp)} {es : List MapEntry}, MapAll w M kv es → es.length = kv.length
  | [], [], _ => rfl
  | _ :: _, _ :: _, ⟨_, h⟩ => by simp [h.size]
theorem MapAll.snoc {w : World} {M : Mask} {k : ByteArray} {rs : List Rp} {e : MapEntry} (h1 : e.key = .string k) (h2 : ∃ vs : List Value, e.val = .agg vs.toArray ∧ All2 w M rs vs) : ∀ {kv : List (ByteArray × List Rp)} {es : List MapEntry}, MapAll w M kv es → MapAll w M (kv ++ [(k, rs)]) (es ++ [e])
  | [], [], _ => ⟨⟨h1, h2⟩, trivial⟩
  | _ :: _, _ :: _, ⟨g, h⟩ => ⟨g, MapAll.snoc h1 h2 h⟩
theorem putK_none {α : Type} {k : ByteArray} {a : α} : ∀ {l : List (ByteArray × α)}, lookK k l = none → putK k a l = l ++ [(k, a)]
  | [], _ => rfl
  | x :: l, h => by
    unfold lookK at h
    unfold putK
    split at h
    · cases h
    · rename_i hn; rw [if_neg hn, putK_none h]; rfl
theorem delK_none {α : Type} {k : ByteArray} : ∀ {l : List (ByteArray × α)}, lookK k l = none → delK k l = l
  | [], _ => rfl
  | x :: l, h => by
    unfold lookK at h
    unfold delK
    split at h
    · cases h
    · rename_i hn; rw [if_neg hn, delK_none h]
theorem find_map {w : World} {M : Mask} (k : ByteArray) : ∀ {kv : List (ByteArray × List Rp)} {es : List MapEntry} (i : Nat), MapAll w M kv es →
    (lookK k kv = none ∧ Instr.findNow .string (.string k) es i = some none) ∨
    (∃ (j : Nat) (e : MapEntry) (rs : List Rp), lookK k kv = some rs ∧ es[j]? = some e ∧ Instr.findNow .string (.string k) es i = some (some (i + j, e.val)) ∧ e.key = .string k ∧ (∃ vs : List Value, e.val = .agg vs.toArray ∧ All2 w M rs vs) ∧
      (∀ (e' : MapEntry) (rs' : List Rp) (w' : World) (M' : Mask), Kp w M w' M' → e'.key = .string k → (∃ vs : List Value, e'.val = .agg vs.toArray ∧ All2 w' M' rs' vs) → MapAll w' M' (putK k rs' kv) (es.set j e')) ∧ MapAll w M (delK k kv) (es.eraseIdx j))
  | [], [], i, _ => .inl ⟨rfl, rfl⟩
  | x :: kv, e :: es, i, ⟨⟨h1, h2⟩, h3⟩ => by
    by_cases hk : k = x.1
    · refine .inr ⟨0, e, x.2, by simp [lookK, hk], rfl, ?_, by rw [h1, hk], h2, fun e' rs' w' M' hkp g1 g2 => ?_, ?_⟩
      · simp [Instr.findNow, h1, Instr.sameNow, ba_beq, hk]
      · rw [putK, if_pos hk]; exact ⟨⟨g1, g2⟩, h3.keep hkp⟩
      · rw [delK, if_pos hk]; exact h3
    · rcases find_map k (i + 1) h3 with ⟨g1, g2⟩ | ⟨j, e1, rs, g1, g2, g3, g4, g5, g6, g7⟩
      · exact .inl ⟨by rw [lookK, if_neg hk]; exact g1, by simp [Instr.findNow, h1, Instr.sameNow, ba_beq, hk, g2]⟩
      · refine .inr ⟨j + 1, e1, rs, by rw [lookK, if_neg hk]; exact g1, by simpa using g2, ?_, g4, g5, fun e' rs' w' M' hkp q1 q2 => ?_, ?_⟩
        · simp [Instr.findNow, h1, Instr.sameNow, ba_beq, hk, g3, Nat.add_assoc, Nat.add_comm 1 j]
        · rw [putK, if_neg hk]
          obtain ⟨vs, v1, v2⟩ := h2
          exact ⟨⟨h1, vs, v1, v2.keep hkp⟩, g6 e' rs' w' M' hkp q1 q2⟩
        · rw [delK, if_neg hk]; exact ⟨⟨h1, h2⟩, g7⟩
theorem keys_none {w : World} {M : Mask} {k : ByteArray} : ∀ {kv : List (ByteArray × List Rp)} {es : List MapEntry}, lookK k kv = none → MapAll w M kv es → ∀ e ∈ es, e.key ≠ .string k
  | [], [], _, _, e, he => by cases he
  | x :: kv, e0 :: es, h, ⟨⟨h1, _⟩, h3⟩, e, he => by
    unfold lookK at h
    split at h
    · cases h
    · rename_i hn
      rcases List.mem_cons.1 he with rfl | he
      · rw [h1]; intro e; cases e; exact hn rfl
      · exact keys_none h h3 e he
theorem run_findKey {P : Program} {K : TypeId} (hK : P.underlying K = some .string) {k : ByteArray} {es : List MapEntry} {r : Option (Nat × Value)} (h : Instr.findNow .string (.string k) es 0 = some r) (w : World) : (Instr.findKey K (.string k) es).run P w = .ok r w := by
  simp [Instr.findKey, run_underlying hK, h]
theorem run_checkKeyS {P : Program} {K : TypeId} (hK : P.underlying K = some .string) (b : Bool) (k : ByteArray) (w : World) : (Instr.checkKey b 10000 K (.string k)).run P w = .ok () w := by
  unfold Instr.checkKey
  simp [run_underlying hK]
/-- a map that nobody writes, or nil -/
def mps {α : Type} (f : α → List Rp) (l : List (ByteArray × α)) : Rp :=
  ⟨fun v w M => ∃ b, v = .map (some b) ∧ b < w.heap.size ∧ ¬ M b ∧ ∃ (es : List MapEntry) (clock : Nat), w.heap[b]? = some (.map es.toArray clock) ∧ MapKept.Stamped es.toArray clock ∧ MapAll w M (mapK f l) es,
   fun ⟨b, h1, h2, h3, es, clock, h4, h6, h5⟩ k => ⟨b, h1, Nat.lt_of_lt_of_le h2 k.size, fun hm => (k.mask b hm).elim h3 (fun h => by omega), es, clock, (k.block b h2 h3).trans h4, h6, h5.keep k⟩⟩
def mp {α : Type} (f : α → List Rp) (l : List (ByteArray × α)) : Rp :=
  ⟨fun v w M => (v = .map none ∧ l = []) ∨ (mps f l).h v w M, fun h k => h.imp id fun h => (mps f l).keep h k⟩
theorem mp_nil {α : Type} {f : α → List Rp} : ∀ v w M, (val (.map none)).h v w M → (mp f []).h v w M := fun v w M h => .inl ⟨h, rfl⟩
theorem mps_mp {α : Type} {f : α → List Rp} {l : List (ByteArray × α)} : ∀ v w M, (mps f l).h v w M → (mp f l).h v w M := fun v w M h => .inr h
theorem leaf_mp {α : Type} {f : α → List Rp} {l : List (ByteArray × α)} : Leaf (mp f l) := fun v w M h => by
  rcases h with ⟨rfl, _⟩ | ⟨b, rfl, _⟩ <;> rfl
theorem leaf_mps {α : Type} {f : α → List Rp} {l : List (ByteArray × α)} : Leaf (mps f l) := fun v w M ⟨b, h, _⟩ => by rw [h]; rfl
/-- a struct type's zero -/
def zagg (P : Program) (E : TypeId) : Option (List Value) := (P.info? E).bind fun i => match i.zero with | some (.agg a) => some a.toList | _ => none
theorem run_zagg {P : Program} {E : TypeId} {zs : List Value} (h : zagg P E = some zs) (w : World) : (zeroValue E).run P w = .ok (.agg zs.toArray) w := by
  unfold zagg at h
  cases hi : P.info? E with
  | none => rw [hi] at h; cases h
  | some ti =>
    rw [hi] at h
    simp only [Option.bind_some] at h
    split at h
    · rename_i a ha
      cases h
      simp [zeroValue, typeInfo, hi, ha]
    · cases h
section
variable {P : Program} {w0 : World} {M0 : Mask} {n : Nat} {bs : List Box} {st : St} {ops : Array Oper} {l : List Oper} {Q : Exit → Act → World → Prop} {c : Code} {lk : Nat → Option Rp} {ty : TypeId}
theorem All2.vals' {w : World} {M : Mask} : ∀ {cs : List Value}, cs.all (·.oneCell') = true → All2 w M (cs.map val) cs
  | [], _ => trivial
  | c :: cs, h => by
    simp only [List.all_cons, Bool.and_eq_true] at h
    exact ⟨⟨rfl, h.1⟩, All2.vals' h.2⟩
/-- v, ok := m[k] -/
theorem lkp {α : Type} {T K E : TypeId} {x y : Operand} {f : α → List Rp} {m : List (ByteArray × α)} {k : ByteArray} {zs : List Value} (hT : P.underlying T = some (.map K E)) (hK : P.underlying K = some .string) (hz : zagg P E = some zs) (ho : zs.all (·.oneCell') = true) (hx : OF lk x (mp f m)) (hy : OF lk y (val (.string k))) :
    OpG P bs lk (.lookup T x y true) ty (tup [agg (((lookK k m).map f).getD (zs.map val)), val (.bool (lookK k m).isSome)]) := OpG.pure fun σ w M hf _ => by
  have e2 : ev σ y = _ := hy σ w M (hf y (by simp [Op.operands, Call.operands]))
  have hnone : lookK k m = none → (tup [agg (((lookK k m).map f).getD (zs.map val)), val (.bool (lookK k m).isSome)]).h (.tuple #[.agg zs.toArray, .bool false]) w M := fun h2 =>
    ⟨[.agg zs.toArray, .bool false], rfl, by rw [h2]; exact ⟨zs, rfl, All2.vals' ho⟩, by rw [h2]; rfl, trivial⟩
  rcases hx σ w M (hf x (by simp [Op.operands, Call.operands])) with ⟨h1, h2⟩ | ⟨b, h1, _, _, es, clock, h4, h6, h5⟩
  · subst h2
    refine ⟨_, ?_, hnone rfl⟩
    have q2 : Instr.findNow .string (.string k) [] 0 = some none := rfl
    simp [execOp, Instr.lookup, h1, e2, run_underlying hT, run_checkKeyS hK, run_findKey hK q2, run_zagg hz]
  · rcases find_map k 0 h5 with ⟨q1, q2⟩ | ⟨j, e, rs, q1, q2, q3, q4, ⟨vs, q5, q6⟩, _⟩
    · rw [lookK_map] at q1
      have q1' : lookK k m = none := by cases hq : lookK k m with | none => rfl | some a => rw [hq] at q1; cases q1
      refine ⟨_, ?_, hnone q1'⟩
      simp [execOp, Instr.lookup, h1, e2, run_underlying hT, MapKept.run_getObj_map h4, run_checkKeyS hK, run_findKey hK q2, run_zagg hz]
    · rw [lookK_map] at q1
      refine ⟨.tuple #[.agg vs.toArray, .bool true], ?_, [.agg vs.toArray, .bool true], rfl, ?_, ?_, trivial⟩
      · simp [execOp, Instr.lookup, h1, e2, run_underlying hT, MapKept.run_getObj_map h4, run_checkKeyS hK, run_findKey hK q3, q5]
      · rw [q1]; exact ⟨vs, rfl, q6⟩
      · cases hq : lookK k m with
        | none => rw [hq] at q1; cases q1
        | some a => rfl
theorem lenm {α : Type} {T K E : TypeId} {x : Operand} {f : α → List Rp} {m : List (ByteArray × α)} (hT : P.underlying T = some (.map K E)) (hx : OF lk x (mp f m)) : OpG P bs lk (.call ⟨.builtin .len, #[x], #[T]⟩) ty (val (.int .i64 m.length)) := OpG.pure fun σ w M hf _ => by
  rcases hx σ w M (hf x (by simp [Op.operands, Call.operands])) with ⟨h1, h2⟩ | ⟨b, h1, _, _, es, clock, h4, h6, h5⟩
  · subst h2
    exact ⟨.int .i64 0, by simp [execOp, resolve, invoke, builtin, Builtin.len_, h1, run_underlying hT, goInt], rfl⟩
  · have hl := h5.size
    rw [List.length_map] at hl
    refine ⟨.int .i64 m.length, ?_, rfl⟩
    simp [execOp, resolve, invoke, builtin, Builtin.len_, h1, run_underlying hT, goInt, MapKept.run_getObj_map h4, hl]
theorem mnil {T K E T' : TypeId} {x : Operand} {p : Option Nat} (hT : P.underlying T = some (.map K E)) (hx : OF lk x (val (.map p))) : OpG P bs lk (.binOp .eql T x (.const (.map none)) T') ty (val (.bool p.isNone)) := OpG.pure fun σ w M hf _ => by
  have h1 : ev σ x = _ := hx σ w M (hf x (by simp [Op.operands]))
  have hg : eqGuard .eql T x (.const (.map none)) (.map p) (.map none) = pure () := by simp [eqGuard]
  exact ⟨.bool p.isNone, by simp [execOp, h1, ev_const, hg, run_eql_map_nil_sl w T K E p hT], rfl⟩
/-! ### maps of one's own -/
theorem Ok.newMap {a : Act} {w : World} (h : Ok w0 M0 n bs st a w) {es : List MapEntry} {clock : Nat} {kv : List (ByteArray × List Rp)} (hst : MapKept.Stamped es.toArray clock) (hm : MapAll w (mkM M0 bs) kv es) :
    Ok w0 M0 n (.m w.heap.size kv :: bs) st a (w.alloc (.map es.toArray clock)) := by
  have hb : Below w.heap.size w (w.alloc (.map es.toArray clock)) := (Below.refl _ w).alloc (Nat.le_refl _) _
  have hk : Kp w (mkM M0 bs) (w.alloc (.map es.toArray clock)) (mkM M0 (.m w.heap.size kv :: bs)) := ⟨fun b hb' _ => hb.block b hb', hb.size, fun b hb' => by
    rcases hb' with h1 | h1
    · exact .inl (.inl h1)
    · rcases (List.mem_cons (l := blks bs)).1 h1 with h2 | h2
      · exact .inr (Nat.le_of_eq h2.symm)
      · exact .inl (.inr h2)⟩
  refine ⟨(defs_cons (x := .m w.heap.size kv) rfl bs).symm ▸ h.defers, h.size, fun t R ht => R.keep (h.facts t R ht) hk, fun x hx => ?_, ?_, fun g hg => ?_, h.below.trans (hb.mono h.below.size), fun b hb' => ?_, fun g hg hm0 => ?_⟩
  · rcases List.mem_cons.1 hx with rfl | hx
    · exact ⟨es, clock, (MapKept.heap_alloc w _).1, hst, hm.keep hk⟩
    · exact (h.boxes x hx).same (fun g _ hg => hb.block g hg) hk
  · show (w.heap.size :: blks bs).Nodup
    refine List.nodup_cons.2 ⟨fun hg => ?_, h.nodup⟩
    have := h.msk _ (.inr hg); omega
  · rcases (List.mem_cons (l := blks bs)).1 hg with rfl | hg
    · exact h.below.size
    · exact h.fresh g hg
  · have hs : (w.alloc (.map es.toArray clock)).heap.size = w.heap.size + 1 := by simp
    rcases hb' with h1 | h1
    · have := h.msk b (.inl h1); omega
    · rcases (List.mem_cons (l := blks bs)).1 h1 with rfl | h2
      · omega
      · have := h.msk b (.inr h2); omega
  · rcases (List.mem_cons (l := blks bs)).1 hg with rfl | hg
    · have := h.msk _ (.inl hm0); omega
    · exact h.m0 g hg hm0
theorem WL.makeMap {T : TypeId} {d : Nat} {pos : String} {af : Array Edge} (hd : d < n)
    (rest : ∀ g : Nat, WL P w0 M0 n (.m g [] :: bs) ((d, val (.map (some g))) :: st) ops l Q) : WL P w0 M0 n bs st ops (⟨some d, .makeMap T none, ty, pos, af, none⟩ :: l) Q := by
  intro a w hok
  refine wpList_plain rfl fun K hK => ?_
  unfold Oper.wp
  rw [eval_ev, exec_eq]
  have hrun : (execOp (ev fun t => a.tmps.getD t undef) ⟨none, .makeMap T none, ty, "", #[], none⟩).run P w = .ok (.value (.map (some w.heap.size))) (w.alloc (.map #[] 0)) := by
    simp [execOp, RowKit.run_makeMap]
  rw [hrun]
  exact hK _ _ (rest _ _ _ ((hok.newMap (es := []) (kv := []) (MapKept.stamped_empty 0) trivial).setFact hd rfl))
/-- a call of maps.Clone -/
def CloneM (P : Program) (f : FuncId) : Prop := Enters P f ∧ ∀ (b : Nat) (es : Array MapEntry) (clock : Nat) (w : World), w.heap[b]? = some (.map es clock) → Calls P f #[.map (some b)] w fun e w' => e = .returned (.map (some w.heap.size)) ∧ w' = w.alloc (.map es clock)
theorem WL.cloneM {α : Type} {f : FuncId} {x : Operand} {g : α → List Rp} {m : List (ByteArray × α)} {ats : Array TypeId} {d : Nat} {pos : String} {af : Array Edge} (hc : CloneM P f) (hx : OF (look st) x (mps g m)) (hd : d < n)
    (rest : ∀ b : Nat, WL P w0 M0 n (.m b (mapK g m) :: bs) ((d, val (.map (some b))) :: st) ops l Q) : WL P w0 M0 n bs st ops (⟨some d, .call ⟨.value (.func f), #[x], ats⟩, ty, pos, af, none⟩ :: l) Q := by
  intro a w hok
  obtain ⟨b, h1, h2, h3, es, clock, h4, h6, h5⟩ := hx (fun t => a.tmps.getD t undef) w _ fun i R' _ hi => hok.facts i R' hi
  have h1 : a.eval x = .map (some b) := by rw [eval_ev]; exact h1
  refine wpList_plain rfl fun K hK => wp_of_does rfl ?_
  rw [exec_eq, run_callF (xs := [x]) hc.1 (Rs := []) a w]
  have hcall := hc.2 b _ clock w h4
  rw [← h1] at hcall
  refine Calls.mono hcall ?_
  rintro en w' ⟨rfl, rfl⟩
  exact ⟨_, rfl, hK _ _ (rest _ _ _ ((hok.newMap h6 h5).setFact hd rfl))⟩
theorem modify_set {α : Type} {f : α → α} : ∀ {l : List α} {j : Nat} {e : α}, l[j]? = some e → l.modify j f = l.set j (f e)
  | [], j, e, h => by simp at h
  | x :: l, 0, e, h => by simp at h; subst h; rfl
  | x :: l, j + 1, e, h => by
    have := modify_set (f := f) (l := l) (j := j) (e := e) (by simpa using h)
    rw [List.modify_succ_cons, List.set_cons_succ, this]
def putB (w : World) (r : Nat) (o : Obj) : World := { w with heap := w.heap.setIfInBounds r o }
theorem putB_same {w : World} {r : Nat} {o : Obj} (h : r < w.heap.size) : (putB w r o).heap[r]? = some o := by simp [putB, h]
theorem putB_other {w : World} {r j : Nat} {o : Obj} (h : j ≠ r) : (putB w r o).heap[j]? = w.heap[j]? := by
  simp only [putB, Array.getElem?_setIfInBounds]
  rw [if_neg (Ne.symm h)]
theorem putB_size {w : World} {r : Nat} {o : Obj} : (putB w r o).heap.size = w.heap.size := by simp [putB]
theorem run_setObj_at {w : World} {r : Nat} {es : Array MapEntry} {clock : Nat} (hb : w.heap[r]? = some (.map es clock)) (o : Obj) : (setObj r o).run P w = .ok () (putB w r o) := MapKept.run_setObj_map o hb
/-- m[k] = v into one's own map -/
theorem WL.mapUpd (i : Nat) {T K E : TypeId} {x y z : Operand} {g : Nat} {k : ByteArray} {kv : List (ByteArray × List Rp)} {rs : List Rp} {pos : String} {af : Array Edge} (hb : bs[i]? = some (.m g kv)) (hT : P.underlying T = some (.map K E)) (hK : P.underlying K = some .string) (hx : OF (look st) x (val (.map (some g)))) (hy : OF (look st) y (val (.string k))) (hz : OF (look st) z (agg rs))
    (rest : WL P w0 M0 n (bs.set i (.m g (putK k rs kv))) st ops l Q) : WL P w0 M0 n bs st ops (⟨none, .mapUpdate T x y z, ty, pos, af, none⟩ :: l) Q := by
  intro a w hok
  have e1 : ev (fun t => a.tmps.getD t undef) x = _ := hx _ w _ fun i R' _ hi => hok.facts i R' hi
  have e2 : ev (fun t => a.tmps.getD t undef) y = _ := hy _ w _ fun i R' _ hi => hok.facts i R' hi
  obtain ⟨vs, e3, h3⟩ := hz (fun t => a.tmps.getD t undef) w _ fun i R' _ hi => hok.facts i R' hi
  obtain ⟨es, clock, h4, h6, h5⟩ := hok.boxes _ (List.mem_of_getElem? hb)
  have hg := (Array.getElem?_eq_some_iff.1 h4).1
  have fin : ∀ (es' : List MapEntry) (clock' : Nat), MapKept.Stamped es'.toArray clock' → (∀ M, Kp w (mkM M0 bs) (putB w g (.map es'.toArray clock')) M → MapAll (putB w g (.map es'.toArray clock')) M (putK k rs kv) es') → Ok w0 M0 n (bs.set i (.m g (putK k rs kv))) st a (putB w g (.map es'.toArray clock')) := fun es' clock' hst hM =>
    hok.change hb (fun j _ hj => putB_other fun e => hj (by rw [e]; rfl)) (Nat.le_of_eq putB_size.symm) rfl rfl rfl (fun g' hg' => .inl hg') (fun g' hg' => by cases hg'; rw [putB_size]; exact hg) fun M hk => ⟨es', clock', putB_same hg, hst, hM M hk⟩
  refine wpList_plain rfl fun Kx hKx => ?_
  unfold Oper.wp
  rw [eval_ev, exec_eq]
  rcases find_map k 0 h5 with ⟨q1, q2⟩ | ⟨j, e, rs', q1, q2, q3, q4, _, q6, _⟩
  · have hrun : (execOp (ev fun t => a.tmps.getD t undef) ⟨none, .mapUpdate T x y z, ty, "", #[], none⟩).run P w = .ok .skip (putB w g (.map (es ++ [({ key := .string k, val := .agg vs.toArray, born := clock } : MapEntry)]).toArray (clock + 1))) := by
      generalize (fun t => a.tmps.getD t undef) = σ at e1 e2 e3 ⊢
      simp [execOp, Instr.mapUpdate, e1, e2, e3, run_underlying hT, MapKept.run_getObj_map h4, run_checkKeyS hK, run_findKey hK q2, run_setObj_at h4]
    rw [hrun]
    refine hKx _ _ (rest _ _ (fin _ _ (by
      have := MapKept.stamped_push (key := .string k) (val := .agg vs.toArray) h6 fun x hx => keys_none q1 h5 x (by simpa using hx)
      simpa using this) fun M hk => ?_))
    rw [putK_none q1]
    exact MapAll.snoc rfl ⟨vs, rfl, h3.keep hk⟩ (h5.keep hk)
  · have hj : j < es.length := (List.getElem?_eq_some_iff.1 q2).1
    have hej : es[j] = e := (List.getElem?_eq_some_iff.1 q2).2
    have hmod := modify_set (f := fun e : MapEntry => { key := .string k, val := .agg vs.toArray, born := e.born }) q2
    have hrun : (execOp (ev fun t => a.tmps.getD t undef) ⟨none, .mapUpdate T x y z, ty, "", #[], none⟩).run P w = .ok .skip (putB w g (.map (es.set j { e with key := .string k, val := .agg vs.toArray }).toArray clock)) := by
      generalize (fun t => a.tmps.getD t undef) = σ at e1 e2 e3 ⊢
      simp [execOp, Instr.mapUpdate, e1, e2, e3, run_underlying hT, MapKept.run_getObj_map h4, run_checkKeyS hK, run_findKey hK q3, run_setObj_at h4, Instr.keyThatStays, q2, q4, Instr.sameBits, ba_beq, hmod]
    rw [hrun]
    exact hKx _ _ (rest _ _ (fin _ _ (by
      have := MapKept.stamped_modify h6 j (fun e : MapEntry => { key := .string k, val := .agg vs.toArray, born := e.born }) (fun _ _ => rfl) (fun e' _ he' => by
        have : e' = e := by
          have h9 : es[j]? = some e' := by simpa using he'
          rw [q2] at h9; exact (Option.some.inj h9).symm
        rw [this, q4])
      rw [← hmod]
      simpa using this) fun M hk => q6 _ _ _ _ hk rfl ⟨vs, rfl, h3.keep hk⟩))
/-- delete(m, k) of one's own map -/
theorem WL.mapDel (i : Nat) {T K E T2 : TypeId} {x y : Operand} {g : Nat} {k : ByteArray} {kv : List (ByteArray × List Rp)} {pos : String} {af : Array Edge} (hb : bs[i]? = some (.m g kv)) (hT : P.underlying T = some (.map K E)) (hK : P.underlying K = some .string) (hx : OF (look st) x (val (.map (some g)))) (hy : OF (look st) y (val (.string k)))
    (rest : WL P w0 M0 n (bs.set i (.m g (delK k kv))) st ops l Q) : WL P w0 M0 n bs st ops (⟨none, .call ⟨.builtin .delete, #[x, y], #[T, T2]⟩, ty, pos, af, none⟩ :: l) Q := by
  intro a w hok
  have e1 : ev (fun t => a.tmps.getD t undef) x = _ := hx _ w _ fun i R' _ hi => hok.facts i R' hi
  have e2 : ev (fun t => a.tmps.getD t undef) y = _ := hy _ w _ fun i R' _ hi => hok.facts i R' hi
  obtain ⟨es, clock, h4, h6, h5⟩ := hok.boxes _ (List.mem_of_getElem? hb)
  have hg := (Array.getElem?_eq_some_iff.1 h4).1
  have fin : ∀ (es' : List MapEntry) (clock' : Nat), MapKept.Stamped es'.toArray clock' → (∀ M, Kp w (mkM M0 bs) (putB w g (.map es'.toArray clock')) M → MapAll (putB w g (.map es'.toArray clock')) M (delK k kv) es') → Ok w0 M0 n (bs.set i (.m g (delK k kv))) st a (putB w g (.map es'.toArray clock')) := fun es' clock' hst hM =>
    hok.change hb (fun j _ hj => putB_other fun e => hj (by rw [e]; rfl)) (Nat.le_of_eq putB_size.symm) rfl rfl rfl (fun g' hg' => .inl hg') (fun g' hg' => by cases hg'; rw [putB_size]; exact hg) fun M hk => ⟨es', clock', putB_same hg, hst, hM M hk⟩
  refine wpList_plain rfl fun Kx hKx => ?_
  unfold Oper.wp
  rw [eval_ev, exec_eq]
  rcases find_map k 0 h5 with ⟨q1, q2⟩ | ⟨j, e, rs', q1, q2, q3, q4, _, _, q7⟩
  · have hrun : (execOp (ev fun t => a.tmps.getD t undef) ⟨none, .call ⟨.builtin .delete, #[x, y], #[T, T2]⟩, ty, "", #[], none⟩).run P w = .ok (.value (.tuple #[])) (putB w g (.map es.toArray clock)) := by
      generalize (fun t => a.tmps.getD t undef) = σ at e1 e2 ⊢
      simp [execOp, resolve, invoke, builtin, Builtin.delete_, e1, e2, run_underlying hT, MapKept.run_getObj_map h4, run_checkKeyS hK, run_findKey hK q2, run_setObj_at h4]
    rw [hrun]
    refine hKx _ _ (rest _ _ (fin _ _ h6 fun M hk => ?_))
    rw [delK_none q1]
    exact h5.keep hk
  · have hj : j < es.length := (List.getElem?_eq_some_iff.1 q2).1
    have her : es.toArray.eraseIdxIfInBounds j = (es.eraseIdx j).toArray := by
      apply Array.ext'
      simp [Array.eraseIdxIfInBounds, hj]
    have hrun : (execOp (ev fun t => a.tmps.getD t undef) ⟨none, .call ⟨.builtin .delete, #[x, y], #[T, T2]⟩, ty, "", #[], none⟩).run P w = .ok (.value (.tuple #[])) (putB w g (.map (es.eraseIdx j).toArray clock)) := by
      generalize (fun t => a.tmps.getD t undef) = σ at e1 e2 ⊢
      simp [execOp, resolve, invoke, builtin, Builtin.delete_, e1, e2, run_underlying hT, MapKept.run_getObj_map h4, run_checkKeyS hK, run_findKey hK q3, run_setObj_at h4, her]
    rw [hrun]
    exact hKx _ _ (rest _ _ (fin _ _ (by rw [← her]; exact MapKept.stamped_erase h6 j) fun M hk => q7.keep hk))
theorem lkS {α : Type} {T K E : TypeId} {x y : Operand} {f : α → List Rp} {m : List (ByteArray × α)} {k : ByteArray} {zs : List Value} {a : α} (hT : P.underlying T = some (.map K E)) (hK : P.underlying K = some .string) (hz : zagg P E = some zs) (ho : zs.all (·.oneCell') = true) (hx : OF lk x (mp f m)) (hy : OF lk y (val (.string k))) (h : lookK k m = some a) :
    OpG P bs lk (.lookup T x y true) ty (tup [agg (f a), val (.bool true)]) := by
  have := lkp (P := P) (bs := bs) (ty := ty) hT hK hz ho hx hy
  rwa [h] at this
theorem lkN {α : Type} {T K E : TypeId} {x y : Operand} {f : α → List Rp} {m : List (ByteArray × α)} {k : ByteArray} {zs : List Value} (hT : P.underlying T = some (.map K E)) (hK : P.underlying K = some .string) (hz : zagg P E = some zs) (ho : zs.all (·.oneCell') = true) (hx : OF lk x (mp f m)) (hy : OF lk y (val (.string k))) (h : lookK k m = none) :
    OpG P bs lk (.lookup T x y true) ty (tup [agg (zs.map val), val (.bool false)]) := by
  have := lkp (P := P) (bs := bs) (ty := ty) hT hK hz ho hx hy
  rwa [h] at this
theorem PureC.imp1 {f : FuncId} {R R1 res : Rp} {args : List Rp} (h : ∀ v w M, R.h v w M → R1.h v w M) (hc : PureC P f (R1 :: args) res) : PureC P f (R :: args) res :=
  ⟨hc.1, fun w M vs hm hvs => by
    cases vs with
    | nil => exact hvs.elim
    | cons v vs => exact hc.2 w M (v :: vs) hm ⟨h _ _ _ hvs.1, hvs.2⟩⟩
theorem PureC.or1 {f : FuncId} {R R1 R2 res : Rp} {args : List Rp} (h : ∀ v w M, R.h v w M → R1.h v w M ∨ R2.h v w M) (hc : PureC P f (R1 :: args) res) (hc2 : PureC P f (R2 :: args) res) : PureC P f (R :: args) res :=
  ⟨hc.1, fun w M vs hm hvs => by
    cases vs with
    | nil => exact hvs.elim
    | cons v vs =>
      rcases h _ _ _ hvs.1 with h | h
      · exact hc.2 w M (v :: vs) hm ⟨h, hvs.2⟩
      · exact hc2.2 w M (v :: vs) hm ⟨h, hvs.2⟩⟩
/-- one's own map is written no more -/
theorem WP.freezeM {α : Type} (i t : Nat) {g : Nat} {kv : List (ByteArray × List Rp)} (f : α → List Rp) (m : List (ByteArray × α)) (hi : bs[i]? = some (.m g kv)) (hkv : kv = mapK f m) (ht : look st t = some (val (.map (some g))))
    (h : WP P w0 M0 n (bs.set i (.r nilS 0 0 0 [])) ((t, mp f m) :: st) c Q) : WP P w0 M0 n bs st c Q := fun a w hok => by
  subst hkv
  have h1 : Ok w0 M0 n (bs.set i (.r nilS 0 0 0 [])) st a w := hok.change hi (fun _ _ _ => rfl) (Nat.le_refl _) rfl rfl rfl (fun g hg => by cases hg) (fun g hg => by cases hg) fun M _ => ⟨[], ⟨by simp, .inl ⟨rfl, rfl⟩⟩, trivial⟩
  have hle : ∀ b, mkM M0 (bs.set i (.r nilS 0 0 0 [])) b → mkM M0 bs b := fun b hb => hb.imp id fun hb => by
    rcases mem_blks_set hb with h2 | ⟨j, z, _, h2, h3⟩
    · cases h2
    · exact mem_blks (List.mem_of_getElem? h2) h3
  obtain ⟨es, clock, h4, h6, h5⟩ := hok.boxes _ (List.mem_of_getElem? hi)
  have hgm : ¬ mkM M0 (bs.set i (.r nilS 0 0 0 [])) g := fun hb => by
    rcases hb with hb | hb
    · exact hok.m0 g (mem_blks (List.mem_of_getElem? hi) rfl) hb
    · rcases mem_blks_set hb with h2 | ⟨j, z, hne, h2, h3⟩
      · cases h2
      · exact hne (blks_uniq hok.nodup hi h2 rfl h3).symm
  refine h a w ⟨h1.defers, h1.size, fun t' R ht' => ?_, h1.boxes, h1.nodup, h1.fresh, h1.below, h1.msk, h1.m0⟩
  simp only [look] at ht'
  split at ht'
  · rename_i e'; subst e'; cases ht'
    exact .inr ⟨g, hok.facts _ _ ht, (Array.getElem?_eq_some_iff.1 h4).1, hgm, es, clock, h4, h6, h5.keep (Kp.less w hle)⟩
  · exact h1.facts t' R ht'
end
end Go.Fw

/- Strings. No program in sight. -/
namespace Go.Fw
open Go.RowKit Go.Proofs
set_option linter.unusedVariables false
set_option linter.unusedSimpArgs false
section
variable {P : Program} {bs : List Box} {lk : Nat → Option Rp} {ty T T' : TypeId} {x y : Operand} {s a b : ByteArray}
def FU (b : UInt8) : List Rp := [val (.int .u8 (b.toNat : Int))]
/-- a string's byte -/
def chr (s : ByteArray) (i : Nat) : UInt8 := s.data.toList.getD i default
theorem lens (hT : P.underlying T = some .string) (hx : OF lk x (val (.string s))) : OpG P bs lk (.call ⟨.builtin .len, #[x], #[T]⟩) ty (val (.int .i64 s.size)) := opr fun σ w M hf => by
  have h1 : ev σ x = _ := hx σ w M (hf x (by simp [Op.operands, Call.operands]))
  simp [execOp, resolve, invoke, builtin, Builtin.len_, h1, run_underlying hT, goInt]
theorem ixs {kd : IntKind} {i : Int} (hT : P.underlying T = some .string) (hx : OF lk x (val (.string s))) (hy : OF lk y (val (.int kd i))) (h0 : 0 ≤ i) (h1 : i < s.size) : OpG P bs lk (.index T x y) ty (val (.int .u8 ((chr s i.toNat).toNat : Int))) := opr fun σ w M hf => by
  have e1 : ev σ x = _ := hx σ w M (hf x (by simp [Op.operands]))
  have e2 : ev σ y = _ := hy σ w M (hf y (by simp [Op.operands]))
  have hlt : i.toNat < s.size := by omega
  have hg : s[i.toNat]? = some (chr s i.toNat) := by
    have hlt' : i.toNat < s.data.toList.length := by rw [Array.length_toList]; exact hlt
    unfold chr
    rw [getElem?_pos s i.toNat hlt, List.getD_eq_getElem?_getD, List.getElem?_eq_getElem hlt']
    rfl
  simp [execOp, Instr.index, e1, e2, run_underlying hT, asIntOf, h0, hg]
theorem toList_inj {a b : ByteArray} : (a.toList == b.toList) = decide (a = b) := by
  have := MapKept.bytes_beq a b
  rw [Bool.eq_iff_iff, decide_eq_true_eq, ← this, beq_toListBytes]
theorem sne (hx : OF lk x (val (.string a))) (hy : OF lk y (val (.string b))) : OpG P bs lk (.binOp .neq T x y T') ty (val (.bool (!decide (a = b)))) := opr fun σ w M hf => by
  have h1 : ev σ x = _ := hx σ w M (hf x (by simp [Op.operands, Call.operands])); have h2 : ev σ y = _ := hy σ w M (hf y (by simp [Op.operands, Call.operands]))
  simp [execOp, h1, h2, eqGuard, binOp_string_neq, toList_inj]
theorem seq_ (hx : OF lk x (val (.string a))) (hy : OF lk y (val (.string b))) : OpG P bs lk (.binOp .eql T x y T') ty (val (.bool (decide (a = b)))) := opr fun σ w M hf => by
  have h1 : ev σ x = _ := hx σ w M (hf x (by simp [Op.operands, Call.operands])); have h2 : ev σ y = _ := hy σ w M (hf y (by simp [Op.operands, Call.operands]))
  simp [execOp, h1, h2, eqGuard, binOp_string_eql, toList_inj]
/-- []byte(s), read alone -/
theorem cvsb {e : TypeId} (hT : P.underlying T = some .string) (hD : P.underlying T' = some (.slice e)) (he : P.underlying e = some (.int .u8)) (hx : OF lk x (val (.string s))) : OpG P bs lk (.convert T T' x) ty (sl 1 FU s.data.toList) := fun σ w M hm hf _ => by
  have h1 : ev σ x = _ := hx σ w M (hf x (by simp [Op.operands, Call.operands]))
  have hr := run_bytes_of_string (P := P) w T T' e s hT hD he
  have hrun : (execOp (ev σ) ⟨none, .convert T T' x, ty, "", #[], none⟩).run P w = .ok (.value (.slice (some ⟨w.heap.size, 0, none⟩) s.size (grownCap w s.size 0 e)))
      (w.drew.alloc (.cells (bytesRow s (grownCap w s.size 0 e)) e ((bytesRow s (grownCap w s.size 0 e)).size, (bytesRow s (grownCap w s.size 0 e)).size + 1))) := by
    simp [execOp, h1, hr]
  rw [hrun]
  have hds : w.drew.heap.size = w.heap.size := rfl
  refine ⟨⟨some ⟨w.heap.size, 0, none⟩, grownCap w s.size 0 e, by rw [Array.length_toList]; rfl, ?_, .inr ⟨w.heap.size, 0, rfl, ?_, fun h => ?_, fun i u hu => ?_⟩⟩, (Below.refl _ w).drew.alloc (Nat.le_refl _) _⟩
  · rw [Array.length_toList]
    exact grownCap_ge w s.size 0 e
  · simp
  · have := hm _ h; omega
  · rw [Nat.zero_add, Nat.mul_one]
    obtain ⟨hlt, hu⟩ := List.getElem?_eq_some_iff.1 hu
    rw [Array.length_toList] at hlt
    have hc := World.cell?_alloc_mark w.drew (bytesRow s (grownCap w s.size 0 e)) e ((bytesRow s (grownCap w s.size 0 e)).size, (bytesRow s (grownCap w s.size 0 e)).size + 1) i
    rw [hds, bytesRow_at s _ i hlt] at hc
    refine ⟨⟨_, hc, rfl, ?_⟩, trivial⟩
    rw [Array.getElem_toList] at hu
    rw [hu]; rfl
end
end Go.Fw

/- Extent lists and trees, plainly: no Go in sight. -/
namespace Go.Xt
/-- An extent: block, length, slot. -/
structure X where
  a : Int
  n : Int
  s : Int
deriving DecidableEq

inductive Tr where
  | nil
  | node (l : Tr) (x : X) (r : Tr)

namespace Tr
def depth : Tr → Int
  | nil => 0
  | node l _ r => 1 + max l.depth r.depth
def count : Tr → Int
  | nil => 0
  | node l _ r => 1 + l.count + r.count
def blocks : Tr → Int
  | nil => 0
  | node l x r => x.n + l.blocks + r.blocks
def list : Tr → List X
  | nil => []
  | node l x r => l.list ++ x :: r.list
def size : Tr → Nat
  | nil => 0
  | node l _ r => l.size + r.size + 1
/-- depths differ by at most one, everywhere -/
def Bal : Tr → Prop
  | nil => True
  | node l _ r => l.Bal ∧ r.Bal ∧ l.depth ≤ r.depth + 1 ∧ r.depth ≤ l.depth + 1
end Tr
open Tr

theorem depth_nn : ∀ t : Tr, 0 ≤ t.depth
  | nil => by simp [depth]
  | node l _ r => by have := depth_nn l; have := depth_nn r; simp only [depth]; omega
theorem depth_pos_iff : ∀ t : Tr, 0 < t.depth → ∃ l x r, t = node l x r
  | nil => by simp [depth]
  | node l x r => fun _ => ⟨l, x, r, rfl⟩

def bal (l : Tr) (x : X) (r : Tr) : Tr :=
  if r.depth + 1 < l.depth then
    match l with
    | node ll lx lr =>
      if lr.depth ≤ ll.depth then node ll lx (node lr x r)
      else match lr with
        | node ml mx mr => node (node ll lx ml) mx (node mr x r)
        | nil => nil
    | nil => nil
  else if l.depth + 1 < r.depth then
    match r with
    | node rl rx rr =>
      if rl.depth ≤ rr.depth then node (node l x rl) rx rr
      else match rl with
        | node ml mx mr => node (node l x ml) mx (node mr rx rr)
        | nil => nil
    | nil => nil
  else node l x r

theorem bal_left {l r : Tr} {x : X} (hl : l.Bal) (hr : r.Bal) (h1 : l.depth ≤ r.depth + 2) (h2 : r.depth ≤ l.depth + 2) :
    (bal l x r).list = l.list ++ x :: r.list ∧ (bal l x r).Bal ∧
      (bal l x r).depth ≤ 1 + max l.depth r.depth ∧ max l.depth r.depth ≤ (bal l x r).depth ∧
      (l.depth ≤ r.depth + 1 → r.depth ≤ l.depth + 1 → (bal l x r).depth = 1 + max l.depth r.depth) := by
  unfold bal
  split
  · rename_i h
    cases l with
    | nil => simp [depth] at h; have := depth_nn r; omega
    | node ll lx lr =>
      obtain ⟨b1, b2, b3, b4⟩ := hl
      simp only [depth] at *
      split
      · refine ⟨by simp [list], ⟨b1, ⟨b2, hr, by omega, by omega⟩, by (try simp only [depth]); omega, by (try simp only [depth]); omega⟩, by (try simp only [depth]); omega, by (try simp only [depth]); omega, by omega⟩
      · cases lr with
        | nil => simp [depth] at *; have := depth_nn ll; omega
        | node ml mx mr =>
          obtain ⟨c1, c2, c3, c4⟩ := b2
          simp only [depth] at *
          refine ⟨by simp [list], ⟨⟨b1, c1, by omega, by omega⟩, ⟨c2, hr, by omega, by omega⟩, by (try simp only [depth]); omega, by (try simp only [depth]); omega⟩, by (try simp only [depth]); omega, by (try simp only [depth]); omega, by omega⟩
  · split
    · rename_i h0 h
      cases r with
      | nil => simp [depth] at h; have := depth_nn l; omega
      | node rl rx rr =>
        obtain ⟨b1, b2, b3, b4⟩ := hr
        simp only [depth] at *
        split
        · refine ⟨by simp [list], ⟨⟨hl, b1, by omega, by omega⟩, b2, by (try simp only [depth]); omega, by (try simp only [depth]); omega⟩, by (try simp only [depth]); omega, by (try simp only [depth]); omega, by omega⟩
        · cases rl with
          | nil => simp [depth] at *; have := depth_nn rr; omega
          | node ml mx mr =>
            obtain ⟨c1, c2, c3, c4⟩ := b1
            simp only [depth] at *
            refine ⟨by simp [list], ⟨⟨hl, c1, by omega, by omega⟩, ⟨c2, b2, by omega, by omega⟩, by (try simp only [depth]); omega, by (try simp only [depth]); omega⟩, by (try simp only [depth]); omega, by (try simp only [depth]); omega, by omega⟩
    · refine ⟨by simp [list], ⟨hl, hr, by omega, by omega⟩, by simp only [depth]; omega, by simp only [depth]; omega, by intros; simp only [depth]⟩

def join (l : Tr) (x : X) (r : Tr) : Tr :=
  if r.depth + 1 < l.depth then
    match l with
    | node ll lx lr => bal ll lx (join lr x r)
    | nil => nil
  else if l.depth + 1 < r.depth then
    match r with
    | node rl rx rr => bal (join l x rl) rx rr
    | nil => nil
  else node l x r
termination_by l.size + r.size
decreasing_by all_goals simp only [Tr.size]; omega

theorem join_spec (k : Nat) : ∀ (l r : Tr) (x : X), l.size + r.size ≤ k → l.Bal → r.Bal →
    (join l x r).list = l.list ++ x :: r.list ∧ (join l x r).Bal ∧
      (join l x r).depth ≤ 1 + max l.depth r.depth ∧ max l.depth r.depth ≤ (join l x r).depth := by
  induction k with
  | zero =>
    intro l r x hk hl hr
    cases l with
    | nil => cases r with
      | nil => unfold join; simp [depth, list, Bal]
      | node => simp [Tr.size] at hk
    | node => simp [Tr.size] at hk
  | succ k ih =>
    intro l r x hk hl hr
    unfold join
    split
    · rename_i h
      cases l with
      | nil => simp [depth] at h; have := depth_nn r; omega
      | node ll lx lr =>
        obtain ⟨b1, b2, b3, b4⟩ := hl
        simp only [Tr.size] at hk
        obtain ⟨i1, i2, i3, i4⟩ := ih lr r x (by omega) b2 hr
        simp only [depth] at *
        obtain ⟨j1, j2, j3, j4, j5⟩ := bal_left (x := lx) b1 i2 (by omega) (by omega)
        refine ⟨by rw [j1, i1]; simp [list], j2, ?_, ?_⟩
        · skip
          by_cases hc : (join lr x r).depth ≤ ll.depth + 1
          · have := j5 (by omega) (by omega); omega
          · omega
        · skip
          by_cases hc : (join lr x r).depth ≤ ll.depth + 1
          · have := j5 (by omega) (by omega); omega
          · omega
    · split
      · rename_i h0 h
        cases r with
        | nil => simp [depth] at h; have := depth_nn l; omega
        | node rl rx rr =>
          obtain ⟨b1, b2, b3, b4⟩ := hr
          simp only [Tr.size] at hk
          obtain ⟨i1, i2, i3, i4⟩ := ih l rl x (by omega) hl b1
          simp only [depth] at *
          obtain ⟨j1, j2, j3, j4, j5⟩ := bal_left (x := rx) i2 b2 (by omega) (by omega)
          refine ⟨by rw [j1, i1]; simp [list], j2, ?_, ?_⟩
          · skip
            by_cases hc : (join l x rl).depth ≤ rr.depth + 1
            · have := j5 (by omega) (by omega); omega
            · omega
          · skip
            by_cases hc : (join l x rl).depth ≤ rr.depth + 1
            · have := j5 (by omega) (by omega); omega
            · omega
      · refine ⟨by simp [list], ⟨hl, hr, by omega, by omega⟩, by (try simp only [depth]); omega, by (try simp only [depth]); omega⟩

theorem bal_nil : Tr.nil.Bal := trivial
theorem join_list {l r : Tr} {x : X} (hl : l.Bal) (hr : r.Bal) : (join l x r).list = l.list ++ x :: r.list := (join_spec _ l r x (Nat.le_refl _) hl hr).1
theorem join_bal {l r : Tr} {x : X} (hl : l.Bal) (hr : r.Bal) : (join l x r).Bal := (join_spec _ l r x (Nat.le_refl _) hl hr).2.1

def first : Tr → X → Tr → X × Tr
  | .nil, x, r => (x, r)
  | .node ll lx lr, x, r => ((first ll lx lr).1, join (first ll lx lr).2 x r)
def last : Tr → X → Tr → X × Tr
  | l, x, .nil => (x, l)
  | l, x, .node rl rx rr => ((last rl rx rr).1, join l x (last rl rx rr).2)
theorem first_spec : ∀ (l : Tr) (x : X) (r : Tr), (Tr.node l x r).Bal → (first l x r).1 :: (first l x r).2.list = (Tr.node l x r).list ∧ (first l x r).2.Bal
  | .nil, x, r => fun h => ⟨by simp [first, list], h.2.1⟩
  | .node ll lx lr, x, r => fun h => by
    obtain ⟨i1, i2⟩ := first_spec ll lx lr h.1
    refine ⟨?_, join_bal i2 h.2.1⟩
    simp only [first]
    rw [join_list i2 h.2.1, list, ← i1]; rfl
theorem last_spec : ∀ (r : Tr) (l : Tr) (x : X), (Tr.node l x r).Bal → (last l x r).2.list ++ [(last l x r).1] = (Tr.node l x r).list ∧ (last l x r).2.Bal
  | .nil, l, x => fun h => ⟨by simp [last, list], h.1⟩
  | .node rl rx rr, l, x => fun h => by
    obtain ⟨i1, i2⟩ := last_spec rr rl rx h.2.1
    refine ⟨?_, join_bal h.1 i2⟩
    simp only [last]
    rw [join_list h.1 i2, list, ← i1]; simp

def concat (l r : Tr) : Tr := match r with
  | .nil => l
  | .node rl rx rr => join l (first rl rx rr).1 (first rl rx rr).2
theorem concat_spec {l r : Tr} (hl : l.Bal) (hr : r.Bal) : (concat l r).list = l.list ++ r.list ∧ (concat l r).Bal := by
  cases r with
  | nil => simp [concat, list, hl]
  | node rl rx rr =>
    obtain ⟨i1, i2⟩ := first_spec rl rx rr hr
    exact ⟨by simp only [concat]; rw [join_list hl i2, i1], join_bal hl i2⟩

def X.head (x : X) (k : Int) : X := ⟨x.a, k, x.s⟩
def X.tail (x : X) (at_ k : Int) : X := ⟨at_, x.n - k, x.s + k⟩

def split : Tr → Int → Tr × Tr
  | .nil, _ => (.nil, .nil)
  | .node l x r, at_ =>
    if at_ ≤ x.a then ((split l at_).1, join (split l at_).2 x r)
    else if x.a + x.n ≤ at_ then (join l x (split r at_).1, (split r at_).2)
    else (join l (x.head (at_ - x.a)) .nil, join .nil (x.tail at_ (at_ - x.a)) r)

/-- the part of an extent between two blocks -/
def part (x : X) (f t : Int) : Option X :=
  if max x.a f < min (x.a + x.n) t then some ⟨max x.a f, min (x.a + x.n) t - max x.a f, x.s + max x.a f - x.a⟩ else none
def parts (L : List X) (f t : Int) : List X := L.filterMap fun x => part x f t

/-- sorted and of positive lengths, from a block on, within the bounds -/
def Ok : Int → List X → Prop
  | _, [] => True
  | lo, x :: L => lo ≤ x.a ∧ 1 ≤ x.n ∧ 0 ≤ x.s ∧ x.a + x.n ≤ 65536 ∧ x.s + x.n ≤ 65536 ∧ Ok (x.a + x.n) L
theorem Ok.lower {L : List X} {lo lo' : Int} (h : Ok lo L) (hl : lo' ≤ lo) : Ok lo' L := by
  cases L with
  | nil => trivial
  | cons x L => obtain ⟨h1, h2⟩ := h; exact ⟨by omega, h2⟩
theorem Ok.append_right : ∀ {A B : List X} {lo : Int}, Ok lo (A ++ B) → Ok lo B
  | [], _, _, h => h
  | x :: A, _, _, h => by
    obtain ⟨h1, h2, _, _, _, h3⟩ := h
    exact (Ok.append_right h3).lower (by omega)
theorem Ok.append_left : ∀ {A B : List X} {lo : Int}, Ok lo (A ++ B) → Ok lo A
  | [], _, _, _ => trivial
  | x :: A, _, _, h => by
    obtain ⟨h1, h2, h3, h4, h5, h6⟩ := h
    exact ⟨h1, h2, h3, h4, h5, Ok.append_left h6⟩
theorem Ok.ends : ∀ {A : List X} {y : X} {B : List X} {lo : Int}, Ok lo (A ++ y :: B) → ∀ x ∈ A, x.a + x.n ≤ y.a
  | x :: A, y, B, lo, h, z, hz => by
    obtain ⟨h1, h2, h3, h4, h5, h6⟩ := h
    rcases List.mem_cons.1 hz with rfl | hz
    · exact (Ok.append_right h6).1
    · exact Ok.ends h6 z hz
theorem Ok.starts : ∀ {B : List X} {lo : Int}, Ok lo B → ∀ x ∈ B, lo ≤ x.a ∧ 1 ≤ x.n ∧ 0 ≤ x.s ∧ x.a + x.n ≤ 65536 ∧ x.s + x.n ≤ 65536
  | x :: B, lo, h, z, hz => by
    obtain ⟨h1, h2, h3, h4, h5, h6⟩ := h
    rcases List.mem_cons.1 hz with rfl | hz
    · exact ⟨h1, h2, h3, h4, h5⟩
    · have := Ok.starts h6 z hz; exact ⟨by omega, this.2⟩

theorem parts_nil {L : List X} {f t : Int} (h : ∀ x ∈ L, x.a + x.n ≤ f ∨ t ≤ x.a) : parts L f t = [] := by
  unfold parts
  rw [List.filterMap_eq_nil_iff]
  intro x hx
  unfold part
  rw [if_neg (by have := h x hx; omega)]
theorem parts_all {L : List X} {f t : Int} (h : ∀ x ∈ L, f ≤ x.a ∧ x.a + x.n ≤ t ∧ 1 ≤ x.n) : parts L f t = L := by
  induction L with
  | nil => rfl
  | cons x L ih =>
    have hx := h x (by simp)
    have e : part x f t = some x := by
      unfold part
      rw [if_pos (by omega), show max x.a f = x.a from by omega, show min (x.a + x.n) t = x.a + x.n from by omega, show x.a + x.n - x.a = x.n from by omega, show x.s + x.a - x.a = x.s from by omega]
    unfold parts at *
    rw [List.filterMap_cons_some (f := fun x => part x f t) e, ih fun y hy => h y (List.mem_cons_of_mem _ hy)]
theorem parts_append (A B : List X) (f t : Int) : parts (A ++ B) f t = parts A f t ++ parts B f t := List.filterMap_append
theorem parts_cons (x : X) (B : List X) (f t : Int) : parts (x :: B) f t = parts [x] f t ++ parts B f t := parts_append [x] B f t

theorem parts_mid (A : List X) (x : X) (B : List X) (f t : Int) : parts (A ++ x :: B) f t = parts A f t ++ (parts [x] f t ++ parts B f t) := by
  rw [parts_append, ← parts_cons]

theorem split_spec : ∀ (t : Tr) (at_ : Int), t.Bal → Ok 0 t.list →
    (split t at_).1.list = parts t.list 0 at_ ∧ (split t at_).2.list = parts t.list at_ 65536 ∧ (split t at_).1.Bal ∧ (split t at_).2.Bal
  | .nil, at_ => fun _ _ => by simp [split, list, parts, Bal]
  | .node l x r, at_ => fun hb ho => by
    obtain ⟨b1, b2, b3, b4⟩ := hb
    simp only [list] at ho ⊢
    have oL := ho.append_left
    have oX := ho.append_right
    have oR : Ok (x.a + x.n) r.list := oX.2.2.2.2.2
    have eL := ho.ends
    have sL := oL.starts
    have sR := oR.starts
    obtain ⟨x1, x2, x3, x4, x5, _⟩ := oX
    unfold split
    rw [parts_mid, parts_mid]
    split
    · rename_i h
      obtain ⟨i1, i2, i3, i4⟩ := split_spec l at_ b1 oL
      refine ⟨?_, ?_, i3, join_bal i4 b2⟩
      · rw [parts_nil (L := [x]) (by simp; omega), parts_nil (L := r.list) (fun y hy => by have := sR y hy; omega)]
        simpa using i1
      · rw [join_list i4 b2, i2, parts_all (L := [x]) (by simp; omega), parts_all (L := r.list) (fun y hy => by have := sR y hy; omega)]
        simp
    · split
      · obtain ⟨i1, i2, i3, i4⟩ := split_spec r at_ b2 (oR.lower (by omega))
        refine ⟨?_, ?_, join_bal b1 i3, i4⟩
        · rw [join_list b1 i3, i1, parts_all (L := l.list) (fun y hy => by have := eL y hy; have := sL y hy; omega), parts_all (L := [x]) (by simp; omega)]
          simp
        · rw [parts_nil (L := l.list) (fun y hy => by have := eL y hy; omega), parts_nil (L := [x]) (by simp; omega)]
          simpa using i2
      · rename_i h1 h2
        refine ⟨?_, ?_, join_bal b1 bal_nil, join_bal bal_nil b2⟩
        · rw [join_list b1 bal_nil, parts_all (L := l.list) (fun y hy => by have := eL y hy; have := sL y hy; omega), parts_nil (L := r.list) (fun y hy => by have := sR y hy; omega)]
          simp only [parts, part, list, List.filterMap_cons, List.filterMap_nil, X.head]
          rw [if_pos (by omega), show max x.a 0 = x.a from by omega, show min (x.a + x.n) at_ = at_ from by omega, show x.s + x.a - x.a = x.s from by omega]
          simp
        · rw [join_list bal_nil b2, parts_nil (L := l.list) (fun y hy => by have := eL y hy; omega), parts_all (L := r.list) (fun y hy => by have := sR y hy; omega)]
          simp only [parts, part, list, List.filterMap_cons, List.filterMap_nil, X.tail]
          rw [if_pos (by omega), show max x.a at_ = at_ from by omega, show min (x.a + x.n) 65536 = x.a + x.n from by omega,
            show x.s + at_ - x.a = x.s + (at_ - x.a) from by omega, show x.a + x.n - at_ = x.n - (at_ - x.a) from by omega]
          simp

/-- the slot of a block -/
def sem : List X → Int → Option Int
  | [], _ => none
  | x :: L, b => if x.a ≤ b ∧ b < x.a + x.n then some (x.s + b - x.a) else sem L b
/-- whether two extents could be one -/
def Fol (x y : X) : Prop := x.a + x.n = y.a ∧ x.s + x.n = y.s
instance (x y : X) : Decidable (Fol x y) := by unfold Fol; infer_instance
def Nf : List X → Prop
  | [] => True
  | [_] => True
  | x :: y :: L => ¬ Fol x y ∧ Nf (y :: L)
theorem Nf.tail {x : X} {L : List X} (h : Nf (x :: L)) : Nf L := by
  cases L with
  | nil => trivial
  | cons y L => exact h.2

theorem sem_lt : ∀ {L : List X} {lo b : Int}, Ok lo L → b < lo → sem L b = none
  | [], _, _, _, _ => rfl
  | x :: L, lo, b, h, hb => by
    obtain ⟨h1, h2, h3, h4, h5, h6⟩ := h
    simp only [sem]
    rw [if_neg (by omega), sem_lt h6 (by omega)]
theorem sem_ge {L : List X} {lo b : Int} (h : Ok lo L) (hb : 65536 ≤ b) : sem L b = none := by
  induction L generalizing lo with
  | nil => rfl
  | cons x L ih =>
    obtain ⟨h1, h2, h3, h4, h5, h6⟩ := h
    simp only [sem]
    rw [if_neg (by omega), ih h6]
theorem sem_append (A B : List X) (b : Int) : sem (A ++ B) b = (sem A b).or (sem B b) := by
  induction A with
  | nil => rfl
  | cons x A ih =>
    simp only [List.cons_append, sem]
    split
    · rfl
    · exact ih

/-- a valid list in normal form is told by what it maps -/
theorem nf_unique : ∀ (L M : List X) (lo lo' : Int), Ok lo L → Ok lo' M → Nf L → Nf M → (∀ b, sem L b = sem M b) → L = M
  | [], [], _, _, _, _, _, _, _ => rfl
  | [], y :: M, _, _, _, hM, _, _, h => by
    obtain ⟨h1, h2, _⟩ := hM
    have := h y.a
    simp only [sem] at this
    rw [if_pos (by omega)] at this; cases this
  | x :: L, [], _, _, hL, _, _, _, h => by
    obtain ⟨h1, h2, _⟩ := hL
    have := h x.a
    simp only [sem] at this
    rw [if_pos (by omega)] at this; cases this
  | x :: L, y :: M, lo, lo', hL, hM, nL, nM, h => by
    obtain ⟨h1, h2, h3, h4, h5, h6⟩ := hL
    obtain ⟨g1, g2, g3, g4, g5, g6⟩ := hM
    have ea : x.a = y.a := by
      rcases Int.lt_trichotomy x.a y.a with k | k | k
      · have := h x.a
        simp only [sem] at this
        rw [if_pos (by omega), if_neg (by omega), sem_lt g6 (by omega)] at this; cases this
      · exact k
      · have := h y.a
        simp only [sem] at this
        rw [if_neg (by omega), if_pos (by omega), sem_lt h6 (by omega)] at this; cases this
    have es : x.s = y.s := by
      have := h x.a
      simp only [sem] at this
      rw [if_pos (by omega), if_pos (by omega)] at this
      simp only [Option.some.injEq] at this; omega
    have en : x.n = y.n := by
      rcases Int.lt_trichotomy x.n y.n with k | k | k
      · exfalso
        have := h (x.a + x.n)
        simp only [sem] at this
        rw [if_neg (by omega), if_pos (by omega)] at this
        cases L with
        | nil => cases this
        | cons z L =>
          obtain ⟨k1, k2, k3, k4, k5, k6⟩ := h6
          simp only [sem] at this
          by_cases hz : z.a = x.a + x.n
          · rw [if_pos (by omega)] at this
            simp only [Option.some.injEq] at this
            exact nL.1 ⟨by omega, by omega⟩
          · rw [if_neg (by omega), sem_lt k6 (by omega)] at this; cases this
      · exact k
      · exfalso
        have := h (y.a + y.n)
        simp only [sem] at this
        rw [if_neg (c := y.a ≤ y.a + y.n ∧ y.a + y.n < y.a + y.n) (by omega), if_pos (by omega)] at this
        cases M with
        | nil => cases this
        | cons z M =>
          obtain ⟨k1, k2, k3, k4, k5, k6⟩ := g6
          simp only [sem] at this
          by_cases hz : z.a = y.a + y.n
          · rw [if_pos (by omega)] at this
            simp only [Option.some.injEq] at this
            exact nM.1 ⟨by omega, by omega⟩
          · rw [if_neg (by omega), sem_lt k6 (by omega)] at this; cases this
    have exy : x = y := by cases x; cases y; simp only [X.mk.injEq] at *; omega
    subst exy
    rw [nf_unique L M (x.a + x.n) (x.a + x.n) h6 g6 nL.tail nM.tail fun b => by
      by_cases hb : b < x.a + x.n
      · rw [sem_lt h6 hb, sem_lt g6 hb]
      · have := h b
        simp only [sem] at this
        rwa [if_neg (by omega), if_neg (by omega)] at this]

theorem sem_part (x : X) (f t b : Int) : sem (part x f t).toList b = if f ≤ b ∧ b < t then sem [x] b else none := by
  unfold part
  split
  · simp only [Option.toList, sem]
    by_cases h1 : f ≤ b ∧ b < t
    · rw [if_pos h1]
      by_cases h2 : x.a ≤ b ∧ b < x.a + x.n
      · rw [if_pos h2, if_pos (by omega), Option.some.injEq]; omega
      · rw [if_neg h2, if_neg (by omega)]
    · rw [if_neg h1, if_neg (by omega)]
  · simp only [Option.toList, sem]
    split
    · rw [if_neg (by omega)]
    · rfl
theorem parts_one (x : X) (f t : Int) : parts [x] f t = (part x f t).toList := by
  unfold parts; cases h : part x f t <;> simp [h]
theorem sem_parts (L : List X) (f t b : Int) : sem (parts L f t) b = if f ≤ b ∧ b < t then sem L b else none := by
  induction L with
  | nil => simp [parts, sem]
  | cons x L ih =>
    rw [parts_cons, sem_append, parts_one, sem_part, ih, show x :: L = [x] ++ L from rfl, sem_append]
    split <;> rfl
theorem ok_parts {f t : Int} : ∀ {L : List X} {lo lo' : Int}, Ok lo L → lo' ≤ max lo f → Ok lo' (parts L f t)
  | [], _, _, _, _ => trivial
  | x :: L, lo, lo', h, hl => by
    obtain ⟨h1, h2, h3, h4, h5, h6⟩ := h
    rw [parts_cons, parts_one]
    unfold part
    split
    · refine ⟨by simp only []; omega, by simp only []; omega, by simp only []; omega, by simp only []; omega, by simp only []; omega, ?_⟩
      exact ok_parts h6 (by simp only []; omega)
    · exact ok_parts h6 (by omega)
theorem parts_end {f t : Int} {L : List X} : ∀ x ∈ parts L f t, x.a + x.n ≤ t ∧ f ≤ x.a := by
  intro x hx
  unfold parts at hx
  obtain ⟨y, _, hy⟩ := List.mem_filterMap.1 hx
  unfold part at hy
  split at hy
  · simp only [Option.some.injEq] at hy; subst hy; simp only []; omega
  · cases hy
theorem nf_parts {f t : Int} : ∀ {L : List X} {lo : Int}, Ok lo L → Nf L → Nf (parts L f t)
  | [], _, _, _ => trivial
  | [x], _, _, _ => by
    rw [parts_one]; cases part x f t <;> trivial
  | x :: y :: L, lo, h, n => by
    obtain ⟨h1, h2, h3, h4, h5, h6⟩ := h
    have ih := nf_parts (f := f) (t := t) h6 n.2
    rw [parts_cons, parts_one]
    obtain ⟨g1, g2, g3, g4, g5, g6⟩ := h6
    cases hx : part x f t with
    | none => exact ih
    | some x' =>
      rw [parts_cons, parts_one] at ih ⊢
      cases hy : part y f t with
      | none =>
        have : parts L f t = [] := by
          refine parts_nil fun z hz => ?_
          unfold part at hx hy
          have := g6.starts z hz
          split at hy
          · cases hy
          · split at hx
            · omega
            · cases hx
        rw [this]; trivial
      | some y' =>
        rw [hy] at ih
        refine ⟨?_, ih⟩
        unfold part at hx hy
        split at hx
        · split at hy
          · simp only [Option.some.injEq] at hx hy
            subst hx; subst hy
            intro hf
            unfold Fol at hf
            simp only [] at hf
            exact n.1 ⟨by omega, by omega⟩
          · cases hy
        · cases hx

/-- the normal form: one pass from the left -/
def push (L : List X) (x : X) : List X := match L.getLast? with
  | some y => if Fol y x then L.dropLast ++ [⟨y.a, y.n + x.n, y.s⟩] else L ++ [x]
  | none => [x]
def Jn (L : List X) : List X := L.foldl push []

/-! ### bounds -/
def sumN : List X → Int
  | [] => 0
  | x :: L => x.n + sumN L
theorem sumN_append (A B : List X) : sumN (A ++ B) = sumN A + sumN B := by
  induction A with
  | nil => simp [sumN]
  | cons x A ih => simp only [List.cons_append, sumN, ih]; omega
theorem count_eq : ∀ t : Tr, t.count = t.list.length
  | .nil => rfl
  | .node l x r => by simp only [Tr.count, Tr.list, count_eq l, count_eq r, List.length_append, List.length_cons]; omega
theorem blocks_eq : ∀ t : Tr, t.blocks = sumN t.list
  | .nil => rfl
  | .node l x r => by simp only [Tr.blocks, Tr.list, blocks_eq l, blocks_eq r, sumN_append, sumN]; omega
theorem depth_le : ∀ t : Tr, t.depth ≤ t.count
  | .nil => by simp [Tr.depth, Tr.count]
  | .node l x r => by
    have := depth_le l; have := depth_le r; have := count_eq l; have := count_eq r
    simp only [Tr.depth, Tr.count]; omega
/-- few and small -/
def Bd (L : List X) : Prop := (∀ x ∈ L, 0 ≤ x.n ∧ x.n ≤ 65536) ∧ L.length ≤ 70000 ∧ sumN L ≤ 70000
theorem sumN_nn : ∀ {L : List X}, (∀ x ∈ L, 0 ≤ x.n ∧ x.n ≤ 65536) → 0 ≤ sumN L
  | [], _ => by simp [sumN]
  | x :: L, h => by have := h x (by simp); have := sumN_nn (L := L) fun y hy => h y (List.mem_cons_of_mem _ hy); simp only [sumN]; omega
theorem Bd.left {A B : List X} (h : Bd (A ++ B)) : Bd A := by
  obtain ⟨h1, h2, h3⟩ := h
  have := sumN_nn (L := B) fun x hx => h1 x (List.mem_append_right _ hx)
  rw [sumN_append] at h3
  rw [List.length_append] at h2
  exact ⟨fun x hx => h1 x (List.mem_append_left _ hx), by omega, by omega⟩
theorem Bd.right {A B : List X} (h : Bd (A ++ B)) : Bd B := by
  obtain ⟨h1, h2, h3⟩ := h
  have := sumN_nn (L := A) fun x hx => h1 x (List.mem_append_left _ hx)
  rw [sumN_append] at h3
  rw [List.length_append] at h2
  exact ⟨fun x hx => h1 x (List.mem_append_right _ hx), by omega, by omega⟩
theorem Bd.tail {x : X} {B : List X} (h : Bd (x :: B)) : Bd B := Bd.right (A := [x]) h
theorem Bd.head {x : X} {B : List X} (h : Bd (x :: B)) : 0 ≤ x.n ∧ x.n ≤ 65536 := h.1 x (by simp)
theorem Bd.tr {t : Tr} (h : Bd t.list) : 0 ≤ t.depth ∧ t.depth ≤ 70000 ∧ 0 ≤ t.count ∧ t.count ≤ 70000 ∧ 0 ≤ t.blocks ∧ t.blocks ≤ 70000 := by
  have h1 := count_eq t; have h2 := blocks_eq t; have h3 := depth_le t; have h4 := depth_nn t; have h5 := sumN_nn h.1; have h6 := h.2.1; have h7 := h.2.2
  omega
theorem Ok.sum : ∀ {L : List X} {lo : Int}, 0 ≤ lo → Ok lo L → (L.length : Int) ≤ sumN L ∧ (L ≠ [] → lo + sumN L ≤ 65536) ∧ 0 ≤ sumN L
  | [], _, _, _ => by simp [sumN]
  | x :: L, lo, h0, h => by
    obtain ⟨h1, h2, h3, h4, h5, h6⟩ := h
    obtain ⟨i1, i2, i3⟩ := Ok.sum (lo := x.a + x.n) (by omega) h6
    refine ⟨by simp only [sumN, List.length_cons]; omega, fun _ => ?_, by simp only [sumN]; omega⟩
    cases L with
    | nil => simp only [sumN]; omega
    | cons y L => have := i2 (by simp); simp only [sumN] at *; omega
theorem Ok.bd {L : List X} {lo : Int} (h0 : 0 ≤ lo) (h : Ok lo L) : Bd L := by
  obtain ⟨h1, h2, h3⟩ := h.sum h0
  refine ⟨fun x hx => ?_, ?_, ?_⟩
  · have := h.starts x hx; omega
  · cases L with
    | nil => simp
    | cons y L => have := h2 (by simp); omega
  · cases L with
    | nil => simp [sumN]
    | cons y L => have := h2 (by simp); omega
theorem join_l {ll lr r : Tr} {lx x : X} (h : r.depth + 1 < (Tr.node ll lx lr).depth) : join (.node ll lx lr) x r = bal ll lx (join lr x r) := by
  conv => lhs; unfold join
  exact if_pos h
theorem join_r {l rl rr : Tr} {rx x : X} (h0 : ¬ (Tr.node rl rx rr).depth + 1 < l.depth) (h : l.depth + 1 < (Tr.node rl rx rr).depth) : join l x (.node rl rx rr) = bal (join l x rl) rx rr := by
  conv => lhs; unfold join
  exact (if_neg h0).trans (if_pos h)
theorem join_n {l r : Tr} {x : X} (h0 : ¬ r.depth + 1 < l.depth) (h : ¬ l.depth + 1 < r.depth) : join l x r = .node l x r := by
  conv => lhs; unfold join
  exact (if_neg h0).trans (if_neg h)
theorem Bd.mid {A B : List X} {x : X} (h : Bd (A ++ x :: B)) : Bd A ∧ (0 ≤ x.n ∧ x.n ≤ 65536) ∧ Bd B := ⟨h.left, h.right.head, h.right.tail⟩
theorem Bd.node {l r : Tr} {x : X} (h : Bd (Tr.node l x r).list) : Bd l.list ∧ (0 ≤ x.n ∧ x.n ≤ 65536) ∧ Bd r.list := Bd.mid h
/-- small enough for the counts not to wrap -/
def Sz (t : Tr) : Prop := 0 ≤ t.depth ∧ t.depth ≤ 1000000 ∧ 0 ≤ t.count ∧ t.count ≤ 1000000 ∧ 0 ≤ t.blocks ∧ t.blocks ≤ 1000000
theorem Bd.sz {t : Tr} (h : Bd t.list) : Sz t := by have := h.tr; unfold Sz; omega
end Go.Xt

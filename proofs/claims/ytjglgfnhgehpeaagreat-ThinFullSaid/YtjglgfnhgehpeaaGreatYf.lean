/- Parts: Fwk, Fwh, Fwg. -/
import Derived.Test.YtjglgfnhgehpeaaGreatYe
import Derived.WalkSpells
import Derived.Lib.SliceRun
import Derived.Shelf.SlMaps.Clone
import Derived.Laws.IdiomStrings
import Derived.Laws.Strings
/- A slice against nil; calls that read one's own row; a row that is sorted. No program in sight. -/
namespace Go.Fw
open Go.RowKit Go.Proofs
set_option linter.unusedVariables false
set_option linter.unusedSimpArgs false
section
variable {P : Program} {w0 : World} {M0 : Mask} {n : Nat} {bs : List Box} {st : St} {ops : Array Oper} {l : List Oper} {Q : Exit → Act → World → Prop} {c : Code} {lk : Nat → Option Rp} {ty : TypeId}
def boolIf (p : Prop) : Rp := ⟨fun v _ _ => ∃ b : Bool, v = .bool b ∧ (b = true → p), fun h _ => h⟩
theorem WP.condU {i : Nat} {p : Prop} {x y : Code} (hs : look st i = some (boolIf p)) (ht : p → WP P w0 M0 n bs st x Q) (hf : WP P w0 M0 n bs st y Q) : WP P w0 M0 n bs st (.cond (.tmp i) x y) Q := fun a w hok => by
  obtain ⟨b, h1, h2⟩ := hok.facts i _ hs
  exact wp_cond_split h1 (fun h => ht (h2 h) a w hok) (fun _ => hf a w hok)
theorem slnil {α : Type} {T T' e : TypeId} {x : Operand} {sz : Nat} {f : α → List Rp} {xs : List α} (hT : P.underlying T = some (.slice e)) (hx : OF lk x (sl sz f xs)) : OpG P bs lk (.binOp .eql T x (.const (.slice none 0 0)) T') ty (boolIf (xs = [])) := OpG.pure fun σ w M hf _ => by
  obtain ⟨A, c, h1, h2, h3⟩ := hx σ w M (hf x (by simp [Op.operands]))
  have hr := Lib.run_eql_slice_nil (P := P) w T e A xs.length c 0 0 hT
  have hg : eqGuard .eql T x (.const (.slice none 0 0)) (.slice A xs.length c) (.slice none 0 0) = pure () := by simp [eqGuard]
  refine ⟨.bool A.isNone, by simp [execOp, h1, ev_const, hg, hr], A.isNone, rfl, fun h => ?_⟩
  rcases h3 with h3 | ⟨b, o, rfl, _⟩
  · exact h3
  · cases h
def vsl {α : Type} (v : Value) (sz : Nat) (f : α → List Rp) (xs : List α) : Rp := ⟨fun u w M => u = v ∧ (sl sz f xs).h u w M, fun ⟨h1, h2⟩ k => ⟨h1, Rp.keep _ h2 k⟩⟩
theorem vsl_sl {α : Type} {v : Value} {sz : Nat} {f : α → List Rp} {xs : List α} : ∀ u w M, (vsl v sz f xs).h u w M → (sl sz f xs).h u w M := fun _ _ _ h => h.2
theorem vsl_v {α : Type} {v : Value} {sz : Nat} {f : α → List Rp} {xs : List α} : ∀ u w M, (vsl v sz f xs).h u w M → (val v).h u w M := fun _ _ _ h => h.1
theorem OF.weak {x : Operand} {R R' : Rp} (h : OF lk x R) (k : ∀ v w M, R.h v w M → R'.h v w M) : OF lk x R' := fun σ w M hf => k _ _ _ (h σ w M hf)
theorem WL.callR {α : Type} (i t : Nat) {f : FuncId} {xs : List Operand} {Rs : List Rp} {R : Rp} {ats : Array TypeId} {d : Nat} {pos : String} {af : Array Edge} {v : Value} {e : TypeId} {sz m : Nat} (F : α → List Rp) (L : List α) (hb : bs[i]? = some (.r v e sz m (L.flatMap F))) (hF : ∀ x, (F x).length = sz) (hm : m = L.length) (ht : look st t = some (val v))
    (hc : PureC P f Rs R) (hpl : ∀ v w M M', R.h v w M → R.h v w M') (hx : OFs (look ((t, vsl v sz F L) :: st)) xs Rs) (hd : d < n)
    (rest : WL P w0 M0 n bs ((d, R) :: st) ops l Q) : WL P w0 M0 n bs st ops (⟨some d, .call ⟨.value (.func f), xs.toArray, ats⟩, ty, pos, af, none⟩ :: l) Q := by
  intro a w hok
  have hfz := hok.freeze (i := i) (t := t) hb hF hm rfl ht
  have hv : a.tmps.getD t undef = v := hok.facts t _ ht
  have hok1 : Ok w0 M0 n (bs.set i (.r nilS e sz 0 [])) ((t, vsl v sz F L) :: st) a w := ⟨hfz.defers, hfz.size, fun u R' hu => by
    simp only [look] at hu
    split at hu
    · rename_i e'; subst e'; cases hu
      exact ⟨hv, hfz.facts u (sl sz F L) (by simp [look])⟩
    · rename_i e'; exact hfz.facts u R' (by simp only [look]; rw [if_neg e']; exact hu), hfz.boxes, hfz.nodup, hfz.fresh, hfz.below, hfz.msk, hfz.m0⟩
  refine wpList_plain rfl fun K hK => wp_of_does rfl ?_
  rw [exec_eq, run_callF hc.1 (Rs := Rs) a w]
  refine Calls.mono (hc.2 w _ _ hok1.msk (hx.ok hok1)) ?_
  rintro en w' ⟨u, rfl, hR, hbl⟩
  exact ⟨u, rfl, hK _ _ (rest _ _ (hok.put hd hbl (hpl _ _ _ _ hR)))⟩

def srt (U : List Int) : List Int := U.mergeSort (fun x y => decide (x ≤ y))
theorem srt_len (U : List Int) : (srt U).length = U.length := List.length_mergeSort U
structure SortC (P : Program) (f g : FuncId) (enc : Int → List Value) (k : Nat) : Prop where
  ent : Enters P f
  none : ∀ (w : World) (p : Option Addr) (cap : Nat), Calls P f #[.slice p 0 cap, .func (.func g) #[] #[]] w fun e w' => e = .returned (.tuple #[]) ∧ w' = w
  some : ∀ (w : World) (b cap : Nat) (T : TypeId) (cur : Array Value) (U : List Int), w.heap[b]? = .some (.cells cur T (0, 0)) → U.length * k ≤ cur.size → cur.toList.take (U.length * k) = U.flatMap enc → U.length ≤ 1000000 →
    Calls P f #[.slice (.some ⟨b, 0, .none⟩) U.length cap, .func (.func g) #[] #[]] w fun e w' => e = .returned (.tuple #[]) ∧ ∃ cur' : Array Value, w'.heap[b]? = .some (.cells cur' T (0, 0)) ∧ cur'.size = cur.size ∧ cur'.toList.take (U.length * k) = (srt U).flatMap enc ∧
      (∀ j, j ≠ b → j < w.heap.size → w'.heap[j]? = w.heap[j]?) ∧ w.heap.size ≤ w'.heap.size ∧ w'.os = w.os ∧ w'.tape = w.tape ∧ w'.output = w.output
theorem flat_vals (enc : Int → List Value) (U : List Int) : (U.flatMap fun u => (enc u).map val) = (U.flatMap enc).map val := by
  induction U with
  | nil => rfl
  | cons u U ih => rw [List.flatMap_cons, List.flatMap_cons, List.map_append, ih]
theorem WL.sortU (i : Nat) {f g : FuncId} {x : Operand} {ats : Array TypeId} {d : Nat} {pos : String} {af : Array Edge} {v : Value} {e : TypeId} {enc : Int → List Value} {k m : Nat} {U : List Int} (hs : SortC P f g enc k) (hk : ∀ u, (enc u).length = k) (h1 : ∀ u, ∀ c ∈ enc u, c.oneCell' = true) (hb : bs[i]? = some (.r v e k m (U.flatMap fun u => (enc u).map val))) (hm : m = U.length) (hl : U.length ≤ 1000000) (hx : OF (look st) x (val v)) (hd : d < n)
    (rest : WL P w0 M0 n (bs.set i (.r v e k m ((srt U).flatMap fun u => (enc u).map val))) ((d, val (.tuple #[])) :: st) ops l Q) : WL P w0 M0 n bs st ops (⟨some d, .call ⟨.value (.func f), #[x, .func g], ats⟩, ty, pos, af, none⟩ :: l) Q := by
  intro a w hok
  have e1 : ev (fun t => a.tmps.getD t undef) x = v := hx _ w _ fun i R' _ hi => hok.facts i R' hi
  have e1 : a.eval x = v := by rw [eval_ev]; exact e1
  obtain ⟨cs, c1, c2⟩ := hok.boxes _ (List.mem_of_getElem? hb)
  rw [flat_vals] at c2
  have hcs := All2.of_vals c2
  subst hcs
  subst hm
  refine wpList_plain rfl fun K hK => wp_of_does rfl ?_
  have hent : (execOp a.eval ⟨none, .call ⟨.value (.func f), #[x, .func g], ats⟩, ty, "", #[], none⟩).run P w = .ok (.enter f #[v, .func (.func g) #[] #[]]) w := by
    have := hs.ent #[v, .func (.func g) #[] #[]] w
    simp [execOp, resolve, Deferred.ofValue, Act.eval, invoke, this]
    have e1' : a.eval x = v := e1
    simp [Act.eval] at e1'
    simp [e1', this]
  rw [exec_eq, hent]
  by_cases h0 : U.length = 0
  · have hU : U = [] := List.eq_nil_of_length_eq_zero h0
    subst hU
    have hvs : ∃ A' c', v = .slice A' 0 c' := by
      rcases c1.2 with ⟨rfl, _⟩ | ⟨g, cap, cur, rfl, _⟩
      · exact ⟨_, _, rfl⟩
      · exact ⟨_, _, rfl⟩
    obtain ⟨A', c', rfl⟩ := hvs
    refine Calls.mono (hs.none w A' c') ?_
    rintro en w' ⟨rfl, rfl⟩
    have hset : bs.set i (.r (.slice A' 0 c') e k 0 ((srt []).flatMap fun u => (enc u).map val)) = bs := by
      rw [show srt [] = [] from by unfold srt; simp]
      obtain ⟨hlt, he⟩ := List.getElem?_eq_some_iff.1 hb
      have he' : bs[i] = .r (.slice A' 0 c') e k 0 (([] : List Int).flatMap fun u => (enc u).map val) := he
      rw [← he', List.set_getElem_self]
    have rest' := rest
    simp only [List.length_nil] at rest'
    rw [hset] at rest'
    exact ⟨_, rfl, hK _ _ (rest' _ _ (hok.setFact hd rfl))⟩
  · obtain ⟨g', cap, hv⟩ := row_open (hok.boxes _ (List.mem_of_getElem? hb)) (by omega : 0 < U.length)
    subst hv
    rcases c1.2 with ⟨h, _⟩ | ⟨g2, cap', cur, h, d0, d1, d2, d3, d4, d5⟩
    · cases h
    cases h
    refine Calls.mono (hs.some w g' cap e cur U d1 (by rw [d4]; exact Nat.mul_le_mul_right _ d2) d5 hl) ?_
    rintro en w' ⟨rfl, cur', k1, k2, k3, k4, k5, k6, k7, k8⟩
    have hch := hok.change (w' := w') (y := .r (rowv g' U.length cap) e k U.length ((srt U).flatMap fun u => (enc u).map val)) hb (fun j hj hne => k4 j (fun e => hne (by rw [e]; rfl)) hj) k5 k6 k7 k8 (fun g hg => .inl hg) (fun g hg => by
      have := hok.msk g (.inr (mem_blks (List.mem_of_getElem? hb) hg)); omega) fun M hM => by
        refine ⟨(srt U).flatMap enc, ⟨?_, .inr ⟨g', cap, cur', rfl, d0, k1, d2, d3, by rw [k2, d4], k3⟩⟩, ?_⟩
        · rw [← srt_len U]
          have : ∀ U : List Int, (U.flatMap enc).length = U.length * k := fun U => by
            induction U with
            | nil => simp
            | cons u U ih => rw [List.flatMap_cons, List.length_append, ih, hk, List.length_cons, Nat.succ_mul]; omega
          exact this _
        · rw [flat_vals]
          refine All2.vals (List.all_eq_true.2 fun c hc => ?_)
          obtain ⟨u, _, hu⟩ := List.mem_flatMap.1 hc
          exact h1 u c hu
    exact ⟨_, rfl, hK _ _ (rest _ _ (hch.setFact hd rfl))⟩
end
end Go.Fw

/- Maps: read; made, written, frozen. No program in sight. -/
namespace Go.Fw
open Go.RowKit Go.Proofs
set_option linter.unusedVariables false
set_option linter.unusedSimpArgs false
def lookK {α : Type} (k : ByteArray) : List (ByteArray × α) → Option α
  | [] => none
  | x :: l => if k = x.1 then some x.2 else lookK k l
def putK {α : Type} (k : ByteArray) (a : α) : List (ByteArray × α) → List (ByteArray × α)
  | [] => [(k, a)]
  | x :: l => if k = x.1 then (k, a) :: l else x :: putK k a l
def delK {α : Type} (k : ByteArray) : List (ByteArray × α) → List (ByteArray × α)
  | [] => []
  | x :: l => if k = x.1 then l else x :: delK k l
abbrev mapK {α β : Type} (f : α → β) (l : List (ByteArray × α)) : List (ByteArray × β) := l.map fun x => (x.1, f x.2)
theorem lookK_map {α β : Type} (f : α → β) (k : ByteArray) : ∀ l : List (ByteArray × α), lookK k (mapK f l) = (lookK k l).map f
  | [] => rfl
  | x :: l => by
    show (if k = x.1 then some (f x.2) else lookK k (mapK f l)) = (if k = x.1 then some x.2 else lookK k l).map f
    rw [lookK_map f k l]
    split <;> rfl
theorem putK_map {α β : Type} (f : α → β) (k : ByteArray) (a : α) : ∀ l : List (ByteArray × α), putK k (f a) (mapK f l) = mapK f (putK k a l)
  | [] => rfl
  | x :: l => by
    show (if k = x.1 then (k, f a) :: mapK f l else (x.1, f x.2) :: putK k (f a) (mapK f l)) = mapK f (if k = x.1 then (k, a) :: l else x :: putK k a l)
    rw [putK_map f k a l]
    split <;> rfl
theorem delK_map {α β : Type} (f : α → β) (k : ByteArray) : ∀ l : List (ByteArray × α), delK k (mapK f l) = mapK f (delK k l)
  | [] => rfl
  | x :: l => by
    show (if k = x.1 then mapK f l else (x.1, f x.2) :: delK k (mapK f l)) = mapK f (if k = x.1 then l else x :: delK k l)
    rw [delK_map f k l]
    split <;> rfl
theorem ba_beq (a b : ByteArray) : (a == b) = decide (a = b) := by
  rw [Bool.eq_iff_iff, MapKept.bytes_beq, decide_eq_true_eq]
theorem MapAll.size {w : World} {M : Mask} : ∀ {kv : List (ByteArray × List Rp)} {es : List MapEntry}, MapAll w M kv es → es.length = kv.length
  | [], [], _ => rfl
  | _ :: _, _ :: _, ⟨_, h⟩ => by simp [h.size]
theorem MapAll.snoc {w : World} {M : Mask} {k : ByteArray} {rs : List Rp} {e : MapEntry} (h1 : e.key = .string k) (h2 : ∃ vs : List Value, e.val = .agg vs.toArray ∧ All2 w M rs vs) : ∀ {kv : List (ByteArray × List Rp)} {es : List MapEntry}, MapAll w M kv es → MapAll w M (kv ++ [(k, rs)]) (es ++ [e])
  | [], [], _ => ⟨⟨h1, h2⟩, trivial⟩
  | _ :: _, _ :: _, ⟨g, h⟩ => ⟨g, MapAll.snoc h1 h2 h⟩
theorem putK_none {α : Type} {k : ByteArray} {a : α} : ∀ {l : List (ByteArray × α)}, lookK k l = none → putK k a l = l ++ [(k, a)]
  | [], _ => rfl
  | x :: l, h => by
    unfold lookK at h
    unfold putK
    split at h
    · cases h
    · rename_i hn; rw [if_neg hn, putK_none h]; rfl
theorem delK_none {α : Type} {k : ByteArray} : ∀ {l : List (ByteArray × α)}, lookK k l = none → delK k l = l
  | [], _ => rfl
  | x :: l, h => by
    unfold lookK at h
    unfold delK
    split at h
    · cases h
    · rename_i hn; rw [if_neg hn, delK_none h]
theorem find_map {w : World} {M : Mask} (k : ByteArray) : ∀ {kv : List (ByteArray × List Rp)} {es : List MapEntry} (i : Nat), MapAll w M kv es →
    (lookK k kv = none ∧ Instr.findNow .string (.string k) es i = some none) ∨
    (∃ (j : Nat) (e : MapEntry) (rs : List Rp), lookK k kv = some rs ∧ es[j]? = some e ∧ Instr.findNow .string (.string k) es i = some (some (i + j, e.val)) ∧ e.key = .string k ∧ (∃ vs : List Value, e.val = .agg vs.toArray ∧ All2 w M rs vs) ∧
      (∀ (e' : MapEntry) (rs' : List Rp) (w' : World) (M' : Mask), Kp w M w' M' → e'.key = .string k → (∃ vs : List Value, e'.val = .agg vs.toArray ∧ All2 w' M' rs' vs) → MapAll w' M' (putK k rs' kv) (es.set j e')) ∧ MapAll w M (delK k kv) (es.eraseIdx j))
  | [], [], i, _ => .inl ⟨rfl, rfl⟩
  | x :: kv, e :: es, i, ⟨⟨h1, h2⟩, h3⟩ => by
    by_cases hk : k = x.1
    · refine .inr ⟨0, e, x.2, by simp [lookK, hk], rfl, ?_, by rw [h1, hk], h2, fun e' rs' w' M' hkp g1 g2 => ?_, ?_⟩
      · simp [Instr.findNow, h1, Instr.sameNow, ba_beq, hk]
      · rw [putK, if_pos hk]; exact ⟨⟨g1, g2⟩, h3.keep hkp⟩
      · rw [delK, if_pos hk]; exact h3
    · rcases find_map k (i + 1) h3 with ⟨g1, g2⟩ | ⟨j, e1, rs, g1, g2, g3, g4, g5, g6, g7⟩
      · exact .inl ⟨by rw [lookK, if_neg hk]; exact g1, by simp [Instr.findNow, h1, Instr.sameNow, ba_beq, hk, g2]⟩
      · refine .inr ⟨j + 1, e1, rs, by rw [lookK, if_neg hk]; exact g1, by simpa using g2, ?_, g4, g5, fun e' rs' w' M' hkp q1 q2 => ?_, ?_⟩
        · simp [Instr.findNow, h1, Instr.sameNow, ba_beq, hk, g3, Nat.add_assoc, Nat.add_comm 1 j]
        · rw [putK, if_neg hk]
          obtain ⟨vs, v1, v2⟩ := h2
          exact ⟨⟨h1, vs, v1, v2.keep hkp⟩, g6 e' rs' w' M' hkp q1 q2⟩
        · rw [delK, if_neg hk]; exact ⟨⟨h1, h2⟩, g7⟩
theorem keys_none {w : World} {M : Mask} {k : ByteArray} : ∀ {kv : List (ByteArray × List Rp)} {es : List MapEntry}, lookK k kv = none → MapAll w M kv es → ∀ e ∈ es, e.key ≠ .string k
  | [], [], _, _, e, he => by cases he
  | x :: kv, e0 :: es, h, ⟨⟨h1, _⟩, h3⟩, e, he => by
    unfold lookK at h
    split at h
    · cases h
    · rename_i hn
      rcases List.mem_cons.1 he with rfl | he
      · rw [h1]; intro e; cases e; exact hn rfl
      · exact keys_none h h3 e he
theorem run_findKey {P : Program} {K : TypeId} (hK : P.underlying K = some .string) {k : ByteArray} {es : List MapEntry} {r : Option (Nat × Value)} (h : Instr.findNow .string (.string k) es 0 = some r) (w : World) : (Instr.findKey K (.string k) es).run P w = .ok r w := by
  simp [Instr.findKey, run_underlying hK, h]
theorem run_checkKeyS {P : Program} {K : TypeId} (hK : P.underlying K = some .string) (b : Bool) (k : ByteArray) (w : World) : (Instr.checkKey b 10000 K (.string k)).run P w = .ok () w := by
  unfold Instr.checkKey
  simp [run_underlying hK]
def mps {α : Type} (f : α → List Rp) (l : List (ByteArray × α)) : Rp :=
  ⟨fun v w M => ∃ b, v = .map (some b) ∧ b < w.heap.size ∧ ¬ M b ∧ ∃ (es : List MapEntry) (clock : Nat), w.heap[b]? = some (.map es.toArray clock) ∧ MapKept.Stamped es.toArray clock ∧ MapAll w M (mapK f l) es,
   fun ⟨b, h1, h2, h3, es, clock, h4, h6, h5⟩ k => ⟨b, h1, Nat.lt_of_lt_of_le h2 k.size, fun hm => (k.mask b hm).elim h3 (fun h => by omega), es, clock, (k.block b h2 h3).trans h4, h6, h5.keep k⟩⟩
def mp {α : Type} (f : α → List Rp) (l : List (ByteArray × α)) : Rp :=
  ⟨fun v w M => (v = .map none ∧ l = []) ∨ (mps f l).h v w M, fun h k => h.imp id fun h => (mps f l).keep h k⟩
theorem mp_nil {α : Type} {f : α → List Rp} : ∀ v w M, (val (.map none)).h v w M → (mp f []).h v w M := fun v w M h => .inl ⟨h, rfl⟩
theorem mps_mp {α : Type} {f : α → List Rp} {l : List (ByteArray × α)} : ∀ v w M, (mps f l).h v w M → (mp f l).h v w M := fun v w M h => .inr h
theorem leaf_mp {α : Type} {f : α → List Rp} {l : List (ByteArray × α)} : Leaf (mp f l) := fun v w M h => by
  rcases h with ⟨rfl, _⟩ | ⟨b, rfl, _⟩ <;> rfl
def zagg (P : Program) (E : TypeId) : Option (List Value) := (P.info? E).bind fun i => match i.zero with | some (.agg a) => some a.toList | _ => none
theorem run_zagg {P : Program} {E : TypeId} {zs : List Value} (h : zagg P E = some zs) (w : World) : (zeroValue E).run P w = .ok (.agg zs.toArray) w := by
  unfold zagg at h
  cases hi : P.info? E with
  | none => rw [hi] at h; cases h
  | some ti =>
    rw [hi] at h
    simp only [Option.bind_some] at h
    split at h
    · rename_i a ha
      cases h
      simp [zeroValue, typeInfo, hi, ha]
    · cases h
section
variable {P : Program} {w0 : World} {M0 : Mask} {n : Nat} {bs : List Box} {st : St} {ops : Array Oper} {l : List Oper} {Q : Exit → Act → World → Prop} {c : Code} {lk : Nat → Option Rp} {ty : TypeId}
theorem All2.vals' {w : World} {M : Mask} : ∀ {cs : List Value}, cs.all (·.oneCell') = true → All2 w M (cs.map val) cs
  | [], _ => trivial
  | c :: cs, h => by
    simp only [List.all_cons, Bool.and_eq_true] at h
    exact ⟨⟨rfl, h.1⟩, All2.vals' h.2⟩
theorem lkp {α : Type} {T K E : TypeId} {x y : Operand} {f : α → List Rp} {m : List (ByteArray × α)} {k : ByteArray} {zs : List Value} (hT : P.underlying T = some (.map K E)) (hK : P.underlying K = some .string) (hz : zagg P E = some zs) (ho : zs.all (·.oneCell') = true) (hx : OF lk x (mp f m)) (hy : OF lk y (val (.string k))) :
    OpG P bs lk (.lookup T x y true) ty (tup [agg (((lookK k m).map f).getD (zs.map val)), val (.bool (lookK k m).isSome)]) := OpG.pure fun σ w M hf _ => by
  have e2 : ev σ y = _ := hy σ w M (hf y (by simp [Op.operands, Call.operands]))
  have hnone : lookK k m = none → (tup [agg (((lookK k m).map f).getD (zs.map val)), val (.bool (lookK k m).isSome)]).h (.tuple #[.agg zs.toArray, .bool false]) w M := fun h2 =>
    ⟨[.agg zs.toArray, .bool false], rfl, by rw [h2]; exact ⟨zs, rfl, All2.vals' ho⟩, by rw [h2]; rfl, trivial⟩
  rcases hx σ w M (hf x (by simp [Op.operands, Call.operands])) with ⟨h1, h2⟩ | ⟨b, h1, _, _, es, clock, h4, h6, h5⟩
  · subst h2
    refine ⟨_, ?_, hnone rfl⟩
    have q2 : Instr.findNow .string (.string k) [] 0 = some none := rfl
    simp [execOp, Instr.lookup, h1, e2, run_underlying hT, run_checkKeyS hK, run_findKey hK q2, run_zagg hz]
  · rcases find_map k 0 h5 with ⟨q1, q2⟩ | ⟨j, e, rs, q1, q2, q3, q4, ⟨vs, q5, q6⟩, _⟩
    · rw [lookK_map] at q1
      have q1' : lookK k m = none := by cases hq : lookK k m with | none => rfl | some a => rw [hq] at q1; cases q1
      refine ⟨_, ?_, hnone q1'⟩
      simp [execOp, Instr.lookup, h1, e2, run_underlying hT, MapKept.run_getObj_map h4, run_checkKeyS hK, run_findKey hK q2, run_zagg hz]
    · rw [lookK_map] at q1
      refine ⟨.tuple #[.agg vs.toArray, .bool true], ?_, [.agg vs.toArray, .bool true], rfl, ?_, ?_, trivial⟩
      · simp [execOp, Instr.lookup, h1, e2, run_underlying hT, MapKept.run_getObj_map h4, run_checkKeyS hK, run_findKey hK q3, q5]
      · rw [q1]; exact ⟨vs, rfl, q6⟩
      · cases hq : lookK k m with
        | none => rw [hq] at q1; cases q1
        | some a => rfl
theorem lenm {α : Type} {T K E : TypeId} {x : Operand} {f : α → List Rp} {m : List (ByteArray × α)} (hT : P.underlying T = some (.map K E)) (hx : OF lk x (mp f m)) : OpG P bs lk (.call ⟨.builtin .len, #[x], #[T]⟩) ty (val (.int .i64 m.length)) := OpG.pure fun σ w M hf _ => by
  rcases hx σ w M (hf x (by simp [Op.operands, Call.operands])) with ⟨h1, h2⟩ | ⟨b, h1, _, _, es, clock, h4, h6, h5⟩
  · subst h2
    exact ⟨.int .i64 0, by simp [execOp, resolve, invoke, builtin, Builtin.len_, h1, run_underlying hT, goInt], rfl⟩
  · have hl := h5.size
    rw [List.length_map] at hl
    refine ⟨.int .i64 m.length, ?_, rfl⟩
    simp [execOp, resolve, invoke, builtin, Builtin.len_, h1, run_underlying hT, goInt, MapKept.run_getObj_map h4, hl]
theorem mnil {T K E T' : TypeId} {x : Operand} {p : Option Nat} (hT : P.underlying T = some (.map K E)) (hx : OF lk x (val (.map p))) : OpG P bs lk (.binOp .eql T x (.const (.map none)) T') ty (val (.bool p.isNone)) := OpG.pure fun σ w M hf _ => by
  have h1 : ev σ x = _ := hx σ w M (hf x (by simp [Op.operands]))
  have hg : eqGuard .eql T x (.const (.map none)) (.map p) (.map none) = pure () := by simp [eqGuard]
  exact ⟨.bool p.isNone, by simp [execOp, h1, ev_const, hg, run_eql_map_nil_sl w T K E p hT], rfl⟩
theorem Ok.newMap {a : Act} {w : World} (h : Ok w0 M0 n bs st a w) {es : List MapEntry} {clock : Nat} {kv : List (ByteArray × List Rp)} (hst : MapKept.Stamped es.toArray clock) (hm : MapAll w (mkM M0 bs) kv es) :
    Ok w0 M0 n (.m w.heap.size kv :: bs) st a (w.alloc (.map es.toArray clock)) := by
  have hb : Below w.heap.size w (w.alloc (.map es.toArray clock)) := (Below.refl _ w).alloc (Nat.le_refl _) _
  have hk : Kp w (mkM M0 bs) (w.alloc (.map es.toArray clock)) (mkM M0 (.m w.heap.size kv :: bs)) := ⟨fun b hb' _ => hb.block b hb', hb.size, fun b hb' => by
    rcases hb' with h1 | h1
    · exact .inl (.inl h1)
    · rcases (List.mem_cons (l := blks bs)).1 h1 with h2 | h2
      · exact .inr (Nat.le_of_eq h2.symm)
      · exact .inl (.inr h2)⟩
  refine ⟨(defs_cons (x := .m w.heap.size kv) rfl bs).symm ▸ h.defers, h.size, fun t R ht => R.keep (h.facts t R ht) hk, fun x hx => ?_, ?_, fun g hg => ?_, h.below.trans (hb.mono h.below.size), fun b hb' => ?_, fun g hg hm0 => ?_⟩
  · rcases List.mem_cons.1 hx with rfl | hx
    · exact ⟨es, clock, (MapKept.heap_alloc w _).1, hst, hm.keep hk⟩
    · exact (h.boxes x hx).same (fun g _ hg => hb.block g hg) hk
  · show (w.heap.size :: blks bs).Nodup
    refine List.nodup_cons.2 ⟨fun hg => ?_, h.nodup⟩
    have := h.msk _ (.inr hg); omega
  · rcases (List.mem_cons (l := blks bs)).1 hg with rfl | hg
    · exact h.below.size
    · exact h.fresh g hg
  · have hs : (w.alloc (.map es.toArray clock)).heap.size = w.heap.size + 1 := by simp
    rcases hb' with h1 | h1
    · have := h.msk b (.inl h1); omega
    · rcases (List.mem_cons (l := blks bs)).1 h1 with rfl | h2
      · omega
      · have := h.msk b (.inr h2); omega
  · rcases (List.mem_cons (l := blks bs)).1 hg with rfl | hg
    · have := h.msk _ (.inl hm0); omega
    · exact h.m0 g hg hm0
theorem WL.makeMap {T : TypeId} {d : Nat} {pos : String} {af : Array Edge} (hd : d < n)
    (rest : ∀ g : Nat, WL P w0 M0 n (.m g [] :: bs) ((d, val (.map (some g))) :: st) ops l Q) : WL P w0 M0 n bs st ops (⟨some d, .makeMap T none, ty, pos, af, none⟩ :: l) Q := by
  intro a w hok
  refine wpList_plain rfl fun K hK => ?_
  unfold Oper.wp
  rw [eval_ev, exec_eq]
  have hrun : (execOp (ev fun t => a.tmps.getD t undef) ⟨none, .makeMap T none, ty, "", #[], none⟩).run P w = .ok (.value (.map (some w.heap.size))) (w.alloc (.map #[] 0)) := by
    simp [execOp, RowKit.run_makeMap]
  rw [hrun]
  exact hK _ _ (rest _ _ _ ((hok.newMap (es := []) (kv := []) (MapKept.stamped_empty 0) trivial).setFact hd rfl))
def CloneM (P : Program) (f : FuncId) : Prop := Enters P f ∧ ∀ (b : Nat) (es : Array MapEntry) (clock : Nat) (w : World), w.heap[b]? = some (.map es clock) → Calls P f #[.map (some b)] w fun e w' => e = .returned (.map (some w.heap.size)) ∧ w' = w.alloc (.map es clock)
theorem WL.cloneM {α : Type} {f : FuncId} {x : Operand} {g : α → List Rp} {m : List (ByteArray × α)} {ats : Array TypeId} {d : Nat} {pos : String} {af : Array Edge} (hc : CloneM P f) (hx : OF (look st) x (mps g m)) (hd : d < n)
    (rest : ∀ b : Nat, WL P w0 M0 n (.m b (mapK g m) :: bs) ((d, val (.map (some b))) :: st) ops l Q) : WL P w0 M0 n bs st ops (⟨some d, .call ⟨.value (.func f), #[x], ats⟩, ty, pos, af, none⟩ :: l) Q := by
  intro a w hok
  obtain ⟨b, h1, h2, h3, es, clock, h4, h6, h5⟩ := hx (fun t => a.tmps.getD t undef) w _ fun i R' _ hi => hok.facts i R' hi
  have h1 : a.eval x = .map (some b) := by rw [eval_ev]; exact h1
  refine wpList_plain rfl fun K hK => wp_of_does rfl ?_
  rw [exec_eq, run_callF (xs := [x]) hc.1 (Rs := []) a w]
  have hcall := hc.2 b _ clock w h4
  rw [← h1] at hcall
  refine Calls.mono hcall ?_
  rintro en w' ⟨rfl, rfl⟩
  exact ⟨_, rfl, hK _ _ (rest _ _ _ ((hok.newMap h6 h5).setFact hd rfl))⟩
theorem modify_set {α : Type} {f : α → α} : ∀ {l : List α} {j : Nat} {e : α}, l[j]? = some e → l.modify j f = l.set j (f e)
  | [], j, e, h => by simp at h
  | x :: l, 0, e, h => by simp at h; subst h; rfl
  | x :: l, j + 1, e, h => by
    have := modify_set (f := f) (l := l) (j := j) (e := e) (by simpa using h)
    rw [List.modify_succ_cons, List.set_cons_succ, this]
def putB (w : World) (r : Nat) (o : Obj) : World := { w with heap := w.heap.setIfInBounds r o }
theorem putB_same {w : World} {r : Nat} {o : Obj} (h : r < w.heap.size) : (putB w r o).heap[r]? = some o := by simp [putB, h]
theorem putB_other {w : World} {r j : Nat} {o : Obj} (h : j ≠ r) : (putB w r o).heap[j]? = w.heap[j]? := by
  simp only [putB, Array.getElem?_setIfInBounds]
  rw [if_neg (Ne.symm h)]
theorem putB_size {w : World} {r : Nat} {o : Obj} : (putB w r o).heap.size = w.heap.size := by simp [putB]
theorem run_setObj_at {w : World} {r : Nat} {es : Array MapEntry} {clock : Nat} (hb : w.heap[r]? = some (.map es clock)) (o : Obj) : (setObj r o).run P w = .ok () (putB w r o) := MapKept.run_setObj_map o hb
theorem WL.mapUpd (i : Nat) {T K E : TypeId} {x y z : Operand} {g : Nat} {k : ByteArray} {kv : List (ByteArray × List Rp)} {rs : List Rp} {pos : String} {af : Array Edge} (hb : bs[i]? = some (.m g kv)) (hT : P.underlying T = some (.map K E)) (hK : P.underlying K = some .string) (hx : OF (look st) x (val (.map (some g)))) (hy : OF (look st) y (val (.string k))) (hz : OF (look st) z (agg rs))
    (rest : WL P w0 M0 n (bs.set i (.m g (putK k rs kv))) st ops l Q) : WL P w0 M0 n bs st ops (⟨none, .mapUpdate T x y z, ty, pos, af, none⟩ :: l) Q := by
  intro a w hok
  have e1 : ev (fun t => a.tmps.getD t undef) x = _ := hx _ w _ fun i R' _ hi => hok.facts i R' hi
  have e2 : ev (fun t => a.tmps.getD t undef) y = _ := hy _ w _ fun i R' _ hi => hok.facts i R' hi
  obtain ⟨vs, e3, h3⟩ := hz (fun t => a.tmps.getD t undef) w _ fun i R' _ hi => hok.facts i R' hi
  obtain ⟨es, clock, h4, h6, h5⟩ := hok.boxes _ (List.mem_of_getElem? hb)
  have hg := (Array.getElem?_eq_some_iff.1 h4).1
  have fin : ∀ (es' : List MapEntry) (clock' : Nat), MapKept.Stamped es'.toArray clock' → (∀ M, Kp w (mkM M0 bs) (putB w g (.map es'.toArray clock')) M → MapAll (putB w g (.map es'.toArray clock')) M (putK k rs kv) es') → Ok w0 M0 n (bs.set i (.m g (putK k rs kv))) st a (putB w g (.map es'.toArray clock')) := fun es' clock' hst hM =>
    hok.change hb (fun j _ hj => putB_other fun e => hj (by rw [e]; rfl)) (Nat.le_of_eq putB_size.symm) rfl rfl rfl (fun g' hg' => .inl hg') (fun g' hg' => by cases hg'; rw [putB_size]; exact hg) fun M hk => ⟨es', clock', putB_same hg, hst, hM M hk⟩
  refine wpList_plain rfl fun Kx hKx => ?_
  unfold Oper.wp
  rw [eval_ev, exec_eq]
  rcases find_map k 0 h5 with ⟨q1, q2⟩ | ⟨j, e, rs', q1, q2, q3, q4, _, q6, _⟩
  · have hrun : (execOp (ev fun t => a.tmps.getD t undef) ⟨none, .mapUpdate T x y z, ty, "", #[], none⟩).run P w = .ok .skip (putB w g (.map (es ++ [({ key := .string k, val := .agg vs.toArray, born := clock } : MapEntry)]).toArray (clock + 1))) := by
      generalize (fun t => a.tmps.getD t undef) = σ at e1 e2 e3 ⊢
      simp [execOp, Instr.mapUpdate, e1, e2, e3, run_underlying hT, MapKept.run_getObj_map h4, run_checkKeyS hK, run_findKey hK q2, run_setObj_at h4]
    rw [hrun]
    refine hKx _ _ (rest _ _ (fin _ _ (by
      have := MapKept.stamped_push (key := .string k) (val := .agg vs.toArray) h6 fun x hx => keys_none q1 h5 x (by simpa using hx)
      simpa using this) fun M hk => ?_))
    rw [putK_none q1]
    exact MapAll.snoc rfl ⟨vs, rfl, h3.keep hk⟩ (h5.keep hk)
  · have hj : j < es.length := (List.getElem?_eq_some_iff.1 q2).1
    have hej : es[j] = e := (List.getElem?_eq_some_iff.1 q2).2
    have hmod := modify_set (f := fun e : MapEntry => { key := .string k, val := .agg vs.toArray, born := e.born }) q2
    have hrun : (execOp (ev fun t => a.tmps.getD t undef) ⟨none, .mapUpdate T x y z, ty, "", #[], none⟩).run P w = .ok .skip (putB w g (.map (es.set j { e with key := .string k, val := .agg vs.toArray }).toArray clock)) := by
      generalize (fun t => a.tmps.getD t undef) = σ at e1 e2 e3 ⊢
      simp [execOp, Instr.mapUpdate, e1, e2, e3, run_underlying hT, MapKept.run_getObj_map h4, run_checkKeyS hK, run_findKey hK q3, run_setObj_at h4, Instr.keyThatStays, q2, q4, Instr.sameBits, ba_beq, hmod]
    rw [hrun]
    exact hKx _ _ (rest _ _ (fin _ _ (by
      have := MapKept.stamped_modify h6 j (fun e : MapEntry => { key := .string k, val := .agg vs.toArray, born := e.born }) (fun _ _ => rfl) (fun e' _ he' => by
        have : e' = e := by
          have h9 : es[j]? = some e' := by simpa using he'
          rw [q2] at h9; exact (Option.some.inj h9).symm
        rw [this, q4])
      rw [← hmod]
      simpa using this) fun M hk => q6 _ _ _ _ hk rfl ⟨vs, rfl, h3.keep hk⟩))
theorem WL.mapDel (i : Nat) {T K E T2 : TypeId} {x y : Operand} {g : Nat} {k : ByteArray} {kv : List (ByteArray × List Rp)} {pos : String} {af : Array Edge} (hb : bs[i]? = some (.m g kv)) (hT : P.underlying T = some (.map K E)) (hK : P.underlying K = some .string) (hx : OF (look st) x (val (.map (some g)))) (hy : OF (look st) y (val (.string k)))
    (rest : WL P w0 M0 n (bs.set i (.m g (delK k kv))) st ops l Q) : WL P w0 M0 n bs st ops (⟨none, .call ⟨.builtin .delete, #[x, y], #[T, T2]⟩, ty, pos, af, none⟩ :: l) Q := by
  intro a w hok
  have e1 : ev (fun t => a.tmps.getD t undef) x = _ := hx _ w _ fun i R' _ hi => hok.facts i R' hi
  have e2 : ev (fun t => a.tmps.getD t undef) y = _ := hy _ w _ fun i R' _ hi => hok.facts i R' hi
  obtain ⟨es, clock, h4, h6, h5⟩ := hok.boxes _ (List.mem_of_getElem? hb)
  have hg := (Array.getElem?_eq_some_iff.1 h4).1
  have fin : ∀ (es' : List MapEntry) (clock' : Nat), MapKept.Stamped es'.toArray clock' → (∀ M, Kp w (mkM M0 bs) (putB w g (.map es'.toArray clock')) M → MapAll (putB w g (.map es'.toArray clock')) M (delK k kv) es') → Ok w0 M0 n (bs.set i (.m g (delK k kv))) st a (putB w g (.map es'.toArray clock')) := fun es' clock' hst hM =>
    hok.change hb (fun j _ hj => putB_other fun e => hj (by rw [e]; rfl)) (Nat.le_of_eq putB_size.symm) rfl rfl rfl (fun g' hg' => .inl hg') (fun g' hg' => by cases hg'; rw [putB_size]; exact hg) fun M hk => ⟨es', clock', putB_same hg, hst, hM M hk⟩
  refine wpList_plain rfl fun Kx hKx => ?_
  unfold Oper.wp
  rw [eval_ev, exec_eq]
  rcases find_map k 0 h5 with ⟨q1, q2⟩ | ⟨j, e, rs', q1, q2, q3, q4, _, _, q7⟩
  · have hrun : (execOp (ev fun t => a.tmps.getD t undef) ⟨none, .call ⟨.builtin .delete, #[x, y], #[T, T2]⟩, ty, "", #[], none⟩).run P w = .ok (.value (.tuple #[])) (putB w g (.map es.toArray clock)) := by
      generalize (fun t => a.tmps.getD t undef) = σ at e1 e2 ⊢
      simp [execOp, resolve, invoke, builtin, Builtin.delete_, e1, e2, run_underlying hT, MapKept.run_getObj_map h4, run_checkKeyS hK, run_findKey hK q2, run_setObj_at h4]
    rw [hrun]
    refine hKx _ _ (rest _ _ (fin _ _ h6 fun M hk => ?_))
    rw [delK_none q1]
    exact h5.keep hk
  · have hj : j < es.length := (List.getElem?_eq_some_iff.1 q2).1
    have her : es.toArray.eraseIdxIfInBounds j = (es.eraseIdx j).toArray := by
      apply Array.ext'
      simp [Array.eraseIdxIfInBounds, hj]
    have hrun : (execOp (ev fun t => a.tmps.getD t undef) ⟨none, .call ⟨.builtin .delete, #[x, y], #[T, T2]⟩, ty, "", #[], none⟩).run P w = .ok (.value (.tuple #[])) (putB w g (.map (es.eraseIdx j).toArray clock)) := by
      generalize (fun t => a.tmps.getD t undef) = σ at e1 e2 ⊢
      simp [execOp, resolve, invoke, builtin, Builtin.delete_, e1, e2, run_underlying hT, MapKept.run_getObj_map h4, run_checkKeyS hK, run_findKey hK q3, run_setObj_at h4, her]
    rw [hrun]
    exact hKx _ _ (rest _ _ (fin _ _ (by rw [← her]; exact MapKept.stamped_erase h6 j) fun M hk => q7.keep hk))
theorem lkS {α : Type} {T K E : TypeId} {x y : Operand} {f : α → List Rp} {m : List (ByteArray × α)} {k : ByteArray} {zs : List Value} {a : α} (hT : P.underlying T = some (.map K E)) (hK : P.underlying K = some .string) (hz : zagg P E = some zs) (ho : zs.all (·.oneCell') = true) (hx : OF lk x (mp f m)) (hy : OF lk y (val (.string k))) (h : lookK k m = some a) :
    OpG P bs lk (.lookup T x y true) ty (tup [agg (f a), val (.bool true)]) := by
  have := lkp (P := P) (bs := bs) (ty := ty) hT hK hz ho hx hy
  rwa [h] at this
theorem lkN {α : Type} {T K E : TypeId} {x y : Operand} {f : α → List Rp} {m : List (ByteArray × α)} {k : ByteArray} {zs : List Value} (hT : P.underlying T = some (.map K E)) (hK : P.underlying K = some .string) (hz : zagg P E = some zs) (ho : zs.all (·.oneCell') = true) (hx : OF lk x (mp f m)) (hy : OF lk y (val (.string k))) (h : lookK k m = none) :
    OpG P bs lk (.lookup T x y true) ty (tup [agg (zs.map val), val (.bool false)]) := by
  have := lkp (P := P) (bs := bs) (ty := ty) hT hK hz ho hx hy
  rwa [h] at this
theorem PureC.imp1 {f : FuncId} {R R1 res : Rp} {args : List Rp} (h : ∀ v w M, R.h v w M → R1.h v w M) (hc : PureC P f (R1 :: args) res) : PureC P f (R :: args) res :=
  ⟨hc.1, fun w M vs hm hvs => by
    cases vs with
    | nil => exact hvs.elim
    | cons v vs => exact hc.2 w M (v :: vs) hm ⟨h _ _ _ hvs.1, hvs.2⟩⟩
theorem PureC.or1 {f : FuncId} {R R1 R2 res : Rp} {args : List Rp} (h : ∀ v w M, R.h v w M → R1.h v w M ∨ R2.h v w M) (hc : PureC P f (R1 :: args) res) (hc2 : PureC P f (R2 :: args) res) : PureC P f (R :: args) res :=
  ⟨hc.1, fun w M vs hm hvs => by
    cases vs with
    | nil => exact hvs.elim
    | cons v vs =>
      rcases h _ _ _ hvs.1 with h | h
      · exact hc.2 w M (v :: vs) hm ⟨h, hvs.2⟩
      · exact hc2.2 w M (v :: vs) hm ⟨h, hvs.2⟩⟩
theorem WP.freezeM {α : Type} (i t : Nat) {g : Nat} {kv : List (ByteArray × List Rp)} (f : α → List Rp) (m : List (ByteArray × α)) (hi : bs[i]? = some (.m g kv)) (hkv : kv = mapK f m) (ht : look st t = some (val (.map (some g))))
    (h : WP P w0 M0 n (bs.set i (.r nilS 0 0 0 [])) ((t, mp f m) :: st) c Q) : WP P w0 M0 n bs st c Q := fun a w hok => by
  subst hkv
  have h1 : Ok w0 M0 n (bs.set i (.r nilS 0 0 0 [])) st a w := hok.change hi (fun _ _ _ => rfl) (Nat.le_refl _) rfl rfl rfl (fun g hg => by cases hg) (fun g hg => by cases hg) fun M _ => ⟨[], ⟨by simp, .inl ⟨rfl, rfl⟩⟩, trivial⟩
  have hle : ∀ b, mkM M0 (bs.set i (.r nilS 0 0 0 [])) b → mkM M0 bs b := fun b hb => hb.imp id fun hb => by
    rcases mem_blks_set hb with h2 | ⟨j, z, _, h2, h3⟩
    · cases h2
    · exact mem_blks (List.mem_of_getElem? h2) h3
  obtain ⟨es, clock, h4, h6, h5⟩ := hok.boxes _ (List.mem_of_getElem? hi)
  have hgm : ¬ mkM M0 (bs.set i (.r nilS 0 0 0 [])) g := fun hb => by
    rcases hb with hb | hb
    · exact hok.m0 g (mem_blks (List.mem_of_getElem? hi) rfl) hb
    · rcases mem_blks_set hb with h2 | ⟨j, z, hne, h2, h3⟩
      · cases h2
      · exact hne (blks_uniq hok.nodup hi h2 rfl h3).symm
  refine h a w ⟨h1.defers, h1.size, fun t' R ht' => ?_, h1.boxes, h1.nodup, h1.fresh, h1.below, h1.msk, h1.m0⟩
  simp only [look] at ht'
  split at ht'
  · rename_i e'; subst e'; cases ht'
    exact .inr ⟨g, hok.facts _ _ ht, (Array.getElem?_eq_some_iff.1 h4).1, hgm, es, clock, h4, h6, h5.keep (Kp.less w hle)⟩
  · exact h1.facts t' R ht'
end
end Go.Fw

/- Strings. No program in sight. -/
namespace Go.Fw
open Go.RowKit Go.Proofs
set_option linter.unusedVariables false
set_option linter.unusedSimpArgs false
section
variable {P : Program} {bs : List Box} {lk : Nat → Option Rp} {ty T T' : TypeId} {x y : Operand} {s a b : ByteArray}
def FU (b : UInt8) : List Rp := [val (.int .u8 (b.toNat : Int))]
def chr (s : ByteArray) (i : Nat) : UInt8 := s.data.toList.getD i default
theorem lens (hT : P.underlying T = some .string) (hx : OF lk x (val (.string s))) : OpG P bs lk (.call ⟨.builtin .len, #[x], #[T]⟩) ty (val (.int .i64 s.size)) := opr fun σ w M hf => by
  have h1 : ev σ x = _ := hx σ w M (hf x (by simp [Op.operands, Call.operands]))
  simp [execOp, resolve, invoke, builtin, Builtin.len_, h1, run_underlying hT, goInt]
theorem ixs {kd : IntKind} {i : Int} (hT : P.underlying T = some .string) (hx : OF lk x (val (.string s))) (hy : OF lk y (val (.int kd i))) (h0 : 0 ≤ i) (h1 : i < s.size) : OpG P bs lk (.index T x y) ty (val (.int .u8 ((chr s i.toNat).toNat : Int))) := opr fun σ w M hf => by
  have e1 : ev σ x = _ := hx σ w M (hf x (by simp [Op.operands]))
  have e2 : ev σ y = _ := hy σ w M (hf y (by simp [Op.operands]))
  have hlt : i.toNat < s.size := by omega
  have hg : s[i.toNat]? = some (chr s i.toNat) := by
    have hlt' : i.toNat < s.data.toList.length := by rw [Array.length_toList]; exact hlt
    unfold chr
    rw [getElem?_pos s i.toNat hlt, List.getD_eq_getElem?_getD, List.getElem?_eq_getElem hlt']
    rfl
  simp [execOp, Instr.index, e1, e2, run_underlying hT, asIntOf, h0, hg]
theorem toList_inj {a b : ByteArray} : (a.toList == b.toList) = decide (a = b) := by
  have := MapKept.bytes_beq a b
  rw [Bool.eq_iff_iff, decide_eq_true_eq, ← this, beq_toListBytes]
theorem sne (hx : OF lk x (val (.string a))) (hy : OF lk y (val (.string b))) : OpG P bs lk (.binOp .neq T x y T') ty (val (.bool (!decide (a = b)))) := opr fun σ w M hf => by
  have h1 : ev σ x = _ := hx σ w M (hf x (by simp [Op.operands, Call.operands])); have h2 : ev σ y = _ := hy σ w M (hf y (by simp [Op.operands, Call.operands]))
  simp [execOp, h1, h2, eqGuard, binOp_string_neq, toList_inj]
theorem seq_ (hx : OF lk x (val (.string a))) (hy : OF lk y (val (.string b))) : OpG P bs lk (.binOp .eql T x y T') ty (val (.bool (decide (a = b)))) := opr fun σ w M hf => by
  have h1 : ev σ x = _ := hx σ w M (hf x (by simp [Op.operands, Call.operands])); have h2 : ev σ y = _ := hy σ w M (hf y (by simp [Op.operands, Call.operands]))
  simp [execOp, h1, h2, eqGuard, binOp_string_eql, toList_inj]
theorem cvsb {e : TypeId} (hT : P.underlying T = some .string) (hD : P.underlying T' = some (.slice e)) (he : P.underlying e = some (.int .u8)) (hx : OF lk x (val (.string s))) : OpG P bs lk (.convert T T' x) ty (sl 1 FU s.data.toList) := fun σ w M hm hf _ => by
  have h1 : ev σ x = _ := hx σ w M (hf x (by simp [Op.operands, Call.operands]))
  have hr := run_bytes_of_string (P := P) w T T' e s hT hD he
  have hrun : (execOp (ev σ) ⟨none, .convert T T' x, ty, "", #[], none⟩).run P w = .ok (.value (.slice (some ⟨w.heap.size, 0, none⟩) s.size (grownCap w s.size 0 e)))
      (w.drew.alloc (.cells (bytesRow s (grownCap w s.size 0 e)) e ((bytesRow s (grownCap w s.size 0 e)).size, (bytesRow s (grownCap w s.size 0 e)).size + 1))) := by
    simp [execOp, h1, hr]
  rw [hrun]
  have hds : w.drew.heap.size = w.heap.size := rfl
  refine ⟨⟨some ⟨w.heap.size, 0, none⟩, grownCap w s.size 0 e, by rw [Array.length_toList]; rfl, ?_, .inr ⟨w.heap.size, 0, rfl, ?_, fun h => ?_, fun i u hu => ?_⟩⟩, (Below.refl _ w).drew.alloc (Nat.le_refl _) _⟩
  · rw [Array.length_toList]
    exact grownCap_ge w s.size 0 e
  · simp
  · have := hm _ h; omega
  · rw [Nat.zero_add, Nat.mul_one]
    obtain ⟨hlt, hu⟩ := List.getElem?_eq_some_iff.1 hu
    rw [Array.length_toList] at hlt
    have hc := World.cell?_alloc_mark w.drew (bytesRow s (grownCap w s.size 0 e)) e ((bytesRow s (grownCap w s.size 0 e)).size, (bytesRow s (grownCap w s.size 0 e)).size + 1) i
    rw [hds, bytesRow_at s _ i hlt] at hc
    refine ⟨⟨_, hc, rfl, ?_⟩, trivial⟩
    rw [Array.getElem_toList] at hu
    rw [hu]; rfl
end
end Go.Fw

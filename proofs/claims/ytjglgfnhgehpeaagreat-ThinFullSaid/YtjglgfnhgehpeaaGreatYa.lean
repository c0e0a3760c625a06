/- Parts: Fw, Fwo. -/
import Derived.WalkKit
import Derived.MapKept
import Derived.Shelf.Abstract
/- A small logic for walking Go functions that only make new memory: facts about slots, boxes of the call's own, regions in any order. No program in sight. -/
namespace Go.Fw
open Go.RowKit

abbrev Mask := Nat → Prop

structure Kp (w : World) (M : Mask) (w' : World) (M' : Mask) : Prop where
  block : ∀ b, b < w.heap.size → ¬ M b → w'.heap[b]? = w.heap[b]?
  size : w.heap.size ≤ w'.heap.size
  mask : ∀ b, M' b → M b ∨ w.heap.size ≤ b
theorem Kp.refl (w : World) (M : Mask) : Kp w M w M := ⟨fun _ _ _ => rfl, Nat.le_refl _, fun _ h => .inl h⟩
theorem Kp.trans {w w1 w2 : World} {M M1 M2 : Mask} (h : Kp w M w1 M1) (k : Kp w1 M1 w2 M2) : Kp w M w2 M2 :=
  ⟨fun b hb hm => (k.block b (Nat.lt_of_lt_of_le hb h.size) (fun h1 => (h.mask b h1).elim hm (fun h2 => by omega))).trans (h.block b hb hm),
   Nat.le_trans h.size k.size, fun b hb => (k.mask b hb).elim (fun h1 => h.mask b h1) (fun h2 => .inr (Nat.le_trans h.size h2))⟩
theorem Kp.of_below {w w' : World} (M : Mask) (h : Below w.heap.size w w') : Kp w M w' M := ⟨fun b hb _ => h.block b hb, h.size, fun _ h => .inl h⟩
theorem Kp.less (w : World) {M M' : Mask} (h : ∀ b, M' b → M b) : Kp w M w M' := ⟨fun _ _ _ => rfl, Nat.le_refl _, fun b hb => .inl (h b hb)⟩

structure Rp where
  h : Value → World → Mask → Prop
  keep : ∀ {v w M w' M'}, h v w M → Kp w M w' M' → h v w' M'

def val (u : Value) : Rp := ⟨fun v _ _ => v = u, fun h _ => h⟩
def any : Rp := ⟨fun _ _ _ => True, fun h _ => h⟩
def gd (c : Prop) (R : Rp) : Rp := ⟨fun v w M => (c ∧ R.h v w M) ∨ (¬ c ∧ v = undef), fun h k => h.imp (fun h => ⟨h.1, R.keep h.2 k⟩) id⟩

def All2 (w : World) (M : Mask) : List Rp → List Value → Prop
  | [], [] => True
  | r :: rs, v :: vs => (r.h v w M ∧ v.oneCell' = true) ∧ All2 w M rs vs
  | _, _ => False
theorem All2.keep {w w' : World} {M M' : Mask} (k : Kp w M w' M') : ∀ {rs : List Rp} {vs : List Value}, All2 w M rs vs → All2 w' M' rs vs
  | [], [], _ => trivial
  | _ :: _, _ :: _, h => ⟨⟨Rp.keep _ h.1.1 k, h.1.2⟩, All2.keep k h.2⟩
theorem All2.length {w : World} {M : Mask} : ∀ {rs : List Rp} {vs : List Value}, All2 w M rs vs → rs.length = vs.length
  | [], [], _ => rfl
  | _ :: _, _ :: _, h => by simp [All2.length h.2]
theorem All2.one {w : World} {M : Mask} : ∀ {rs : List Rp} {vs : List Value}, All2 w M rs vs → ∀ v ∈ vs, v.oneCell' = true
  | [], [], _, v, hv => by simp at hv
  | _ :: _, _ :: _, h, v, hv => by
    rcases List.mem_cons.1 hv with rfl | hv
    · exact h.1.2
    · exact All2.one h.2 v hv
theorem All2.get {w : World} {M : Mask} : ∀ {rs : List Rp} {vs : List Value}, All2 w M rs vs → ∀ (i : Nat) (r : Rp), rs[i]? = some r → ∃ v, vs[i]? = some v ∧ r.h v w M ∧ v.oneCell' = true
  | [], [], _, i, r, hr => by simp at hr
  | r :: _, v :: _, h, 0, r', hr => by simp at hr; subst hr; exact ⟨v, rfl, h.1⟩
  | _ :: _, _ :: _, h, i + 1, r', hr => by
    obtain ⟨v, h1, h2⟩ := All2.get h.2 i r' (by simpa using hr)
    exact ⟨v, by simpa using h1, h2⟩
theorem All2.set {w : World} {M : Mask} : ∀ {rs : List Rp} {vs : List Value}, All2 w M rs vs → ∀ (i : Nat) (r : Rp) (v : Value), r.h v w M → v.oneCell' = true → All2 w M (rs.set i r) (vs.set i v)
  | [], [], _, _, _, _, _, _ => trivial
  | _ :: _, _ :: _, h, 0, _, _, h1, h2 => ⟨⟨h1, h2⟩, h.2⟩
  | _ :: _, _ :: _, h, i + 1, r, v, h1, h2 => ⟨h.1, All2.set h.2 i r v h1 h2⟩
theorem All2.append {w : World} {M : Mask} : ∀ {rs : List Rp} {vs : List Value} {rs' : List Rp} {vs' : List Value}, All2 w M rs vs → All2 w M rs' vs' → All2 w M (rs ++ rs') (vs ++ vs')
  | [], [], _, _, _, h' => h'
  | _ :: _, _ :: _, _, _, h, h' => ⟨h.1, All2.append h.2 h'⟩

def TupAll (w : World) (M : Mask) : List Rp → List Value → Prop
  | [], [] => True
  | r :: rs, v :: vs => r.h v w M ∧ TupAll w M rs vs
  | _, _ => False
theorem TupAll.keep {w w' : World} {M M' : Mask} (k : Kp w M w' M') : ∀ {rs : List Rp} {vs : List Value}, TupAll w M rs vs → TupAll w' M' rs vs
  | [], [], _ => trivial
  | _ :: _, _ :: _, h => ⟨Rp.keep _ h.1 k, TupAll.keep k h.2⟩
theorem TupAll.get {w : World} {M : Mask} : ∀ {rs : List Rp} {vs : List Value}, TupAll w M rs vs → ∀ (i : Nat) (r : Rp), rs[i]? = some r → ∃ v, vs[i]? = some v ∧ r.h v w M
  | [], [], _, i, r, hr => by simp at hr
  | r :: _, v :: _, h, 0, r', hr => by simp at hr; subst hr; exact ⟨v, rfl, h.1⟩
  | _ :: _, _ :: _, h, i + 1, r', hr => by
    obtain ⟨v, h1, h2⟩ := TupAll.get h.2 i r' (by simpa using hr)
    exact ⟨v, by simpa using h1, h2⟩

def agg (rs : List Rp) : Rp := ⟨fun v w M => ∃ vs : List Value, v = .agg vs.toArray ∧ All2 w M rs vs, fun ⟨vs, h1, h2⟩ k => ⟨vs, h1, h2.keep k⟩⟩
def tup (rs : List Rp) : Rp := ⟨fun v w M => ∃ vs : List Value, v = .tuple vs.toArray ∧ TupAll w M rs vs, fun ⟨vs, h1, h2⟩ k => ⟨vs, h1, h2.keep k⟩⟩

def CellsAt (w : World) (M : Mask) (b : Nat) : Nat → List Rp → Prop
  | _, [] => True
  | o, r :: rs => (∃ c, w.cell? ⟨b, o, none⟩ = some c ∧ c.oneCell' = true ∧ r.h c w M) ∧ CellsAt w M b (o + 1) rs
theorem CellsAt.keep {w w' : World} {M M' : Mask} (k : Kp w M w' M') {b : Nat} (hb : b < w.heap.size) (hm : ¬ M b) : ∀ {rs : List Rp} {o : Nat}, CellsAt w M b o rs → CellsAt w' M' b o rs
  | [], _, _ => trivial
  | _ :: _, _, ⟨⟨c, h1, h2, h3⟩, h4⟩ => ⟨⟨c, (World.cell?_of_block (w := w) (a := ⟨b, _, none⟩) (k.block b hb hm)).trans h1, h2, Rp.keep _ h3 k⟩, CellsAt.keep k hb hm h4⟩
theorem CellsAt.drop {w : World} {M : Mask} {b : Nat} : ∀ {rs : List Rp} {o : Nat} (k : Nat), CellsAt w M b o rs → CellsAt w M b (o + k) (rs.drop k)
  | rs, o, 0, h => h
  | [], _, _ + 1, _ => trivial
  | _ :: rs, o, k + 1, h => by have := CellsAt.drop k h.2; rw [List.drop_succ_cons]; rwa [show o + 1 + k = o + (k + 1) from by omega] at this
theorem CellsAt.all2 {w : World} {M : Mask} {b : Nat} : ∀ {rs : List Rp} {o : Nat}, CellsAt w M b o rs → ∃ cs : List Value, All2 w M rs cs ∧ ∀ j v, cs[j]? = some v → w.cell? ⟨b, o + j, none⟩ = some v
  | [], _, _ => ⟨[], trivial, fun j v h => by simp at h⟩
  | r :: rs, o, ⟨⟨c, h1, h2, h3⟩, h4⟩ => by
    obtain ⟨cs, k1, k2⟩ := CellsAt.all2 h4
    refine ⟨c :: cs, ⟨⟨h3, h2⟩, k1⟩, fun j v hj => ?_⟩
    cases j with
    | zero => simp at hj; subst hj; exact h1
    | succ j => rw [show o + (j + 1) = o + 1 + j from by omega]; exact k2 j v (by simpa using hj)
theorem CellsAt.of_all2 {w : World} {M : Mask} {b : Nat} : ∀ {rs : List Rp} {cs : List Value} {o : Nat}, All2 w M rs cs → (∀ j v, cs[j]? = some v → w.cell? ⟨b, o + j, none⟩ = some v) → CellsAt w M b o rs
  | [], [], _, _, _ => trivial
  | r :: rs, c :: cs, o, h, hc => ⟨⟨c, by simpa using hc 0 c rfl, h.1.2, h.1.1⟩, CellsAt.of_all2 h.2 fun j v hj => by rw [show o + 1 + j = o + (j + 1) from by omega]; exact hc (j + 1) v (by simpa using hj)⟩
theorem CellsAt.take {w : World} {M : Mask} {b : Nat} : ∀ {rs : List Rp} {o : Nat} (k : Nat), CellsAt w M b o rs → CellsAt w M b o (rs.take k)
  | _, _, 0, _ => trivial
  | [], _, _ + 1, _ => trivial
  | _ :: _, _, k + 1, h => ⟨h.1, CellsAt.take k h.2⟩

def at_ (rs : List Rp) : Rp := ⟨fun v w M => ∃ b o, v = .pointer (some ⟨b, o, none⟩) ∧ b < w.heap.size ∧ ¬ M b ∧ CellsAt w M b o rs,
  fun ⟨b, o, h1, h2, h3, h4⟩ k => ⟨b, o, h1, Nat.lt_of_lt_of_le h2 k.size, fun hm => (k.mask b hm).elim h3 (fun h => by omega), h4.keep k h2 h3⟩⟩

def sl {α : Type} (sz : Nat) (f : α → List Rp) (xs : List α) : Rp :=
  ⟨fun v w M => ∃ A c, v = .slice A xs.length c ∧ xs.length ≤ c ∧ (xs = [] ∨ ∃ b o, A = some ⟨b, o, none⟩ ∧ b < w.heap.size ∧ ¬ M b ∧ ∀ i x, xs[i]? = some x → CellsAt w M b (o + i * sz) (f x)),
   fun ⟨A, c, h1, h2, h3⟩ k => ⟨A, c, h1, h2, h3.imp id fun ⟨b, o, g1, g2, g3, g4⟩ => ⟨b, o, g1, Nat.lt_of_lt_of_le g2 k.size, fun hm => (k.mask b hm).elim g3 (fun h => by omega), fun i x hx => (g4 i x hx).keep k g2 g3⟩⟩⟩

def MapAll (w : World) (M : Mask) : List (ByteArray × List Rp) → List MapEntry → Prop
  | [], [] => True
  | x :: kv, e :: es => (e.key = .string x.1 ∧ ∃ vs : List Value, e.val = .agg vs.toArray ∧ All2 w M x.2 vs) ∧ MapAll w M kv es
  | _, _ => False
theorem MapAll.keep {w w' : World} {M M' : Mask} (k : Kp w M w' M') : ∀ {kv : List (ByteArray × List Rp)} {es : List MapEntry}, MapAll w M kv es → MapAll w' M' kv es
  | [], [], _ => trivial
  | _ :: _, _ :: _, ⟨⟨h1, vs, h2, h3⟩, h4⟩ => ⟨⟨h1, vs, h2, h3.keep k⟩, MapAll.keep k h4⟩

inductive Box where
  | b (g : Nat) (T : TypeId) (rs : List Rp)
  | r (v : Value) (e : TypeId) (sz n : Nat) (rs : List Rp)
  /-- a loop's own block for deferred calls -/
  | d (D : Nat)
  /-- a map of one's own -/
  | m (g : Nat) (kv : List (ByteArray × List Rp))
def Box.blk : Box → Option Nat
  | .b g _ _ => some g
  | .r v _ _ _ _ => v.ownBlock
  | .d D => some D
  | .m g _ => some g
def Box.mark : Box → Option Deferred
  | .d D => some { target := .collected D, args := #[] }
  | _ => none
def defs (bs : List Box) : List Deferred := bs.filterMap Box.mark
def blks (bs : List Box) : List Nat := bs.filterMap Box.blk
abbrev St := List (Nat × Rp)
def look : St → Nat → Option Rp
  | [], _ => none
  | (u, r) :: s, t => if t = u then some r else look s t
def mkM (M0 : Mask) (bs : List Box) : Mask := fun b => M0 b ∨ b ∈ blks bs
def BoxOk (w : World) (M : Mask) : Box → Prop
  | .b g T rs => ∃ cs : List Value, w.heap[g]? = some (.cells cs.toArray T (0, 0)) ∧ All2 w M rs cs
  | .r v e sz n rs => ∃ cs : List Value, w.ownsRow 0 e sz v n cs ∧ All2 w M rs cs
  | .d D => w.heap[D]? = some (.deferred (some []))
  | .m g kv => ∃ (es : List MapEntry) (clock : Nat), w.heap[g]? = some (.map es.toArray clock) ∧ MapKept.Stamped es.toArray clock ∧ MapAll w M kv es
theorem BoxOk.same {w w' : World} {M M' : Mask} {x : Box} (h : BoxOk w M x) (hb : ∀ g, x.blk = some g → g < w.heap.size → w'.heap[g]? = w.heap[g]?) (k : Kp w M w' M') : BoxOk w' M' x := by
  cases x with
  | b g T rs =>
    obtain ⟨cs, h1, h2⟩ := h
    exact ⟨cs, (hb g rfl (Array.getElem?_eq_some_iff.1 h1).1).trans h1, h2.keep k⟩
  | r v e sz n rs =>
    obtain ⟨cs, ⟨h0, h1⟩, h2⟩ := h
    refine ⟨cs, ⟨h0, h1.imp id ?_⟩, h2.keep k⟩
    rintro ⟨g, cap, cur, rfl, g1, g2, g3⟩
    exact ⟨g, cap, cur, rfl, g1, (hb g rfl (Array.getElem?_eq_some_iff.1 g2).1).trans g2, g3⟩
  | d D => exact (hb D rfl (Array.getElem?_eq_some_iff.1 h).1).trans h
  | m g kv =>
    obtain ⟨es, clock, h1, h3, h2⟩ := h
    exact ⟨es, clock, (hb g rfl (Array.getElem?_eq_some_iff.1 h1).1).trans h1, h3, h2.keep k⟩
theorem defs_app (A B : List Box) : defs (A ++ B) = defs A ++ defs B := List.filterMap_append
theorem defs_none {A : List Box} (h : ∀ x ∈ A, x.mark = none) : defs A = [] := List.filterMap_eq_nil_iff.2 h
theorem defs_cons {x : Box} (h : x.mark = none) (bs : List Box) : defs (x :: bs) = defs bs := by unfold defs; rw [List.filterMap_cons, h]
theorem defs_set {y : Box} : ∀ {bs : List Box} {i : Nat} {x : Box}, bs[i]? = some x → x.mark = y.mark → defs (bs.set i y) = defs bs
  | x' :: bs, 0, x, h, e => by
    have h : x' = x := by simpa using h
    subst h
    unfold defs
    rw [List.set_cons_zero, List.filterMap_cons, List.filterMap_cons, e]
  | x' :: bs, i + 1, x, h, e => by
    have ih := defs_set (bs := bs) (i := i) (x := x) (by simpa using h) e
    unfold defs at *
    rw [List.set_cons_succ, List.filterMap_cons, List.filterMap_cons, ih]
theorem BoxOk.below {w w' : World} {M : Mask} {x : Box} (h : BoxOk w M x) (hb : Below w.heap.size w w') : BoxOk w' M x := h.same (fun g _ hg => hb.block g hg) (Kp.of_below M hb)
theorem mem_blks {bs : List Box} {x : Box} {g : Nat} (hx : x ∈ bs) (h : x.blk = some g) : g ∈ blks bs := List.mem_filterMap.2 ⟨x, hx, h⟩
structure Ok (w0 : World) (M0 : Mask) (n : Nat) (bs : List Box) (st : St) (a : Act) (w : World) : Prop where
  defers : a.defers = defs bs
  size : a.tmps.size = n
  facts : ∀ t R, look st t = some R → R.h (a.tmps.getD t undef) w (mkM M0 bs)
  boxes : ∀ x ∈ bs, BoxOk w (mkM M0 bs) x
  nodup : (blks bs).Nodup
  fresh : ∀ g ∈ blks bs, w0.heap.size ≤ g
  below : Below w0.heap.size w0 w
  msk : ∀ b, mkM M0 bs b → b < w.heap.size
  m0 : ∀ g ∈ blks bs, ¬ M0 g

def WP (P : Program) (w0 : World) (M0 : Mask) (n : Nat) (bs : List Box) (st : St) (c : Code) (Q : Exit → Act → World → Prop) : Prop :=
  ∀ a w, Ok w0 M0 n bs st a w → c.wp P Q a w
def WL (P : Program) (w0 : World) (M0 : Mask) (n : Nat) (bs : List Box) (st : St) (ops : Array Oper) (l : List Oper) (Q : Exit → Act → World → Prop) : Prop :=
  ∀ a w, Ok w0 M0 n bs st a w → wpList P ops Q l a w

def ev (σ : Nat → Value) : Operand → Value
  | .tmp t => σ t
  | .const v => v
  | .global g => .pointer (some ⟨g, 0, none⟩)
  | .func f => .func (.func f) #[] #[]
theorem eval_ev (a : Act) : a.eval = ev (fun t => a.tmps.getD t undef) := by funext x; cases x <;> rfl

def Does (P : Program) (K : Value → World → Prop) : Result Next → Prop
  | .ok (.value v) w' => K v w'
  | .ok (.enter f args) w' => Calls P f args w' fun e w'' => ∃ v, e = .returned v ∧ K v w''
  | .ok (.row r args) w' => Rows P r args w' K
  | _ => False
theorem Does.mono {P : Program} {K K' : Value → World → Prop} {r : Result Next} (h : Does P K r) (k : ∀ v w, K v w → K' v w) : Does P K' r := by
  cases r with
  | halt x w => exact (h : False).elim
  | ok x w =>
    cases x
    case value v => exact k _ _ h
    case enter f args => exact Calls.mono h fun e w ⟨v, he, hk⟩ => ⟨v, he, k _ _ hk⟩
    case row row args => exact Rows.mono h fun v w hk => k _ _ hk
    all_goals exact (h : False).elim

def Fa (lk : Nat → Option Rp) (op : Op) (σ : Nat → Value) (w : World) (M : Mask) : Prop := ∀ x ∈ op.operands.toList, ∀ i R', x = .tmp i → lk i = some R' → R'.h (σ i) w M
def OpG (P : Program) (bs : List Box) (lk : Nat → Option Rp) (op : Op) (ty : TypeId) (R : Rp) : Prop :=
  ∀ (σ : Nat → Value) (w : World) (M : Mask), (∀ b, M b → b < w.heap.size) → Fa lk op σ w M → (∀ x ∈ bs, BoxOk w M x) →
    Does P (fun v w' => R.h v w' M ∧ Below w.heap.size w w') ((execOp (ev σ) ⟨none, op, ty, "", #[], none⟩).run P w)

theorem exec_eq (ρ : Operand → Value) (d : Option Nat) (op : Op) (ty : TypeId) (pos : String) (af : Array Edge) (g : Option (Nat × Bool)) :
    execOp ρ ⟨d, op, ty, pos, af, g⟩ = execOp ρ ⟨none, op, ty, "", #[], none⟩ := by cases op <;> rfl

theorem wp_of_does {P : Program} {ρ : Operand → Value} {K : Act → World → Prop} {Q : Exit → Act → World → Prop} {o : Oper} {a : Act} {w : World}
    (he : ρ = a.eval) (h : Does P (fun v w' => K (a.put o.dst v) w') ((execOp ρ o).run P w)) : o.wp P a w K Q := by
  subst he
  unfold Oper.wp
  generalize (execOp a.eval o).run P w = r at h
  cases r with
  | halt x w => exact (h : False).elim
  | ok x w =>
    cases x
    case value v => exact h
    case enter f args => exact Calls.mono h fun e w ⟨v, he, hk⟩ => by subst he; exact hk
    case row row args => exact h
    all_goals exact (h : False).elim

theorem getD_put {a : Act} {d : Nat} {v : Value} (hd : d < a.tmps.size) (t : Nat) : (a.put (some d) v).tmps.getD t undef = if t = d then v else a.tmps.getD t undef := by
  simp only [Act.put, Array.getD_eq_getD_getElem?, Array.getElem?_setIfInBounds]
  by_cases h : d = t
  · subst h; simp [hd]
  · rw [if_neg h, if_neg (Ne.symm h)]

theorem Ok.put {w0 : World} {M0 : Mask} {n : Nat} {bs : List Box} {st : St} {a : Act} {w w' : World} (h : Ok w0 M0 n bs st a w) {d : Nat} (hd : d < n) {v : Value} {R : Rp}
    (hb : Below w.heap.size w w') (hR : R.h v w' (mkM M0 bs)) : Ok w0 M0 n bs ((d, R) :: st) (a.put (some d) v) w' where
  defers := h.defers
  size := by simp [Act.put, h.size]
  facts := fun t R' ht => by
    rw [getD_put (by rw [h.size]; exact hd)]
    simp only [look] at ht
    split at ht
    · rename_i e; subst e; rw [if_pos rfl]; cases ht; exact hR
    · rename_i e; rw [if_neg e]; exact R'.keep (h.facts t R' ht) (Kp.of_below _ hb)
  boxes := fun x hx => (h.boxes x hx).below hb
  nodup := h.nodup
  fresh := h.fresh
  below := h.below.trans (hb.mono h.below.size)
  msk := fun b hb' => Nat.lt_of_lt_of_le (h.msk b hb') hb.size
  m0 := h.m0

section
variable {P : Program} {w0 : World} {M0 : Mask} {n : Nat} {bs : List Box} {st : St} {ops : Array Oper} {l : List Oper} {Q : Exit → Act → World → Prop}

theorem wl_op {o : Oper} {a : Act} {w : World} (hg : o.guard = none) (h : Does P (fun v w' => wpList P ops Q l (a.put o.dst v) w') ((execOp a.eval o).run P w)) : wpList P ops Q (o :: l) a w :=
  wpList_plain hg fun _ hK => wp_of_does rfl (h.mono fun _ _ hk => hK _ _ hk)
theorem WL.op {d : Nat} {op : Op} {ty : TypeId} {pos : String} {af : Array Edge} {R : Rp} (h : OpG P bs (look st) op ty R) (hd : d < n)
    (rest : WL P w0 M0 n bs ((d, R) :: st) ops l Q) : WL P w0 M0 n bs st ops (⟨some d, op, ty, pos, af, none⟩ :: l) Q := by
  intro a w hok
  have h1 := (h _ w _ hok.msk (fun _ _ t R' _ ht => hok.facts t R' ht) hok.boxes).mono (K' := fun v w' => wpList P ops Q l (a.put (some d) v) w') fun v w' ⟨hR, hb⟩ => rest _ _ (hok.put hd hb hR)
  exact wl_op (o := ⟨some d, op, ty, pos, af, none⟩) rfl (by rw [eval_ev, exec_eq]; exact h1)
theorem WL.nil (h : ∀ a w, Ok w0 M0 n bs st a w → Q .normal a w) : WL P w0 M0 n bs st ops [] Q := fun a w hok => wpList_nil (h a w hok)

theorem WP.region {id : Nat} {l : List Oper} (h : WL P w0 M0 n bs st l.toArray l Q) : WP P w0 M0 n bs st (.region id l.toArray false) Q :=
  fun a w hok => wp_region_lit (h a w hok)
theorem WP.seq {x y : Code} (h : WP P w0 M0 n bs st x (Exit.then (y.wp P Q) Q)) : WP P w0 M0 n bs st (.seq x y) Q := fun a w hok => wp_seq (h a w hok)
theorem WP.block {id : Nat} {c : Code} (h : WP P w0 M0 n bs st c (Exit.inBlock id Q)) : WP P w0 M0 n bs st (.block id c) Q := fun a w hok => wp_block (h a w hok)
theorem WP.skip (h : ∀ a w, Ok w0 M0 n bs st a w → Q .normal a w) : WP P w0 M0 n bs st .skip Q := fun a w hok => wp_skip (h a w hok)
theorem WP.exit {id : Nat} (h : ∀ a w, Ok w0 M0 n bs st a w → Q (.exit id) a w) : WP P w0 M0 n bs st (.exit id) Q := fun a w hok => wp_exit (h a w hok)
theorem WP.ret (h : ∀ a w, Ok w0 M0 n bs st a w → Q .ret a w) : WP P w0 M0 n bs st .ret Q := fun a w hok => wp_ret (h a w hok)
theorem WP.cond {t : Nat} {b : Bool} {x y : Code} (hs : look st t = some (val (.bool b))) (ht : b = true → WP P w0 M0 n bs st x Q) (hf : b = false → WP P w0 M0 n bs st y Q) :
    WP P w0 M0 n bs st (.cond (.tmp t) x y) Q := fun a w hok => wp_cond_split (hok.facts t _ hs) (fun h => ht h a w hok) (fun h => hf h a w hok)
theorem WP.weak {bs' : List Box} {st' : St} {c : Code} (h : WP P w0 M0 n bs' st' c Q) (hs : ∀ a w, Ok w0 M0 n bs st a w → Ok w0 M0 n bs' st' a w) : WP P w0 M0 n bs st c Q :=
  fun a w hok => h a w (hs a w hok)
end
end Go.Fw

/- The operations, one law each, over facts about their operands. No program in sight. -/
namespace Go.Fw
open Go.RowKit Go.Proofs
set_option linter.unusedVariables false
set_option linter.unusedSimpArgs false
theorem ev_const (σ : Nat → Value) (v : Value) : ev σ (.const v) = v := rfl

def OF (lk : Nat → Option Rp) (x : Operand) (R : Rp) : Prop := ∀ (σ : Nat → Value) (w : World) (M : Mask), (∀ i R', x = .tmp i → lk i = some R' → R'.h (σ i) w M) → R.h (ev σ x) w M
section
variable {lk : Nat → Option Rp} {P : Program} {bs : List Box} {ty : TypeId} {x y z : Operand} {R R' : Rp}
theorem ot {i : Nat} (h : lk i = some R) : OF lk (.tmp i) R := fun _ _ _ hf => hf i R rfl h
theorem oc (v : Value) : OF lk (.const v) (val v) := fun _ _ _ _ => rfl
theorem og {i : Nat} {c : Prop} (h : lk i = some (gd c R)) (hc : c) : OF lk (.tmp i) R := fun σ w M hf => (hf i _ rfl h).elim (fun h => h.2) (fun h => absurd hc h.1)

theorem OpG.pure {op : Op} (h : ∀ (σ : Nat → Value) (w : World) (M : Mask), Fa lk op σ w M → (∀ x ∈ bs, BoxOk w M x) →
    ∃ v, (execOp (ev σ) ⟨none, op, ty, "", #[], none⟩).run P w = .ok (.value v) w ∧ R.h v w M) : OpG P bs lk op ty R := by
  intro σ w M _ hf hb
  obtain ⟨v, h1, h2⟩ := h σ w M hf hb
  rw [h1]
  exact ⟨h2, Below.refl _ _⟩

theorem mv (h : OF lk x R) : OpG P bs lk (.move x) ty R := OpG.pure fun σ w M hf _ => ⟨ev σ x, rfl, h σ w M (hf x (by simp [Op.operands]))⟩
theorem asg (h : OF lk x R) : OpG P bs lk (.assign x) ty R := OpG.pure fun σ w M hf _ => ⟨ev σ x, rfl, h σ w M (hf x (by simp [Op.operands]))⟩

theorem opr {op : Op} {v : Value} (h : ∀ (σ : Nat → Value) (w : World) (M : Mask), Fa lk op σ w M → (execOp (ev σ) ⟨none, op, ty, "", #[], none⟩).run P w = .ok (.value v) w) :
    OpG P bs lk op ty (val v) := OpG.pure fun σ w M hf _ => ⟨v, h σ w M hf, rfl⟩

section ints
variable {a b : Int} {T T' : TypeId} {kd : IntKind} {c d : Bool}
theorem addw (hx : OF lk x (val (.int kd a))) (hy : OF lk y (val (.int kd b))) : OpG P bs lk (.binOp .add T x y T') ty (val (.int kd (kd.wrap (a + b)))) :=
  opr fun σ w M hf => by have h1 : ev σ x = _ := hx σ w M (hf x (by simp [Op.operands, Call.operands])); have h2 : ev σ y = _ := hy σ w M (hf y (by simp [Op.operands, Call.operands])); simp [execOp, h1, h2, binOp, eqGuard, Op.intArith]
theorem subw (hx : OF lk x (val (.int kd a))) (hy : OF lk y (val (.int kd b))) : OpG P bs lk (.binOp .sub T x y T') ty (val (.int kd (kd.wrap (a - b)))) :=
  opr fun σ w M hf => by have h1 : ev σ x = _ := hx σ w M (hf x (by simp [Op.operands, Call.operands])); have h2 : ev σ y = _ := hy σ w M (hf y (by simp [Op.operands, Call.operands])); simp [execOp, h1, h2, binOp, eqGuard, Op.intArith]
theorem add (hx : OF lk x (val (.int .i64 a))) (hy : OF lk y (val (.int .i64 b))) (h : -9223372036854775808 ≤ a + b ∧ a + b ≤ 9223372036854775807) : OpG P bs lk (.binOp .add T x y T') ty (val (.int .i64 (a + b))) := by
  have := addw (P := P) (bs := bs) (T := T) (T' := T') (ty := ty) hx hy; rwa [IntWalk.i64_in _ h] at this
theorem sub (hx : OF lk x (val (.int .i64 a))) (hy : OF lk y (val (.int .i64 b))) (h : -9223372036854775808 ≤ a - b ∧ a - b ≤ 9223372036854775807) : OpG P bs lk (.binOp .sub T x y T') ty (val (.int .i64 (a - b))) := by
  have := subw (P := P) (bs := bs) (T := T) (T' := T') (ty := ty) hx hy; rwa [IntWalk.i64_in _ h] at this
theorem lss (hx : OF lk x (val (.int kd a))) (hy : OF lk y (val (.int kd b))) : OpG P bs lk (.binOp .lss T x y T') ty (val (.bool (decide (a < b)))) :=
  opr fun σ w M hf => by have h1 : ev σ x = _ := hx σ w M (hf x (by simp [Op.operands, Call.operands])); have h2 : ev σ y = _ := hy σ w M (hf y (by simp [Op.operands, Call.operands])); simp [execOp, h1, h2, binOp, eqGuard, Op.intCmp]
theorem leq (hx : OF lk x (val (.int kd a))) (hy : OF lk y (val (.int kd b))) : OpG P bs lk (.binOp .leq T x y T') ty (val (.bool (decide (a ≤ b)))) :=
  opr fun σ w M hf => by have h1 : ev σ x = _ := hx σ w M (hf x (by simp [Op.operands, Call.operands])); have h2 : ev σ y = _ := hy σ w M (hf y (by simp [Op.operands, Call.operands])); simp [execOp, h1, h2, binOp, eqGuard, Op.intCmp]
theorem gtr (hx : OF lk x (val (.int kd a))) (hy : OF lk y (val (.int kd b))) : OpG P bs lk (.binOp .gtr T x y T') ty (val (.bool (decide (b < a)))) :=
  opr fun σ w M hf => by have h1 : ev σ x = _ := hx σ w M (hf x (by simp [Op.operands, Call.operands])); have h2 : ev σ y = _ := hy σ w M (hf y (by simp [Op.operands, Call.operands])); simp [execOp, h1, h2, binOp, eqGuard, Op.intCmp]
theorem geq (hx : OF lk x (val (.int kd a))) (hy : OF lk y (val (.int kd b))) : OpG P bs lk (.binOp .geq T x y T') ty (val (.bool (decide (b ≤ a)))) :=
  opr fun σ w M hf => by have h1 : ev σ x = _ := hx σ w M (hf x (by simp [Op.operands, Call.operands])); have h2 : ev σ y = _ := hy σ w M (hf y (by simp [Op.operands, Call.operands])); simp [execOp, h1, h2, binOp, eqGuard, Op.intCmp]
theorem eql (hx : OF lk x (val (.int kd a))) (hy : OF lk y (val (.int kd b))) : OpG P bs lk (.binOp .eql T x y T') ty (val (.bool (decide (a = b)))) :=
  opr fun σ w M hf => by
    have h1 : ev σ x = _ := hx σ w M (hf x (by simp [Op.operands, Call.operands])); have h2 : ev σ y = _ := hy σ w M (hf y (by simp [Op.operands, Call.operands]))
    have e : (a == b) = decide (a = b) := rfl
    simp [execOp, h1, h2, binOp, eqGuard, Op.intCmp, e]
theorem neq (hx : OF lk x (val (.int kd a))) (hy : OF lk y (val (.int kd b))) : OpG P bs lk (.binOp .neq T x y T') ty (val (.bool (!decide (a = b)))) :=
  opr fun σ w M hf => by
    have h1 : ev σ x = _ := hx σ w M (hf x (by simp [Op.operands, Call.operands])); have h2 : ev σ y = _ := hy σ w M (hf y (by simp [Op.operands, Call.operands]))
    have e : (a != b) = !decide (a = b) := rfl
    simp [execOp, h1, h2, binOp, eqGuard, Op.intCmp, e]
theorem not_ (hx : OF lk x (val (.bool c))) : OpG P bs lk (.unOp .not T x) ty (val (.bool (!c))) :=
  opr fun σ w M hf => by have h1 : ev σ x = _ := hx σ w M (hf x (by simp [Op.operands, Call.operands])); simp [execOp, h1, Op.unary]
theorem neg_ (hx : OF lk x (val (.int .i64 a))) (h : -9223372036854775807 ≤ a ∧ a ≤ 9223372036854775807) : OpG P bs lk (.unOp .neg T x) ty (val (.int .i64 (-a))) :=
  opr fun σ w M hf => by
    have h1 : ev σ x = _ := hx σ w M (hf x (by simp [Op.operands, Call.operands]))
    have e : IntKind.i64.wrap (0 - a) = -a := by rw [IntWalk.i64_in _ (by omega)]; omega
    simp only [execOp, h1, Op.unary, Op.intArith, e]; rfl
theorem cv {T T' : TypeId} {kd' : IntKind} {d : TypeDesc} (hT : P.underlying T = some d) (hT' : P.underlying T' = some (.int kd')) (hx : OF lk x (val (.int kd a))) (h : kd'.wrap a = a) : OpG P bs lk (.convert T T' x) ty (val (.int kd' a)) :=
  opr fun σ w M hf => by have h1 : ev σ x = _ := hx σ w M (hf x (by simp [Op.operands, Call.operands])); simp [execOp, h1, convert, run_underlying hT, run_underlying hT', Conv.intToInt, h]
theorem mx_ {ats : Array TypeId} (hx : OF lk x (val (.int kd a))) (hy : OF lk y (val (.int kd b))) : OpG P bs lk (.call ⟨.builtin .max, #[x, y], ats⟩) ty (val (.int kd (max a b))) :=
  opr fun σ w M hf => by
    have h1 : ev σ x = _ := hx σ w M (hf x (by simp [Op.operands, Call.operands])); have h2 : ev σ y = _ := hy σ w M (hf y (by simp [Op.operands, Call.operands]))
    have e : (if a < b then b else a) = max a b := by omega
    simp [execOp, resolve, invoke, builtin, Builtin.max_, Builtin.max2, h1, h2, e]
theorem mn_ {ats : Array TypeId} (hx : OF lk x (val (.int kd a))) (hy : OF lk y (val (.int kd b))) : OpG P bs lk (.call ⟨.builtin .min, #[x, y], ats⟩) ty (val (.int kd (min a b))) :=
  opr fun σ w M hf => by
    have h1 : ev σ x = _ := hx σ w M (hf x (by simp [Op.operands, Call.operands])); have h2 : ev σ y = _ := hy σ w M (hf y (by simp [Op.operands, Call.operands]))
    have e : (if b < a then b else a) = min a b := by omega
    simp [execOp, resolve, invoke, builtin, Builtin.min_, Builtin.min2, h1, h2, e]
end ints
theorem and_ {c d : Bool} (hx : OF lk x (val (.bool c))) (hy : OF lk y (gd (c = true) (val (.bool d)))) : OpG P bs lk (.pick x y (.const (.bool false))) ty (val (.bool (c && d))) :=
  opr fun σ w M hf => by
    have h1 : ev σ x = _ := hx σ w M (hf x (by simp [Op.operands, Call.operands]))
    have h2 := hy σ w M (hf y (by simp [Op.operands, Call.operands]))
    cases c with
    | false => simp [execOp, h1, asBool, ev_const]
    | true =>
      obtain ⟨_, h2⟩ | ⟨h2, _⟩ := h2
      · have h3 : ev σ y = .bool d := h2
        simp [execOp, h1, h3, asBool, ev_const]
      · exact absurd rfl h2
theorem or_ {c d : Bool} (hx : OF lk x (val (.bool c))) (hy : OF lk y (gd (c = false) (val (.bool d)))) : OpG P bs lk (.pick x (.const (.bool true)) y) ty (val (.bool (c || d))) :=
  opr fun σ w M hf => by
    have h1 : ev σ x = _ := hx σ w M (hf x (by simp [Op.operands, Call.operands]))
    have h2 := hy σ w M (hf y (by simp [Op.operands, Call.operands]))
    cases c with
    | true => simp [execOp, h1, asBool, ev_const]
    | false =>
      obtain ⟨_, h2⟩ | ⟨h2, _⟩ := h2
      · have h3 : ev σ y = .bool d := h2
        simp [execOp, h1, h3, asBool, ev_const]
      · exact absurd rfl h2

theorem ex {rs : List Rp} {i : Nat} (hx : OF lk x (tup rs)) (hi : rs[i]? = some R) : OpG P bs lk (.extract x i) ty R :=
  OpG.pure fun σ w M hf _ => by
    obtain ⟨vs, h1, h2⟩ := hx σ w M (hf x (by simp [Op.operands, Call.operands]))
    obtain ⟨v, h3, h4⟩ := h2.get i R hi
    exact ⟨v, by simp [execOp, h1, Instr.extract, h3], h4⟩

def fieldOff (P : Program) (T : TypeId) (f : Nat) : Option Nat :=
  match P.underlying T with
  | some (.struct fs) => match fs[f]? with
    | some fd => match P.info? fd.type with
      | some i => if i.size = 0 then none else some fd.offset
      | none => none
    | none => none
  | _ => none
theorem add_at (b o n : Nat) : (⟨b, o, none⟩ : Addr).add n = ⟨b, o + n, none⟩ := by
  unfold Addr.add
  split
  · rename_i h; subst h; rfl
  · rfl
theorem run_fieldAt {T : TypeId} {f off : Nat} (h : fieldOff P T f = some off) (b o : Nat) (w : World) : (Instr.fieldAt T (.pointer (some ⟨b, o, none⟩)) f).run P w = .ok (.pointer (some ⟨b, o + off, none⟩)) w := by
  unfold fieldOff at h
  split at h
  · rename_i fs hu
    split at h
    · rename_i fd hfd
      split at h
      · rename_i i hi
        split at h
        · cases h
        · rename_i hz
          simp only [Option.some.injEq] at h
          subst h
          simp [Instr.fieldAt, run_underlying hu, hfd, Instr.sureAddr, fieldPlace, sizeOf, typeInfo, hi, hz, add_at]
      · cases h
    · cases h
  · cases h
def scal (P : Program) (T : TypeId) : Bool := match P.underlying T with
  | some (.struct _) | some (.array _ _) | none => false
  | _ => true
def aggs (P : Program) (T : TypeId) : Option Nat := match P.underlying T with
  | some (.struct _) | some (.array _ _) => (P.info? T).map (·.size)
  | _ => none
theorem run_isAgg_scal {T : TypeId} (h : scal P T = true) (w : World) : (isAgg T).run P w = .ok false w := by
  unfold scal at h
  cases hu : P.underlying T with
  | none => rw [hu] at h; simp at h
  | some d => unfold isAgg; rw [Sem.run_bind, run_underlying hu w]; rw [hu] at h; cases d <;> simp_all
theorem run_loadVar_scal {T : TypeId} (h : scal P T = true) {w : World} {ad : Addr} {v : Value} (hc : w.cell? ad = some v) : (loadVar T ad).run P w = .ok v w := by
  simp [loadVar, Sem.run_bind, run_isAgg_scal h, hc]
theorem run_loadVar_agg {T : TypeId} {cs : List Value} (h : aggs P T = some cs.length) {w : World} {b o : Nat} (hc : ∀ j v, cs[j]? = some v → w.cell? ⟨b, o + j, none⟩ = some v) :
    (loadVar T ⟨b, o, none⟩).run P w = .ok (.agg cs.toArray) w := by
  have hl : (loadCells ⟨b, o, none⟩ cs.length).run P w = .ok cs.toArray w := run_loadCells_list (P := P) w ⟨b, o, none⟩ cs (fun j v hv => by rw [add_at]; exact hc j v hv)
  unfold aggs at h
  cases hu : P.underlying T with
  | none => rw [hu] at h; simp at h
  | some d =>
    rw [hu] at h
    have hagg : (isAgg T).run P w = .ok true w := by
      unfold isAgg
      rw [Sem.run_bind, run_underlying hu w]
      cases d <;> simp_all
    have h' : (P.info? T).map (·.size) = some cs.length := by cases d <;> simp_all
    cases hi : P.info? T with
    | none => rw [hi] at h'; simp at h'
    | some i =>
      rw [hi] at h'
      have hs : i.size = cs.length := by simpa using h'
      simp [loadVar, Sem.run_bind, hagg, sizeOf, typeInfo, hi, hs, hl]

theorem fa {T : TypeId} {f off : Nat} {rs : List Rp} (ho : fieldOff P T f = some off) (hx : OF lk x (at_ rs)) : OpG P bs lk (.fieldAddr T x f) ty (at_ (rs.drop off)) :=
  OpG.pure fun σ w M hf _ => by
    obtain ⟨b, o, h1, h2, h3, h4⟩ := hx σ w M (hf x (by simp [Op.operands, Call.operands]))
    exact ⟨.pointer (some ⟨b, o + off, none⟩), by simp [execOp, h1, run_fieldAt ho], b, _, rfl, h2, h3, h4.drop off⟩
theorem fv {T : TypeId} {f off b o : Nat} (ho : fieldOff P T f = some off) (hx : OF lk x (val (.pointer (some ⟨b, o, none⟩)))) : OpG P bs lk (.fieldAddr T x f) ty (val (.pointer (some ⟨b, o + off, none⟩))) :=
  opr fun σ w M hf => by have h1 : ev σ x = _ := hx σ w M (hf x (by simp [Op.operands, Call.operands])); simp [execOp, h1, run_fieldAt ho]
theorem nc {rs : List Rp} (hx : OF lk x (at_ rs)) : OpG P bs lk (.nilCheck x) ty (at_ rs) :=
  OpG.pure fun σ w M hf _ => by
    have h := hx σ w M (hf x (by simp [Op.operands, Call.operands]))
    obtain ⟨b, o, h1, _⟩ := id h
    exact ⟨_, by simp [execOp, h1]; rfl, by rw [← h1]; exact h⟩
theorem isnil {T T' : TypeId} (hT : P.underlying T = some (.pointer (P.pointee T))) (hx : OF lk x (val (.pointer none))) : OpG P bs lk (.binOp .eql T x (.const (.pointer none)) T') ty (val (.bool true)) :=
  opr fun σ w M hf => by
    have h1 : ev σ x = _ := hx σ w M (hf x (by simp [Op.operands, Call.operands]))
    have h2 : ∀ p : Option Addr, eqGuard .eql T x (.const (.pointer none)) (.pointer p) (.pointer none) = pure () := fun _ => by simp [eqGuard]
    simp [execOp, h1, ev_const, h2, run_eql_pointer_nil w T _ hT]
theorem notnil {T T' : TypeId} {rs : List Rp} (hT : P.underlying T = some (.pointer (P.pointee T))) (hx : OF lk x (at_ rs)) : OpG P bs lk (.binOp .eql T x (.const (.pointer none)) T') ty (val (.bool false)) :=
  opr fun σ w M hf => by
    obtain ⟨b, o, h1, _⟩ := hx σ w M (hf x (by simp [Op.operands, Call.operands]))
    have h2 : ∀ p : Option Addr, eqGuard .eql T x (.const (.pointer none)) (.pointer p) (.pointer none) = pure () := fun _ => by simp [eqGuard]
    simp [execOp, h1, ev_const, h2, run_eql_pointer_nil w T _ hT]
theorem isnil' {T T' : TypeId} (hT : P.underlying T = some (.pointer (P.pointee T))) (hx : OF lk x (val (.pointer none))) : OpG P bs lk (.binOp .neq T x (.const (.pointer none)) T') ty (val (.bool false)) :=
  opr fun σ w M hf => by
    have h1 : ev σ x = _ := hx σ w M (hf x (by simp [Op.operands, Call.operands]))
    have h2 : ∀ p : Option Addr, eqGuard .neq T x (.const (.pointer none)) (.pointer p) (.pointer none) = pure () := fun _ => by simp [eqGuard]
    simp [execOp, h1, ev_const, h2, run_neq_pointer_nil w T _ hT]
theorem notnil' {T T' : TypeId} {rs : List Rp} (hT : P.underlying T = some (.pointer (P.pointee T))) (hx : OF lk x (at_ rs)) : OpG P bs lk (.binOp .neq T x (.const (.pointer none)) T') ty (val (.bool true)) :=
  opr fun σ w M hf => by
    obtain ⟨b, o, h1, _⟩ := hx σ w M (hf x (by simp [Op.operands, Call.operands]))
    have h2 : ∀ p : Option Addr, eqGuard .neq T x (.const (.pointer none)) (.pointer p) (.pointer none) = pure () := fun _ => by simp [eqGuard]
    simp [execOp, h1, ev_const, h2, run_neq_pointer_nil w T _ hT]
theorem ld {T : TypeId} {rs : List Rp} (hT : scal P T = true) (hx : OF lk x (at_ (R :: rs))) : OpG P bs lk (.load T x) ty R :=
  OpG.pure fun σ w M hf _ => by
    obtain ⟨b, o, h1, h2, h3, ⟨c, h4, h5, h6⟩, _⟩ := hx σ w M (hf x (by simp [Op.operands, Call.operands]))
    exact ⟨c, by simp [execOp, h1, Instr.loadAt, Instr.sureAddr, run_loadVar_scal hT h4], h6⟩
theorem ls {T : TypeId} {m : Nat} {rs : List Rp} (hT : aggs P T = some m) (hx : OF lk x (at_ rs)) (hm : m ≤ rs.length) : OpG P bs lk (.load T x) ty (agg (rs.take m)) :=
  OpG.pure fun σ w M hf _ => by
    obtain ⟨b, o, h1, h2, h3, h4⟩ := hx σ w M (hf x (by simp [Op.operands, Call.operands]))
    obtain ⟨cs, h5, h6⟩ := (h4.take m).all2
    refine ⟨.agg cs.toArray, ?_, cs, rfl, h5⟩
    have hl : cs.length = m := by rw [← h5.length]; simp; omega
    simp [execOp, h1, Instr.loadAt, Instr.sureAddr, run_loadVar_agg (hT.trans (by rw [hl])) h6]

theorem box_cells {w : World} {M : Mask} {b : Nat} {T : TypeId} {rs : List Rp} (h : BoxOk w M (.b b T rs)) : ∃ cs : List Value, All2 w M rs cs ∧ ∀ j v, cs[j]? = some v → w.cell? ⟨b, j, none⟩ = some v := by
  obtain ⟨cs, h1, h2⟩ := h
  exact ⟨cs, h2, fun j v hv => by simp [World.cell?, h1, hv]⟩
theorem lb {T bt : TypeId} {b o : Nat} {rs : List Rp} (i : Nat) (hb : bs[i]? = some (.b b bt rs)) (hT : scal P T = true) (hx : OF lk x (val (.pointer (some ⟨b, o, none⟩)))) (hr : rs[o]? = some R) : OpG P bs lk (.load T x) ty R :=
  OpG.pure fun σ w M hf hbs => by
    have h1 : ev σ x = _ := hx σ w M (hf x (by simp [Op.operands, Call.operands]))
    obtain ⟨cs, h2, h3⟩ := box_cells (hbs _ (List.mem_of_getElem? hb))
    obtain ⟨v, h4, h5, _⟩ := h2.get o R hr
    exact ⟨v, by simp [execOp, h1, Instr.loadAt, Instr.sureAddr, run_loadVar_scal hT (h3 o v h4)], h5⟩
theorem All2.drop {w : World} {M : Mask} : ∀ {rs : List Rp} {vs : List Value} (k : Nat), All2 w M rs vs → All2 w M (rs.drop k) (vs.drop k)
  | _, _, 0, h => h
  | [], [], _ + 1, _ => trivial
  | _ :: _, _ :: _, k + 1, h => All2.drop k h.2
theorem All2.take {w : World} {M : Mask} : ∀ {rs : List Rp} {vs : List Value} (k : Nat), All2 w M rs vs → All2 w M (rs.take k) (vs.take k)
  | _, _, 0, _ => trivial
  | [], [], _ + 1, _ => trivial
  | _ :: _, _ :: _, k + 1, h => ⟨h.1, All2.take k h.2⟩
theorem lbs {T bt : TypeId} {b o m : Nat} {rs : List Rp} (i : Nat) (hb : bs[i]? = some (.b b bt rs)) (hT : aggs P T = some m) (hx : OF lk x (val (.pointer (some ⟨b, o, none⟩)))) (hm : o + m ≤ rs.length) : OpG P bs lk (.load T x) ty (agg ((rs.drop o).take m)) :=
  OpG.pure fun σ w M hf hbs => by
    have h1 : ev σ x = _ := hx σ w M (hf x (by simp [Op.operands, Call.operands]))
    obtain ⟨cs, h2, h3⟩ := box_cells (hbs _ (List.mem_of_getElem? hb))
    have hl := h2.length
    refine ⟨.agg ((cs.drop o).take m).toArray, ?_, _, rfl, (h2.drop o).take m⟩
    have h4 : ∀ j v, ((cs.drop o).take m)[j]? = some v → w.cell? ⟨b, o + j, none⟩ = some v := fun j v hv => by
      rw [List.getElem?_take] at hv
      split at hv
      · rw [List.getElem?_drop] at hv; exact h3 _ _ hv
      · cases hv
    simp only [execOp, h1, Instr.loadAt, Instr.sureAddr, Sem.run_bind, Sem.run_pure, Result.andThen_ok, run_loadVar_agg (hT.trans (by simp; omega)) h4]

def elemSz (P : Program) (T : TypeId) : Option Nat := match P.underlying T with
  | some (.slice e) => (P.info? e).map (·.size)
  | _ => none
theorem run_indexAt_sl {T : TypeId} {sz : Nat} (h : elemSz P T = some sz) (b o len cap : Nat) (kd : IntKind) (i : Int) (h0 : 0 ≤ i) (h1 : i < len) (w : World) :
    (Instr.indexAt T (.slice (some ⟨b, o, none⟩) len cap) (.int kd i)).run P w = .ok (.pointer (some ⟨b, o + i.toNat * sz, none⟩)) w := by
  unfold elemSz at h
  split at h
  · rename_i e hu
    cases hi : P.info? e with
    | none => rw [hi] at h; simp at h
    | some ie =>
      rw [hi] at h
      simp only [Option.map_some, Option.some.injEq] at h
      subst h
      simp [Instr.indexAt, run_underlying hu, sizeOf, typeInfo, hi, asIntOf, h0, h1, add_at]
  · cases h
theorem ix {α : Type} {T : TypeId} {sz : Nat} {f : α → List Rp} {xs : List α} {kd : IntKind} {i : Int} {e : α} (hT : elemSz P T = some sz) (hx : OF lk x (sl sz f xs)) (hy : OF lk y (val (.int kd i))) (h0 : 0 ≤ i) (he : xs[i.toNat]? = some e) :
    OpG P bs lk (.indexAddr T x y) ty (at_ (f e)) :=
  OpG.pure fun σ w M hf _ => by
    obtain ⟨A, c, h1, h2, h3⟩ := hx σ w M (hf x (by simp [Op.operands, Call.operands]))
    have h4 : ev σ y = _ := hy σ w M (hf y (by simp [Op.operands, Call.operands]))
    have hlt := (List.getElem?_eq_some_iff.1 he).1
    rcases h3 with rfl | ⟨b, o, rfl, g1, g2, g3⟩
    · simp at hlt
    · exact ⟨.pointer (some ⟨b, o + i.toNat * sz, none⟩), by simp [execOp, h1, h4, run_indexAt_sl hT b o xs.length c kd i h0 (by omega)], b, _, rfl, g1, g2, g3 _ _ he⟩
theorem len_ {α : Type} {T : TypeId} {sz : Nat} {f : α → List Rp} {xs : List α} {e : TypeId} (hT : P.underlying T = some (.slice e)) (hx : OF lk x (sl sz f xs)) : OpG P bs lk (.call ⟨.builtin .len, #[x], #[T]⟩) ty (val (.int .i64 xs.length)) :=
  opr fun σ w M hf => by
    obtain ⟨A, c, h1, _⟩ := hx σ w M (hf x (by simp [Op.operands, Call.operands]))
    simp [execOp, resolve, invoke, builtin, Builtin.len_, h1, run_underlying hT, goInt]

def PureC (P : Program) (f : FuncId) (args : List Rp) (res : Rp) : Prop := Enters P f ∧ ∀ (w : World) (M : Mask) (vs : List Value), (∀ b, M b → b < w.heap.size) → TupAll w M args vs →
  Calls P f vs.toArray w fun e w' => ∃ v, e = .returned v ∧ res.h v w' M ∧ Below w.heap.size w w'
inductive OFs (lk : Nat → Option Rp) : List Operand → List Rp → Prop
  | n : OFs lk [] []
  | c {x : Operand} {xs : List Operand} {R : Rp} {Rs : List Rp} : OF lk x R → OFs lk xs Rs → OFs lk (x :: xs) (R :: Rs)
theorem OFs.all {lk : Nat → Option Rp} {xs : List Operand} {Rs : List Rp} (h : OFs lk xs Rs) {σ : Nat → Value} {w : World} {M : Mask} (hf : ∀ x ∈ xs, ∀ i R', x = .tmp i → lk i = some R' → R'.h (σ i) w M) : TupAll w M Rs (xs.map (ev σ)) := by
  induction h with
  | n => trivial
  | c h _ ih => exact ⟨h σ w M (hf _ (by simp)), ih fun x hx => hf x (List.mem_cons_of_mem _ hx)⟩
theorem call {f : FuncId} {xs : List Operand} {Rs : List Rp} {ats : Array TypeId} (hc : PureC P f Rs R) (hx : OFs lk xs Rs) : OpG P bs lk (.call ⟨.value (.func f), xs.toArray, ats⟩) ty R := by
  intro σ w M hm hf _
  have h1 : (execOp (ev σ) ⟨none, .call ⟨.value (.func f), xs.toArray, ats⟩, ty, "", #[], none⟩).run P w = .ok (.enter f (xs.map (ev σ)).toArray) w := by
    have := hc.1 (xs.map (ev σ)).toArray w
    simp [execOp, resolve, Deferred.ofValue, ev, invoke, this]
  rw [h1]
  exact hc.2 w M _ hm (hx.all fun x hx => hf x (by simp [Op.operands, Call.operands, hx]))
end
end Go.Fw

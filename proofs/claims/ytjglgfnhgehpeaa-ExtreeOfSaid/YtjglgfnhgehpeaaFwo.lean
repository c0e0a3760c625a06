/- The operations, one law each, over facts about their operands. No program in sight. -/
import Derived.Test.YtjglgfnhgehpeaaFw
import Derived.Shelf.Abstract
namespace Go.Fw
open Go.RowKit Go.Proofs
set_option linter.unusedVariables false
set_option linter.unusedSimpArgs false
theorem ev_const (σ : Nat → Value) (v : Value) : ev σ (.const v) = v := rfl

def OF (lk : Nat → Option Rp) (x : Operand) (R : Rp) : Prop := ∀ (σ : Nat → Value) (w : World) (M : Mask), (∀ i R', x = .tmp i → lk i = some R' → R'.h (σ i) w M) → R.h (ev σ x) w M
section
variable {lk : Nat → Option Rp} {P : Program} {bs : List Box} {ty : TypeId} {x y z : Operand} {R R' : Rp}
theorem ot {i : Nat} (h : lk i = some R) : OF lk (.tmp i) R := fun _ _ _ hf => hf i R rfl h
theorem oc (v : Value) : OF lk (.const v) (val v) := fun _ _ _ _ => rfl
theorem og {i : Nat} {c : Prop} (h : lk i = some (gd c R)) (hc : c) : OF lk (.tmp i) R := fun σ w M hf => (hf i _ rfl h).elim (fun h => h.2) (fun h => absurd hc h.1)

theorem OpG.pure {op : Op} (h : ∀ (σ : Nat → Value) (w : World) (M : Mask), Fa lk op σ w M → (∀ x ∈ bs, BoxOk w M x) →
    ∃ v, (execOp (ev σ) ⟨none, op, ty, "", #[], none⟩).run P w = .ok (.value v) w ∧ R.h v w M) : OpG P bs lk op ty R := by
  intro σ w M _ hf hb
  obtain ⟨v, h1, h2⟩ := h σ w M hf hb
  rw [h1]
  exact ⟨h2, Below.refl _ _⟩

theorem mv (h : OF lk x R) : OpG P bs lk (.move x) ty R := OpG.pure fun σ w M hf _ => ⟨ev σ x, rfl, h σ w M (hf x (by simp [Op.operands]))⟩
theorem asg (h : OF lk x R) : OpG P bs lk (.assign x) ty R := OpG.pure fun σ w M hf _ => ⟨ev σ x, rfl, h σ w M (hf x (by simp [Op.operands]))⟩

theorem opr {op : Op} {v : Value} (h : ∀ (σ : Nat → Value) (w : World) (M : Mask), Fa lk op σ w M → (execOp (ev σ) ⟨none, op, ty, "", #[], none⟩).run P w = .ok (.value v) w) :
    OpG P bs lk op ty (val v) := OpG.pure fun σ w M hf _ => ⟨v, h σ w M hf, rfl⟩

section ints
variable {a b : Int} {T T' : TypeId} {kd : IntKind} {c d : Bool}
theorem addw (hx : OF lk x (val (.int kd a))) (hy : OF lk y (val (.int kd b))) : OpG P bs lk (.binOp .add T x y T') ty (val (.int kd (kd.wrap (a + b)))) :=
  opr fun σ w M hf => by have h1 : ev σ x = _ := hx σ w M (hf x (by simp [Op.operands, Call.operands])); have h2 : ev σ y = _ := hy σ w M (hf y (by simp [Op.operands, Call.operands])); simp [execOp, h1, h2, binOp, eqGuard, Op.intArith]
theorem subw (hx : OF lk x (val (.int kd a))) (hy : OF lk y (val (.int kd b))) : OpG P bs lk (.binOp .sub T x y T') ty (val (.int kd (kd.wrap (a - b)))) :=
  opr fun σ w M hf => by have h1 : ev σ x = _ := hx σ w M (hf x (by simp [Op.operands, Call.operands])); have h2 : ev σ y = _ := hy σ w M (hf y (by simp [Op.operands, Call.operands])); simp [execOp, h1, h2, binOp, eqGuard, Op.intArith]
theorem mulw (hx : OF lk x (val (.int kd a))) (hy : OF lk y (val (.int kd b))) : OpG P bs lk (.binOp .mul T x y T') ty (val (.int kd (kd.wrap (a * b)))) :=
  opr fun σ w M hf => by have h1 : ev σ x = _ := hx σ w M (hf x (by simp [Op.operands, Call.operands])); have h2 : ev σ y = _ := hy σ w M (hf y (by simp [Op.operands, Call.operands])); simp [execOp, h1, h2, binOp, eqGuard, Op.intArith]
theorem add (hx : OF lk x (val (.int .i64 a))) (hy : OF lk y (val (.int .i64 b))) (h : -9223372036854775808 ≤ a + b ∧ a + b ≤ 9223372036854775807) : OpG P bs lk (.binOp .add T x y T') ty (val (.int .i64 (a + b))) := by
  have := addw (P := P) (bs := bs) (T := T) (T' := T') (ty := ty) hx hy; rwa [IntWalk.i64_in _ h] at this
theorem sub (hx : OF lk x (val (.int .i64 a))) (hy : OF lk y (val (.int .i64 b))) (h : -9223372036854775808 ≤ a - b ∧ a - b ≤ 9223372036854775807) : OpG P bs lk (.binOp .sub T x y T') ty (val (.int .i64 (a - b))) := by
  have := subw (P := P) (bs := bs) (T := T) (T' := T') (ty := ty) hx hy; rwa [IntWalk.i64_in _ h] at this
theorem mul (hx : OF lk x (val (.int .i64 a))) (hy : OF lk y (val (.int .i64 b))) (h : -9223372036854775808 ≤ a * b ∧ a * b ≤ 9223372036854775807) : OpG P bs lk (.binOp .mul T x y T') ty (val (.int .i64 (a * b))) := by
  have := mulw (P := P) (bs := bs) (T := T) (T' := T') (ty := ty) hx hy; rwa [IntWalk.i64_in _ h] at this
theorem lss (hx : OF lk x (val (.int kd a))) (hy : OF lk y (val (.int kd b))) : OpG P bs lk (.binOp .lss T x y T') ty (val (.bool (decide (a < b)))) :=
  opr fun σ w M hf => by have h1 : ev σ x = _ := hx σ w M (hf x (by simp [Op.operands, Call.operands])); have h2 : ev σ y = _ := hy σ w M (hf y (by simp [Op.operands, Call.operands])); simp [execOp, h1, h2, binOp, eqGuard, Op.intCmp]
theorem leq (hx : OF lk x (val (.int kd a))) (hy : OF lk y (val (.int kd b))) : OpG P bs lk (.binOp .leq T x y T') ty (val (.bool (decide (a ≤ b)))) :=
  opr fun σ w M hf => by have h1 : ev σ x = _ := hx σ w M (hf x (by simp [Op.operands, Call.operands])); have h2 : ev σ y = _ := hy σ w M (hf y (by simp [Op.operands, Call.operands])); simp [execOp, h1, h2, binOp, eqGuard, Op.intCmp]
theorem gtr (hx : OF lk x (val (.int kd a))) (hy : OF lk y (val (.int kd b))) : OpG P bs lk (.binOp .gtr T x y T') ty (val (.bool (decide (b < a)))) :=
  opr fun σ w M hf => by have h1 : ev σ x = _ := hx σ w M (hf x (by simp [Op.operands, Call.operands])); have h2 : ev σ y = _ := hy σ w M (hf y (by simp [Op.operands, Call.operands])); simp [execOp, h1, h2, binOp, eqGuard, Op.intCmp]
theorem geq (hx : OF lk x (val (.int kd a))) (hy : OF lk y (val (.int kd b))) : OpG P bs lk (.binOp .geq T x y T') ty (val (.bool (decide (b ≤ a)))) :=
  opr fun σ w M hf => by have h1 : ev σ x = _ := hx σ w M (hf x (by simp [Op.operands, Call.operands])); have h2 : ev σ y = _ := hy σ w M (hf y (by simp [Op.operands, Call.operands])); simp [execOp, h1, h2, binOp, eqGuard, Op.intCmp]
theorem eql (hx : OF lk x (val (.int kd a))) (hy : OF lk y (val (.int kd b))) : OpG P bs lk (.binOp .eql T x y T') ty (val (.bool (decide (a = b)))) :=
  opr fun σ w M hf => by
    have h1 : ev σ x = _ := hx σ w M (hf x (by simp [Op.operands, Call.operands])); have h2 : ev σ y = _ := hy σ w M (hf y (by simp [Op.operands, Call.operands]))
    have e : (a == b) = decide (a = b) := rfl
    simp [execOp, h1, h2, binOp, eqGuard, Op.intCmp, e]
theorem neq (hx : OF lk x (val (.int kd a))) (hy : OF lk y (val (.int kd b))) : OpG P bs lk (.binOp .neq T x y T') ty (val (.bool (!decide (a = b)))) :=
  opr fun σ w M hf => by
    have h1 : ev σ x = _ := hx σ w M (hf x (by simp [Op.operands, Call.operands])); have h2 : ev σ y = _ := hy σ w M (hf y (by simp [Op.operands, Call.operands]))
    have e : (a != b) = !decide (a = b) := rfl
    simp [execOp, h1, h2, binOp, eqGuard, Op.intCmp, e]
theorem not_ (hx : OF lk x (val (.bool c))) : OpG P bs lk (.unOp .not T x) ty (val (.bool (!c))) :=
  opr fun σ w M hf => by have h1 : ev σ x = _ := hx σ w M (hf x (by simp [Op.operands, Call.operands])); simp [execOp, h1, Op.unary]
theorem neg_ (hx : OF lk x (val (.int .i64 a))) (h : -9223372036854775807 ≤ a ∧ a ≤ 9223372036854775807) : OpG P bs lk (.unOp .neg T x) ty (val (.int .i64 (-a))) :=
  opr fun σ w M hf => by
    have h1 : ev σ x = _ := hx σ w M (hf x (by simp [Op.operands, Call.operands]))
    have e : IntKind.i64.wrap (0 - a) = -a := by rw [IntWalk.i64_in _ (by omega)]; omega
    simp only [execOp, h1, Op.unary, Op.intArith, e]; rfl
theorem cv {T T' : TypeId} {kd' : IntKind} {d : TypeDesc} (hT : P.underlying T = some d) (hT' : P.underlying T' = some (.int kd')) (hx : OF lk x (val (.int kd a))) (h : kd'.wrap a = a) : OpG P bs lk (.convert T T' x) ty (val (.int kd' a)) :=
  opr fun σ w M hf => by have h1 : ev σ x = _ := hx σ w M (hf x (by simp [Op.operands, Call.operands])); simp [execOp, h1, convert, run_underlying hT, run_underlying hT', Conv.intToInt, h]
theorem cvw {T T' : TypeId} {kd' : IntKind} {d : TypeDesc} (hT : P.underlying T = some d) (hT' : P.underlying T' = some (.int kd')) (hx : OF lk x (val (.int kd a))) : OpG P bs lk (.convert T T' x) ty (val (.int kd' (kd'.wrap a))) :=
  opr fun σ w M hf => by have h1 : ev σ x = _ := hx σ w M (hf x (by simp [Op.operands, Call.operands])); simp [execOp, h1, convert, run_underlying hT, run_underlying hT', Conv.intToInt]
theorem mx_ {ats : Array TypeId} (hx : OF lk x (val (.int kd a))) (hy : OF lk y (val (.int kd b))) : OpG P bs lk (.call ⟨.builtin .max, #[x, y], ats⟩) ty (val (.int kd (max a b))) :=
  opr fun σ w M hf => by
    have h1 : ev σ x = _ := hx σ w M (hf x (by simp [Op.operands, Call.operands])); have h2 : ev σ y = _ := hy σ w M (hf y (by simp [Op.operands, Call.operands]))
    have e : (if a < b then b else a) = max a b := by omega
    simp [execOp, resolve, invoke, builtin, Builtin.max_, Builtin.max2, h1, h2, e]
theorem mn_ {ats : Array TypeId} (hx : OF lk x (val (.int kd a))) (hy : OF lk y (val (.int kd b))) : OpG P bs lk (.call ⟨.builtin .min, #[x, y], ats⟩) ty (val (.int kd (min a b))) :=
  opr fun σ w M hf => by
    have h1 : ev σ x = _ := hx σ w M (hf x (by simp [Op.operands, Call.operands])); have h2 : ev σ y = _ := hy σ w M (hf y (by simp [Op.operands, Call.operands]))
    have e : (if b < a then b else a) = min a b := by omega
    simp [execOp, resolve, invoke, builtin, Builtin.min_, Builtin.min2, h1, h2, e]
end ints
theorem and_ {c d : Bool} (hx : OF lk x (val (.bool c))) (hy : OF lk y (gd (c = true) (val (.bool d)))) : OpG P bs lk (.pick x y (.const (.bool false))) ty (val (.bool (c && d))) :=
  opr fun σ w M hf => by
    have h1 : ev σ x = _ := hx σ w M (hf x (by simp [Op.operands, Call.operands]))
    have h2 := hy σ w M (hf y (by simp [Op.operands, Call.operands]))
    cases c with
    | false => simp [execOp, h1, asBool, ev_const]
    | true =>
      obtain ⟨_, h2⟩ | ⟨h2, _⟩ := h2
      · have h3 : ev σ y = .bool d := h2
        simp [execOp, h1, h3, asBool, ev_const]
      · exact absurd rfl h2
theorem or_ {c d : Bool} (hx : OF lk x (val (.bool c))) (hy : OF lk y (gd (c = false) (val (.bool d)))) : OpG P bs lk (.pick x (.const (.bool true)) y) ty (val (.bool (c || d))) :=
  opr fun σ w M hf => by
    have h1 : ev σ x = _ := hx σ w M (hf x (by simp [Op.operands, Call.operands]))
    have h2 := hy σ w M (hf y (by simp [Op.operands, Call.operands]))
    cases c with
    | true => simp [execOp, h1, asBool, ev_const]
    | false =>
      obtain ⟨_, h2⟩ | ⟨h2, _⟩ := h2
      · have h3 : ev σ y = .bool d := h2
        simp [execOp, h1, h3, asBool, ev_const]
      · exact absurd rfl h2

theorem ex {rs : List Rp} {i : Nat} (hx : OF lk x (tup rs)) (hi : rs[i]? = some R) : OpG P bs lk (.extract x i) ty R :=
  OpG.pure fun σ w M hf _ => by
    obtain ⟨vs, h1, h2⟩ := hx σ w M (hf x (by simp [Op.operands, Call.operands]))
    obtain ⟨v, h3, h4⟩ := h2.get i R hi
    exact ⟨v, by simp [execOp, h1, Instr.extract, h3], h4⟩

/-! ### memory -/
def fieldOff (P : Program) (T : TypeId) (f : Nat) : Option Nat :=
  match P.underlying T with
  | some (.struct fs) => match fs[f]? with
    | some fd => match P.info? fd.type with
      | some i => if i.size = 0 then none else some fd.offset
      | none => none
    | none => none
  | _ => none
theorem add_at (b o n : Nat) : (⟨b, o, none⟩ : Addr).add n = ⟨b, o + n, none⟩ := by
  unfold Addr.add
  split
  · rename_i h; subst h; rfl
  · rfl
theorem run_fieldAt {T : TypeId} {f off : Nat} (h : fieldOff P T f = some off) (b o : Nat) (w : World) : (Instr.fieldAt T (.pointer (some ⟨b, o, none⟩)) f).run P w = .ok (.pointer (some ⟨b, o + off, none⟩)) w := by
  unfold fieldOff at h
  split at h
  · rename_i fs hu
    split at h
    · rename_i fd hfd
      split at h
      · rename_i i hi
        split at h
        · cases h
        · rename_i hz
          simp only [Option.some.injEq] at h
          subst h
          simp [Instr.fieldAt, run_underlying hu, hfd, Instr.sureAddr, fieldPlace, sizeOf, typeInfo, hi, hz, add_at]
      · cases h
    · cases h
  · cases h
/-- a scalar type -/
def scal (P : Program) (T : TypeId) : Bool := match P.underlying T with
  | some (.struct _) | some (.array _ _) | none => false
  | _ => true
/-- a struct or array type of so many cells -/
def aggs (P : Program) (T : TypeId) : Option Nat := match P.underlying T with
  | some (.struct _) | some (.array _ _) => (P.info? T).map (·.size)
  | _ => none
theorem run_isAgg_scal {T : TypeId} (h : scal P T = true) (w : World) : (isAgg T).run P w = .ok false w := by
  unfold scal at h
  cases hu : P.underlying T with
  | none => rw [hu] at h; simp at h
  | some d => unfold isAgg; rw [Sem.run_bind, run_underlying hu w]; rw [hu] at h; cases d <;> simp_all
theorem run_loadVar_scal {T : TypeId} (h : scal P T = true) {w : World} {ad : Addr} {v : Value} (hc : w.cell? ad = some v) : (loadVar T ad).run P w = .ok v w := by
  simp [loadVar, Sem.run_bind, run_isAgg_scal h, hc]
theorem run_loadVar_agg {T : TypeId} {cs : List Value} (h : aggs P T = some cs.length) {w : World} {b o : Nat} (hc : ∀ j v, cs[j]? = some v → w.cell? ⟨b, o + j, none⟩ = some v) :
    (loadVar T ⟨b, o, none⟩).run P w = .ok (.agg cs.toArray) w := by
  have hl : (loadCells ⟨b, o, none⟩ cs.length).run P w = .ok cs.toArray w := run_loadCells_list (P := P) w ⟨b, o, none⟩ cs (fun j v hv => by rw [add_at]; exact hc j v hv)
  unfold aggs at h
  cases hu : P.underlying T with
  | none => rw [hu] at h; simp at h
  | some d =>
    rw [hu] at h
    have hagg : (isAgg T).run P w = .ok true w := by
      unfold isAgg
      rw [Sem.run_bind, run_underlying hu w]
      cases d <;> simp_all
    have h' : (P.info? T).map (·.size) = some cs.length := by cases d <;> simp_all
    cases hi : P.info? T with
    | none => rw [hi] at h'; simp at h'
    | some i =>
      rw [hi] at h'
      have hs : i.size = cs.length := by simpa using h'
      simp [loadVar, Sem.run_bind, hagg, sizeOf, typeInfo, hi, hs, hl]

theorem fa {T : TypeId} {f off : Nat} {rs : List Rp} (ho : fieldOff P T f = some off) (hx : OF lk x (at_ rs)) : OpG P bs lk (.fieldAddr T x f) ty (at_ (rs.drop off)) :=
  OpG.pure fun σ w M hf _ => by
    obtain ⟨b, o, h1, h2, h3, h4⟩ := hx σ w M (hf x (by simp [Op.operands, Call.operands]))
    exact ⟨.pointer (some ⟨b, o + off, none⟩), by simp [execOp, h1, run_fieldAt ho], b, _, rfl, h2, h3, h4.drop off⟩
theorem fv {T : TypeId} {f off b o : Nat} (ho : fieldOff P T f = some off) (hx : OF lk x (val (.pointer (some ⟨b, o, none⟩)))) : OpG P bs lk (.fieldAddr T x f) ty (val (.pointer (some ⟨b, o + off, none⟩))) :=
  opr fun σ w M hf => by have h1 : ev σ x = _ := hx σ w M (hf x (by simp [Op.operands, Call.operands])); simp [execOp, h1, run_fieldAt ho]
theorem nc {rs : List Rp} (hx : OF lk x (at_ rs)) : OpG P bs lk (.nilCheck x) ty (at_ rs) :=
  OpG.pure fun σ w M hf _ => by
    have h := hx σ w M (hf x (by simp [Op.operands, Call.operands]))
    obtain ⟨b, o, h1, _⟩ := id h
    exact ⟨_, by simp [execOp, h1]; rfl, by rw [← h1]; exact h⟩
theorem nv {b o : Nat} (hx : OF lk x (val (.pointer (some ⟨b, o, none⟩)))) : OpG P bs lk (.nilCheck x) ty (val (.pointer (some ⟨b, o, none⟩))) :=
  opr fun σ w M hf => by have h1 : ev σ x = _ := hx σ w M (hf x (by simp [Op.operands, Call.operands])); simp [execOp, h1]
theorem isnil {T T' : TypeId} (hT : P.underlying T = some (.pointer (P.pointee T))) (hx : OF lk x (val (.pointer none))) : OpG P bs lk (.binOp .eql T x (.const (.pointer none)) T') ty (val (.bool true)) :=
  opr fun σ w M hf => by
    have h1 : ev σ x = _ := hx σ w M (hf x (by simp [Op.operands, Call.operands]))
    have h2 : ∀ p : Option Addr, eqGuard .eql T x (.const (.pointer none)) (.pointer p) (.pointer none) = pure () := fun _ => by simp [eqGuard]
    simp [execOp, h1, ev_const, h2, run_eql_pointer_nil w T _ hT]
theorem notnil {T T' : TypeId} {rs : List Rp} (hT : P.underlying T = some (.pointer (P.pointee T))) (hx : OF lk x (at_ rs)) : OpG P bs lk (.binOp .eql T x (.const (.pointer none)) T') ty (val (.bool false)) :=
  opr fun σ w M hf => by
    obtain ⟨b, o, h1, _⟩ := hx σ w M (hf x (by simp [Op.operands, Call.operands]))
    have h2 : ∀ p : Option Addr, eqGuard .eql T x (.const (.pointer none)) (.pointer p) (.pointer none) = pure () := fun _ => by simp [eqGuard]
    simp [execOp, h1, ev_const, h2, run_eql_pointer_nil w T _ hT]
theorem isnil' {T T' : TypeId} (hT : P.underlying T = some (.pointer (P.pointee T))) (hx : OF lk x (val (.pointer none))) : OpG P bs lk (.binOp .neq T x (.const (.pointer none)) T') ty (val (.bool false)) :=
  opr fun σ w M hf => by
    have h1 : ev σ x = _ := hx σ w M (hf x (by simp [Op.operands, Call.operands]))
    have h2 : ∀ p : Option Addr, eqGuard .neq T x (.const (.pointer none)) (.pointer p) (.pointer none) = pure () := fun _ => by simp [eqGuard]
    simp [execOp, h1, ev_const, h2, run_neq_pointer_nil w T _ hT]
theorem notnil' {T T' : TypeId} {rs : List Rp} (hT : P.underlying T = some (.pointer (P.pointee T))) (hx : OF lk x (at_ rs)) : OpG P bs lk (.binOp .neq T x (.const (.pointer none)) T') ty (val (.bool true)) :=
  opr fun σ w M hf => by
    obtain ⟨b, o, h1, _⟩ := hx σ w M (hf x (by simp [Op.operands, Call.operands]))
    have h2 : ∀ p : Option Addr, eqGuard .neq T x (.const (.pointer none)) (.pointer p) (.pointer none) = pure () := fun _ => by simp [eqGuard]
    simp [execOp, h1, ev_const, h2, run_neq_pointer_nil w T _ hT]
theorem ld {T : TypeId} {rs : List Rp} (hT : scal P T = true) (hx : OF lk x (at_ (R :: rs))) : OpG P bs lk (.load T x) ty R :=
  OpG.pure fun σ w M hf _ => by
    obtain ⟨b, o, h1, h2, h3, ⟨c, h4, h5, h6⟩, _⟩ := hx σ w M (hf x (by simp [Op.operands, Call.operands]))
    exact ⟨c, by simp [execOp, h1, Instr.loadAt, Instr.sureAddr, run_loadVar_scal hT h4], h6⟩
theorem ls {T : TypeId} {m : Nat} {rs : List Rp} (hT : aggs P T = some m) (hx : OF lk x (at_ rs)) (hm : m ≤ rs.length) : OpG P bs lk (.load T x) ty (agg (rs.take m)) :=
  OpG.pure fun σ w M hf _ => by
    obtain ⟨b, o, h1, h2, h3, h4⟩ := hx σ w M (hf x (by simp [Op.operands, Call.operands]))
    obtain ⟨cs, h5, h6⟩ := (h4.take m).all2
    refine ⟨.agg cs.toArray, ?_, cs, rfl, h5⟩
    have hl : cs.length = m := by rw [← h5.length]; simp; omega
    simp [execOp, h1, Instr.loadAt, Instr.sureAddr, run_loadVar_agg (hT.trans (by rw [hl])) h6]

theorem box_cells {w : World} {M : Mask} {b : Nat} {T : TypeId} {rs : List Rp} (h : BoxOk w M (.b b T rs)) : ∃ cs : List Value, All2 w M rs cs ∧ ∀ j v, cs[j]? = some v → w.cell? ⟨b, j, none⟩ = some v := by
  obtain ⟨cs, h1, h2⟩ := h
  exact ⟨cs, h2, fun j v hv => by simp [World.cell?, h1, hv]⟩
theorem lb {T bt : TypeId} {b o : Nat} {rs : List Rp} (i : Nat) (hb : bs[i]? = some (.b b bt rs)) (hT : scal P T = true) (hx : OF lk x (val (.pointer (some ⟨b, o, none⟩)))) (hr : rs[o]? = some R) : OpG P bs lk (.load T x) ty R :=
  OpG.pure fun σ w M hf hbs => by
    have h1 : ev σ x = _ := hx σ w M (hf x (by simp [Op.operands, Call.operands]))
    obtain ⟨cs, h2, h3⟩ := box_cells (hbs _ (List.mem_of_getElem? hb))
    obtain ⟨v, h4, h5, _⟩ := h2.get o R hr
    exact ⟨v, by simp [execOp, h1, Instr.loadAt, Instr.sureAddr, run_loadVar_scal hT (h3 o v h4)], h5⟩
theorem All2.drop {w : World} {M : Mask} : ∀ {rs : List Rp} {vs : List Value} (k : Nat), All2 w M rs vs → All2 w M (rs.drop k) (vs.drop k)
  | _, _, 0, h => h
  | [], [], _ + 1, _ => trivial
  | _ :: _, _ :: _, k + 1, h => All2.drop k h.2
theorem All2.take {w : World} {M : Mask} : ∀ {rs : List Rp} {vs : List Value} (k : Nat), All2 w M rs vs → All2 w M (rs.take k) (vs.take k)
  | _, _, 0, _ => trivial
  | [], [], _ + 1, _ => trivial
  | _ :: _, _ :: _, k + 1, h => ⟨h.1, All2.take k h.2⟩
theorem lbs {T bt : TypeId} {b o m : Nat} {rs : List Rp} (i : Nat) (hb : bs[i]? = some (.b b bt rs)) (hT : aggs P T = some m) (hx : OF lk x (val (.pointer (some ⟨b, o, none⟩)))) (hm : o + m ≤ rs.length) : OpG P bs lk (.load T x) ty (agg ((rs.drop o).take m)) :=
  OpG.pure fun σ w M hf hbs => by
    have h1 : ev σ x = _ := hx σ w M (hf x (by simp [Op.operands, Call.operands]))
    obtain ⟨cs, h2, h3⟩ := box_cells (hbs _ (List.mem_of_getElem? hb))
    have hl := h2.length
    refine ⟨.agg ((cs.drop o).take m).toArray, ?_, _, rfl, (h2.drop o).take m⟩
    have h4 : ∀ j v, ((cs.drop o).take m)[j]? = some v → w.cell? ⟨b, o + j, none⟩ = some v := fun j v hv => by
      rw [List.getElem?_take] at hv
      split at hv
      · rw [List.getElem?_drop] at hv; exact h3 _ _ hv
      · cases hv
    simp only [execOp, h1, Instr.loadAt, Instr.sureAddr, Sem.run_bind, Sem.run_pure, Result.andThen_ok, run_loadVar_agg (hT.trans (by simp; omega)) h4]

/-! ### slices -/
def elemSz (P : Program) (T : TypeId) : Option Nat := match P.underlying T with
  | some (.slice e) => (P.info? e).map (·.size)
  | _ => none
theorem run_indexAt_sl {T : TypeId} {sz : Nat} (h : elemSz P T = some sz) (b o len cap : Nat) (kd : IntKind) (i : Int) (h0 : 0 ≤ i) (h1 : i < len) (w : World) :
    (Instr.indexAt T (.slice (some ⟨b, o, none⟩) len cap) (.int kd i)).run P w = .ok (.pointer (some ⟨b, o + i.toNat * sz, none⟩)) w := by
  unfold elemSz at h
  split at h
  · rename_i e hu
    cases hi : P.info? e with
    | none => rw [hi] at h; simp at h
    | some ie =>
      rw [hi] at h
      simp only [Option.map_some, Option.some.injEq] at h
      subst h
      simp [Instr.indexAt, run_underlying hu, sizeOf, typeInfo, hi, asIntOf, h0, h1, add_at]
  · cases h
theorem ix {α : Type} {T : TypeId} {sz : Nat} {f : α → List Rp} {xs : List α} {kd : IntKind} {i : Int} {e : α} (hT : elemSz P T = some sz) (hx : OF lk x (sl sz f xs)) (hy : OF lk y (val (.int kd i))) (h0 : 0 ≤ i) (he : xs[i.toNat]? = some e) :
    OpG P bs lk (.indexAddr T x y) ty (at_ (f e)) :=
  OpG.pure fun σ w M hf _ => by
    obtain ⟨A, c, h1, h2, h3⟩ := hx σ w M (hf x (by simp [Op.operands, Call.operands]))
    have h4 : ev σ y = _ := hy σ w M (hf y (by simp [Op.operands, Call.operands]))
    have hlt := (List.getElem?_eq_some_iff.1 he).1
    rcases h3 with rfl | ⟨b, o, rfl, g1, g2, g3⟩
    · simp at hlt
    · exact ⟨.pointer (some ⟨b, o + i.toNat * sz, none⟩), by simp [execOp, h1, h4, run_indexAt_sl hT b o xs.length c kd i h0 (by omega)], b, _, rfl, g1, g2, g3 _ _ he⟩
theorem len_ {α : Type} {T : TypeId} {sz : Nat} {f : α → List Rp} {xs : List α} {e : TypeId} (hT : P.underlying T = some (.slice e)) (hx : OF lk x (sl sz f xs)) : OpG P bs lk (.call ⟨.builtin .len, #[x], #[T]⟩) ty (val (.int .i64 xs.length)) :=
  opr fun σ w M hf => by
    obtain ⟨A, c, h1, _⟩ := hx σ w M (hf x (by simp [Op.operands, Call.operands]))
    simp [execOp, resolve, invoke, builtin, Builtin.len_, h1, run_underlying hT, goInt]

/-! ### calls -/
def PureC (P : Program) (f : FuncId) (args : List Rp) (res : Rp) : Prop := Enters P f ∧ ∀ (w : World) (M : Mask) (vs : List Value), (∀ b, M b → b < w.heap.size) → TupAll w M args vs →
  Calls P f vs.toArray w fun e w' => ∃ v, e = .returned v ∧ res.h v w' M ∧ Below w.heap.size w w'
inductive OFs (lk : Nat → Option Rp) : List Operand → List Rp → Prop
  | n : OFs lk [] []
  | c {x : Operand} {xs : List Operand} {R : Rp} {Rs : List Rp} : OF lk x R → OFs lk xs Rs → OFs lk (x :: xs) (R :: Rs)
theorem OFs.all {lk : Nat → Option Rp} {xs : List Operand} {Rs : List Rp} (h : OFs lk xs Rs) {σ : Nat → Value} {w : World} {M : Mask} (hf : ∀ x ∈ xs, ∀ i R', x = .tmp i → lk i = some R' → R'.h (σ i) w M) : TupAll w M Rs (xs.map (ev σ)) := by
  induction h with
  | n => trivial
  | c h _ ih => exact ⟨h σ w M (hf _ (by simp)), ih fun x hx => hf x (List.mem_cons_of_mem _ hx)⟩
theorem call {f : FuncId} {xs : List Operand} {Rs : List Rp} {ats : Array TypeId} (hc : PureC P f Rs R) (hx : OFs lk xs Rs) : OpG P bs lk (.call ⟨.value (.func f), xs.toArray, ats⟩) ty R := by
  intro σ w M hm hf _
  have h1 : (execOp (ev σ) ⟨none, .call ⟨.value (.func f), xs.toArray, ats⟩, ty, "", #[], none⟩).run P w = .ok (.enter f (xs.map (ev σ)).toArray) w := by
    have := hc.1 (xs.map (ev σ)).toArray w
    simp [execOp, resolve, Deferred.ofValue, ev, invoke, this]
  rw [h1]
  exact hc.2 w M _ hm (hx.all fun x hx => hf x (by simp [Op.operands, Call.operands, hx]))
end
end Go.Fw

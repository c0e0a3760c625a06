/- More operations: shifts, remainders, '==' of Bools and of structs of ints. No program in sight. -/
import Derived.Test.YtjglgfnhgehpeaaFwu
import Derived.Laws.StructEq
import Derived.ChangeKeysEq
namespace Go.Fw
open Go.RowKit Go.Proofs
set_option linter.unusedVariables false
set_option linter.unusedSimpArgs false
section
variable {P : Program} {bs : List Box} {lk : Nat → Option Rp} {ty T T' : TypeId} {x y : Operand} {kd kd' : IntKind} {a b : Int}
theorem shl_ (hx : OF lk x (val (.int kd a))) (hy : OF lk y (val (.int kd' b))) (h0 : 0 ≤ b) (h1 : b ≤ kd.bits) (h2 : kd.wrap (a * 2 ^ b.toNat) = a * 2 ^ b.toNat) : OpG P bs lk (.binOp .shl T x y T') ty (val (.int kd (a * 2 ^ b.toNat))) :=
  opr fun σ w M hf => by
    have e1 : ev σ x = _ := hx σ w M (hf x (by simp [Op.operands, Call.operands])); have e2 : ev σ y = _ := hy σ w M (hf y (by simp [Op.operands, Call.operands]))
    have e3 := shift_shl kd kd' a b h0 h1
    simp [execOp, e1, e2, binOp, eqGuard, e3, h2]
theorem rem_ (hx : OF lk x (val (.int kd a))) (hy : OF lk y (val (.int kd b))) (h0 : 0 ≤ a) (h1 : 0 < b) : OpG P bs lk (.binOp .rem T x y T') ty (val (.int kd (a % b))) :=
  opr fun σ w M hf => by
    have e1 : ev σ x = _ := hx σ w M (hf x (by simp [Op.operands, Call.operands])); have e2 : ev σ y = _ := hy σ w M (hf y (by simp [Op.operands, Call.operands]))
    have e3 : ¬ b = 0 := by omega
    simp [execOp, e1, e2, binOp, eqGuard, Op.intDiv, e3, Int.tmod_eq_emod_of_nonneg h0]
theorem eqb {c d : Bool} (hT : P.underlying T = some .bool) (hx : OF lk x (val (.bool c))) (hy : OF lk y (val (.bool d))) : OpG P bs lk (.binOp .eql T x y T') ty (val (.bool (c == d))) :=
  opr fun σ w M hf => by
    have e1 : ev σ x = _ := hx σ w M (hf x (by simp [Op.operands, Call.operands])); have e2 : ev σ y = _ := hy σ w M (hf y (by simp [Op.operands, Call.operands]))
    simp [execOp, e1, e2, eqGuard, run_eql_bool w T c d hT]
theorem neb {c d : Bool} (hT : P.underlying T = some .bool) (hx : OF lk x (val (.bool c))) (hy : OF lk y (val (.bool d))) : OpG P bs lk (.binOp .neq T x y T') ty (val (.bool (!(c == d)))) :=
  opr fun σ w M hf => by
    have e1 : ev σ x = _ := hx σ w M (hf x (by simp [Op.operands, Call.operands])); have e2 : ev σ y = _ := hy σ w M (hf y (by simp [Op.operands, Call.operands]))
    simp [execOp, e1, e2, eqGuard, run_neq_bool w T c d hT]
/-- a struct of so many fields, all of the type int -/
def intFields (P : Program) (T : TypeId) (n : Nat) : Bool := match P.underlying T with
  | some (.struct fs) => decide (fs.size = n) && !P.stoodInHeld T && !P.eqGuardType P.depth T && fs.toList.zipIdx.all fun (f, i) => f.name != "_" && f.offset == i && P.plainKey f.type && (match P.underlying f.type with | some (.int .i64) => true | _ => false)
  | _ => false
theorem run_eqFields_ints (w : World) (d : Nat) (xs ys : List Value) : ∀ (fs : List Field) (k : Nat) (us bs : List Int), (fs.zipIdx k).all (fun (f, i) => f.name != "_" && f.offset == i && P.plainKey f.type && (match P.underlying f.type with | some (.int .i64) => true | _ => false)) = true →
    us.length = fs.length → bs.length = fs.length → xs.drop k = us.map (.int .i64) → ys.drop k = bs.map (.int .i64) → (Op.eqFields (d + 1) xs.toArray ys.toArray fs).run P w = .ok (decide (us = bs)) w
  | [], k, us, bs, _, ha, hb, _, _ => by
    have e1 : us = [] := List.eq_nil_of_length_eq_zero ha
    have e2 : bs = [] := List.eq_nil_of_length_eq_zero hb
    simp [Op.eqFields, e1, e2]
  | f :: fs, k, [], bs, _, ha, hb, _, _ => by simp at ha
  | f :: fs, k, a :: us, [], _, ha, hb, _, _ => by simp at hb
  | f :: fs, k, a :: us, b :: bs, h, ha, hb, hx, hy => by
    simp only [List.zipIdx_cons, List.all_cons, Bool.and_eq_true, bne_iff_ne, ne_eq, beq_iff_eq] at h
    obtain ⟨⟨⟨⟨h1, h2⟩, h3⟩, h4⟩, h5⟩ := h
    have hu : P.underlying f.type = some (.int .i64) := by
      split at h4
      · assumption
      · cases h4
    have hxk : xs[k]? = some (.int .i64 a) := by
      have : (xs.drop k)[0]? = some (.int .i64 a) := by rw [hx]; rfl
      rw [List.getElem?_drop] at this; simpa using this
    have hyk : ys[k]? = some (.int .i64 b) := by
      have : (ys.drop k)[0]? = some (.int .i64 b) := by rw [hy]; rfl
      rw [List.getElem?_drop] at this; simpa using this
    have p1 := run_part_plain (P := P) w h3 (xs := xs.toArray) (off := k) (v := .int .i64 a) (by simpa using hxk)
    have p2 := run_part_plain (P := P) w h3 (xs := ys.toArray) (off := k) (v := .int .i64 b) (by simpa using hyk)
    have ih := run_eqFields_ints w d xs ys fs (k + 1) us bs h5 (by simpa using ha) (by simpa using hb) (by rw [← List.drop_drop, hx]; rfl) (by rw [← List.drop_drop, hy]; rfl)
    unfold Op.eqFields
    rw [if_pos h1, h2]
    simp only [Sem.run_bind, p1, p2, Result.andThen_ok, run_equalIn_int w d f.type .i64 .i64 a b hu, Sem.run_ite]
    by_cases e : a = b
    · subst e
      simp [ih]
    · have : (a == b) = false := by simpa using e
      simp [this, e]
theorem agg_ints {w : World} {M : Mask} {v : Value} : ∀ {us : List Int} {vs : List Value}, All2 w M (us.map fun n => val (.int .i64 n)) vs → vs = us.map (.int .i64)
  | [], [], _ => rfl
  | a :: us, v :: vs, h => by
    have h1 : v = .int .i64 a := h.1.1
    rw [h1, agg_ints (v := v) h.2]; rfl
theorem eqs {n : Nat} {us cs : List Int} (hT : intFields P T n = true) (ha : us.length = n) (hc : cs.length = n) (hx : OF lk x (agg (us.map fun n => val (.int .i64 n)))) (hy : OF lk y (agg (cs.map fun n => val (.int .i64 n)))) :
    OpG P bs lk (.binOp .eql T x y T') ty (val (.bool (decide (us = cs)))) := opr fun σ w M hf => by
  obtain ⟨vs, e1, k1⟩ := hx σ w M (hf x (by simp [Op.operands, Call.operands]))
  obtain ⟨qs, e2, k2⟩ := hy σ w M (hf y (by simp [Op.operands, Call.operands]))
  rw [agg_ints (v := undef) k1] at e1
  rw [agg_ints (v := undef) k2] at e2
  unfold intFields at hT
  split at hT
  · rename_i fs hu
    simp only [Bool.and_eq_true, decide_eq_true_eq, Bool.not_eq_true'] at hT
    obtain ⟨⟨⟨h1, h2⟩, h3⟩, h4⟩ := hT
    have hf' : P.fieldsOf T = fs := by simp [Program.fieldsOf, hu]
    have hr := run_eqFields_ints (P := P) w 9998 (us.map (.int .i64)) (cs.map (.int .i64)) fs.toList 0 us cs h4 (by simpa [h1] using ha) (by simpa [h1] using hc) rfl rfl
    have hq := run_equalIn_agg (P := P) w 9999 T (us.map (.int .i64)).toArray (cs.map (.int .i64)).toArray (by rw [hf']; exact hu) h2
    rw [hf'] at hq
    simp only [execOp, e1, e2, Sem.run_bind, run_eqGuard_agg w _ T x y _ _ h3, Result.andThen_ok, run_eql_struct, hq, hr]
    rfl
  · cases hT
end
end Go.Fw

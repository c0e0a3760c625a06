/- Parts: Fwv, Fwx, Fwy, Fwz. -/
import Derived.Test.YtjglgfnhgehpeaaGreatZd
import Derived.Laws.StructEq
import Derived.ChangeKeysEq
import Derived.RangeFuncKeeps
import Derived.RangeFuncBound
import Derived.RangeFuncLeaves
import Derived.RangeFuncFrom
import Derived.RangeFuncCalls
import Derived.TacticsIn
import Derived.RangeFuncNested
/- More operations: shifts, remainders, '==' of Bools and of structs of ints. No program in sight. -/
namespace Go.Fw
open Go.RowKit Go.Proofs
set_option linter.unusedVariables false
set_option linter.unusedSimpArgs false
section
variable {P : Program} {bs : List Box} {lk : Nat → Option Rp} {ty T T' : TypeId} {x y : Operand} {kd kd' : IntKind} {a b : Int}
theorem shl_ (hx : OF lk x (val (.int kd a))) (hy : OF lk y (val (.int kd' b))) (h0 : 0 ≤ b) (h1 : b ≤ kd.bits) (h2 : kd.wrap (a * 2 ^ b.toNat) = a * 2 ^ b.toNat) : OpG P bs lk (.binOp .shl T x y T') ty (val (.int kd (a * 2 ^ b.toNat))) :=
  opr fun σ w M hf => by
    have e1 : ev σ x = _ := hx σ w M (hf x (by simp [Op.operands, Call.operands])); have e2 : ev σ y = _ := hy σ w M (hf y (by simp [Op.operands, Call.operands]))
    have e3 := shift_shl kd kd' a b h0 h1
    simp [execOp, e1, e2, binOp, eqGuard, e3, h2]
theorem rem_ (hx : OF lk x (val (.int kd a))) (hy : OF lk y (val (.int kd b))) (h0 : 0 ≤ a) (h1 : 0 < b) : OpG P bs lk (.binOp .rem T x y T') ty (val (.int kd (a % b))) :=
  opr fun σ w M hf => by
    have e1 : ev σ x = _ := hx σ w M (hf x (by simp [Op.operands, Call.operands])); have e2 : ev σ y = _ := hy σ w M (hf y (by simp [Op.operands, Call.operands]))
    have e3 : ¬ b = 0 := by omega
    simp [execOp, e1, e2, binOp, eqGuard, Op.intDiv, e3, Int.tmod_eq_emod_of_nonneg h0]
theorem eqb {c d : Bool} (hT : P.underlying T = some .bool) (hx : OF lk x (val (.bool c))) (hy : OF lk y (val (.bool d))) : OpG P bs lk (.binOp .eql T x y T') ty (val (.bool (c == d))) :=
  opr fun σ w M hf => by
    have e1 : ev σ x = _ := hx σ w M (hf x (by simp [Op.operands, Call.operands])); have e2 : ev σ y = _ := hy σ w M (hf y (by simp [Op.operands, Call.operands]))
    simp [execOp, e1, e2, eqGuard, run_eql_bool w T c d hT]
theorem neb {c d : Bool} (hT : P.underlying T = some .bool) (hx : OF lk x (val (.bool c))) (hy : OF lk y (val (.bool d))) : OpG P bs lk (.binOp .neq T x y T') ty (val (.bool (!(c == d)))) :=
  opr fun σ w M hf => by
    have e1 : ev σ x = _ := hx σ w M (hf x (by simp [Op.operands, Call.operands])); have e2 : ev σ y = _ := hy σ w M (hf y (by simp [Op.operands, Call.operands]))
    simp [execOp, e1, e2, eqGuard, run_neq_bool w T c d hT]
/-- a struct of so many fields, all of the type int -/
def intFields (P : Program) (T : TypeId) (n : Nat) : Bool := match P.underlying T with
  | some (.struct fs) => decide (fs.size = n) && !P.stoodInHeld T && !P.eqGuardType P.depth T && fs.toList.zipIdx.all fun (f, i) => f.name != "_" && f.offset == i && P.plainKey f.type && (match P.underlying f.type with | some (.int .i64) => true | _ => false)
  | _ => false
theorem run_eqFields_ints (w : World) (d : Nat) (xs ys : List Value) : ∀ (fs : List Field) (k : Nat) (us bs : List Int), (fs.zipIdx k).all (fun (f, i) => f.name != "_" && f.offset == i && P.plainKey f.type && (match P.underlying f.type with | some (.int .i64) => true | _ => false)) = true →
    us.length = fs.length → bs.length = fs.length → xs.drop k = us.map (.int .i64) → ys.drop k = bs.map (.int .i64) → (Op.eqFields (d + 1) xs.toArray ys.toArray fs).run P w = .ok (decide (us = bs)) w
  | [], k, us, bs, _, ha, hb, _, _ => by
    have e1 : us = [] := List.eq_nil_of_length_eq_zero ha
    have e2 : bs = [] := List.eq_nil_of_length_eq_zero hb
    simp [Op.eqFields, e1, e2]
  | f :: fs, k, [], bs, _, ha, hb, _, _ => by simp at ha
  | f :: fs, k, a :: us, [], _, ha, hb, _, _ => by simp at hb
  | f :: fs, k, a :: us, b :: bs, h, ha, hb, hx, hy => by
    simp only [List.zipIdx_cons, List.all_cons, Bool.and_eq_true, bne_iff_ne, ne_eq, beq_iff_eq] at h
    obtain ⟨⟨⟨⟨h1, h2⟩, h3⟩, h4⟩, h5⟩ := h
    have hu : P.underlying f.type = some (.int .i64) := by
      split at h4
      · assumption
      · cases h4
    have hxk : xs[k]? = some (.int .i64 a) := by
      have : (xs.drop k)[0]? = some (.int .i64 a) := by rw [hx]; rfl
      rw [List.getElem?_drop] at this; simpa using this
    have hyk : ys[k]? = some (.int .i64 b) := by
      have : (ys.drop k)[0]? = some (.int .i64 b) := by rw [hy]; rfl
      rw [List.getElem?_drop] at this; simpa using this
    have p1 := run_part_plain (P := P) w h3 (xs := xs.toArray) (off := k) (v := .int .i64 a) (by simpa using hxk)
    have p2 := run_part_plain (P := P) w h3 (xs := ys.toArray) (off := k) (v := .int .i64 b) (by simpa using hyk)
    have ih := run_eqFields_ints w d xs ys fs (k + 1) us bs h5 (by simpa using ha) (by simpa using hb) (by rw [← List.drop_drop, hx]; rfl) (by rw [← List.drop_drop, hy]; rfl)
    unfold Op.eqFields
    rw [if_pos h1, h2]
    simp only [Sem.run_bind, p1, p2, Result.andThen_ok, run_equalIn_int w d f.type .i64 .i64 a b hu, Sem.run_ite]
    by_cases e : a = b
    · subst e
      simp [ih]
    · have : (a == b) = false := by simpa using e
      simp [this, e]
theorem agg_ints {w : World} {M : Mask} {v : Value} : ∀ {us : List Int} {vs : List Value}, All2 w M (us.map fun n => val (.int .i64 n)) vs → vs = us.map (.int .i64)
  | [], [], _ => rfl
  | a :: us, v :: vs, h => by
    have h1 : v = .int .i64 a := h.1.1
    rw [h1, agg_ints (v := v) h.2]; rfl
theorem eqs {n : Nat} {us cs : List Int} (hT : intFields P T n = true) (ha : us.length = n) (hc : cs.length = n) (hx : OF lk x (agg (us.map fun n => val (.int .i64 n)))) (hy : OF lk y (agg (cs.map fun n => val (.int .i64 n)))) :
    OpG P bs lk (.binOp .eql T x y T') ty (val (.bool (decide (us = cs)))) := opr fun σ w M hf => by
  obtain ⟨vs, e1, k1⟩ := hx σ w M (hf x (by simp [Op.operands, Call.operands]))
  obtain ⟨qs, e2, k2⟩ := hy σ w M (hf y (by simp [Op.operands, Call.operands]))
  rw [agg_ints (v := undef) k1] at e1
  rw [agg_ints (v := undef) k2] at e2
  unfold intFields at hT
  split at hT
  · rename_i fs hu
    simp only [Bool.and_eq_true, decide_eq_true_eq, Bool.not_eq_true'] at hT
    obtain ⟨⟨⟨h1, h2⟩, h3⟩, h4⟩ := hT
    have hf' : P.fieldsOf T = fs := by simp [Program.fieldsOf, hu]
    have hr := run_eqFields_ints (P := P) w 9998 (us.map (.int .i64)) (cs.map (.int .i64)) fs.toList 0 us cs h4 (by simpa [h1] using ha) (by simpa [h1] using hc) rfl rfl
    have hq := run_equalIn_agg (P := P) w 9999 T (us.map (.int .i64)).toArray (cs.map (.int .i64)).toArray (by rw [hf']; exact hu) h2
    rw [hf'] at hq
    simp only [execOp, e1, e2, Sem.run_bind, run_eqGuard_agg w _ T x y _ _ h3, Result.andThen_ok, run_eql_struct, hq, hr]
    rfl
  · cases hT
end
end Go.Fw

/- Inside a round of a range over a function. No program in sight. -/
namespace Go.Fw
open Go.RowKit Go.Proofs
set_option linter.unusedVariables false
set_option linter.unusedSimpArgs false
section
variable {P : Program} {r m : Nat} {w0 : World} {M0 : Mask} {n : Nat} {bs : List Box} {st : St} {ops : Array Oper} {l : List Oper} {Q : Exit → Act → World → Prop}
/-- the fence of a round -/
abbrev FR (r : Nat) : Fence := Fence.wide.inRound r
theorem rowsIn_wide {row : String} {args : Array Value} {w : World} {R : Value → World → Prop} (h : Rows P row args w R) : RowsIn (FR r) m P row args w R := fun c cs _ =>
  let ⟨v, w', q, s⟩ := h c cs; ⟨v, w', q, (stepsIn_wide (P := P)).2 s⟩
theorem up_in {o : Oper} {a : Act} {K K' : Act → World → Prop} {Q Q' : Exit → Act → World → Prop} {res : Result Next} (hK : ∀ a w, K a w → K' a w) (hQ : ∀ e a w, e ≠ .normal → Q e a w → Q' e a w) (h : o.upon P a K Q res) : o.uponIn (FR r) m P a K' Q' res := by
  cases res with
  | ok x w =>
    cases x with
    | value v => exact hK _ _ h
    | skip => exact hK _ _ h
    | defer d => exact hK _ _ h
    | enter f args =>
      refine ⟨fun h => (by cases h), (callsIn_wide.2 (Calls.mono (h : Calls P f args w _) fun e w' q => ?_) : CallsIn Fence.wide (m - 1) P f args w _).inRound r⟩
      cases e with
      | returned v => exact hK _ _ q
      | panicked ch => exact hQ _ _ _ (by simp) q
      | outgrown => obtain ⟨a', w'', q⟩ := (q : LetsOut Q); exact ⟨a', w'', hQ _ _ _ (by simp) q⟩
    | row row args => exact ⟨fun h => (by cases h), rowsIn_wide (Rows.mono (h : Rows P row args w _) fun v w' q => hK _ _ q)⟩
    | round _ _ _ _ _ => exact (h : False).elim
    | _ => exact (h : False).elim
  | halt x w =>
    cases x with
    | panic v => exact hQ _ _ _ (by simp) h
    | _ => exact (h : False).elim
def WLI (P : Program) (r m : Nat) (w0 : World) (M0 : Mask) (n : Nat) (bs : List Box) (st : St) (ops : Array Oper) (l : List Oper) (Q : Exit → Act → World → Prop) : Prop := ∀ a w, Ok w0 M0 n bs st a w → wpListIn (FR r) m P ops Q l a w
def WPI (P : Program) (r m : Nat) (w0 : World) (M0 : Mask) (n : Nat) (bs : List Box) (st : St) (c : Code) (Q : Exit → Act → World → Prop) : Prop := ∀ a w, Ok w0 M0 n bs st a w → c.wpIn (FR r) m P Q a w
/-- one operation, by what is known of it outside of a round -/
theorem WLI.of {β : Type} {bx : β → List Box} {sx : β → St} {C : β → Prop} {o : Oper} (hd : ∀ c, o.op ≠ .defer c) (h : WL P w0 M0 n bs st ops [o] (fun e a w => e = .normal ∧ ∃ y, C y ∧ Ok w0 M0 n (bx y) (sx y) a w)) (rest : ∀ y, C y → WLI P r m w0 M0 n (bx y) (sx y) ops l Q) :
    WLI P r m w0 M0 n bs st ops (o :: l) Q := by
  intro a w hok
  have h1 := h a w hok
  have fin : ∀ a w, wpList P ops (fun e a w => e = .normal ∧ ∃ y, C y ∧ Ok w0 M0 n (bx y) (sx y) a w) [] a w → wpListIn (FR r) m P ops Q l a w := fun a w q => by
    obtain ⟨_, y, hy, hok'⟩ := q
    exact rest y hy a w hok'
  rw [wpList] at h1
  rw [wpListIn]
  split at h1
  · rename_i hw
    rw [if_pos hw]
    rcases h1 with h1 | ⟨_, _, _, h1, _⟩
    · refine ⟨fun f _ => trivial, ?_⟩
      rw [Oper.semAt_eq _ _ _ hd]
      exact up_in fin (fun e a w he q => absurd q.1 he) h1
    · cases h1
  · rename_i hw
    rw [if_neg hw]
    exact ⟨fun f _ => trivial, fin _ _ h1⟩
theorem WLI.nl (h : Lead w0 M0 n bs st .normal Q) : WLI P r m w0 M0 n bs st ops [] Q := h
theorem WPI.region {id : Nat} {l : List Oper} (h : WLI P r m w0 M0 n bs st l.toArray l Q) : WPI P r m w0 M0 n bs st (.region id l.toArray false) Q := fun a w hok => wpIn_region_lit (h a w hok)
theorem WPI.seq {x y : Code} (h : WPI P r m w0 M0 n bs st x (Exit.then (y.wpIn (FR r) m P Q) Q)) : WPI P r m w0 M0 n bs st (.seq x y) Q := fun a w hok => wpIn_seq (h a w hok)
theorem WPI.cond {t : Nat} {b : Bool} {x y : Code} (hs : look st t = some (val (.bool b))) (ht : b = true → WPI P r m w0 M0 n bs st x Q) (hf : b = false → WPI P r m w0 M0 n bs st y Q) : WPI P r m w0 M0 n bs st (.cond (.tmp t) x y) Q :=
  fun a w hok => wpIn_cond_split (hok.facts t _ hs) (fun h => ht h a w hok) (fun h => hf h a w hok)
theorem WPI.sk (h : Lead w0 M0 n bs st .normal Q) : WPI P r m w0 M0 n bs st .skip Q := fun a w hok => wpIn_skip (h a w hok)
theorem WPI.rt (h : Lead w0 M0 n bs st .ret Q) : WPI P r m w0 M0 n bs st .ret Q := fun a w hok => wpIn_ret (h a w hok)
theorem WPI.xt {id : Nat} (h : Lead w0 M0 n bs st (.exit id) Q) : WPI P r m w0 M0 n bs st (.exit id) Q := fun a w hok => wpIn_exit (h a w hok)
theorem WPI.block {id : Nat} {c : Code} (h : WPI P r m w0 M0 n bs st c (Exit.inBlock id Q)) : WPI P r m w0 M0 n bs st (.block id c) Q := fun a w hok => wpIn_block (h a w hok)
theorem Lead.thnI {y : Code} (h : WPI P r m w0 M0 n bs st y Q) : Lead w0 M0 n bs st .normal (Exit.then (y.wpIn (FR r) m P Q) Q) := h
end
end Go.Fw

/- A range over a function, as one step of the small logic. No program in sight. -/
namespace Go.Fw
open Go.RowKit Go.Proofs
set_option linter.unusedVariables false
set_option linter.unusedSimpArgs false
def up (w : World) (M : Mask) : Mask := fun b => M b ∨ w.heap.size ≤ b
abbrev KM (M : Mask) (W W' : World) : Prop := Kp W M W' M
/-- a fact of no world -/
def Pl (R : Rp) : Prop := ∀ v w M w' M', R.h v w M → R.h v w' M'
def PlB : Box → Prop
  | .b _ _ rs => ∀ R ∈ rs, Pl R
  | .r _ _ _ _ rs => ∀ R ∈ rs, Pl R
  | .d _ => False
  | .m _ _ => False
theorem Pl.val (v : Value) : Pl (val v) := fun _ _ _ _ _ h => h
theorem All2.pl {w w' : World} {M M' : Mask} : ∀ {rs : List Rp} {cs : List Value}, (∀ R ∈ rs, Pl R) → All2 w M rs cs → All2 w' M' rs cs
  | [], [], _, _ => trivial
  | R :: rs, c :: cs, hp, h => ⟨⟨hp R List.mem_cons_self _ _ _ _ _ h.1.1, h.1.2⟩, All2.pl (fun R' hR => hp R' (List.mem_cons_of_mem _ hR)) h.2⟩
theorem BoxOk.cells {w : World} {M : Mask} {x : Box} (h : BoxOk w M x) (hp : PlB x) {g : Nat} (hg : x.blk = some g) : ∃ o : Obj, w.heap[g]? = some o ∧ o.isCells = true := by
  cases x with
  | b g' T rs => obtain ⟨cs, h1, _⟩ := h; cases hg; exact ⟨_, h1, rfl⟩
  | r v e sz n rs =>
    obtain ⟨cs, ⟨_, h1⟩, _⟩ := h
    rcases h1 with ⟨rfl, _⟩ | ⟨g', cap, cur, rfl, _, h2, _⟩
    · cases hg
    · cases hg; exact ⟨_, h2, rfl⟩
  | d D => exact hp.elim
  | m g kv => exact hp.elim
theorem BoxOk.pl {w w' : World} {M M' : Mask} {x : Box} (h : BoxOk w M x) (hp : PlB x) (hb : ∀ g, x.blk = some g → w'.heap[g]? = w.heap[g]?) : BoxOk w' M' x := by
  cases x with
  | b g T rs => obtain ⟨cs, h1, h2⟩ := h; exact ⟨cs, (hb g rfl).trans h1, h2.pl hp⟩
  | r v e sz n rs =>
    obtain ⟨cs, ⟨h0, h1⟩, h2⟩ := h
    refine ⟨cs, ⟨h0, h1.imp id ?_⟩, h2.pl hp⟩
    rintro ⟨g, cap, cur, rfl, g1, g2, g3⟩
    exact ⟨g, cap, cur, rfl, g1, (hb g rfl).trans g2, g3⟩
  | d D => exact hp.elim
  | m g kv => exact hp.elim
theorem PlB.mark {x : Box} (h : PlB x) : x.mark = none := by cases x with | d D => exact h.elim | _ => rfl
/-- the memory between two rounds: bs0 at the loop's start w, bs now -/
structure Bt (w0 : World) (M0 : Mask) (w : World) (bs0 bs : List Box) (W : World) : Prop where
  boxes : ∀ x ∈ bs, BoxOk W (up w (mkM M0 bs0)) x
  plain : ∀ x ∈ bs, PlB x
  nodup : (blks bs).Nodup
  fresh : ∀ g ∈ blks bs, w0.heap.size ≤ g
  inM : ∀ g ∈ blks bs, up w (mkM M0 bs0) g
  m0 : ∀ g ∈ blks bs, ¬ M0 g
  below : Below w0.heap.size w0 W
  kept : KM (up w (mkM M0 bs0)) w W
section
variable {P : Program} {w0 : World} {M0 : Mask} {n : Nat} {bs0 bs : List Box} {st : St} {w W : World}
theorem Bt.start {a : Act} (h : Ok w0 M0 n bs st a w) (hp : ∀ x ∈ bs, PlB x) : Bt w0 M0 w bs bs w :=
  ⟨fun x hx => (h.boxes x hx).pl (hp x hx) fun _ _ => rfl, hp, h.nodup, h.fresh, fun g hg => .inl (.inr hg), h.m0, h.below, Kp.refl _ _⟩
theorem Bt.grown (h : Bt w0 M0 w bs0 bs W) (hw : w0.heap.size ≤ w.heap.size) {W' : World} {row : Option Nat} (hg : W.grownBy W' row) (hr : ∀ r, row = some r → w.heap.size ≤ r ∧ ∃ o : Obj, W.heap[r]? = some o ∧ o.isCells = false) : Bt w0 M0 w bs0 bs W' := by
  have hb : Below w.heap.size W W' := (Below.refl _ W).grown hg (by have := h.kept.size; omega) fun k e => (hr k e).1
  have hsame : ∀ x ∈ bs, ∀ g, x.blk = some g → W'.heap[g]? = W.heap[g]? := fun x hx g hxg => by
    obtain ⟨o, h1, h2⟩ := (h.boxes x hx).cells (h.plain x hx) hxg
    refine hg.block g (Array.getElem?_eq_some_iff.1 h1).1 fun e => ?_
    obtain ⟨_, o', h3, h4⟩ := hr g e.symm
    rw [h1] at h3; cases h3; rw [h2] at h4; cases h4
  refine ⟨fun x hx => (h.boxes x hx).pl (h.plain x hx) (hsame x hx), h.plain, h.nodup, h.fresh, h.inM, h.m0, h.below.trans (hb.mono hw), h.kept.trans ⟨fun b hb' hm => ?_, hb.size, fun b hb' => .inl hb'⟩⟩
  exact hb.block b (Nat.lt_of_not_le fun hle => hm (.inr hle))
/-- the mask of a round -/
def M1 (w : World) (M : Mask) (bs : List Box) (W : World) : Mask := fun b => up w M b ∧ b < W.heap.size ∧ b ∉ blks bs ∧ ∃ o : Obj, W.heap[b]? = some o ∧ o.isCells = true
theorem Bt.mask (h : Bt w0 M0 w bs0 bs W) {b : Nat} (hb : mkM (M1 w (mkM M0 bs0) bs W) bs b) : up w (mkM M0 bs0) b ∧ b < W.heap.size ∧ ∃ o : Obj, W.heap[b]? = some o ∧ o.isCells = true := by
  rcases hb with ⟨h1, h2, _, h3⟩ | hb
  · exact ⟨h1, h2, h3⟩
  · obtain ⟨x, hx, e⟩ := List.mem_filterMap.1 hb
    obtain ⟨o, g1, g2⟩ := (h.boxes x hx).cells (h.plain x hx) e
    exact ⟨h.inM b hb, (Array.getElem?_eq_some_iff.1 g1).1, o, g1, g2⟩
/-- what was known at the loop's start is known in a round -/
theorem Bt.kp (h : Bt w0 M0 w bs0 bs W) : Kp w (mkM M0 bs0) W (mkM (M1 w (mkM M0 bs0) bs W) bs) :=
  ⟨fun b hb hm => h.kept.block b hb fun hu => hu.elim hm fun hle => by omega, h.kept.size, fun b hb => (h.mask hb).1⟩
theorem Bt.ok (h : Bt w0 M0 w bs0 bs W) {a' : Act} (hd : a'.defers = []) (hs : a'.tmps.size = n) (hf : ∀ t R, look st t = some R → R.h (a'.tmps.getD t undef) W (mkM (M1 w (mkM M0 bs0) bs W) bs)) : Ok w0 (M1 w (mkM M0 bs0) bs W) n bs st a' W :=
  ⟨hd.trans (defs_none fun x hx => (h.plain x hx).mark).symm, hs, hf, fun x hx => (h.boxes x hx).pl (h.plain x hx) fun _ _ => rfl, h.nodup, h.fresh, h.below, fun b hb => (h.mask hb).2.1, fun g hg hm => hm.2.2.1 hg⟩
/-- the round's end -/
theorem Bt.next (h : Bt w0 M0 w bs0 bs W) (hM : ∀ b, M0 b → b < w.heap.size) {bs' : List Box} {a' : Act} {W' : World} (hok : Ok w0 (M1 w (mkM M0 bs0) bs W) n bs' st a' W') (hp : ∀ x ∈ bs', PlB x) (hk : Kp W (mkM (M1 w (mkM M0 bs0) bs W) bs) W' (mkM (M1 w (mkM M0 bs0) bs W) bs')) : Bt w0 M0 w bs0 bs' W' := by
  have hin : ∀ g ∈ blks bs', up w (mkM M0 bs0) g ∧ ¬ M0 g := fun g hg => by
    rcases hk.mask g (.inr hg) with h1 | h1
    · refine ⟨(h.mask h1).1, ?_⟩
      rcases h1 with h1 | h1
      · exact absurd h1 (hok.m0 g hg)
      · exact h.m0 g h1
    · have := h.kept.size
      exact ⟨.inr (by omega), fun hm => by have := hM g hm; omega⟩
  exact ⟨fun x hx => (hok.boxes x hx).pl (hp x hx) fun _ _ => rfl, hp, hok.nodup, hok.fresh, fun g hg => (hin g hg).1, fun g hg => (hin g hg).2, hok.below,
    h.kept.trans ⟨fun b hb hm => hk.block b hb fun hu => hm (h.mask hu).1, hk.size, fun b hb => .inl hb⟩⟩
theorem Bt.keeps (h : Bt w0 M0 w bs0 bs W) {bs' : List Box} {W' : World} (hk : Kp W (mkM (M1 w (mkM M0 bs0) bs W) bs) W' (mkM (M1 w (mkM M0 bs0) bs W) bs')) (B : Nat) : KeepsFrom B W W' := ⟨hk.size, fun j o hB hj hc => by
  rw [hk.block j (Array.getElem?_eq_some_iff.1 hj).1 fun hu => ?_]
  · exact hj
  · obtain ⟨_, _, o', h1, h2⟩ := h.mask hu
    rw [hj] at h1; cases h1; rw [hc] at h2; cases h2⟩

theorem Bt.drop {A : List Box} (h : Bt w0 M0 w bs0 (A ++ bs) W) : Bt w0 M0 w bs0 bs W := by
  have hsub : ∀ g ∈ blks bs, g ∈ blks (A ++ bs) := fun g hg => by unfold blks at *; rw [List.filterMap_append]; exact List.mem_append_right _ hg
  refine ⟨fun x hx => h.boxes x (List.mem_append_right _ hx), fun x hx => h.plain x (List.mem_append_right _ hx), ?_, fun g hg => h.fresh g (hsub g hg), fun g hg => h.inM g (hsub g hg), fun g hg => h.m0 g (hsub g hg), h.below, h.kept⟩
  have := h.nodup
  unfold blks at *
  rw [List.filterMap_append] at this
  exact (List.nodup_append.1 this).2.1
/-- behind the loop -/
theorem Bt.done {a : Act} (h : Bt w0 M0 w bs0 bs W) (hok : Ok w0 M0 n bs0 st a w) (hp0 : ∀ x ∈ bs0, PlB x) {D : Nat} (hD : w.heap.size ≤ D) (hh : W.heap[D]? = some (.deferred (some []))) :
    Ok w0 M0 n (.d D :: bs) st { a with defers := { target := .collected D, args := #[] } :: a.defers } W := by
  have hlt : D < W.heap.size := (Array.getElem?_eq_some_iff.1 hh).1
  have hM : ∀ b, M0 b → b < w.heap.size := fun b hb => hok.msk b (.inl hb)
  have hk : Kp w (mkM M0 bs0) W (mkM M0 (.d D :: bs)) := ⟨fun b hb hm => h.kept.block b hb fun hu => hu.elim hm fun hle => by omega, h.kept.size, fun b hb => by
    rcases hb with hb | hb
    · exact .inl (.inl hb)
    · rcases (List.mem_cons (l := blks bs)).1 hb with h2 | h2
      · have h2 : b = D := h2
        subst h2; exact .inr hD
      · exact h.inM b h2⟩
  refine ⟨?_, hok.size, fun t R ht => R.keep (hok.facts t R ht) hk, fun x hx => ?_, ?_, fun g hg => ?_, h.below, fun b hb => ?_, fun g hg hm => ?_⟩
  · show _ :: a.defers = _ :: defs bs
    rw [hok.defers, defs_none fun x hx => (hp0 x hx).mark, defs_none fun x hx => (h.plain x hx).mark]
  · rcases List.mem_cons.1 hx with rfl | hx
    · exact hh
    · exact (h.boxes x hx).pl (h.plain x hx) fun _ _ => rfl
  · show (D :: blks bs).Nodup
    refine List.nodup_cons.2 ⟨fun hm => ?_, h.nodup⟩
    obtain ⟨x, hx, e⟩ := List.mem_filterMap.1 hm
    obtain ⟨o, g1, g2⟩ := (h.boxes x hx).cells (h.plain x hx) e
    rw [hh] at g1; cases g1; cases g2
  · rcases (List.mem_cons (l := blks bs)).1 hg with h2 | h2
    · have h2 : g = D := h2
      have := hok.below.size; omega
    · exact h.fresh g h2
  · rcases hb with hb | hb
    · have := hM b hb; have := h.kept.size; omega
    · rcases (List.mem_cons (l := blks bs)).1 hb with h2 | h2
      · have h2 : b = D := h2
        omega
      · obtain ⟨x, hx, e⟩ := List.mem_filterMap.1 h2
        obtain ⟨o, g1, _⟩ := (h.boxes x hx).cells (h.plain x hx) e
        exact (Array.getElem?_eq_some_iff.1 g1).1
  · rcases (List.mem_cons (l := blks bs)).1 hg with h2 | h2
    · have h2 : g = D := h2
      have := hM g hm; omega
    · exact h.m0 g h2 hm
end
/-- an iterator, as a fact: what its rounds bring -/
def iterR {α : Type} (P : Program) (gf : FuncId) (encs : α → Array Value) (xs : List α) : Rp :=
  ⟨fun v w M => ∃ lb, v = .func (.func gf) #[] lb ∧ Enters P gf ∧ ∀ w' M', Kp w M w' M' → SeqStopsK Fence.wide 1 P gf lb encs (KM (up w' M')) (fun ys => ys = xs) (fun pre => pre <+: xs) xs.length w',
   fun ⟨lb, h1, h2, h3⟩ k => ⟨lb, h1, h2, fun w' M' k' => h3 w' M' (k.trans k')⟩⟩
section
variable {P : Program} {w0 : World} {M0 : Mask} {n : Nat} {bs : List Box} {st : St} {Q : Exit → Act → World → Prop}
/-- how a round may end -/
def RoundPost {α β : Type} (w0 : World) (Ma : Mask) (n : Nat) (bx : β → List Box) (Iv : List α → β → Prop) (Xv : Code → List α → β → Prop) (pre : List α) (bs1 : List Box) (W : World) : Exit → Act → World → Prop
  | .normal, a, W' => ∃ y st', Iv pre y ∧ Ok w0 Ma n (bx y) st' a W' ∧ Kp W (mkM Ma bs1) W' (mkM Ma (bx y))
  | .ret, a, W' => ∃ y st', Xv .ret pre y ∧ Ok w0 Ma n (bx y) st' a W' ∧ Kp W (mkM Ma bs1) W' (mkM Ma (bx y))
  | .exit id, a, W' => ∃ y st', Xv (.exit id) pre y ∧ Ok w0 Ma n (bx y) st' a W' ∧ Kp W (mkM Ma bs1) W' (mkM Ma (bx y))
  | _, _, _ => False
theorem WP.rangeF {α β ε : Type} {gf : FuncId} {ev : α → Value} {xs : List α} {g p : Nat} {assign body : Code} (hg : look st g = some (iterR P gf (fun x => #[ev x]) xs)) (hp : p < n)
    (bx : β → List Box) (Iv : List α → β → Prop) (Xv : Code → List α → β → Prop) (y0 : β) (h0 : Iv [] y0) (hb : bs = bx y0) (hpl : ∀ y, ∀ x ∈ bx y, PlB x)
    (hdet : ∀ y y' M W, (∀ x ∈ bx y, BoxOk W M x) → (∀ x ∈ bx y', BoxOk W M x) → blks (bx y) = blks (bx y'))
    (st0 : St) (hst0 : ∀ i R, look st0 i = some R → ∃ R', look st i = some R' ∧ ∀ v w M, R'.h v w M → R.h v w M) (hpl0 : ∀ i R, look st0 i = some R → Pl R) (Rx : α → Rp) (hRx : ∀ x w M, (Rx x).h (ev x) w M)
    (ex : α → ε → List Box) (sx : α → ε → St) (hplx : ∀ x e, (∀ b ∈ ex x e, PlB b) ∧ ∀ i R, look (sx x e) i = some R → Pl R)
    (hassign : ∀ (r m : Nat) (pre : List α) (x : α) (y : β) (W : World) (Ma : Mask), Iv pre y → WPI P r m w0 Ma n (bx y) ((p, Rx x) :: st0 ++ [(sinceAt, since W (mkM Ma (bx y)))]) assign
      (fun e a W' => e = .normal ∧ ∃ e' : ε, Ok w0 Ma n (ex x e' ++ bx y) (sx x e') a W' ∧ Kp W (mkM Ma (bx y)) W' (mkM Ma (ex x e' ++ bx y))))
    (hbody : ∀ (r m : Nat) (pre : List α) (x : α) (y : β) (e : ε) (W : World) (Ma : Mask), Iv pre y → pre.length < xs.length → WPI P r m w0 Ma n (ex x e ++ bx y) (sx x e ++ [(sinceAt, since W (mkM Ma (ex x e ++ bx y)))]) body (RoundPost w0 Ma n bx Iv Xv (pre ++ [x]) (ex x e ++ bx y) W))
    (hdone : ∀ D y, Iv xs y → Lead w0 M0 n (.d D :: bx y) st .normal Q)
    (hstop : ∀ D c pre y, pre <+: xs → Xv c pre y → WP P w0 M0 n (.d D :: bx y) st c Q) :
    WP P w0 M0 n bs st (.rangeFunc (.tmp g) #[p] assign body) Q := by
  intro a w hok
  subst hb
  obtain ⟨lb, hv, heg, hseq⟩ := hok.facts g _ hg
  have hw0 : w0.heap.size ≤ w.heap.size := hok.below.size
  have hMw : ∀ b, M0 b → b < w.heap.size := fun b hb => hok.msk b (.inl hb)
  have hupK : ∀ {W W' : World} {bs1 bs' : List Box} (hB : Bt w0 M0 w (bx y0) bs1 W), Kp W (mkM (M1 w (mkM M0 (bx y0)) bs1 W) bs1) W' (mkM (M1 w (mkM M0 (bx y0)) bs1 W) bs') → KM (up w (mkM M0 (bx y0))) W W' := fun hB hk =>
    ⟨fun b hb hm => hk.block b hb fun hu => hm (hB.mask hu).1, hk.size, fun b hb => .inl hb⟩
  have hpl1 : ∀ x e y, ∀ b ∈ ex x e ++ bx y, PlB b := fun x e y b hb => (List.mem_append.1 hb).elim ((hplx x e).1 b) (hpl y b)
  refine (wpIn_wide (n := 2)).1 (wpIn_rangeFunc_ownH (F := Fence.wide) (n := 2) rfl (by decide) (gf := gf) (lb := lb) hv trivial heg (hseq w _ (Kp.refl _ _)) (fun h k => h.trans k) (fun W l o o' hl hW _ _ => ?_) (Below.refl _ _) (fun _ => rfl)
    (fun pre W => ∃ y, Iv pre y ∧ Bt w0 M0 w (bx y0) (bx y) W) (fun c pre W => ∃ y, Xv c pre y ∧ Bt w0 M0 w (bx y0) (bx y) W) (fun pre W W' row ⟨y, h1, h2⟩ hgr hr => ⟨y, h1, h2.grown hw0 hgr hr⟩) (fun c pre W W' row ⟨y, h1, h2⟩ hgr hr => ⟨y, h1, h2.grown hw0 hgr hr⟩)
    ⟨y0, h0, Bt.start hok (hpl y0)⟩
    (fun x a' W => a'.defers = [] ∧ a'.tmps.size = n ∧ ∃ (y : β) (e : ε), (∀ t R, look (sx x e) t = some R → R.h (a'.tmps.getD t undef) W (up w (mkM M0 (bx y0)))) ∧ Bt w0 M0 w (bx y0) (ex x e ++ bx y) W)
    (fun x a' _ W W' row ⟨h1, h2, y, e, h3, h4⟩ hgr hr => ⟨h1, h2, y, e, fun t R ht => (hplx x e).2 t R ht _ _ _ _ _ (h3 t R ht), h4.grown hw0 hgr hr⟩) ?_ ?_ ?_ ?_)
  · -- a block that is no cells may turn
    have hl' := (Array.getElem?_eq_some_iff.1 hW).1
    refine ⟨fun b hb hm => World.putObj_heap_other fun e => hm (.inr (by omega)), by simp, fun b hb => .inl hb⟩
  · -- the loop's variable
    intro l pre x W K ⟨y, h1, h2⟩ hK
    have hok1 := h2.ok (n := n) (st := (p, Rx x) :: st0 ++ [(sinceAt, since W (mkM (M1 w (mkM M0 (bx y0)) (bx y) W) (bx y)))]) (a' := { tmps := a.tmps.setIfInBounds p (ev x), defers := [] }) rfl (by simp [hok.size]) fun t R ht => by
      have hget : (a.tmps.setIfInBounds p (ev x)).getD t undef = if t = p then ev x else a.tmps.getD t undef := getD_put (a := a) (d := p) (by rw [hok.size]; exact hp) t
      simp only [List.cons_append, look] at ht
      show R.h ((a.tmps.setIfInBounds p (ev x)).getD t undef) W _
      rw [hget]
      split at ht
      · rename_i e; cases ht; rw [if_pos e]; exact hRx x _ _
      · rename_i e
        rw [if_neg e]
        rw [look_app] at ht
        cases hq : look st0 t with
        | some R' =>
          rw [hq] at ht; cases ht
          obtain ⟨R', g1, g2⟩ := hst0 t R hq
          exact hpl0 t R hq _ _ _ _ _ (g2 _ _ _ (hok.facts t R' g1))
        | none =>
          rw [hq] at ht
          simp only [Option.none_or, look] at ht
          split at ht
          · cases ht; exact Kp.refl _ _
          · cases ht
    have e0 : #[p].zip #[ev x] = #[(p, ev x)] := by simp
    rw [e0]
    show assign.wpIn (Fence.wide.inRound l) (2 - 1 - 1) P _ { tmps := a.tmps.setIfInBounds p (ev x), defers := [] } W
    refine Code.wpIn_mono (fun e a' W' q => ?_) (hassign l _ pre x y W _ h1 _ _ hok1)
    obtain ⟨rfl, e', q1, q2⟩ := q
    have hB := h2.next hMw q1 (hpl1 x e' y) q2
    refine hK a' W' (h2.keeps q2 _) (hupK h2 q2) ⟨y, h1, hB.drop⟩ ⟨q1.defers.trans (defs_none fun b hb => (hpl1 x e' y b hb).mark), q1.size, y, e', fun t R ht => (hplx x e').2 t R ht _ _ _ _ _ (q1.facts t R ht), hB⟩
  · -- the body
    intro l pre x a' W _ _ ⟨y, h1, h2⟩ ⟨g1, g2, y', e, g3, g4⟩ hlen
    have hbl := hdet y y' _ W h2.boxes (fun b hb => g4.boxes b (List.mem_append_right _ hb))
    have hE : blks (ex x e ++ bx y) = blks (ex x e ++ bx y') := by unfold blks at *; rw [List.filterMap_append, List.filterMap_append, hbl]
    have hB : Bt w0 M0 w (bx y0) (ex x e ++ bx y) W := ⟨fun b hb => (List.mem_append.1 hb).elim (fun h => g4.boxes b (List.mem_append_left _ h)) (h2.boxes b), hpl1 x e y, by rw [hE]; exact g4.nodup, fun g hg => g4.fresh g (hE ▸ hg), fun g hg => g4.inM g (hE ▸ hg), fun g hg => g4.m0 g (hE ▸ hg), g4.below, g4.kept⟩
    have hok1 := hB.ok (n := n) (st := sx x e ++ [(sinceAt, since W (mkM (M1 w (mkM M0 (bx y0)) (ex x e ++ bx y) W) (ex x e ++ bx y)))]) g1 g2 fun t R ht => by
      rw [look_app] at ht
      cases hq : look (sx x e) t with
      | some R' => rw [hq] at ht; cases ht; exact (hplx x e).2 t R hq _ _ _ _ _ (g3 t R hq)
      | none =>
        rw [hq] at ht
        simp only [Option.none_or, look] at ht
        split at ht
        · cases ht; exact Kp.refl _ _
        · cases ht
    refine Code.wpIn_mono (fun ee a'' W'' q => ?_) (hbody l _ pre x y e W _ h1 hlen _ _ hok1)
    cases ee with
    | normal =>
      obtain ⟨y'', st', q0, q1, q2⟩ := q
      exact ⟨hB.keeps q2 _, hupK hB q2, y'', q0, hB.next hMw q1 (hpl y'') q2⟩
    | ret =>
      obtain ⟨y'', st', q0, q1, q2⟩ := q
      exact ⟨hB.keeps q2 _, y'', q0, hB.next hMw q1 (hpl y'') q2⟩
    | exit id =>
      obtain ⟨y'', st', q0, q1, q2⟩ := q
      exact ⟨hB.keeps q2 _, y'', q0, hB.next hMw q1 (hpl y'') q2⟩
    | _ => exact (q : False).elim
  · intro D ys W hD hys ⟨y, h1, h2⟩ hh
    subst hys
    exact hdone D y h1 _ _ (h2.done hok (hpl y0) hD hh)
  · intro D c pre W hD hpre ⟨y, h1, h2⟩ hh
    exact wpIn_wide.2 (hstop D c pre y hpre h1 _ _ (h2.done hok (hpl y0) hD hh))

/-! ### how such a function is left -/
theorem Ok.take {D : Nat} {a : Act} {w : World} (h : Ok w0 M0 n (.d D :: bs) st a w) : Ok w0 M0 n bs st { a with defers := defs bs } (w.putObj D (.deferred none)) := by
  have hDm : D ∈ blks (.d D :: bs) := List.mem_cons_self
  have hsub : ∀ g, g ∈ blks bs → g ∈ blks (.d D :: bs) := fun g hg => List.mem_cons_of_mem _ hg
  have hnd : (D :: blks bs).Nodup := h.nodup
  have hother : ∀ b, b ≠ D → (w.putObj D (.deferred none)).heap[b]? = w.heap[b]? := fun b hb => World.putObj_heap_other hb
  have hk : Kp w (mkM M0 (.d D :: bs)) (w.putObj D (.deferred none)) (mkM M0 bs) := ⟨fun b _ hm => hother b fun e => hm (by rw [e]; exact .inr hDm), by simp, fun b hb => .inl (hb.imp id (hsub b))⟩
  refine ⟨rfl, h.size, fun t R ht => R.keep (h.facts t R ht) hk, fun x hx => (h.boxes x (List.mem_cons_of_mem _ hx)).same (fun g hg _ => hother g fun e => ?_) hk, (List.nodup_cons.1 hnd).2, fun g hg => h.fresh g (hsub g hg), ⟨h.below.os, h.below.tape, h.below.output, by simpa using h.below.size, fun b hb => ?_⟩, fun b hb => ?_, fun g hg => h.m0 g (hsub g hg)⟩
  · subst e; exact (List.nodup_cons.1 hnd).1 (mem_blks hx hg)
  · rw [hother b fun e => by have := h.fresh D hDm; omega]; exact h.below.block b hb
  · have := h.msk b (hb.imp id (hsub b)); simpa using this
theorem Lead.ofM {F : Fence} {m : Nat} {fn : Func} {R : Ending → World → Prop} (h : Lead w0 M0 n bs st .ret (bodyPost P fn R)) : Lead w0 M0 n bs st .ret (bodyPostM F m P fn R) := fun a w hok => by
  obtain ⟨h1, h2⟩ := h a w hok
  show LeavesInM F m P fn a.tmps R a.defers .returning w
  rw [h1]
  exact h2
theorem Lead.mk {F : Fence} {m D : Nat} {fn : Func} {R : Ending → World → Prop} (h : Lead w0 M0 n bs st .ret (bodyPostM F m P fn R)) : Lead w0 M0 n (.d D :: bs) st .ret (bodyPostM F m P fn R) := fun a w hok => by
  have hD : w.heap[D]? = some (.deferred (some [])) := hok.boxes (.d D) List.mem_cons_self
  have h1 := h _ _ hok.take
  have e : a.defers = { target := .collected D, args := #[] } :: defs bs := hok.defers
  show LeavesInM F m P fn a.tmps R a.defers .returning w
  rw [e]
  exact ⟨by simp, .inl ⟨D, _, rfl, run_takeDeferred hD, h1⟩⟩
theorem PureC.of_wpM {f : FuncId} {fn : Func} {c : Code} {args : List Rp} {res : Rp} (hf : P.funcs[f]? = some fn) (hname : (fn.name == "runtime.NumGoroutine") = false) (hb : fn.body = some c)
    (hn : fn.ntmps = n) (hl : args.length ≤ n) (h : ∀ w0 M0, WP P w0 M0 n [] (argst 0 args) c (bodyPostM Fence.wide 2 P fn (Post res w0 M0))) : PureC P f args res := by
  refine ⟨enters_of hf hname hb, fun w M vs hm hvs => (callsIn_wide (n := 2)).1 (callsIn_of_wp_marks hf hb trivial (wpIn_wide.2 (h w M _ _ ⟨rfl, ?_, ?_, by simp, List.nodup_nil, fun _ h => (by cases h), Below.refl _ _, fun b hb => ?_, fun _ h => (by cases h)⟩)) rfl)⟩
  · have := TupAll.length hvs
    simp; omega
  · intro t R ht
    obtain ⟨v, h1, h2, h3⟩ := look_argst hvs t R ht
    have h4 : (vs.toArray ++ Array.replicate (fn.ntmps - vs.toArray.size) undef).getD t undef = v := by
      have hlt := (List.getElem?_eq_some_iff.1 h2).1
      simp only [Nat.sub_zero] at h2 hlt
      rw [Array.getD_eq_getD_getElem?, Array.getElem?_append_left (by simpa using hlt)]
      simp [h2]
    show R.h ((vs.toArray ++ Array.replicate (fn.ntmps - vs.toArray.size) undef).getD t undef) w _
    rw [h4]
    exact R.keep h3 (Kp.less w fun b hb => hb.elim id fun h => by cases h)
  · rcases hb with hb | hb
    · exact hm b hb
    · cases hb
theorem blks_hide (H : List Nat) : ∀ (bs : List Box) (i : Nat), blks (hideB H bs i) = blks bs
  | [], _ => rfl
  | x :: bs, i => by
    have ih := blks_hide H bs (i + 1)
    have e : (if H.contains i then hideBox x else x).blk = x.blk := by split <;> cases x <;> rfl
    unfold blks at *
    simp only [hideB, List.filterMap_cons, e, ih]
theorem defs_hide (H : List Nat) : ∀ (bs : List Box) (i : Nat), defs (hideB H bs i) = defs bs
  | [], _ => rfl
  | x :: bs, i => by
    have ih := defs_hide H bs (i + 1)
    have e : (if H.contains i then hideBox x else x).mark = x.mark := by split <;> cases x <;> rfl
    unfold defs at *
    simp only [hideB, List.filterMap_cons, e, ih]
/-- what some boxes hold is forgotten -/
theorem WP.forget (H : List Nat) {c : Code} (h : WP P w0 M0 n (hideB H bs) st c Q) : WP P w0 M0 n bs st c Q := fun a w hok => h a w (by
  have hm : mkM M0 (hideB H bs) = mkM M0 bs := by unfold mkM; rw [blks_hide]
  refine ⟨hok.defers.trans (defs_hide H bs 0).symm, hok.size, fun t R ht => by rw [hm]; exact hok.facts t R ht, ?_, by rw [blks_hide]; exact hok.nodup, fun g hg => hok.fresh g (by rwa [blks_hide] at hg), hok.below, fun b hb => hok.msk b (by rwa [hm] at hb), fun g hg => hok.m0 g (by rwa [blks_hide] at hg)⟩
  rw [hm]
  exact Hid.hide H bs w _ hok.boxes)
/-- the length of an own row -/
theorem lenr (i : Nat) {lk : Nat → Option Rp} {T ty e : TypeId} {sz k : Nat} {v : Value} {rs : List Rp} {x : Operand} (hb : bs[i]? = some (.r v e sz k rs)) (hT : P.underlying T = some (.slice e)) (hx : OF lk x (val v)) : OpG P bs lk (.call ⟨.builtin .len, #[x], #[T]⟩) ty (val (.int .i64 (k : Int))) := OpG.pure fun σ w M hf hbx => by
  have h1 : ev σ x = v := hx σ w M (hf x (by simp [Op.operands, Call.operands]))
  obtain ⟨cs, ⟨_, h2⟩, _⟩ := hbx _ (List.mem_of_getElem? hb)
  have hs : ∃ A c, v = .slice A k c := by
    rcases h2 with ⟨rfl, rfl⟩ | ⟨g, cap, cur, rfl, _⟩
    · exact ⟨_, _, rfl⟩
    · exact ⟨_, _, rfl⟩
  obtain ⟨A, c, rfl⟩ := hs
  exact ⟨_, by simp [execOp, resolve, invoke, builtin, Builtin.len_, h1, run_underlying hT, goInt], rfl⟩

/-! ### steps inside a round -/
variable {r m : Nat} {ops : Array Oper} {l : List Oper}
theorem WLI.op {d : Nat} {op : Op} {ty : TypeId} {pos : String} {af : Array Edge} {R : Rp} (h : OpG P bs (look st) op ty R) (hd : d < n) (rest : WLI P r m w0 M0 n bs ((d, R) :: st) ops l Q) (hf : ∀ c, op ≠ .defer c := by intro c h; cases h) :
    WLI P r m w0 M0 n bs st ops (⟨some d, op, ty, pos, af, none⟩ :: l) Q :=
  WLI.of (β := Unit) (bx := fun _ => bs) (sx := fun _ => (d, R) :: st) (C := fun _ => True) hf (WL.op h hd (WL.nl fun a w hok => ⟨rfl, (), trivial, hok⟩)) fun _ _ => rest
theorem WLI.alloc {d : Nat} {T ty : TypeId} {pos : String} {af : Array Edge} {cs : List Value} (hz : zeros P T = some cs) (h1 : cs.all (·.oneCell') = true) (hd : d < n)
    (rest : ∀ b, WLI P r m w0 M0 n (.b b T (cs.map val) :: bs) ((d, val (.pointer (some ⟨b, 0, none⟩))) :: st) ops l Q) : WLI P r m w0 M0 n bs st ops (⟨some d, .alloc T, ty, pos, af, none⟩ :: l) Q :=
  WLI.of (β := Nat) (bx := fun b => .b b T (cs.map val) :: bs) (sx := fun b => (d, val (.pointer (some ⟨b, 0, none⟩))) :: st) (C := fun _ => True) (by intro c h; cases h) (WL.alloc hz h1 hd fun b => WL.nl fun a w hok => ⟨rfl, b, trivial, hok⟩) fun b _ => rest b
theorem WLI.store (i : Nat) {T ty bt : TypeId} {x y : Operand} {pos : String} {af : Array Edge} {R : Rp} {b o k : Nat} {rs rs' : List Rp} (hb : bs[i]? = some (.b b bt rs)) (hx : OF (look st) x (val (.pointer (some ⟨b, o, none⟩)))) (hy : OF (look st) y R) (hfl : Flat R rs')
    (hm : sizeT P T = some k) (hl : rs'.length = k) (hr : o + k ≤ rs.length) (rest : WLI P r m w0 M0 n (bs.set i (.b b bt (setAt rs o rs'))) st ops l Q) : WLI P r m w0 M0 n bs st ops (⟨none, .store T x y, ty, pos, af, none⟩ :: l) Q :=
  WLI.of (β := Unit) (bx := fun _ => bs.set i (.b b bt (setAt rs o rs'))) (sx := fun _ => st) (C := fun _ => True) (by intro c h; cases h) (WL.store i hb hx hy hfl hm hl hr (WL.nl fun a w hok => ⟨rfl, (), trivial, hok⟩)) fun _ _ => rest
theorem WLI.app {α : Type} (i : Nat) {T ty e : TypeId} {sz bytes k d : Nat} {v : Value} {x y : Operand} {pos : String} {af : Array Edge} {rs : List Rp} {f : α → List Rp} {xs : List α} (hb : bs[i]? = some (.r v e sz k rs)) (hT : elemInfo P T = some (e, sz, bytes, sz)) (hsz : 0 < sz) (hx : OF (look st) x (val v)) (hy : OF (look st) y (sl sz f xs)) (hne : xs ≠ []) (hf : ∀ x, (f x).length = sz)
    (hl : k + xs.length ≤ 9223372036854775807) (hby : (k + xs.length) * bytes ≤ 140737488355328) (hd : d < n)
    (rest : ∀ v' : Value, v'.oneCell' = true → WLI P r m w0 M0 n (bs.set i (.r v' e sz (k + xs.length) (rs ++ xs.flatMap f))) ((d, val v') :: st) ops l Q) :
    WLI P r m w0 M0 n bs st ops (⟨some d, .call ⟨.builtin .append, #[x, y], #[T, T]⟩, ty, pos, af, none⟩ :: l) Q :=
  WLI.of (β := Value) (bx := fun v' => bs.set i (.r v' e sz (k + xs.length) (rs ++ xs.flatMap f))) (sx := fun v' => (d, val v') :: st) (C := fun v' => v'.oneCell' = true) (by intro c h; cases h) (WL.app i hb hT hsz hx hy hne hf hl hby hd fun v' h' => WL.nl fun a w hok => ⟨rfl, v', h', hok⟩) fun v' h' => rest v' h'
end
end Go.Fw

/- Calls that hand back a row of their own making. No program in sight. -/
namespace Go.Fw
open Go.RowKit Go.Proofs
set_option linter.unusedVariables false
set_option linter.unusedSimpArgs false
section
variable {P : Program} {w0 : World} {M0 : Mask} {n : Nat} {bs : List Box} {st : St} {ops : Array Oper} {l : List Oper} {Q : Exit → Act → World → Prop}
def NewPost (w0 : World) (M0 : Mask) (e : TypeId) (sz k : Nat) (rs : List Rp) : Ending → World → Prop := fun en w' => ∃ v, en = .returned v ∧ v.oneCell' = true ∧ Mem w0 M0 [.r v e sz k rs] w'
/-- the call makes a row and hands it back -/
def NewC (P : Program) (f : FuncId) (args : List Rp) (e : TypeId) (sz k : Nat) (rs : List Rp) : Prop := Enters P f ∧ ∀ (w : World) (M : Mask) (vs : List Value), (∀ b, M b → b < w.heap.size) → TupAll w M args vs → Calls P f vs.toArray w (NewPost w M e sz k rs)
theorem NewC.of_wp {f : FuncId} {fn : Func} {c : Code} {args : List Rp} {e : TypeId} {sz k : Nat} {rs : List Rp} (hf : P.funcs[f]? = some fn) (hname : (fn.name == "runtime.NumGoroutine") = false) (hb : fn.body = some c)
    (hn : fn.ntmps = n) (hl : args.length ≤ n) (h : ∀ w0 M0, WP P w0 M0 n [] (argst 0 args) c (bodyPost P fn (NewPost w0 M0 e sz k rs))) : NewC P f args e sz k rs := by
  refine ⟨enters_of hf hname hb, fun w M vs hm hvs => ?_⟩
  refine calls_lent (bs := []) hf hb hn hl (w0 := w) (M0 := M) ⟨by simp, List.nodup_nil, fun _ h => (by cases h), Below.refl _ _, fun b hb => hm b (hb.elim id fun h => by cases h), fun _ h => (by cases h)⟩
    (hvs.keep (Kp.less w fun b hb => hb.elim id fun h => by cases h)) fun a w' hok => ?_
  refine h w M a w' ⟨hok.defers, hok.size, fun t R ht => hok.facts t R ?_, hok.boxes, hok.nodup, hok.fresh, hok.below, hok.msk, hok.m0⟩
  rw [look_app, ht]; rfl
theorem Lead.new {fn : Func} {e : TypeId} {sz m i : Nat} {rs : List Rp} {v : Value} (hr : fn.results = #[.tmp i]) (hs : look st i = some (val v)) (hv : v.oneCell' = true) (k : Nat) (hb : bs.drop k = [.r v e sz m rs]) (hx : noMark (bs.take k) = true := by rfl) (hd : defs bs = [] := by rfl) :
    Lead w0 M0 n bs st .ret (bodyPost P fn (NewPost w0 M0 e sz m rs)) := fun a w' hok => by
  have h1 := hok.drop k hx
  rw [hb] at h1
  have h2 : a.tmps.getD i undef = v := h1.facts i _ hs
  exact ⟨hok.defers.trans hd, _, results_tmp hr _ _ _, _, rfl, by rw [h2]; exact hv, by rw [h2]; exact h1.mem⟩
theorem WL.new {f : FuncId} {xs : List Operand} {Rs rs : List Rp} {ats : Array TypeId} {e : TypeId} {sz k d : Nat} {ty : TypeId} {pos : String} {af : Array Edge} (hc : NewC P f Rs e sz k rs) (hx : OFs (look st) xs Rs) (hd : d < n)
    (rest : ∀ v : Value, v.oneCell' = true → WL P w0 M0 n (.r v e sz k rs :: bs) ((d, val v) :: st) ops l Q) : WL P w0 M0 n bs st ops (⟨some d, .call ⟨.value (.func f), xs.toArray, ats⟩, ty, pos, af, none⟩ :: l) Q := by
  intro a w hok
  refine wpList_plain rfl fun K hK => wp_of_does rfl ?_
  rw [exec_eq, run_callF hc.1 (Rs := Rs) a w]
  refine Calls.mono (hc.2 w (mkM M0 bs) _ hok.msk (hx.ok hok)) ?_
  rintro en w' ⟨v, rfl, hv, hm⟩
  refine ⟨v, rfl, hK _ _ (rest v hv _ _ ?_)⟩
  have hok' := (hok.new hm).2
  exact hok'.setFact hd rfl
theorem run_append_zero (w : World) {base size k : Nat} {v : Value} {xs : List Value} {T ty e : TypeId} {i : TypeInfo} (ht : P.underlying T = some (.slice e)) (hi : P.info? e = some i) (hown : w.ownsRow base e size v k xs) (A : Option Addr) (c : Nat) :
    (Builtin.append_ #[T, T] ty #[v, .slice A 0 c]).run P w = .ok v w := by
  rcases hown.2 with ⟨rfl, rfl⟩ | ⟨g, cap, cur, rfl, _, _, hnc, _⟩
  · cases A <;> simp [Builtin.append_, run_underlying ht, sizeOf, typeInfo, hi, Builtin.lenOf, Builtin.firstCells, loadCells, loadCellsFrom]
  · cases A <;> simp [Builtin.append_, run_underlying ht, sizeOf, typeInfo, hi, Builtin.lenOf, Builtin.firstCells, loadCells, loadCellsFrom, hnc, storeCells]
/-- append(v, x...) of one's own row v, of whatever length -/
theorem WL.app' {α : Type} (i : Nat) {T ty e : TypeId} {sz bytes m d : Nat} {v : Value} {x y : Operand} {pos : String} {af : Array Edge} {rs : List Rp} {f : α → List Rp} {xs : List α} (hb : bs[i]? = some (.r v e sz m rs)) (hT : elemInfo P T = some (e, sz, bytes, sz)) (hsz : 0 < sz) (hx : OF (look st) x (val v)) (hy : OF (look st) y (sl sz f xs)) (hv : v.oneCell' = true) (hf : ∀ x, (f x).length = sz)
    (hl : m + xs.length ≤ 9223372036854775807) (hby : (m + xs.length) * bytes ≤ 140737488355328) (hd : d < n)
    (rest : ∀ v' : Value, v'.oneCell' = true → WL P w0 M0 n (bs.set i (.r v' e sz (m + xs.length) (rs ++ xs.flatMap f))) ((d, val v') :: st) ops l Q) :
    WL P w0 M0 n bs st ops (⟨some d, .call ⟨.builtin .append, #[x, y], #[T, T]⟩, ty, pos, af, none⟩ :: l) Q := by
  by_cases hne : xs = []
  · subst hne
    intro a w hok
    have h1 : ev (fun t => a.tmps.getD t undef) x = _ := hx _ w _ fun i R' _ hi => hok.facts i R' hi
    obtain ⟨A, c, h2, _⟩ := hy (fun t => a.tmps.getD t undef) w _ fun i R' _ hi => hok.facts i R' hi
    obtain ⟨cs, c1, c2⟩ := hok.boxes _ (List.mem_of_getElem? hb)
    unfold elemInfo at hT
    split at hT
    · rename_i e' hu
      cases hi : P.info? e' with
      | none => rw [hi] at hT; simp at hT
      | some ti =>
        cases hz : ti.zero with
        | none => rw [hi] at hT; simp [hz] at hT
        | some z =>
          rw [hi] at hT
          simp only [Option.bind_some, hz, Option.map_some, Option.some.injEq, Prod.mk.injEq] at hT
          obtain ⟨rfl, t1, t2, t3⟩ := hT
          refine wpList_plain rfl fun K hK => ?_
          unfold Oper.wp
          rw [eval_ev, exec_eq]
          have hrun : (execOp (ev fun t => a.tmps.getD t undef) ⟨none, .call ⟨.builtin .append, #[x, y], #[T, T]⟩, ty, "", #[], none⟩).run P w = .ok (.value v) w := by
            simp only [execOp, resolve, invoke, builtin, Sem.run_bind, Sem.run_pure, Result.andThen_ok, List.map_toArray, List.map_cons, List.map_nil, h1, h2, List.length_nil, run_append_zero (P := P) w hu hi c1 A c]
          rw [hrun]
          have hset : bs.set i (.r v e' sz (m + ([] : List α).length) (rs ++ ([] : List α).flatMap f)) = bs := by
            simp only [List.length_nil, Nat.add_zero, List.flatMap_nil, List.append_nil]
            obtain ⟨hlt, he⟩ := List.getElem?_eq_some_iff.1 hb
            rw [← he, List.set_getElem_self]
          have hr := rest v hv
          rw [hset] at hr
          exact hK _ _ (hr _ _ (hok.setFact hd rfl))
    · cases hT
  · exact WL.app i hb hT hsz hx hy hne hf hl hby hd rest
theorem OpN.call {f : FuncId} {xs : List Operand} {Rs rs : List Rp} {ats : Array TypeId} {e : TypeId} {sz k : Nat} {ty : TypeId} {lk : Nat → Option Rp} (hc : NewC P f Rs e sz k rs) (hx : OFs lk xs Rs) :
    OpN P bs lk (.call ⟨.value (.func f), xs.toArray, ats⟩) ty e sz k rs := by
  intro σ w M hm hf _
  have h1 : (execOp (ev σ) ⟨none, .call ⟨.value (.func f), xs.toArray, ats⟩, ty, "", #[], none⟩).run P w = .ok (.enter f (xs.map (ev σ)).toArray) w := by
    have := hc.1 (xs.map (ev σ)).toArray w
    simp [execOp, resolve, Deferred.ofValue, ev, invoke, this]
  rw [h1]
  refine Calls.mono (hc.2 w M _ hm (hx.all fun x hx => hf x (by simp [Op.operands, Call.operands, hx]))) ?_
  rintro en w' ⟨v, rfl, hv, hm'⟩
  exact ⟨v, rfl, hv, hm'⟩
end
section
variable {P : Program} {bs : List Box} {lk : Nat → Option Rp} {ty T T' : TypeId} {x y : Operand}
theorem nes {n : Nat} {us cs : List Int} (hT : intFields P T n = true) (ha : us.length = n) (hc : cs.length = n) (hx : OF lk x (agg (us.map fun n => val (.int .i64 n)))) (hy : OF lk y (agg (cs.map fun n => val (.int .i64 n)))) :
    OpG P bs lk (.binOp .neq T x y T') ty (val (.bool (!decide (us = cs)))) := opr fun σ w M hf => by
  obtain ⟨vs, e1, k1⟩ := hx σ w M (hf x (by simp [Op.operands, Call.operands]))
  obtain ⟨qs, e2, k2⟩ := hy σ w M (hf y (by simp [Op.operands, Call.operands]))
  rw [agg_ints (v := undef) k1] at e1
  rw [agg_ints (v := undef) k2] at e2
  unfold intFields at hT
  split at hT
  · rename_i fs hu
    simp only [Bool.and_eq_true, decide_eq_true_eq, Bool.not_eq_true'] at hT
    obtain ⟨⟨⟨h1, h2⟩, h3⟩, h4⟩ := hT
    have hf' : P.fieldsOf T = fs := by simp [Program.fieldsOf, hu]
    have hr := run_eqFields_ints (P := P) w 9998 (us.map (.int .i64)) (cs.map (.int .i64)) fs.toList 0 us cs h4 (by simpa [h1] using ha) (by simpa [h1] using hc) rfl rfl
    have hq := run_equalIn_agg (P := P) w 9999 T (us.map (.int .i64)).toArray (cs.map (.int .i64)).toArray (by rw [hf']; exact hu) h2
    rw [hf'] at hq
    simp only [execOp, e1, e2, Sem.run_bind, run_eqGuard_agg w _ T x y _ _ h3, Result.andThen_ok, run_neq_struct, hq, hr]
    rfl
  · cases hT
end
end Go.Fw

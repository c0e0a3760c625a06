/- Parts: Fwr. -/
import Derived.Test.YtjglgfnhgehpeaaGreatYb
/- A region whose order is open, by facts: each operation is shown once, from what it waits for; the stores at its end come in one order. No program in sight. -/
namespace Go.Fw
open Go.RowKit Go.Proofs
set_option linter.unusedVariables false
set_option linter.unusedSimpArgs false

inductive FK where
  | f (e : Bool) (R : Rp)
  | b (T : TypeId) (rs : List Rp)
  | n (e : TypeId) (sz k : Nat) (rs : List Rp)
  | s (bs' : List Box)
  | o (j : Nat) (T : TypeId) (rs rs' : List Rp)
abbrev RE := List (Nat × FK)
def lookE : RE → St → Nat → Option Rp
  | [], st, t => look st t
  | (u, .f _ R) :: E, st, t => if t = u then some R else lookE E st t
  | (u, .b _ _) :: E, st, t => if t = u then none else lookE E st t
  | (u, .n _ _ _ _) :: E, st, t => if t = u then none else lookE E st t
  | (_, .s _) :: E, st, t => lookE E st t
  | (_, .o _ _ _ _) :: E, st, t => lookE E st t
def aftE : RE → List Box → List Box
  | [], bs => bs
  | (_, .s bs') :: _, _ => bs'
  | (_, .f _ _) :: E, bs => aftE E bs
  | (_, .b _ _) :: E, bs => aftE E bs
  | (_, .n _ _ _ _) :: E, bs => aftE E bs
  | (_, .o _ _ _ _) :: E, bs => aftE E bs
def kindE : RE → List Nat
  | [] => []
  | (_, .f true _) :: E => 1 :: kindE E
  | (_, .f false _) :: E => 0 :: kindE E
  | (_, .b _ _) :: E => 0 :: kindE E
  | (_, .n _ _ _ _) :: E => 0 :: kindE E
  | (_, .s _) :: E => 2 :: kindE E
  | (_, .o _ _ _ _) :: E => 3 :: kindE E
def Hid (bh bs : List Box) : Prop := ∀ w M, (∀ x ∈ bs, BoxOk w M x) → ∀ x ∈ bh, BoxOk w M x

def OpB (P : Program) (bs : List Box) (lk : Nat → Option Rp) (op : Op) (ty : TypeId) (T : TypeId) (rs : List Rp) : Prop :=
  ∀ (σ : Nat → Value) (w : World) (M : Mask), Fa lk op σ w M → ∃ cs : List Value, All2 w M rs cs ∧
    (execOp (ev σ) ⟨none, op, ty, "", #[], none⟩).run P w = .ok (.value (.pointer (some ⟨w.heap.size, 0, none⟩))) (w.alloc (.cells cs.toArray T))
structure Mem (w0 : World) (M0 : Mask) (bs : List Box) (w : World) : Prop where
  boxes : ∀ x ∈ bs, BoxOk w (mkM M0 bs) x
  nodup : (blks bs).Nodup
  fresh : ∀ g ∈ blks bs, w0.heap.size ≤ g
  below : Below w0.heap.size w0 w
  msk : ∀ b, mkM M0 bs b → b < w.heap.size
  m0 : ∀ g ∈ blks bs, ¬ M0 g
theorem Ok.new {w0 : World} {M0 : Mask} {n : Nat} {bs : List Box} {st : St} {a : Act} {w w' : World} {v : Value} {e : TypeId} {sz k : Nat} {rs : List Rp} (hok : Ok w0 M0 n bs st a w) (hm : Mem w (mkM M0 bs) [.r v e sz k rs] w') :
    Kp w (mkM M0 bs) w' (mkM M0 (.r v e sz k rs :: bs)) ∧ Ok w0 M0 n (.r v e sz k rs :: bs) st a w' := by
  have hnew : ∀ g, v.ownBlock = some g → w.heap.size ≤ g := fun g hg => hm.fresh g (mem_blks List.mem_cons_self hg)
  have hbl : ∀ g, g ∈ blks (.r v e sz k rs :: bs) → v.ownBlock = some g ∨ g ∈ blks bs := fun g hg => by
    obtain ⟨x, hx, e⟩ := List.mem_filterMap.1 hg
    rcases List.mem_cons.1 hx with rfl | hx
    · exact .inl e
    · exact .inr (mem_blks hx e)
  have hk : Kp w (mkM M0 bs) w' (mkM M0 (.r v e sz k rs :: bs)) := ⟨fun b hb _ => hm.below.block b hb, hm.below.size, fun b hb => by
    rcases hb with hb | hb
    · exact .inl (.inl hb)
    · exact (hbl b hb).elim (fun h => .inr (hnew b h)) fun h => .inl (.inr h)⟩
  have hless : ∀ b, mkM M0 (.r v e sz k rs :: bs) b → mkM (mkM M0 bs) [.r v e sz k rs] b := fun b hb => by
    rcases hb with hb | hb
    · exact .inl (.inl hb)
    · exact (hbl b hb).elim (fun h => .inr (mem_blks List.mem_cons_self h)) fun h => .inl (.inr h)
  refine ⟨hk, hok.defers.trans (defs_cons rfl bs).symm, hok.size, fun t R ht => R.keep (hok.facts t R ht) hk, fun x hx => ?_, ?_, fun g hg => ?_, hok.below.trans (hm.below.mono hok.below.size), fun b hb => hm.msk b (hless b hb), fun g hg hm0 => ?_⟩
  · rcases List.mem_cons.1 hx with rfl | hx
    · exact (hm.boxes _ List.mem_cons_self).same (fun _ _ _ => rfl) (Kp.less w' hless)
    · exact (hok.boxes x hx).same (fun g _ hg => hm.below.block g hg) hk
  · unfold blks
    rw [List.filterMap_cons]
    cases hvb : Box.blk (.r v e sz k rs) with
    | none => exact hok.nodup
    | some g => exact List.nodup_cons.2 ⟨fun hg => by have := hok.msk g (.inr hg); have := hnew g hvb; omega, hok.nodup⟩
  · rcases hbl g hg with h | h
    · have := hnew g h; have := hok.below.size; omega
    · exact hok.fresh g h
  · rcases hbl g hg with h | h
    · have := hnew g h; have := hok.msk g (.inl hm0); omega
    · exact hok.m0 g h hm0
def OpN (P : Program) (bs : List Box) (lk : Nat → Option Rp) (op : Op) (ty : TypeId) (e : TypeId) (sz k : Nat) (rs : List Rp) : Prop :=
  ∀ (σ : Nat → Value) (w : World) (M : Mask), (∀ b, M b → b < w.heap.size) → Fa lk op σ w M → (∀ x ∈ bs, BoxOk w M x) →
    Does P (fun v w' => v.oneCell' = true ∧ Mem w M [.r v e sz k rs] w') ((execOp (ev σ) ⟨none, op, ty, "", #[], none⟩).run P w)
def Tells (R : Rp) (want : Bool) (c : Prop) : Prop := ∀ v w M, R.h v w M → (c ∧ v = .bool want) ∨ (¬ c ∧ v ≠ .bool want)

def DoesE (P : Program) (K : World → Prop) (r : Result Next) : Prop := Does P (fun _ => K) r ∨ ∃ w', r = .ok .skip w' ∧ K w'
def OpE (P : Program) (bs : List Box) (lk : Nat → Option Rp) (op : Op) (ty : TypeId) (bs' : List Box) : Prop :=
  ∀ (w0 : World) (M0 : Mask) (n : Nat) (B : List Box) (a : Act) (w : World), Ok w0 M0 n (B ++ bs) [] a w → Fa lk op (fun t => a.tmps.getD t undef) w (mkM M0 (B ++ bs)) →
    DoesE P (fun w' => Ok w0 M0 n (B ++ bs') [] a w' ∧ Kp w (mkM M0 (B ++ bs)) w' (mkM M0 (B ++ bs'))) ((execOp (ev fun t => a.tmps.getD t undef) ⟨none, op, ty, "", #[], none⟩).run P w)

def fct (E : RE) (j : Nat) : Option (Nat × FK) := if j < E.length then E[E.length - 1 - j]? else none
def noO (E : RE) (j : Nat) : Bool := E.all fun x => match x.2 with | .o j' _ _ _ => j' != j | _ => true
def OpO (P : Program) (lk : Nat → Option Rp) (op : Op) (ty : TypeId) (dj : Nat) (T : TypeId) (rs rs' : List Rp) : Prop := .tmp dj ∈ op.operands ∧
  ∀ (σ : Nat → Value) (w : World) (M : Mask) (g : Nat) (cs : List Value), Fa lk op σ w M → σ dj = .pointer (some ⟨g, 0, none⟩) → w.heap[g]? = some (.cells cs.toArray T (0, 0)) → All2 w M rs cs →
    ∃ (w' : World) (cs' : List Value), (execOp (ev σ) ⟨none, op, ty, "", #[], none⟩).run P w = .ok .skip w' ∧ w'.heap[g]? = some (.cells cs'.toArray T (0, 0)) ∧ All2 w M rs' cs' ∧ (∀ b, b ≠ g → w'.heap[b]? = w.heap[b]?) ∧ w'.heap.size = w.heap.size ∧ w'.os = w.os ∧ w'.tape = w.tape ∧ w'.output = w.output

inductive Step (P : Program) (bs bh : List Box) (st : St) (ops : Array Oper) (E : RE) : Oper → Nat → FK → Prop
  | op {e : Bool} {d : Nat} {op : Op} {ty : TypeId} {pos : String} {af : Array Edge} {R : Rp} : OpG P (cond e bs bh) (lookE E st) op ty R → Step P bs bh st ops E ⟨some d, op, ty, pos, af, none⟩ d (.f e R)
  | gd {e : Bool} {d : Nat} {op : Op} {ty : TypeId} {pos : String} {af : Array Edge} {R Rg : Rp} {j dj : Nat} {want : Bool} (c : Prop) : ((ops[j]?).bind (·.dst)) = some dj → lookE E st dj = some Rg → Tells Rg want c → (c → OpG P (cond e bs bh) (lookE E st) op ty R) →
      Step P bs bh st ops E ⟨some d, op, ty, pos, af, some (j, want)⟩ d (.f e (gd c R))
  | bx {d : Nat} {op : Op} {ty T : TypeId} {pos : String} {af : Array Edge} {rs : List Rp} : OpB P bs (lookE E st) op ty T rs → Step P bs bh st ops E ⟨some d, op, ty, pos, af, none⟩ d (.b T rs)
  | nx {d : Nat} {op : Op} {ty e : TypeId} {pos : String} {af : Array Edge} {sz k : Nat} {rs : List Rp} : OpN P bh (lookE E st) op ty e sz k rs → Step P bs bh st ops E ⟨some d, op, ty, pos, af, none⟩ d (.n e sz k rs)
  | sx {op : Op} {ty : TypeId} {pos : String} {af : Array Edge} {bs' : List Box} : OpE P (aftE E bs) (lookE E st) op ty bs' → Hid bh bs' → Step P bs bh st ops E ⟨none, op, ty, pos, af, none⟩ 0 (.s bs')
  | ox {op : Op} {ty T : TypeId} {pos : String} {af : Array Edge} {j dj : Nat} {rs rs' : List Rp} : fct E j = some (dj, .b T rs) → noO E j = true → OpO P (lookE E st) op ty dj T rs rs' → Step P bs bh st ops E ⟨none, op, ty, pos, af, none⟩ 0 (.o j T rs rs')
inductive Trl (P : Program) (bs bh : List Box) (st : St) (ops : Array Oper) : RE → Prop
  | nil : Hid bh bs → Trl P bs bh st ops []
  | cons {E : RE} {o : Oper} {d : Nat} {F : FK} : Trl P bs bh st ops E → ops[E.length]? = some o → Step P bs bh st ops E o d F → Trl P bs bh st ops ((d, F) :: E)
theorem Trl.hid {P : Program} {bs bh : List Box} {st : St} {ops : Array Oper} {E : RE} (h : Trl P bs bh st ops E) : Hid bh bs := by
  induction h with
  | nil h => exact h
  | cons _ _ _ ih => exact ih

def edge (o : Oper) (j : Nat) : Bool := o.after.any fun e => Region.binds .any e && e.on == j
def opTmps (ops : Array Oper) (o : Oper) : List Nat := (o.op.operands.toList.filterMap fun | .tmp i => some i | _ => none) ++ (match o.guard with | some (j, _) => (((ops[j]?).bind (·.dst)).toList) | none => [])
def isSel : Op → Bool
  | .select _ _ => true
  | _ => false
def edgeAt (ops : Array Oper) (k i : Nat) : Bool := match ops[k]? with | some o => edge o i | none => false
def reach (ops : Array Oper) (m : Nat) : Nat → List Nat → List Nat
  | 0, S => S
  | i + 1, S => reach ops m i (if edgeAt ops m i || S.any (fun k => edgeAt ops k i) then i :: S else S)
theorem reach_all {ops : Array Oper} {m : Nat} {D : Nat → Prop} (hm : ∀ i, edgeAt ops m i = true → D i) (hd : ∀ k i, D k → edgeAt ops k i = true → D i) : ∀ (i : Nat) (S : List Nat), (∀ k ∈ S, D k) → ∀ k ∈ reach ops m i S, D k
  | 0, S, hS => hS
  | i + 1, S, hS => reach_all hm hd i _ (by
    split
    · rename_i h
      intro k hk
      rcases List.mem_cons.1 hk with rfl | hk
      · rcases Bool.or_eq_true _ _ ▸ h with h | h
        · exact hm _ h
        · obtain ⟨k', h1, h2⟩ := List.any_eq_true.1 h
          exact hd k' _ (hS k' h1) h2
      · exact hS k hk
    · exact hS)
def rgChk (ops : Array Oper) (ks : List Nat) (n : Nat) : Bool :=
  let m := ks.length
  let kd := fun i => ks.getD (m - 1 - i) 0
  (List.range ops.size).all fun i => match ops[i]? with
    | none => false
    | some o => o.after.all (fun e => !Region.binds .any e || decide (e.on < i)) &&
      if i < m then (!isSel o.op && (opTmps ops o).all fun t => (List.range m).all fun j => ((ops[j]?).bind (·.dst)) != some t || edge o j) &&
        (if kd i = 2 then o.dst.isNone && (List.range i).all fun j => kd j != 2 || edge o j
        else if kd i = 3 then o.dst.isNone
        else (match o.dst with | some d => decide (d < n) && (List.range m).all (fun j => j == i || ((ops[j]?).bind (·.dst)) != some d) | none => false) &&
          (kd i != 1 || (List.range m).all fun j => kd j != 2 || match ops[j]? with | some o' => edge o' i | none => false))
      else if i = m then (List.range m).all fun j => (reach ops m m []).contains j else edge o (i - 1)

section
variable {P : Program} {bs bh : List Box} {st : St} {ops : Array Oper} {E : RE} {n : Nat}
theorem kind_len : ∀ E : RE, (kindE E).length = E.length
  | [] => rfl
  | (_, .f true _) :: E => by simp [kindE, kind_len E]
  | (_, .f false _) :: E => by simp [kindE, kind_len E]
  | (_, .b _ _) :: E => by simp [kindE, kind_len E]
  | (_, .n _ _ _ _) :: E => by simp [kindE, kind_len E]
  | (_, .s _) :: E => by simp [kindE, kind_len E]
  | (_, .o _ _ _ _) :: E => by simp [kindE, kind_len E]
abbrev kd (E : RE) (i : Nat) : Nat := (kindE E).getD (E.length - 1 - i) 0
theorem chk_at (h : rgChk ops (kindE E) n = true) {i : Nat} {o : Oper} (ho : ops[i]? = some o) : (∀ e ∈ o.after, Region.binds .any e = true → e.on < i) ∧
    (i < E.length → isSel o.op = false ∧ ∀ t ∈ opTmps ops o, ∀ j, j < E.length → ((ops[j]?).bind (·.dst)) = some t → edge o j = true) ∧
    (i < E.length → kd E i ≠ 2 ∧ kd E i ≠ 3 → ∃ d, o.dst = some d ∧ d < n ∧ ∀ j, j < E.length → j ≠ i → ((ops[j]?).bind (·.dst)) ≠ some d) ∧
    (i < E.length → kd E i = 1 → ∀ j o', j < E.length → kd E j = 2 → ops[j]? = some o' → edge o' i = true) ∧
    (i < E.length → kd E i = 2 → o.dst = none ∧ ∀ j, j < i → kd E j = 2 → edge o j = true) ∧
    (E.length < i → edge o (i - 1) = true) ∧ (E.length = i → ∀ j, j < i → j ∈ reach ops i i []) := by
  have hi := (Array.getElem?_eq_some_iff.1 ho).1
  have h1 := List.all_eq_true.1 h i (List.mem_range.2 hi)
  rw [ho] at h1
  simp only [Bool.and_eq_true, kind_len] at h1
  obtain ⟨h1, h2⟩ := h1
  refine ⟨fun e he hb => ?_, fun him => ?_, fun him hk => ?_, fun him hk j o' hj hkj hoj => ?_, fun him hk => ?_, fun him => ?_, fun him j hj => ?_⟩
  · have := Array.all_eq_true_iff_forall_mem.1 h1 e he
    simpa [hb] using this
  · rw [if_pos him] at h2
    simp only [Bool.and_eq_true] at h2
    obtain ⟨⟨h2, h4⟩, h3⟩ := h2
    refine ⟨by simpa using h2, fun t ht j hj hd => ?_⟩
    have := List.all_eq_true.1 (List.all_eq_true.1 h4 t ht) j (List.mem_range.2 hj)
    simpa [hd] using this
  · rw [if_pos him] at h2
    simp only [Bool.and_eq_true] at h2
    obtain ⟨_, h3⟩ := h2
    rw [if_neg hk.1, if_neg hk.2] at h3
    simp only [Bool.and_eq_true] at h3
    obtain ⟨h3, _⟩ := h3
    cases hd : o.dst with
    | none => rw [hd] at h3; simp at h3
    | some d =>
      rw [hd] at h3
      simp only [Bool.and_eq_true, decide_eq_true_eq] at h3
      refine ⟨d, rfl, h3.1, fun j hj hne => ?_⟩
      have := List.all_eq_true.1 h3.2 j (List.mem_range.2 hj)
      simpa [hne] using this
  · rw [if_pos him] at h2
    simp only [Bool.and_eq_true] at h2
    obtain ⟨_, h3⟩ := h2
    rw [if_neg (by show ¬ kd E i = 2; omega), if_neg (by show ¬ kd E i = 3; omega)] at h3
    simp only [Bool.and_eq_true] at h3
    obtain ⟨_, h3⟩ := h3
    have hk' : (((kindE E).getD (E.length - 1 - i) 0 != 1)) = false := by show (kd E i != 1) = false; rw [hk]; rfl
    rw [hk', Bool.false_or] at h3
    have := List.all_eq_true.1 h3 j (List.mem_range.2 hj)
    have hkj' : (((kindE E).getD (E.length - 1 - j) 0 != 2)) = false := by show (kd E j != 2) = false; rw [hkj]; rfl
    rw [hkj', Bool.false_or, hoj] at this
    exact this
  · rw [if_pos him] at h2
    simp only [Bool.and_eq_true] at h2
    obtain ⟨_, h3⟩ := h2
    rw [if_pos hk] at h3
    simp only [Bool.and_eq_true] at h3
    refine ⟨by simpa using h3.1, fun j hj hkj => ?_⟩
    have := List.all_eq_true.1 h3.2 j (List.mem_range.2 hj)
    have hkj' : (((kindE E).getD (E.length - 1 - j) 0 != 2)) = false := by show (kd E j != 2) = false; rw [hkj]; rfl
    rw [hkj', Bool.false_or] at this
    exact this
  · rw [if_neg (by omega), if_neg (by omega)] at h2
    exact h2
  · rw [if_neg (by omega), if_pos him.symm, him] at h2
    simpa using List.all_eq_true.1 h2 j (List.mem_range.2 hj)
theorem edge_mem {o : Oper} {j : Nat} (h : edge o j = true) : ∃ e ∈ o.after, Region.binds .any e = true ∧ e.on = j := by
  unfold edge at h
  obtain ⟨i, hi, h⟩ := Array.any_eq_true.1 h
  simp only [Bool.and_eq_true, beq_iff_eq] at h
  exact ⟨_, Array.getElem_mem hi, h.1, h.2⟩

def FK.isS : FK → Bool
  | .s _ => true
  | .o _ _ _ _ => true
  | _ => false
def fact (E : RE) (j : Nat) : Option (Nat × FK) := (fct E j).bind fun x => if x.2.isS then none else some x
def fbox (E : RE) (j : Nat) : Option (List Box) := (fct E j).bind fun x => match x.2 with | .s bs' => some bs' | _ => none
theorem fact_iff {j d : Nat} {F : FK} : fact E j = some (d, F) ↔ fct E j = some (d, F) ∧ F.isS = false := by
  unfold fact
  cases h : fct E j with
  | none => simp
  | some x =>
    obtain ⟨u, G⟩ := x
    simp only [Option.bind_some]
    cases hG : G.isS
    · simp only [Bool.false_eq_true, if_false, Option.some.injEq, Prod.mk.injEq]
      exact ⟨fun ⟨h1, h2⟩ => ⟨⟨h1, h2⟩, h2 ▸ hG⟩, fun h => h.1⟩
    · simp only [if_true, Option.some.injEq, Prod.mk.injEq]
      constructor
      · intro h; cases h
      · intro h
        obtain ⟨⟨_, h2⟩, h3⟩ := h
        subst h2; rw [hG] at h3; cases h3
theorem fbox_iff {j : Nat} {x : List Box} : fbox E j = some x ↔ ∃ d, fct E j = some (d, .s x) := by
  unfold fbox
  cases h : fct E j with
  | none => simp
  | some y =>
    obtain ⟨u, G⟩ := y
    cases G <;> simp
theorem fct_lt {j : Nat} {x : Nat × FK} (h : fct E j = some x) : j < E.length := by
  unfold fct at h
  split at h
  · assumption
  · cases h
def FK.kd : FK → Nat
  | .s _ => 2
  | .o _ _ _ _ => 3
  | .f true _ => 1
  | _ => 0
theorem fct_kd {j d : Nat} {F : FK} (h : fct E j = some (d, F)) : kd E j = F.kd := by
  have hj := fct_lt h
  unfold fct at h
  rw [if_pos hj] at h
  have key : ∀ (E : RE) (i : Nat), E[i]? = some (d, F) → (kindE E).getD i 0 = F.kd := by
    intro E
    induction E with
    | nil => intro i h; simp at h
    | cons x E ih =>
      intro i h
      cases i with
      | zero =>
        simp at h
        subst h
        rcases F with ⟨_ | _, _⟩ | _ | _ | _ | _ <;> rfl
      | succ i =>
        have := ih i (by simpa using h)
        obtain ⟨u, G⟩ := x
        rcases G with ⟨_ | _, _⟩ | _ | _ | _ | _ <;> exact this
  exact key E _ h
theorem Trl.at (h : Trl P bs bh st ops E) : ∀ j, j < E.length → ∃ o d F, ops[j]? = some o ∧ fct E j = some (d, F) ∧ Step P bs bh st ops (E.drop (E.length - j)) o d F := by
  induction h with
  | nil => intro j hj; simp at hj
  | @cons E o d F _ ho hs ih =>
    intro j hj
    by_cases e : j = E.length
    · subst e
      refine ⟨o, d, F, ho, by simp [fct], ?_⟩
      rw [show (((d, F) :: E).length - E.length) = 1 from by simp]
      exact hs
    · have hlt : j < E.length := by simp at hj; omega
      obtain ⟨o', d', F', h1, h2, h3⟩ := ih j hlt
      refine ⟨o', d', F', h1, ?_, ?_⟩
      · unfold fct at *
        rw [if_pos (by simp; omega)]
        rw [if_pos hlt] at h2
        rw [← h2, List.length_cons, show E.length + 1 - 1 - j = (E.length - 1 - j) + 1 from by omega, List.getElem?_cons_succ]
      · rw [List.length_cons, show E.length + 1 - j = (E.length - j) + 1 from by omega, List.drop_succ_cons]
        exact h3
theorem Step.dst {o : Oper} {d : Nat} {F : FK} (h : Step P bs bh st ops E o d F) (hF : F.isS = false) : o.dst = some d := by
  cases h with
  | sx => cases hF
  | ox => cases hF
  | _ => rfl
theorem aftE_drop {k : Nat} (hk : k ≤ E.length) (bs : List Box) : (aftE (E.drop (E.length - k)) bs = bs ∧ ∀ j x, j < k → fbox E j ≠ some x) ∨ (∃ j, j < k ∧ fbox E j = some (aftE (E.drop (E.length - k)) bs) ∧ ∀ j' x, j < j' → j' < k → fbox E j' ≠ some x) := by
  induction k with
  | zero =>
    rw [Nat.sub_zero, List.drop_length]
    exact .inl ⟨rfl, fun j x hj => absurd hj (by omega)⟩
  | succ k ih =>
    have hlt : E.length - (k + 1) < E.length := by omega
    rw [List.drop_eq_getElem_cons hlt, show E.length - (k + 1) + 1 = E.length - k from by omega]
    have hf : fct E k = some E[E.length - (k + 1)] := by
      unfold fct
      rw [if_pos (by omega), show E.length - 1 - k = E.length - (k + 1) from by omega, List.getElem?_eq_getElem hlt]
    generalize E[E.length - (k + 1)] = x at hf
    obtain ⟨u, F⟩ := x
    have hold : (∀ y, F ≠ .s y) → ∀ x, fbox E k ≠ some x := fun hF x h => by
      obtain ⟨d, h⟩ := fbox_iff.1 h
      rw [hf] at h; cases h; exact hF _ rfl
    have go : (∀ y, F ≠ .s y) → (aftE (E.drop (E.length - k)) bs = bs ∧ ∀ j x, j < k + 1 → fbox E j ≠ some x) ∨ (∃ j, j < k + 1 ∧ fbox E j = some (aftE (E.drop (E.length - k)) bs) ∧ ∀ j' x, j < j' → j' < k + 1 → fbox E j' ≠ some x) := fun hF => by
      rcases ih (by omega) with ⟨h1, h2⟩ | ⟨j, h1, h2, h3⟩
      · refine .inl ⟨h1, fun j x hj => ?_⟩
        by_cases e : j = k
        · subst e; exact hold hF x
        · exact h2 j x (by omega)
      · refine .inr ⟨j, by omega, h2, fun j' x hj hj' => ?_⟩
        by_cases e : j' = k
        · subst e; exact hold hF x
        · exact h3 j' x hj (by omega)
    cases F with
    | f e R => exact go fun _ h => by cases h
    | b T rs => exact go fun _ h => by cases h
    | n e sz k rs => exact go fun _ h => by cases h
    | o j T rs rs' => exact go fun _ h => by cases h
    | s bs' => exact .inr ⟨k, by omega, fbox_iff.2 ⟨u, hf⟩, fun j' x h1 h2 => absurd h1 (by omega)⟩

theorem lookE_drop {k t : Nat} {R : Rp} (hk : k ≤ E.length) (hl : lookE (E.drop (E.length - k)) st t = some R) :
    (∃ j e, j < k ∧ fact E j = some (t, .f e R)) ∨ (look st t = some R ∧ ∀ j d F, j < k → fact E j = some (d, F) → d ≠ t) := by
  induction k with
  | zero =>
    rw [Nat.sub_zero, List.drop_length] at hl
    exact .inr ⟨hl, fun j d F hj => absurd hj (by omega)⟩
  | succ k ih =>
    have hlt : E.length - (k + 1) < E.length := by omega
    rw [List.drop_eq_getElem_cons hlt, show E.length - (k + 1) + 1 = E.length - k from by omega] at hl
    have hf : fct E k = some E[E.length - (k + 1)] := by
      unfold fct
      rw [if_pos (by omega), show E.length - 1 - k = E.length - (k + 1) from by omega, List.getElem?_eq_getElem hlt]
    generalize E[E.length - (k + 1)] = x at hl hf
    obtain ⟨u, F⟩ := x
    have go : (F.isS = false → t ≠ u) → lookE (E.drop (E.length - k)) st t = some R → (∃ j e, j < k + 1 ∧ fact E j = some (t, .f e R)) ∨ (look st t = some R ∧ ∀ j d F, j < k + 1 → fact E j = some (d, F) → d ≠ t) := fun hne hl => by
      rcases ih (by omega) hl with ⟨j, e, h1, h2⟩ | ⟨h1, h2⟩
      · exact .inl ⟨j, e, by omega, h2⟩
      · refine .inr ⟨h1, fun j d F' hj hj' => ?_⟩
        by_cases e : j = k
        · subst e
          obtain ⟨g1, g2⟩ := fact_iff.1 hj'
          rw [hf] at g1; cases g1; exact Ne.symm (hne g2)
        · exact h2 j d F' (by omega) hj'
    cases F with
    | s bs' => exact go (fun h => by cases h) hl
    | o j T rs rs' => exact go (fun h => by cases h) hl
    | f e' R' =>
      simp only [lookE] at hl
      by_cases e : t = u
      · rw [if_pos e] at hl; cases hl; subst e; exact .inl ⟨k, e', by omega, fact_iff.2 ⟨hf, rfl⟩⟩
      · rw [if_neg e] at hl; exact go (fun _ => e) hl
    | b T rs =>
      simp only [lookE] at hl
      by_cases e : t = u
      · rw [if_pos e] at hl; cases hl
      · rw [if_neg e] at hl; exact go (fun _ => e) hl
    | n _ sz k rs =>
      simp only [lookE] at hl
      by_cases e : t = u
      · rw [if_pos e] at hl; cases hl
      · rw [if_neg e] at hl; exact go (fun _ => e) hl
end

def newRs : List (Nat × List Rp) → Nat → List Rp → List Rp
  | [], _, rs => rs
  | (j, rs') :: O, k, rs => if k = j then rs' else newRs O k rs
def FinP : List (Nat × List Rp) → RE → List Box → St → (List Box → St → Prop) → Prop
  | _, [], bs, st, K => K bs st
  | O, (d, .f _ R) :: E, bs, st, K => FinP O E bs st fun bs st => K bs ((d, R) :: st)
  | O, (_, .s _) :: E, bs, st, K => FinP O E bs st K
  | O, (_, .o j _ _ rs') :: E, bs, st, K => FinP ((j, rs') :: O) E bs st K
  | O, (d, .n e sz k rs) :: E, bs, st, K => ∀ v : Value, v.oneCell' = true → FinP O E bs st fun bs st => K (.r v e sz k rs :: bs) ((d, val v) :: st)
  | O, (d, .b T rs) :: E, bs, st, K => ∀ b, FinP O E bs st fun bs st => K (.b b T (newRs O E.length rs) :: bs) ((d, val (.pointer (some ⟨b, 0, none⟩))) :: st)

section
variable {P : Program} {w0 : World} {M0 : Mask} {n : Nat} {bs bh : List Box} {st : St} {ops : Array Oper} {Q : Exit → Act → World → Prop} {E : RE}

def FK.isBox : FK → Value → Box → Prop
  | .b T rs, v, x => ∃ b, v = .pointer (some ⟨b, 0, none⟩) ∧ x = .b b T rs
  | .n e sz k rs, v, x => v.oneCell' = true ∧ x = .r v e sz k rs
  | .f _ _, _, _ => False
  | .s _, _, _ => False
  | .o _ _ _ _, _, _ => False
def FK.isBlk : FK → Value → Nat → Prop
  | .b _ _, v, g => v = .pointer (some ⟨g, 0, none⟩)
  | .n _ _ _ _, v, g => v.ownBlock = some g
  | .f _ _, _, _ => False
  | .s _, _, _ => False
  | .o _ _ _ _, _, _ => False
def FK.mk : FK → Bool
  | .b _ _ => true
  | .n _ _ _ _ => true
  | .f _ _ => false
  | .s _ => false
  | .o _ _ _ _ => false
theorem FK.isBox_mark {F : FK} {v : Value} {x : Box} (h : F.isBox v x) : x.mark = none := by
  cases F with
  | b T rs => obtain ⟨b, _, h2⟩ := h; rw [h2]; rfl
  | n e sz k rs => rw [h.2]; rfl
  | f _ _ => exact h.elim
  | s _ => exact h.elim
  | o _ _ _ _ => exact h.elim
theorem FK.isBox_blk {F : FK} {v : Value} {x : Box} {g : Nat} (h : F.isBox v x) : F.isBlk v g ↔ x.blk = some g := by
  cases F with
  | b T rs =>
    obtain ⟨b, h1, h2⟩ := h
    subst h2; subst h1
    show Value.pointer (some ⟨b, 0, none⟩) = .pointer (some ⟨g, 0, none⟩) ↔ some b = some g
    simp
  | n e sz k rs => rw [h.2]; exact Iff.rfl
  | f _ _ => exact h.elim
  | s _ => exact h.elim
  | o _ _ _ _ => exact h.elim
def oAt (E : RE) (i j : Nat) (rs' : List Rp) : Prop := ∃ d T rs, fct E i = some (d, .o j T rs rs')
def CurF (E : RE) (l : Array Bool) (j : Nat) (F F' : FK) : Prop := (F' = F ∧ ∀ i rs', oAt E i j rs' → ¬ l.getD i false = true) ∨ (∃ i T rs rs', F = .b T rs ∧ oAt E i j rs' ∧ l.getD i false = true ∧ F' = .b T rs')
theorem CurF.blk {E : RE} {l : Array Bool} {j : Nat} {F F' : FK} (h : CurF E l j F F') {v : Value} {g : Nat} : F'.isBlk v g ↔ F.isBlk v g := by
  rcases h with ⟨rfl, _⟩ | ⟨i, T, rs, rs', rfl, _, _, rfl⟩ <;> exact Iff.rfl
theorem fct_drop {E : RE} {k j : Nat} {x : Nat × FK} (hk : k ≤ E.length) (h : fct (E.drop (E.length - k)) j = some x) : j < k ∧ fct E j = some x := by
  unfold fct at *
  have hl : (E.drop (E.length - k)).length = k := by rw [List.length_drop]; omega
  rw [hl] at h
  split at h
  · rename_i hj
    refine ⟨hj, ?_⟩
    rw [if_pos (by omega), ← h, List.getElem?_drop]
    congr 1; omega
  · cases h
theorem fct_mem {E : RE} {k j : Nat} {x : Nat × FK} (hk : k ≤ E.length) (hj : j < k) (h : fct E j = some x) : x ∈ E.drop (E.length - k) := by
  unfold fct at h
  rw [if_pos (by omega)] at h
  refine List.mem_of_getElem? (i := k - 1 - j) ?_
  rw [List.getElem?_drop, ← h]
  congr 1; omega
theorem FK.mk_isS {F : FK} (h : F.mk = true) : F.isS = false := by cases F <;> first | rfl | cases h
abbrev Ld (l : Array Bool) (j : Nat) : Prop := l.getD j false = true
def Cur (bs : List Box) (E : RE) (l : Array Bool) (cur : List Box) : Prop := (cur = bs ∧ ∀ j x, fbox E j = some x → ¬ Ld l j) ∨ (∃ j, Ld l j ∧ fbox E j = some cur ∧ ∀ j' x, j < j' → fbox E j' = some x → ¬ Ld l j')
structure Inv (w0 : World) (M0 : Mask) (n : Nat) (bs : List Box) (st : St) (ops : Array Oper) (E : RE) (l : Array Bool) (a : Act) (w : World) : Prop where
  lsize : l.size = ops.size
  lim : ∀ j, Ld l j → j < E.length
  dn : ∀ j o e, Ld l j → ops[j]? = some o → e ∈ o.after → Region.binds .any e = true → Ld l e.on
  ok : ∃ B cur : List Box, (Cur bs E l cur ∧ ∀ x ∈ B, x.mark = none) ∧ Ok w0 M0 n (B ++ cur) [] a w ∧ (∀ t R, look st t = some R → (∀ j d F, Ld l j → fact E j = some (d, F) → d ≠ t) → R.h (a.tmps.getD t undef) w (mkM M0 (B ++ cur))) ∧
    (∀ j d e R, Ld l j → fact E j = some (d, .f e R) → R.h (a.tmps.getD d undef) w (mkM M0 (B ++ cur))) ∧
    (∀ j d F, Ld l j → fact E j = some (d, F) → F.mk = true → ∃ F1 x, CurF E l j F F1 ∧ F1.isBox (a.tmps.getD d undef) x ∧ x ∈ B) ∧
    (∀ j d F j' d' F' g, Ld l j → fact E j = some (d, F) → Ld l j' → fact E j' = some (d', F') → F.isBlk (a.tmps.getD d undef) g → F'.isBlk (a.tmps.getD d' undef) g → j = j')

theorem Ld.set {l : Array Bool} {i j : Nat} (hi : i < l.size) : Ld (l.setIfInBounds i true) j ↔ j = i ∨ Ld l j := by
  unfold Ld
  by_cases e : i = j
  · subst e; simp [hi]
  · rw [getD_set_ne false e]
    constructor
    · exact .inr
    · rintro (h | h)
      · exact absurd h.symm e
      · exact h

theorem fact_dst (htr : Trl P bs bh st ops E) {j d : Nat} {F : FK} (h : fact E j = some (d, F)) : j < E.length ∧ ∃ o, ops[j]? = some o ∧ o.dst = some d := by
  obtain ⟨h1, h2⟩ := fact_iff.1 h
  obtain ⟨o, d', F', k1, k2, k3⟩ := htr.at j (fct_lt h1)
  rw [h1] at k2; cases k2
  exact ⟨fct_lt h1, o, k1, k3.dst h2⟩
theorem fact_ne (htr : Trl P bs bh st ops E) (hc : rgChk ops (kindE E) n = true) {i j di dj : Nat} {Fi Fj : FK} (hi : fact E i = some (di, Fi)) (hj : fact E j = some (dj, Fj)) (hne : i ≠ j) : di ≠ dj := by
  obtain ⟨hil, oi, h1, h2⟩ := fact_dst htr hi
  obtain ⟨hjl, oj, g1, g2⟩ := fact_dst htr hj
  have hk : kd E i ≠ 2 ∧ kd E i ≠ 3 := by
    obtain ⟨q1, q2⟩ := fact_iff.1 hi
    rw [fct_kd q1]
    rcases Fi with ⟨_ | _, _⟩ | _ | _ | _ | _
    · simp [FK.kd]
    · simp [FK.kd]
    · simp [FK.kd]
    · simp [FK.kd]
    · cases q2
    · cases q2
  obtain ⟨d, k1, _, k2⟩ := (chk_at hc h1).2.2.1 hil hk
  have := k2 j hjl (Ne.symm hne)
  rw [g1] at this
  simp only [Option.bind_some, g2] at this
  rw [h2] at k1
  cases k1
  exact fun e => this (by rw [e])

theorem o_edge (htr : Trl P bs bh st ops E) (hc : rgChk ops (kindE E) n = true) {i j : Nat} {rs' : List Rp} (h : oAt E i j rs') : j < i ∧ i < E.length ∧ ∃ o, ops[i]? = some o ∧ edge o j = true := by
  obtain ⟨d, T, rs, h⟩ := h
  have hi := fct_lt h
  obtain ⟨o, d', F', k1, k2, k3⟩ := htr.at i hi
  rw [h] at k2; cases k2
  cases k3 with
  | @ox op ty T pos af j dj rs rs' h1 h2 h3 =>
    obtain ⟨g1, g2⟩ := fct_drop (Nat.le_of_lt hi) h1
    refine ⟨g1, hi, _, k1, ?_⟩
    obtain ⟨o', d', F', q1, q2, q3⟩ := htr.at j (by omega)
    rw [g2] at q2; cases q2
    exact ((chk_at hc k1).2.1 hi).2 dj (List.mem_append_left _ (List.mem_filterMap.2 ⟨.tmp dj, by simpa using h3.1, rfl⟩)) j (by omega) (by rw [q1]; exact q3.dst rfl)
theorem o_uniq (htr : Trl P bs bh st ops E) {i i' j : Nat} {r r' : List Rp} (h : oAt E i j r) (h' : oAt E i' j r') : i = i' := by
  have key : ∀ {i i' j : Nat} {r r' : List Rp}, oAt E i j r → oAt E i' j r' → ¬ i < i' := by
    intro i i' j r r' ⟨d, T, rs, h⟩ ⟨d', T', rs', h'⟩ hlt
    have hi' := fct_lt h'
    obtain ⟨o, d1, F1, k1, k2, k3⟩ := htr.at i' hi'
    rw [h'] at k2; cases k2
    cases k3 with
    | @ox op ty T pos af j dj rs rs' h1 h2 h3 =>
      have hm := fct_mem (Nat.le_of_lt hi') hlt h
      have := List.all_eq_true.1 h2 _ hm
      simp at this
  rcases Nat.lt_trichotomy i i' with h1 | h1 | h1
  · exact absurd h1 (key h h')
  · exact h1
  · exact absurd h1 (key h' h)
theorem CurF.set {l : Array Bool} {i j : Nat} {F F' : FK} (hi : i < l.size) (hno : ∀ r, ¬ oAt E i j r) (h : CurF E l j F F') : CurF E (l.setIfInBounds i true) j F F' := by
  rcases h with ⟨h1, h2⟩ | ⟨i', T, rs, rs', h1, h2, h3, h4⟩
  · refine .inl ⟨h1, fun i' r ho hl => ?_⟩
    rcases (Ld.set hi).1 hl with rfl | hl
    · exact hno r ho
    · exact h2 i' r ho hl
  · exact .inr ⟨i', T, rs, rs', h1, h2, (Ld.set hi).2 (.inr h3), h4⟩
theorem Inv.fa (htr : Trl P bs bh st ops E) (hc : rgChk ops (kindE E) n = true) {l : Array Bool} {a : Act} {w : World} {B : List Box} {i : Nat} {o : Oper} (hio : ops[i]? = some o) (hi : i < E.length) (hdep : ∀ e ∈ o.after, Region.binds .any e = true → Ld l e.on)
    (hlim : ∀ j, Ld l j → j < E.length)
    (hst : ∀ t R, look st t = some R → (∀ j d F, Ld l j → fact E j = some (d, F) → d ≠ t) → R.h (a.tmps.getD t undef) w (mkM M0 B))
    (hfa : ∀ j d e R, Ld l j → fact E j = some (d, .f e R) → R.h (a.tmps.getD d undef) w (mkM M0 B)) {t : Nat} (ht : t ∈ opTmps ops o) {R : Rp} (hl : lookE (E.drop (E.length - i)) st t = some R) :
    R.h (a.tmps.getD t undef) w (mkM M0 B) := by
  have hed : ∀ j, j < E.length → ((ops[j]?).bind (·.dst)) = some t → Ld l j ∧ j < i := fun j hj hd => by
    obtain ⟨e, h1, h2, h3⟩ := edge_mem (((chk_at hc hio).2.1 hi).2 t ht j hj hd)
    subst h3
    exact ⟨hdep e h1 h2, (chk_at hc hio).1 e h1 h2⟩
  have hdst : ∀ j d F, fact E j = some (d, F) → j < E.length ∧ ((ops[j]?).bind (·.dst)) = some d := fun j d F hf => by
    obtain ⟨h1, o, h2, h3⟩ := fact_dst htr hf
    exact ⟨h1, by rw [h2]; exact h3⟩
  rcases lookE_drop (Nat.le_of_lt hi) hl with ⟨j, e, h1, h2⟩ | ⟨h1, h2⟩
  · obtain ⟨g1, g2⟩ := hdst j _ _ h2
    exact hfa j t e R (hed j g1 g2).1 h2
  · refine hst t R h1 fun j d F hj hf e => ?_
    subst e
    obtain ⟨g1, g2⟩ := hdst j _ _ hf
    exact h2 j d F (hed j g1 g2).2 hf rfl

theorem count_set {l : Array Bool} {i : Nat} (hi : i < l.size) (h : ¬ Ld l i) : (l.setIfInBounds i true).toList.count true = l.toList.count true + 1 := by
  have hl : l[i] = false := by
    unfold Ld at h
    rw [Array.getD_eq_getD_getElem?, Array.getElem?_eq_getElem hi] at h
    simpa using h
  rw [Array.toList_setIfInBounds, List.count_set (by simpa using hi)]
  simp [hl]

theorem Inv.step (htr : Trl P bs bh st ops E) (hc : rgChk ops (kindE E) n = true) {l : Array Bool} {a : Act} {w : World} (h : Inv w0 M0 n bs st ops E l a w) {i : Nat} {o : Oper} (hio : ops[i]? = some o) (hi : i < E.length) (hnl : ¬ Ld l i)
    (hdep : ∀ e ∈ o.after, Region.binds .any e = true → Ld l e.on) {K : Act → World → Prop} (hK : ∀ a' w', Inv w0 M0 n bs st ops E (l.setIfInBounds i true) a' w' → K a' w') : wpOp P ops Q i K a w := by
  obtain ⟨B, cur, ⟨hcur, hBm⟩, hok, hst, hfa, hbx, hinj⟩ := h.ok
  have hil : i < l.size := by rw [h.lsize]; exact (Array.getElem?_eq_some_iff.1 hio).1
  obtain ⟨o', d, F, h1, h2, h3⟩ := htr.at i hi
  rw [hio] at h1; cases h1
  have hsel := ((chk_at hc hio).2.1 hi).1
  have hdn' : ∀ j o e, Ld (l.setIfInBounds i true) j → ops[j]? = some o → e ∈ o.after → Region.binds .any e = true → Ld (l.setIfInBounds i true) e.on := fun j o' e hj ho he hb => by
    rcases (Ld.set hil).1 hj with rfl | hj
    · rw [hio] at ho; cases ho; exact (Ld.set hil).2 (.inr (hdep e he hb))
    · exact (Ld.set hil).2 (.inr (h.dn j o' e hj ho he hb))
  have hhid : ∀ j x, j < E.length → fbox E j = some x → Hid bh x := fun j x hj hx => by
    obtain ⟨d, hx⟩ := fbox_iff.1 hx
    obtain ⟨o, d', F', q1, q2, q3⟩ := htr.at j hj
    rw [hx] at q2; cases q2
    cases q3; assumption
  have hearly : kd E i = 1 → cur = bs := fun hk => by
    rcases hcur with ⟨e, _⟩ | ⟨j, g1, g2, _⟩
    · exact e
    · have hj := h.lim j g1
      obtain ⟨d, g2⟩ := fbox_iff.1 g2
      obtain ⟨o', d', F', q1, q2, q3⟩ := htr.at j hj
      obtain ⟨e, r1, r2, r3⟩ := edge_mem ((chk_at hc hio).2.2.2.1 hi hk j o' hj (fct_kd g2) q1)
      exact absurd (r3 ▸ h.dn j o' e g1 q1 r1 r2) hnl
  have hlate : ∀ x ∈ bh, BoxOk w (mkM M0 (B ++ cur)) x := by
    have hall : ∀ x ∈ cur, BoxOk w (mkM M0 (B ++ cur)) x := fun x hx => hok.boxes x (List.mem_append_right _ hx)
    rcases hcur with ⟨e, _⟩ | ⟨j, g1, g2, _⟩
    · subst e; exact htr.hid _ _ hall
    · exact hhid j cur (h.lim j g1) g2 _ _ hall
  have hne2 : ∀ {F : FK}, fct E i = some (d, F) → F.isS = false → kd E i ≠ 2 ∧ kd E i ≠ 3 := fun {F} hf hF => by
    rw [fct_kd hf]
    rcases F with ⟨_ | _, _⟩ | _ | _ | _ | _
    · simp [FK.kd]
    · simp [FK.kd]
    · simp [FK.kd]
    · simp [FK.kd]
    · cases hF
    · cases hF
  have hnoO : (∀ j T rs rs', F ≠ .o j T rs rs') → ∀ j r, ¬ oAt E i j r := fun hF j r ⟨d', T, rs, ho⟩ => by
    rw [h2] at ho; cases ho; exact hF _ _ _ _ rfl
  have hdst : F.isS = false → d < n ∧ fact E i = some (d, F) ∧ (∀ j d' F', Ld l j → fact E j = some (d', F') → d' ≠ d) ∧ Cur bs E (l.setIfInBounds i true) cur := fun hF => by
    obtain ⟨d', k1, hdn, k2⟩ := (chk_at hc hio).2.2.1 hi (hne2 h2 hF)
    rw [h3.dst hF] at k1; cases k1
    have h2' : fact E i = some (d, F) := fact_iff.2 ⟨h2, hF⟩
    refine ⟨hdn, h2', fun j d' F' hj hf => fact_ne htr hc hf h2' fun e => hnl (e ▸ hj), ?_⟩
    have hno : ∀ x, fbox E i ≠ some x := fun x hx => by
      obtain ⟨d', hx⟩ := fbox_iff.1 hx
      rw [h2] at hx; cases hx; cases hF
    rcases hcur with ⟨e, g⟩ | ⟨j, g1, g2, g3⟩
    · refine .inl ⟨e, fun j x hx hl => ?_⟩
      rcases (Ld.set hil).1 hl with rfl | hl
      · exact hno x hx
      · exact g j x hx hl
    · refine .inr ⟨j, (Ld.set hil).2 (.inr g1), g2, fun j' x hj hx hl => ?_⟩
      rcases (Ld.set hil).1 hl with rfl | hl
      · exact hno x hx
      · exact g3 j' x hj hx hl
  have plain : ∀ (v : Value) (w' : World) (e : Bool) (R : Rp), F = .f e R → Below w.heap.size w w' → R.h v w' (mkM M0 (B ++ cur)) → Inv w0 M0 n bs st ops E (l.setIfInBounds i true) (a.put (some d) v) w' := fun v w' e R hF hb hR => by
    subst hF
    obtain ⟨hdn, h2, hneq, hcur'⟩ := hdst rfl
    have hok' := hok.put hdn (R := R) hb hR
    have hget : ∀ u, (a.put (some d) v).tmps.getD u undef = if u = d then v else a.tmps.getD u undef := fun u => getD_put (by rw [hok.size]; exact hdn) u
    have hkp := Kp.of_below (mkM M0 (B ++ cur)) hb
    refine ⟨by rw [Array.size_setIfInBounds]; exact h.lsize, fun j hj => ((Ld.set hil).1 hj).elim (fun e => e ▸ hi) (h.lim j), hdn', B, cur, ⟨hcur', hBm⟩, ⟨hok'.defers, hok'.size, fun _ _ h => by simp [look] at h, hok'.boxes, hok'.nodup, hok'.fresh, hok'.below, hok'.msk, hok'.m0⟩, fun u R' hu hne => ?_, fun j d' e' R' hj hf => ?_, fun j d' F' hj hf hmk => ?_, fun j d' F' j' d'' F'' g hj hf hj' hf' e1 e2 => ?_⟩
    · rw [hget, if_neg fun e => hne i d _ ((Ld.set hil).2 (.inl rfl)) h2 e.symm]
      exact R'.keep (hst u R' hu fun j d' F' hj => hne j d' F' ((Ld.set hil).2 (.inr hj))) hkp
    · rcases (Ld.set hil).1 hj with rfl | hj
      · rw [h2] at hf; cases hf; rw [hget, if_pos rfl]; exact hR
      · rw [hget, if_neg (hneq j _ _ hj hf)]; exact R'.keep (hfa j d' e' R' hj hf) hkp
    · rcases (Ld.set hil).1 hj with rfl | hj
      · rw [h2] at hf; cases hf; cases hmk
      · rw [hget, if_neg (hneq j _ _ hj hf)]
        obtain ⟨F1, x, g0, g1, g2⟩ := hbx j d' F' hj hf hmk
        exact ⟨F1, x, g0.set hil (hnoO (fun _ _ _ _ h => by cases h) j), g1, g2⟩
    · rcases (Ld.set hil).1 hj with rfl | hj
      · rw [h2] at hf; cases hf; exact e1.elim
      · rcases (Ld.set hil).1 hj' with rfl | hj'
        · rw [h2] at hf'; cases hf'; exact e2.elim
        · rw [hget, if_neg (hneq j _ _ hj hf)] at e1
          rw [hget, if_neg (hneq j' _ _ hj' hf')] at e2
          exact hinj j d' F' j' d'' F'' g hj hf hj' hf' e1 e2
  have made : ∀ (v : Value) (w' : World) (x : Box), F.mk = true → F.isBox v x → Kp w (mkM M0 (B ++ cur)) w' (mkM M0 (x :: B ++ cur)) → Ok w0 M0 n (x :: B ++ cur) [] (a.put (some d) v) w' → (∀ g, x.blk = some g → w.heap.size ≤ g) →
      Inv w0 M0 n bs st ops E (l.setIfInBounds i true) (a.put (some d) v) w' := fun v w' x hmk hix hkp hok' hnew => by
    obtain ⟨hdn, h2, hneq, hcur'⟩ := hdst (FK.mk_isS hmk)
    have hget : ∀ u, (a.put (some d) v).tmps.getD u undef = if u = d then v else a.tmps.getD u undef := fun u => getD_put (by rw [hok.size]; exact hdn) u
    have hold : ∀ y ∈ B, ∀ g, y.blk = some g → g < w.heap.size := fun y hy g hg => hok.msk _ (.inr (mem_blks (List.mem_append_left _ hy) hg))
    refine ⟨by rw [Array.size_setIfInBounds]; exact h.lsize, fun j hj => ((Ld.set hil).1 hj).elim (fun e => e ▸ hi) (h.lim j), hdn', x :: B, cur, ⟨hcur', fun y hy => (List.mem_cons.1 hy).elim (fun e => e ▸ FK.isBox_mark hix) (hBm y)⟩, hok', fun u R' hu hne => ?_, fun j d' e' R' hj hf => ?_, fun j d' F' hj hf hmk' => ?_, fun j d' F' j' d'' F'' g hj hf hj' hf' e1 e2 => ?_⟩
    · rw [hget, if_neg fun e => hne i d _ ((Ld.set hil).2 (.inl rfl)) h2 e.symm]
      exact R'.keep (hst u R' hu fun j d' F' hj => hne j d' F' ((Ld.set hil).2 (.inr hj))) hkp
    · rcases (Ld.set hil).1 hj with rfl | hj
      · rw [h2] at hf; cases hf; cases hmk
      · rw [hget, if_neg (hneq j _ _ hj hf)]; exact R'.keep (hfa j d' e' R' hj hf) hkp
    · rcases (Ld.set hil).1 hj with rfl | hj
      · rw [h2] at hf; cases hf; rw [hget, if_pos rfl]
        refine ⟨F, x, .inl ⟨rfl, fun i' r ho hl => ?_⟩, hix, List.mem_cons_self⟩
        obtain ⟨g1, g2, o', g3, g4⟩ := o_edge htr hc ho
        rcases (Ld.set hil).1 hl with rfl | hl
        · omega
        · obtain ⟨e, r1, r2, r3⟩ := edge_mem g4
          exact hnl (r3 ▸ h.dn i' o' e hl g3 r1 r2)
      · rw [hget, if_neg (hneq j _ _ hj hf)]
        obtain ⟨F1, b, g0, g1, g2⟩ := hbx j d' F' hj hf hmk'
        exact ⟨F1, b, g0.set hil (hnoO (fun _ _ _ _ h => by rw [h] at hmk; cases hmk) j), g1, List.mem_cons_of_mem _ g2⟩
    · have far : ∀ j d' F' g, Ld l j → fact E j = some (d', F') → F'.isBlk (a.tmps.getD d' undef) g → g < w.heap.size := fun j d' F' g hj hf e => by
        have hmk' : F'.mk = true := by cases F' <;> first | rfl | exact e.elim
        obtain ⟨F1, z, g0, g1, g2⟩ := hbx j d' F' hj hf hmk'
        exact hold _ g2 _ ((FK.isBox_blk g1).1 (g0.blk.2 e))
      rcases (Ld.set hil).1 hj with rfl | hk
      · rcases (Ld.set hil).1 hj' with rfl | hk'
        · rfl
        · rw [h2] at hf; cases hf
          rw [hget, if_pos rfl] at e1
          rw [hget, if_neg (hneq j' _ _ hk' hf')] at e2
          have := far j' d'' F'' _ hk' hf' e2
          have := hnew _ ((FK.isBox_blk hix).1 e1)
          omega
      · rcases (Ld.set hil).1 hj' with rfl | hk'
        · rw [h2] at hf'; cases hf'
          rw [hget, if_pos rfl] at e2
          rw [hget, if_neg (hneq j _ _ hk hf)] at e1
          have := far j d' F' _ hk hf e1
          have := hnew _ ((FK.isBox_blk hix).1 e2)
          omega
        · rw [hget, if_neg (hneq j _ _ hk hf)] at e1
          rw [hget, if_neg (hneq j' _ _ hk' hf')] at e2
          exact hinj j d' F' j' d'' F'' g hk hf hk' hf' e1 e2
  have hfacts : ∀ lk, (lk = lookE (E.drop (E.length - i)) st) → Fa lk o.op (fun t => a.tmps.getD t undef) w (mkM M0 (B ++ cur)) := fun lk hlk x hx t R hxt hR => by
    subst hlk; subst hxt
    exact Inv.fa htr hc hio hi hdep h.lim hst hfa (List.mem_append_left _ (List.mem_filterMap.2 ⟨.tmp t, hx, rfl⟩)) hR
  have hbsok : ∀ (e : Bool) (R : Rp), F = .f e R → ∀ x ∈ cond e bs bh, BoxOk w (mkM M0 (B ++ cur)) x := fun e R hF x hx => by
    subst hF
    cases e
    · exact hlate x hx
    · have := hearly (fct_kd h2)
      subst this
      exact hok.boxes x (List.mem_append_right _ hx)
  unfold wpOp
  rw [hio]
  dsimp only
  cases h3 with
  | @op e d op ty pos af R hg =>
    rw [if_pos (by simp [Region.wanted])]
    refine .inl (wp_of_does rfl ?_)
    rw [eval_ev, exec_eq]
    exact (hg _ w _ hok.msk (hfacts _ rfl) (hbsok e R rfl)).mono fun v w' ⟨hR, hb⟩ => hK _ _ (plain v w' e R rfl hb hR)
  | @gd e d op ty pos af R Rg j dj want c hdj hRg htell hg =>
    have hguard : Rg.h (a.tmps.getD dj undef) w (mkM M0 (B ++ cur)) :=
      Inv.fa htr hc hio hi hdep h.lim hst hfa (List.mem_append_right _ (by simp [hdj])) hRg
    rcases htell _ _ _ hguard with ⟨hcc, hv⟩ | ⟨hcc, hv⟩
    · have hw : Region.wanted ⟨some d, op, ty, pos, af, some (j, want)⟩ (yielded ops a.tmps) = true := by
        unfold Region.wanted yielded
        simp only [hdj, Option.bind_some]
        rw [Array.getD_eq_getD_getElem?] at hv
        cases hq : a.tmps[dj]? with
        | none => rw [hq] at hv; simp [undef] at hv
        | some u => rw [hq] at hv; simp at hv; subst hv; simp
      rw [if_pos hw]
      refine .inl (wp_of_does rfl ?_)
      rw [eval_ev, exec_eq]
      exact (hg hcc _ w _ hok.msk (hfacts _ rfl) (hbsok e _ rfl)).mono fun v w' ⟨hR, hb⟩ => hK _ _ (plain v w' e (Fw.gd c R) rfl hb (.inl ⟨hcc, hR⟩))
    · have hw : Region.wanted ⟨some d, op, ty, pos, af, some (j, want)⟩ (yielded ops a.tmps) = false := by
        unfold Region.wanted yielded
        simp only [hdj, Option.bind_some]
        rw [Array.getD_eq_getD_getElem?] at hv
        cases hq : a.tmps[dj]? with
        | none => rfl
        | some u =>
          rw [hq] at hv
          cases u <;> first | rfl | (rename_i bb; have : bb ≠ want := fun e => hv (by rw [e]; rfl); cases bb <;> cases want <;> first | rfl | exact absurd rfl this)
      rw [if_neg (by rw [hw]; exact Bool.false_ne_true)]
      exact hK _ _ (plain undef w e (Fw.gd c R) rfl (Below.refl _ _) (.inr ⟨hcc, rfl⟩))
  | @bx d op ty T pos af rs hg =>
    rw [if_pos (by simp [Region.wanted])]
    obtain ⟨cs, hcs, hrun⟩ := hg (fun t => a.tmps.getD t undef) w _ (hfacts _ rfl)
    refine .inl (wp_of_does rfl ?_)
    rw [eval_ev, exec_eq, hrun]
    obtain ⟨hdn, _, _, _⟩ := hdst rfl
    have hok' := hok.newBox hdn (T := T) hcs
    have hb : Below w.heap.size w (w.alloc (.cells cs.toArray T)) := (Below.refl _ w).alloc (Nat.le_refl _) _
    have hkp : Kp w (mkM M0 (B ++ cur)) (w.alloc (.cells cs.toArray T)) (mkM M0 (.b w.heap.size T rs :: B ++ cur)) := ⟨fun b hb' _ => hb.block b hb', hb.size, fun b hb' => by
      rcases hb' with h1 | h1
      · exact .inl (.inl h1)
      · rcases (List.mem_cons (l := blks (B ++ cur))).1 h1 with h2 | h2
        · exact .inr (Nat.le_of_eq h2.symm)
        · exact .inl (.inr h2)⟩
    refine hK _ _ (made _ _ (.b w.heap.size T rs) rfl ⟨_, rfl, rfl⟩ hkp ⟨hok'.defers, hok'.size, fun _ _ h => by simp [look] at h, hok'.boxes, hok'.nodup, hok'.fresh, hok'.below, hok'.msk, hok'.m0⟩ fun g hg => ?_)
    have hg : w.heap.size = g := by simpa [Box.blk] using hg
    omega
  | @nx d op ty e pos af sz k rs hg =>
    rw [if_pos (by simp [Region.wanted])]
    refine .inl (wp_of_does rfl ?_)
    rw [eval_ev, exec_eq]
    refine (hg _ w _ hok.msk (hfacts _ rfl) hlate).mono fun v w' ⟨hv, hm⟩ => hK _ _ ?_
    obtain ⟨hdn, _, _, _⟩ := hdst rfl
    obtain ⟨hkp, hok'⟩ := hok.new hm
    have hok2 := hok'.put (d := d) (R := val v) (v := v) hdn (Below.refl _ _) rfl
    exact made v w' (.r v e sz k rs) rfl ⟨hv, rfl⟩ hkp ⟨hok2.defers, hok2.size, fun _ _ h => by simp [look] at h, hok2.boxes, hok2.nodup, hok2.fresh, hok2.below, hok2.msk, hok2.m0⟩ fun g hg => hm.fresh g (mem_blks List.mem_cons_self hg)
  | @sx op ty pos af bs' hg hh =>
    rw [if_pos (by simp [Region.wanted])]
    have hcb : aftE (E.drop (E.length - i)) bs = cur ∧ ∀ j x, i < j → fbox E j = some x → ¬ Ld l j := by
      have hbef : ∀ j x, j < i → fbox E j = some x → Ld l j := fun j x hj hx => by
        obtain ⟨d, hx⟩ := fbox_iff.1 hx
        obtain ⟨e, r1, r2, r3⟩ := edge_mem (((chk_at hc hio).2.2.2.2.1 hi (fct_kd h2)).2 j hj (fct_kd hx))
        exact r3 ▸ hdep e r1 r2
      have haft : ∀ j x, i < j → fbox E j = some x → ¬ Ld l j := fun j x hj hx hl => by
        have hjl := h.lim j hl
        obtain ⟨d, hx⟩ := fbox_iff.1 hx
        obtain ⟨o', d', F', q1, q2, q3⟩ := htr.at j hjl
        obtain ⟨e, r1, r2, r3⟩ := edge_mem (((chk_at hc q1).2.2.2.2.1 hjl (fct_kd hx)).2 i hj (fct_kd h2))
        exact hnl (r3 ▸ h.dn j o' e hl q1 r1 r2)
      refine ⟨?_, haft⟩
      rcases aftE_drop (Nat.le_of_lt hi) bs with ⟨g1, g2⟩ | ⟨j, g1, g2, g3⟩
      · rw [g1]
        rcases hcur with ⟨e, _⟩ | ⟨j, k1, k2, _⟩
        · exact e.symm
        · rcases Nat.lt_trichotomy j i with hlt | e | hgt
          · exact absurd k2 (g2 j _ hlt)
          · subst e; exact absurd k1 hnl
          · exact absurd k1 (haft j _ hgt k2)
      · rcases hcur with ⟨e, k⟩ | ⟨j', k1, k2, k3⟩
        · exact absurd (hbef j _ g1 g2) (k j _ g2)
        · have hjj : j' = j := by
            rcases Nat.lt_trichotomy j' j with hlt | e | hgt
            · exact absurd (hbef j _ g1 g2) (k3 j _ hlt g2)
            · exact e
            · rcases Nat.lt_trichotomy j' i with hlt' | e | hgt'
              · exact absurd k2 (g3 j' _ hgt hlt')
              · subst e; exact absurd k1 hnl
              · exact absurd k1 (haft j' _ hgt' k2)
          subst hjj
          rw [g2] at k2; cases k2; rfl
    obtain ⟨hcb, haft⟩ := hcb
    rw [hcb] at hg
    suffices fin : ∀ w', Ok w0 M0 n (B ++ bs') [] a w' → Kp w (mkM M0 (B ++ cur)) w' (mkM M0 (B ++ bs')) → Inv w0 M0 n bs st ops E (l.setIfInBounds i true) a w' by
      refine .inl ?_
      rcases hg w0 M0 n B a w hok (hfacts _ rfl) with hd | ⟨w', hr, h1, h2⟩
      · refine wp_of_does rfl ?_
        rw [eval_ev, exec_eq]
        exact hd.mono fun v w' ⟨hok', hkp⟩ => hK _ _ (fin w' hok' hkp)
      · unfold Oper.wp
        rw [eval_ev, exec_eq, hr]
        exact hK _ _ (fin w' h1 h2)
    intro w' hok' hkp
    have hfb : fbox E i = some bs' := fbox_iff.2 ⟨_, h2⟩
    have hnf : ∀ {j d F}, fact E j = some (d, F) → Ld (l.setIfInBounds i true) j → Ld l j := fun {j d F} hf hj => by
      rcases (Ld.set hil).1 hj with rfl | hj
      · obtain ⟨q1, q2⟩ := fact_iff.1 hf
        rw [h2] at q1; cases q1; cases q2
      · exact hj
    refine ⟨by rw [Array.size_setIfInBounds]; exact h.lsize, fun j hj => ((Ld.set hil).1 hj).elim (fun e => e ▸ hi) (h.lim j), hdn', B, bs', ⟨.inr ⟨i, (Ld.set hil).2 (.inl rfl), hfb, fun j x hj hx hl => ?_⟩, hBm⟩, hok', fun u R' hu hne => ?_, fun j d' e' R' hj hf => ?_, fun j d' F' hj hf hmk => ?_, fun j d' F' j' d'' F'' g hj hf hj' hf' e1 e2 => ?_⟩
    · rcases (Ld.set hil).1 hl with rfl | hl
      · exact absurd hj (Nat.lt_irrefl _)
      · exact haft j x hj hx hl
    · exact R'.keep (hst u R' hu fun j d' F' hj => hne j d' F' ((Ld.set hil).2 (.inr hj))) hkp
    · exact R'.keep (hfa j d' e' R' (hnf hf hj) hf) hkp
    · obtain ⟨F1, x, g0, g1, g2⟩ := hbx j d' F' (hnf hf hj) hf hmk
      exact ⟨F1, x, g0.set hil (hnoO (fun _ _ _ _ h => by cases h) j), g1, g2⟩
    · exact hinj j d' F' j' d'' F'' g (hnf hf hj) hf (hnf hf' hj') hf' e1 e2
  | @ox op ty T pos af j dj rs rs' hj hno hop =>
    rw [if_pos (by simp [Region.wanted])]
    have hoi : oAt E i j rs' := ⟨_, _, _, h2⟩
    obtain ⟨hji, _, o', ho', hed⟩ := o_edge htr hc hoi
    rw [hio] at ho'; cases ho'
    obtain ⟨_, hfj⟩ := fct_drop (Nat.le_of_lt hi) hj
    have hfj : fact E j = some (dj, .b T rs) := fact_iff.2 ⟨hfj, rfl⟩
    have hlj : Ld l j := by
      obtain ⟨e, r1, r2, r3⟩ := edge_mem hed
      exact r3 ▸ hdep e r1 r2
    obtain ⟨F1, x, c0, c1, c2⟩ := hbx j dj _ hlj hfj rfl
    have hF1 : F1 = .b T rs := by
      rcases c0 with ⟨e, _⟩ | ⟨i', T', rs0, rs1, _, e2, e3, _⟩
      · exact e
      · exact absurd (o_uniq htr hoi e2 ▸ e3) hnl
    subst hF1
    obtain ⟨g, e1, rfl⟩ := c1
    obtain ⟨k, hk⟩ := List.getElem?_of_mem c2
    have hkB : (B ++ cur)[k]? = some (.b g T rs) := by rw [List.getElem?_append_left (List.getElem?_eq_some_iff.1 hk).1]; exact hk
    obtain ⟨cs, b1, b2⟩ := hok.boxes _ (List.mem_append_left _ c2)
    obtain ⟨w', cs', hr, q1, q2, q3, q4, q5, q6, q7⟩ := hop.2 (fun t => a.tmps.getD t undef) w _ g cs (hfacts _ rfl) e1 b1 b2
    have hok' := hok.store (w' := w') hkB q1 q2 q3 q4 q5 q6 q7
    rw [List.set_append_left _ _ (List.getElem?_eq_some_iff.1 hk).1] at hok'
    have hbl : blks (B.set k (.b g T rs')) = blks B := by
      have : ∀ (bs : List Box) (i : Nat), bs[i]? = some (.b g T rs) → blks (bs.set i (.b g T rs')) = blks bs := by
        intro bs
        induction bs with
        | nil => intro i h; simp at h
        | cons x bs ih =>
          intro i h
          cases i with
          | zero => simp at h; subst h; rfl
          | succ i => have := ih i (by simpa using h); rw [List.set_cons_succ]; unfold blks at *; rw [List.filterMap_cons, List.filterMap_cons, this]
      exact this B k hk
    have hM : mkM M0 (B.set k (.b g T rs') ++ cur) = mkM M0 (B ++ cur) := by
      unfold mkM
      have : blks (B.set k (.b g T rs') ++ cur) = blks (B ++ cur) := by
        have hap : ∀ A B : List Box, blks (A ++ B) = blks A ++ blks B := fun _ _ => List.filterMap_append
        rw [hap, hap, hbl]
      rw [this]
    have hkp : Kp w (mkM M0 (B ++ cur)) w' (mkM M0 (B.set k (.b g T rs') ++ cur)) := by
      rw [hM]
      exact ⟨fun b _ hb => q3 b fun e => hb (e ▸ .inr (mem_blks (List.mem_of_getElem? hkB) rfl)), by omega, fun _ h => .inl h⟩
    have hnf : ∀ {j d F}, fact E j = some (d, F) → Ld (l.setIfInBounds i true) j → Ld l j := fun {j d F} hf hj => by
      rcases (Ld.set hil).1 hj with rfl | hj
      · obtain ⟨q1, q2⟩ := fact_iff.1 hf
        rw [h2] at q1; cases q1; cases q2
      · exact hj
    have hcur' : Cur bs E (l.setIfInBounds i true) cur := by
      have hno : ∀ x, fbox E i ≠ some x := fun x hx => by
        obtain ⟨d', hx⟩ := fbox_iff.1 hx
        rw [h2] at hx; cases hx
      rcases hcur with ⟨e, g⟩ | ⟨j, g1, g2, g3⟩
      · refine .inl ⟨e, fun j x hx hl => ?_⟩
        rcases (Ld.set hil).1 hl with rfl | hl
        · exact hno x hx
        · exact g j x hx hl
      · refine .inr ⟨j, (Ld.set hil).2 (.inr g1), g2, fun j' x hj hx hl => ?_⟩
        rcases (Ld.set hil).1 hl with rfl | hl
        · exact hno x hx
        · exact g3 j' x hj hx hl
    refine .inl ?_
    unfold Oper.wp
    rw [eval_ev, exec_eq, hr]
    refine hK _ _ ⟨by rw [Array.size_setIfInBounds]; exact h.lsize, fun j hj => ((Ld.set hil).1 hj).elim (fun e => e ▸ hi) (h.lim j), hdn', B.set k (.b g T rs'), cur, ⟨hcur', fun y hy => ?_⟩, hok', fun u R' hu hne => ?_, fun j d' e' R' hj hf => ?_, fun j' d' F' hj hf hmk => ?_, fun j d' F' j' d'' F'' g hj hf hj' hf' e1 e2 => ?_⟩
    · rcases List.mem_or_eq_of_mem_set hy with hy | rfl
      · exact hBm y hy
      · rfl
    · exact R'.keep (hst u R' hu fun j d' F' hj => hne j d' F' ((Ld.set hil).2 (.inr hj))) hkp
    · exact R'.keep (hfa j d' e' R' (hnf hf hj) hf) hkp
    · by_cases e : j' = j
      · subst e
        rw [hfj] at hf; cases hf
        exact ⟨.b T rs', .b g T rs', .inr ⟨i, T, rs, rs', rfl, hoi, (Ld.set hil).2 (.inl rfl), rfl⟩, ⟨g, e1, rfl⟩, List.mem_of_getElem? (i := k) (by rw [List.getElem?_set, if_pos rfl, if_pos (List.getElem?_eq_some_iff.1 hk).1])⟩
      · obtain ⟨F1, x, g0, g1, g2⟩ := hbx j' d' F' (hnf hf hj) hf hmk
        refine ⟨F1, x, g0.set hil fun r ho => ?_, g1, ?_⟩
        · obtain ⟨d1, T1, rs1, ho⟩ := ho
          rw [h2] at ho; cases ho; exact e rfl
        · obtain ⟨k', hk'⟩ := List.getElem?_of_mem g2
          refine List.mem_of_getElem? (i := k') ?_
          rw [List.getElem?_set, if_neg fun ek => ?_]
          · exact hk'
          · subst ek
            rw [hk] at hk'; cases hk'
            exact e (hinj j' d' F' j dj _ g (hnf hf hj) hf hlj hfj (g0.blk.1 ((FK.isBox_blk g1).2 rfl)) e1)
    · exact hinj j d' F' j' d'' F'' g (hnf hf hj) hf (hnf hf' hj') hf' e1 e2

theorem Inv.fin (htr : Trl P bs bh st ops E) (hc : rgChk ops (kindE E) n = true) {l : Array Bool} {a : Act} {w : World} (h : Inv w0 M0 n bs st ops E l a w) (hall : ∀ j, j < E.length → Ld l j) {K : List Box → St → Prop} (hfin : FinP [] E (aftE E bs) st K) : ∃ bs' st', K bs' st' ∧ Ok w0 M0 n bs' st' a w := by
  obtain ⟨B, cur, ⟨hcur, hBm⟩, hok, hst, hfa, hbx, hinj⟩ := h.ok
  have hce : aftE E bs = cur := by
    have h0 := aftE_drop (E := E) (Nat.le_refl _) bs
    rw [Nat.sub_self, List.drop_zero] at h0
    rcases h0 with ⟨g1, g2⟩ | ⟨j, g1, g2, g3⟩
    · rw [g1]
      rcases hcur with ⟨e, _⟩ | ⟨j, k1, k2, _⟩
      · exact e.symm
      · exact absurd k2 (g2 j _ (h.lim j k1))
    · rcases hcur with ⟨e, k⟩ | ⟨j', k1, k2, k3⟩
      · exact absurd (hall j g1) (k j _ g2)
      · have hjj : j' = j := by
          rcases Nat.lt_trichotomy j' j with hlt | e | hgt
          · exact absurd (hall j g1) (k3 j _ hlt g2)
          · exact e
          · exact absurd k2 (g3 j' _ hgt (h.lim j' k1))
        subst hjj
        rw [g2] at k2; cases k2; rfl
  rw [hce] at hfin
  have hou : ∀ {i i' j : Nat} {r r' : List Rp}, oAt E i j r → oAt E i' j r' → i = i' := fun h h' => o_uniq htr h h'
  have hoe : ∀ {i j : Nat} {r : List Rp}, oAt E i j r → j < i ∧ i < E.length := fun h => ⟨(o_edge htr hc h).1, (o_edge htr hc h).2.1⟩
  clear htr hc
  clear hcur hce
  generalize cur = bs at hok hst hfa hfin
  have hnr : ∀ (O : List (Nat × List Rp)) (k : Nat) (rs : List Rp), newRs O k rs = (O.lookup k).getD rs := by
    intro O
    induction O with
    | nil => intro k rs; rfl
    | cons x O ih =>
      intro k rs
      obtain ⟨j, r⟩ := x
      simp only [newRs, List.lookup_cons]
      by_cases e : k = j
      · subst e; simp
      · rw [if_neg e, ih, show (k == j) = false from by simpa using e]
  have key : ∀ (k : Nat), k ≤ E.length → ∀ (O : List (Nat × List Rp)), (∀ j r, O.lookup j = some r ↔ ∃ i, k ≤ i ∧ oAt E i j r) → ∀ (K : List Box → St → Prop), FinP O (E.drop (E.length - k)) bs st K →
      ∃ bx stx, K (bx ++ bs) (stx ++ st) ∧ (∀ t R, look stx t = some R → R.h (a.tmps.getD t undef) w (mkM M0 (B ++ bs))) ∧ (∀ j d F, j < k → fact E j = some (d, F) → ∃ R, look stx d = some R) ∧
        (∀ x ∈ bx, x ∈ B ∧ ∃ j d F, j < k ∧ fact E j = some (d, F) ∧ ∀ g, x.blk = some g → F.isBlk (a.tmps.getD d undef) g) ∧ (blks bx).Nodup := by
    intro k
    induction k with
    | zero =>
      intro _ O _ K hf
      rw [Nat.sub_zero, List.drop_length] at hf
      exact ⟨[], [], hf, fun _ _ h => by simp [look] at h, fun _ _ _ hj => absurd hj (by omega), fun _ hx => by simp at hx, by simp [blks]⟩
    | succ k ih =>
      intro hk O hO K hf
      have hlt : E.length - (k + 1) < E.length := by omega
      rw [List.drop_eq_getElem_cons hlt, show E.length - (k + 1) + 1 = E.length - k from by omega] at hf
      have hfc : fct E k = some E[E.length - (k + 1)] := by
        unfold fct
        rw [if_pos (by omega), show E.length - 1 - k = E.length - (k + 1) from by omega, List.getElem?_eq_getElem hlt]
      generalize E[E.length - (k + 1)] = x at hf hfc
      obtain ⟨u, F⟩ := x
      have hO1 : (∀ j T rs rs', F ≠ .o j T rs rs') → ∀ j r, O.lookup j = some r ↔ ∃ i, k ≤ i ∧ oAt E i j r := fun hF j r => by
        rw [hO]
        constructor
        · rintro ⟨i, h1, h2⟩; exact ⟨i, by omega, h2⟩
        · rintro ⟨i, h1, h2⟩
          refine ⟨i, ?_, h2⟩
          by_cases e : i = k
          · subst e
            obtain ⟨d, T, rs, h2⟩ := h2
            rw [hfc] at h2; cases h2; exact absurd rfl (hF _ _ _ _)
          · omega
      cases F with
      | o j T rs rs' =>
        obtain ⟨bx, stx, h1, h2, h3, h4, h5⟩ := ih (by omega) ((j, rs') :: O) (fun j' r => by
          rw [List.lookup_cons]
          by_cases e : j' = j
          · subst e
            simp only [beq_self_eq_true]
            constructor
            · intro h; cases h; exact ⟨k, Nat.le_refl _, _, _, _, hfc⟩
            · rintro ⟨i, g1, g2⟩
              have := hou g2 ⟨_, _, _, hfc⟩
              subst this
              obtain ⟨d, T, rs, g2⟩ := g2
              rw [hfc] at g2; cases g2; rfl
          · rw [show (j' == j) = false from by simpa using e]
            dsimp only
            rw [hO]
            constructor
            · rintro ⟨i, g1, g2⟩; exact ⟨i, by omega, g2⟩
            · rintro ⟨i, g1, g2⟩
              refine ⟨i, ?_, g2⟩
              by_cases e2 : i = k
              · subst e2
                obtain ⟨d, T, rs, g2⟩ := g2
                rw [hfc] at g2; cases g2; exact absurd rfl e
              · omega) _ hf
        refine ⟨bx, stx, h1, h2, fun j d F hj hfj => ?_, fun x hx => ?_, h5⟩
        · by_cases e : j = k
          · subst e
            obtain ⟨q1, q2⟩ := fact_iff.1 hfj
            rw [hfc] at q1; cases q1; cases q2
          · exact h3 j d F (by omega) hfj
        · obtain ⟨g1, j, d, F, g3, g4⟩ := h4 x hx
          exact ⟨g1, j, d, F, by omega, g4⟩
      | s bs' =>
        have hO' := hO1 fun _ _ _ _ h => by cases h
        obtain ⟨bx, stx, h1, h2, h3, h4, h5⟩ := ih (by omega) O hO' _ hf
        refine ⟨bx, stx, h1, h2, fun j d F hj hfj => ?_, fun x hx => ?_, h5⟩
        · by_cases e : j = k
          · subst e
            obtain ⟨q1, q2⟩ := fact_iff.1 hfj
            rw [hfc] at q1; cases q1; cases q2
          · exact h3 j d F (by omega) hfj
        · obtain ⟨g1, j, d, F, g3, g4⟩ := h4 x hx
          exact ⟨g1, j, d, F, by omega, g4⟩
      | f e0 R =>
        have hO' := hO1 fun _ _ _ _ h => by cases h
        have hfk := fact_iff.2 ⟨hfc, rfl⟩
        obtain ⟨bx, stx, h1, h2, h3, h4, h5⟩ := ih (by omega) O hO' _ hf
        refine ⟨bx, (u, R) :: stx, h1, fun t R' ht => ?_, fun j d F hj hfj => ?_, fun x hx => ?_, h5⟩
        · simp only [look] at ht
          split at ht
          · rename_i e; subst e; cases ht; exact hfa k t e0 R (hall k (by omega)) hfk
          · exact h2 t R' ht
        · by_cases e : j = k
          · subst e; rw [hfk] at hfj; cases hfj; exact ⟨R, by simp [look]⟩
          · obtain ⟨R', h⟩ := h3 j d F (by omega) hfj
            simp only [look]
            split
            · exact ⟨_, rfl⟩
            · exact ⟨R', h⟩
        · obtain ⟨g1, j, d, F, g3, g4⟩ := h4 x hx
          exact ⟨g1, j, d, F, by omega, g4⟩
      | b T rs =>
        have hO' := hO1 fun _ _ _ _ h => by cases h
        have hfk := fact_iff.2 ⟨hfc, rfl⟩
        obtain ⟨F1, x0, c0, g0, g2⟩ := hbx k u _ (hall k (by omega)) hfk rfl
        have hF1 : F1 = .b T (newRs O (E.drop (E.length - k)).length rs) := by
          have hl : (E.drop (E.length - k)).length = k := by rw [List.length_drop]; omega
          rw [hl, hnr]
          rcases c0 with ⟨e, hno⟩ | ⟨i, T', rs0, rs', e1, e2, e3, e4⟩
          · subst e
            cases hL : O.lookup k with
            | none => rfl
            | some r =>
              obtain ⟨i, _, g⟩ := (hO k r).1 hL
              exact absurd (hall i (hoe g).2) (hno i r g)
          · cases e1
            rw [(hO k rs').2 ⟨i, (hoe e2).1, e2⟩, e4]; rfl
        subst hF1
        obtain ⟨b, g1, rfl⟩ := g0
        obtain ⟨bx, stx, h1, h2, h3, h4, h5⟩ := ih (by omega) O hO' _ (hf b)
        have g0 : ∀ g, Box.blk (.b b T (newRs O (E.drop (E.length - k)).length rs)) = some g → FK.isBlk (.b T rs) (a.tmps.getD u undef) g := fun g hg => by
          have hg : b = g := by simpa [Box.blk] using hg
          rw [← hg]; exact g1
        refine ⟨Box.b b T (newRs O (E.drop (E.length - k)).length rs) :: bx, (u, val (.pointer (some ⟨b, 0, none⟩))) :: stx, h1, fun t R' ht => ?_, fun j d F hj hfj => ?_, fun x hx => ?_, ?_⟩
        · simp only [look] at ht
          split at ht
          · rename_i e; subst e; cases ht; exact g1
          · exact h2 t R' ht
        · by_cases e : j = k
          · subst e; rw [hfk] at hfj; cases hfj; exact ⟨_, by simp [look]; rfl⟩
          · obtain ⟨R', h⟩ := h3 j d F (by omega) hfj
            simp only [look]
            split
            · exact ⟨_, rfl⟩
            · exact ⟨R', h⟩
        · rcases List.mem_cons.1 hx with rfl | hx
          · exact ⟨g2, k, u, _, by omega, hfk, g0⟩
          · obtain ⟨k1, j, d, F, k2, k3⟩ := h4 x hx
            exact ⟨k1, j, d, F, by omega, k3⟩
        · unfold blks
          rw [List.filterMap_cons]
          cases hvb : Box.blk (Box.b b T (newRs O (E.drop (E.length - k)).length rs)) with
          | none => exact h5
          | some g =>
            refine List.nodup_cons.2 ⟨fun hm => ?_, h5⟩
            obtain ⟨x, hx, e⟩ := List.mem_filterMap.1 hm
            obtain ⟨_, j, d, F, k2, k3, k4⟩ := h4 x hx
            have := hinj k u _ j d F g (hall k (by omega)) hfk (hall j (by omega)) k3 (g0 g hvb) (k4 g e)
            omega
      | n e0 sz k0 rs =>
        have hO' := hO1 fun _ _ _ _ h => by cases h
        have hfk := fact_iff.2 ⟨hfc, rfl⟩
        obtain ⟨F1, x0, c0, g0, g2⟩ := hbx k u _ (hall k (by omega)) hfk rfl
        have hF1 : F1 = .n e0 sz k0 rs := by
          rcases c0 with ⟨e, _⟩ | ⟨i, T', rs0, rs', e1, _⟩
          · exact e
          · cases e1
        subst hF1
        obtain ⟨g1, rfl⟩ := g0
        obtain ⟨bx, stx, h1, h2, h3, h4, h5⟩ := ih (by omega) O hO' _ (hf _ g1)
        have g0 : ∀ g, Box.blk (.r (a.tmps.getD u undef) e0 sz k0 rs) = some g → FK.isBlk (.n e0 sz k0 rs) (a.tmps.getD u undef) g := fun g hg => hg
        refine ⟨Box.r (a.tmps.getD u undef) e0 sz k0 rs :: bx, (u, val (a.tmps.getD u undef)) :: stx, h1, fun t R' ht => ?_, fun j d F hj hfj => ?_, fun x hx => ?_, ?_⟩
        · simp only [look] at ht
          split at ht
          · rename_i e; subst e; cases ht; exact rfl
          · exact h2 t R' ht
        · by_cases e : j = k
          · subst e; rw [hfk] at hfj; cases hfj; exact ⟨_, by simp [look]; rfl⟩
          · obtain ⟨R', h⟩ := h3 j d F (by omega) hfj
            simp only [look]
            split
            · exact ⟨_, rfl⟩
            · exact ⟨R', h⟩
        · rcases List.mem_cons.1 hx with rfl | hx
          · exact ⟨g2, k, u, _, by omega, hfk, g0⟩
          · obtain ⟨k1, j, d, F, k2, k3⟩ := h4 x hx
            exact ⟨k1, j, d, F, by omega, k3⟩
        · unfold blks
          rw [List.filterMap_cons]
          cases hvb : Box.blk (Box.r (a.tmps.getD u undef) e0 sz k0 rs) with
          | none => exact h5
          | some g =>
            refine List.nodup_cons.2 ⟨fun hm => ?_, h5⟩
            obtain ⟨x, hx, e⟩ := List.mem_filterMap.1 hm
            obtain ⟨_, j, d, F, k2, k3, k4⟩ := h4 x hx
            have := hinj k u _ j d F g (hall k (by omega)) hfk (hall j (by omega)) k3 (g0 g hvb) (k4 g e)
            omega
  obtain ⟨bx, stx, h1, h2, h3, h4, h5⟩ := key E.length (Nat.le_refl _) [] (fun j r => ⟨fun h => by simp at h, fun ⟨i, g1, g2⟩ => absurd (hoe g2).2 (by omega)⟩) K (by rw [Nat.sub_self]; exact hfin)
  have hsub : ∀ b, mkM M0 (bx ++ bs) b → mkM M0 (B ++ bs) b := fun b hb => by
    rcases hb with hb | hb
    · exact .inl hb
    · obtain ⟨x, hx, e⟩ := List.mem_filterMap.1 hb
      refine .inr (List.mem_filterMap.2 ⟨x, ?_, e⟩)
      rcases List.mem_append.1 hx with hx | hx
      · exact List.mem_append_left _ (h4 x hx).1
      · exact List.mem_append_right _ hx
  have hkp := Kp.less w hsub
  have hmem : ∀ x ∈ bx ++ bs, x ∈ B ++ bs := fun x hx => by
    rcases List.mem_append.1 hx with hx | hx
    · exact List.mem_append_left _ (h4 x hx).1
    · exact List.mem_append_right _ hx
  refine ⟨bx ++ bs, stx ++ st, h1, hok.defers.trans (by rw [defs_app, defs_app, defs_none hBm, defs_none fun x hx => hBm x (h4 x hx).1]), hok.size, fun t R ht => ?_, fun x hx => ?_, ?_, fun g hg => hok.fresh g (by obtain ⟨x, hx, e⟩ := List.mem_filterMap.1 hg; exact mem_blks (hmem x hx) e), hok.below, fun b hb => hok.msk b (hsub b hb), fun g hg => hok.m0 g (by obtain ⟨x, hx, e⟩ := List.mem_filterMap.1 hg; exact mem_blks (hmem x hx) e)⟩
  · have hap : ∀ s : St, look (s ++ st) t = (look s t).or (look st t) := fun s => by
      induction s with
      | nil => rfl
      | cons x s ih =>
        obtain ⟨u, r⟩ := x
        simp only [List.cons_append, look]
        split
        · rfl
        · exact ih
    rw [hap] at ht
    cases hs : look stx t with
    | some R' => rw [hs] at ht; cases ht; exact Rp.keep _ (h2 t _ hs) hkp
    | none =>
      rw [hs] at ht
      refine R.keep (hst t R ht fun j d F hj hf e => ?_) hkp
      subst e
      obtain ⟨R', h'⟩ := h3 j d F (h.lim j hj) hf
      rw [hs] at h'; cases h'
  · exact (hok.boxes x (hmem x hx)).same (fun _ _ _ => rfl) hkp
  · have hap : ∀ A B : List Box, blks (A ++ B) = blks A ++ blks B := fun _ _ => List.filterMap_append
    rw [hap]
    have hnd := hok.nodup
    rw [hap] at hnd
    refine List.nodup_append.2 ⟨h5, (List.nodup_append.1 hnd).2.1, fun x hx y hy => ?_⟩
    obtain ⟨z, hz, e⟩ := List.mem_filterMap.1 hx
    exact (List.nodup_append.1 hnd).2.2 x (List.mem_filterMap.2 ⟨z, (h4 z hz).1, e⟩) y hy

theorem wpAny_tail {E : RE} {m : Nat} (hm : E.length = m) (hc : rgChk ops (kindE E) n = true) : ∀ (k i : Nat) (l : Array Bool) (a : Act) (w : World), m ≤ i → i + k = ops.size → l.size = ops.size → (∀ j, j < ops.size → (Ld l j ↔ j < i)) → wpList P ops Q (ops.toList.drop i) a w → wpAny P .any ops Q k l a w := by
  intro k
  induction k with
  | zero =>
    intro i l a w hmi hik hls hl h
    have hr : Region.ready .any ops l = [] := by
      rw [List.eq_nil_iff_forall_not_mem]
      intro j hj
      obtain ⟨h0, o, ho, _⟩ := mem_ready.1 hj
      have hjs := (Array.getElem?_eq_some_iff.1 ho).1
      have := (hl j hjs).2 (by omega)
      unfold Ld at this
      rw [Array.getD_eq_getD_getElem?, Array.getElem?_eq_getElem (by omega)] at h0 this
      simp_all
    refine ⟨hr, ?_⟩
    rw [List.drop_eq_nil_of_le (by simp; omega)] at h
    exact h
  | succ k ih =>
    intro i l a w hmi hik hls hl h
    have his : i < ops.size := by omega
    have hio : ops[i]? = some ops[i] := Array.getElem?_eq_getElem his
    have hmem : i ∈ Region.ready .any ops l := by
      refine mem_ready.2 ⟨?_, _, hio, fun e he hb => ?_⟩
      · have := (hl i his)
        rw [Array.getD_eq_getD_getElem?, Array.getElem?_eq_getElem (by omega)]
        unfold Ld at this
        rw [Array.getD_eq_getD_getElem?, Array.getElem?_eq_getElem (by omega)] at this
        simp at this ⊢
        cases hq : l[i] <;> simp_all
      · have h1 := (chk_at hc hio).1 e he hb
        exact (hl e.on (by omega)).2 h1
    have honly : ∀ j ∈ Region.ready .any ops l, j = i := fun j hj => by
      obtain ⟨h0, o, ho, hall⟩ := mem_ready.1 hj
      have hjs := (Array.getElem?_eq_some_iff.1 ho).1
      rcases Nat.lt_trichotomy j i with hlt | e | hgt
      · have := (hl j hjs).2 hlt
        unfold Ld at this
        rw [Array.getD_eq_getD_getElem?, Array.getElem?_eq_getElem (by omega)] at h0 this
        simp_all
      · exact e
      · obtain ⟨e, h1, h2, h3⟩ := edge_mem ((chk_at hc ho).2.2.2.2.2.1 (by omega))
        have := hall e h1 h2
        rw [h3] at this
        exact absurd ((hl (j - 1) (by omega)).1 this) (by omega)
    refine ⟨fun hr => (by rw [hr] at hmem; cases hmem), fun j hj => ?_⟩
    have := honly j hj
    subst this
    have hdrop : ops.toList.drop j = ops[j] :: ops.toList.drop (j + 1) := by
      rw [List.drop_eq_getElem_cons (by simpa using his)]; simp
    rw [hdrop] at h
    have ihj := fun a w h => ih (j + 1) (l.setIfInBounds j true) a w (by omega) (by omega) (by simpa using hls) (fun j' hj' => by
      rw [Ld.set (by omega), hl j' hj']; omega) h
    unfold wpOp
    rw [hio]
    simp only [wpList] at h
    simp only
    split
    · rename_i hw; rw [if_pos hw] at h; exact h.imp (Oper.wp_mono ihj) id
    · rename_i hw; rw [if_neg hw] at h; exact ihj _ _ h

theorem wpAny_rg (htr : Trl P bs bh st ops E) (hc : rgChk ops (kindE E) n = true) (hfin : FinP [] E (aftE E bs) st fun bs st => WL P w0 M0 n bs st ops (ops.toList.drop E.length) Q) : ∀ (k : Nat) (l : Array Bool) (a : Act) (w : World), l.toList.count true + k = ops.size → Inv w0 M0 n bs st ops E l a w → wpAny P .any ops Q k l a w := by
  have hEl : E.length ≤ ops.size := by
    cases htr with
    | nil _ => simp
    | cons _ ho _ => have := (Array.getElem?_eq_some_iff.1 ho).1; simp; omega
  intro k
  induction k with
  | zero =>
    intro l a w hcnt h
    have hall : ∀ j, j < ops.size → Ld l j := fun j hj => by
      have h1 : l.toList.count true = l.toList.length := by rw [Array.length_toList, h.lsize]; omega
      have h2 := List.count_eq_length.1 h1
      have h3 : true = l[j]'(by rw [h.lsize]; exact hj) := h2 _ (by simp)
      unfold Ld
      rw [Array.getD_eq_getD_getElem?, Array.getElem?_eq_getElem (by rw [h.lsize]; exact hj)]
      simp [← h3]
    have hEs : E.length = ops.size := by
      rcases Nat.lt_or_ge E.length ops.size with hlt | hge
      · exact absurd (h.lim E.length (hall _ hlt)) (by omega)
      · omega
    obtain ⟨bs', st', hK, hok⟩ := h.fin htr hc (fun j hj => hall j (by omega)) hfin
    exact wpAny_tail (m := E.length) rfl hc 0 E.length l a w (Nat.le_refl _) (by omega) h.lsize (fun j hj => ⟨fun _ => by omega, fun _ => hall j hj⟩) (hK a w hok)
  | succ k ih =>
    intro l a w hcnt h
    by_cases hall : ∀ j, j < E.length → Ld l j
    · obtain ⟨bs', st', hK, hok⟩ := h.fin htr hc hall hfin
      have hcount : l.toList.count true = E.length := by
        have : ∀ (m : Nat) (xs : List Bool), (∀ j, j < xs.length → (xs[j]? = some true ↔ j < m)) → m ≤ xs.length → xs.count true = m := by
          intro m xs
          induction xs generalizing m with
          | nil => intro _ hm; simp at hm; simp [hm]
          | cons x xs ih2 =>
            intro hx hm
            cases m with
            | zero =>
              rw [List.count_eq_zero]
              intro hmem
              obtain ⟨j, hj⟩ := List.getElem?_of_mem hmem
              have := (hx j (List.getElem?_eq_some_iff.1 hj).1).1 hj
              omega
            | succ m =>
              have h0 := (hx 0 (by simp)).2 (by omega)
              simp at h0
              subst h0
              rw [List.count_cons_self, ih2 m (fun j hj => by have := hx (j + 1) (by simp; omega); simpa using this) (by simp at hm; omega)]
        refine this E.length l.toList (fun j hj => ?_) (by simp [h.lsize]; exact hEl)
        have hj' : j < l.size := by simpa using hj
        constructor
        · intro e
          refine h.lim j ?_
          unfold Ld
          rw [Array.getD_eq_getD_getElem?, Array.getElem?_eq_getElem hj']
          simpa [hj'] using e
        · intro e
          have := hall j e
          unfold Ld at this
          rw [Array.getD_eq_getD_getElem?, Array.getElem?_eq_getElem hj'] at this
          simpa [hj'] using this
      exact wpAny_tail (m := E.length) rfl hc (k + 1) E.length l a w (Nat.le_refl _) (by omega) h.lsize (fun j hj => ⟨h.lim j, fun e => hall j e⟩) (hK a w hok)
    · -- the first that is not over may come
      have hex : ∃ i, i < E.length ∧ ¬ Ld l i ∧ ∀ j, j < i → Ld l j := by
        have : ∃ i, i < E.length ∧ ¬ Ld l i := by
          apply Classical.byContradiction
          intro hn
          exact hall fun j hj => Classical.byContradiction fun hl => hn ⟨j, hj, hl⟩
        obtain ⟨i, h1, h2⟩ := this
        induction i using Nat.strongRecOn with
        | _ i ihi =>
          by_cases hlow : ∀ j, j < i → Ld l j
          · exact ⟨i, h1, h2, hlow⟩
          · have : ∃ j, j < i ∧ ¬ Ld l j := by
              apply Classical.byContradiction
              intro hn
              exact hlow fun j hj => Classical.byContradiction fun hl => hn ⟨j, hj, hl⟩
            obtain ⟨j, h3, h4⟩ := this
            exact ihi j h3 (by omega) h4
      obtain ⟨i, hi, hni, hlow⟩ := hex
      have his : i < ops.size := by omega
      have hio : ops[i]? = some ops[i] := Array.getElem?_eq_getElem his
      have notl : ∀ j, j < ops.size → (l.getD j true = false ↔ ¬ Ld l j) := fun j hj => by
        unfold Ld
        rw [Array.getD_eq_getD_getElem?, Array.getD_eq_getD_getElem?, Array.getElem?_eq_getElem (by rw [h.lsize]; exact hj)]
        simp
      refine ⟨fun hr => ?_, fun j hj => ?_⟩
      · have : i ∈ Region.ready .any ops l := mem_ready.2 ⟨(notl i his).2 hni, _, hio, fun e he hb => hlow _ ((chk_at hc hio).1 e he hb)⟩
        rw [hr] at this; cases this
      · obtain ⟨h0, o, ho, hdep⟩ := mem_ready.1 hj
        have hjs := (Array.getElem?_eq_some_iff.1 ho).1
        have hnj := (notl j hjs).1 h0
        have hjE : j < E.length := by
          rcases Nat.lt_or_ge j E.length with hlt | hge
          · exact hlt
          · rcases Nat.lt_or_ge E.length j with hgt | hle
            · obtain ⟨e, h1, h2, h3⟩ := edge_mem ((chk_at hc ho).2.2.2.2.2.1 hgt)
              have := h.lim _ (hdep e h1 h2)
              rw [h3] at this
              omega
            · have hje : E.length = j := by omega
              subst hje
              refine absurd (reach_all (D := Ld l) (fun i' he => ?_) (fun k' i' hk' he => ?_) _ _ (fun _ hk => by cases hk) i ((chk_at hc ho).2.2.2.2.2.2 rfl i hi)) hni
              · unfold edgeAt at he
                rw [ho] at he
                obtain ⟨e, h1, h2, h3⟩ := edge_mem he
                exact h3 ▸ hdep e h1 h2
              · unfold edgeAt at he
                cases hok' : ops[k']? with
                | none => rw [hok'] at he; cases he
                | some o' =>
                  rw [hok'] at he
                  obtain ⟨e, h1, h2, h3⟩ := edge_mem he
                  exact h3 ▸ h.dn k' o' e hk' hok' h1 h2
        exact h.step htr hc ho hjE hnj hdep fun a' w' h' => ih _ a' w' (by rw [count_set (by rw [h.lsize]; exact hjs) hnj]; omega) h'

theorem region_rg {id : Nat} {l : List Oper} (hm : P.follows .mixedOrders = true) (htr : Trl P bs bh st l.toArray E) (hc : rgChk l.toArray (kindE E) n = true) (hfin : FinP [] E (aftE E bs) st fun bs st => WL P w0 M0 n bs st l.toArray (l.drop E.length) Q) :
    WP P w0 M0 n bs st (.region id l.toArray true) Q := by
  intro a w hok
  refine wp_region_any hm (wpAny_rg htr hc (by simpa using hfin) _ _ _ _ (by rw [Array.toList_replicate, List.count_replicate]; simp) ?_)
  have hb : Below w.heap.size w { w with drawn := w.drawn + 1 } := ⟨rfl, rfl, rfl, Nat.le_refl _, fun _ _ => rfl⟩
  have hkp := Kp.of_below (mkM M0 bs) hb
  have hno : ∀ j, ¬ Ld (Array.replicate l.toArray.size false) j := fun j hj => by
    unfold Ld at hj
    rw [Array.getD_eq_getD_getElem?, Array.getElem?_replicate] at hj
    split at hj <;> simp at hj
  refine ⟨by simp, fun j hj => absurd hj (hno j), fun j _ _ hj => absurd hj (hno j), [], bs, ⟨.inl ⟨rfl, fun j _ _ => hno j⟩, fun _ h => (by cases h)⟩, ⟨hok.defers, hok.size, fun _ _ h => by simp [look] at h, fun x hx => ?_, hok.nodup, hok.fresh, hok.below.trans (hb.mono hok.below.size), hok.msk, hok.m0⟩, fun t R ht _ => R.keep (hok.facts t R ht) hkp, fun j _ _ _ hj => absurd hj (hno j), fun j _ _ hj => absurd hj (hno j), fun j _ _ _ _ _ _ hj => absurd hj (hno j)⟩
  exact (hok.boxes x hx).below hb

def RG (P : Program) (w0 : World) (M0 : Mask) (n : Nat) (bs bh : List Box) (st : St) (id : Nat) (l : List Oper) (Q : Exit → Act → World → Prop) (E : RE) (rest : List Oper) : Prop :=
  Trl P bs bh st l.toArray E → l.drop E.length = rest → WP P w0 M0 n bs st (.region id l.toArray true) Q
theorem WP.draws {id : Nat} {l : List Oper} (h : RG P w0 M0 n bs bs st id l Q [] l) : WP P w0 M0 n bs st (.region id l.toArray true) Q := h (.nil fun _ _ h => h) rfl
def hideBox : Box → Box
  | .b g T rs => .b g T (rs.map fun _ => any)
  | .r v e sz n rs => .r v e sz n (List.replicate rs.length any)
  | .d D => .d D
  | .m g kv => .m g kv
def hideB (H : List Nat) (bs : List Box) (i : Nat := 0) : List Box := match bs with
  | [] => []
  | x :: bs => (if H.contains i then hideBox x else x) :: hideB H bs (i + 1)
theorem All2.hide {w : World} {M : Mask} : ∀ {rs : List Rp} {cs : List Value}, All2 w M rs cs → All2 w M (rs.map fun _ => any) cs
  | [], [], _ => trivial
  | _ :: _, _ :: _, h => ⟨⟨trivial, h.1.2⟩, All2.hide h.2⟩
theorem hideBox_ok {w : World} {M : Mask} {x : Box} (h : BoxOk w M x) : BoxOk w M (hideBox x) := by
  cases x with
  | b g T rs =>
    obtain ⟨cs, h1, h2⟩ := h
    exact ⟨cs, h1, h2.hide⟩
  | d D => exact h
  | m g kv => exact h
  | r v e sz n rs =>
    obtain ⟨cs, h1, h2⟩ := h
    have := h2.hide
    rw [List.map_const'] at this
    exact ⟨cs, h1, this⟩
theorem Hid.hide (H : List Nat) (bs : List Box) : Hid (hideB H bs) bs := by
  suffices ∀ (i : Nat), Hid (hideB H bs i) bs from this 0
  induction bs with
  | nil => intro i w M _ x hx; simp [hideB] at hx
  | cons y bs ih =>
    intro i w M h x hx
    simp only [hideB] at hx
    rcases List.mem_cons.1 hx with rfl | hx
    · split
      · exact hideBox_ok (h y List.mem_cons_self)
      · exact h y List.mem_cons_self
    · exact ih (i + 1) w M (fun z hz => h z (List.mem_cons_of_mem _ hz)) x hx
theorem Hid.of {H : List Nat} {bs bs' : List Box} (h : hideB H bs' = hideB H bs) : Hid (hideB H bs) bs' := h ▸ Hid.hide H bs'
theorem WP.drawsH (H : List Nat) {id : Nat} {l : List Oper} (h : RG P w0 M0 n bs (hideB H bs) st id l Q [] l) : WP P w0 M0 n bs st (.region id l.toArray true) Q := h (.nil (Hid.hide H bs)) rfl
theorem RG.head {l : List Oper} {E : RE} {o : Oper} {rest : List Oper} (h : l.drop E.length = o :: rest) : l.toArray[E.length]? = some o ∧ l.drop (E.length + 1) = rest := by
  have h1 : (l.drop E.length)[0]? = some o := by rw [h]; rfl
  rw [List.getElem?_drop] at h1
  refine ⟨by simpa using h1, ?_⟩
  rw [← List.drop_drop, h]; rfl
theorem RG.op {id : Nat} {l rest : List Oper} {E : RE} {d : Nat} {op : Op} {ty : TypeId} {pos : String} {af : Array Edge} {R : Rp} (h : OpG P bh (lookE E st) op ty R) (k : RG P w0 M0 n bs bh st id l Q ((d, .f false R) :: E) rest) :
    RG P w0 M0 n bs bh st id l Q E (⟨some d, op, ty, pos, af, none⟩ :: rest) := fun htr hd => k (.cons htr (RG.head hd).1 (.op (e := false) h)) (RG.head hd).2
theorem RG.opE {id : Nat} {l rest : List Oper} {E : RE} {d : Nat} {op : Op} {ty : TypeId} {pos : String} {af : Array Edge} {R : Rp} (h : OpG P bs (lookE E st) op ty R) (k : RG P w0 M0 n bs bh st id l Q ((d, .f true R) :: E) rest) :
    RG P w0 M0 n bs bh st id l Q E (⟨some d, op, ty, pos, af, none⟩ :: rest) := fun htr hd => k (.cons htr (RG.head hd).1 (.op (e := true) h)) (RG.head hd).2
theorem RG.gd {id : Nat} {l rest : List Oper} {E : RE} {d : Nat} {op : Op} {ty : TypeId} {pos : String} {af : Array Edge} {R Rg : Rp} {j dj : Nat} {want : Bool} {c : Prop} (hj : ((l.toArray[j]?).bind (·.dst)) = some dj) (hg : lookE E st dj = some Rg) (ht : Tells Rg want c) (h : c → OpG P bh (lookE E st) op ty R)
    (k : RG P w0 M0 n bs bh st id l Q ((d, .f false (Fw.gd c R)) :: E) rest) : RG P w0 M0 n bs bh st id l Q E (⟨some d, op, ty, pos, af, some (j, want)⟩ :: rest) := fun htr hd => k (.cons htr (RG.head hd).1 (.gd (e := false) c hj hg ht h)) (RG.head hd).2
theorem RG.bx {id : Nat} {l rest : List Oper} {E : RE} {d : Nat} {op : Op} {ty T : TypeId} {pos : String} {af : Array Edge} {rs : List Rp} (h : OpB P bs (lookE E st) op ty T rs) (k : RG P w0 M0 n bs bh st id l Q ((d, .b T rs) :: E) rest) :
    RG P w0 M0 n bs bh st id l Q E (⟨some d, op, ty, pos, af, none⟩ :: rest) := fun htr hd => k (.cons htr (RG.head hd).1 (.bx h)) (RG.head hd).2
theorem RG.nx {id : Nat} {l rest : List Oper} {E : RE} {d : Nat} {op : Op} {ty e : TypeId} {pos : String} {af : Array Edge} {sz k0 : Nat} {rs : List Rp} (h : OpN P bh (lookE E st) op ty e sz k0 rs) (k : RG P w0 M0 n bs bh st id l Q ((d, .n e sz k0 rs) :: E) rest) :
    RG P w0 M0 n bs bh st id l Q E (⟨some d, op, ty, pos, af, none⟩ :: rest) := fun htr hd => k (.cons htr (RG.head hd).1 (.nx h)) (RG.head hd).2
theorem RG.ox (j : Nat) {id : Nat} {l rest : List Oper} {E : RE} {op : Op} {ty T : TypeId} {pos : String} {af : Array Edge} {dj : Nat} {rs rs' : List Rp} (hj : fct E j = some (dj, .b T rs)) (hno : noO E j = true) (h : OpO P (lookE E st) op ty dj T rs rs')
    (k : RG P w0 M0 n bs bh st id l Q ((0, .o j T rs rs') :: E) rest) : RG P w0 M0 n bs bh st id l Q E (⟨none, op, ty, pos, af, none⟩ :: rest) := fun htr hd => k (.cons htr (RG.head hd).1 (.ox hj hno h)) (RG.head hd).2
theorem OpO.store {lk : Nat → Option Rp} {T T' ty : TypeId} {y : Operand} {R : Rp} {dj m : Nat} {rs rs' : List Rp} (hy : OF lk y R) (hfl : Flat R rs') (hm : sizeT P T = some m) (hl : rs'.length = m) (hr : rs.length = m) : OpO P lk (.store T (.tmp dj) y) ty dj T' rs rs' := by
  refine ⟨by simp [Op.operands], fun σ w M g cs hf h1 h4 h5 => ?_⟩
  obtain ⟨vs, h2, h3⟩ := hfl _ _ _ (hy σ w M fun i R' hi => hf _ (by simp [Op.operands]) i R' hi)
  have hlv := h3.length
  have hlc := h5.length
  obtain ⟨w', k1, k2, k3, k4, k5, k6, k7⟩ := run_storeCells_in (P := P) g T' vs 0 cs w 0 h4 (by omega) h3.one
  have hrun : ∀ v : Value, v.cells = vs.toArray → (storeVar T ⟨g, 0, none⟩ v).run P w = .ok () w' := fun v h2 => by
    unfold sizeT at hm
    cases hi : P.info? T with
    | none => rw [hi] at hm; simp at hm
    | some ti =>
      rw [hi] at hm
      simp only [Option.map_some, Option.some.injEq] at hm
      have hne : vs.length = ti.size := by omega
      simp [storeVar, h2, sizeOf, typeInfo, hi, hne, k1]
  have h1 : ev σ (.tmp dj) = .pointer (some ⟨g, 0, none⟩) := h1
  refine ⟨w', vs, ?_, ?_, h3, k3, k4, k5, k6, k7⟩
  · simp only [execOp, h1, Instr.storeAt, Instr.sureAddr, Sem.run_bind, Sem.run_pure, Result.andThen_ok, hrun _ h2]
  · have e : cs.take (0 + 0) ++ vs ++ cs.drop (0 + 0 + vs.length) = vs := by rw [List.drop_of_length_le (by omega)]; simp
    first | (rw [k2]; simp [List.drop_of_length_le (show cs.length ≤ vs.length by omega)]; done) | (simpa [List.drop_of_length_le (show cs.length ≤ vs.length by omega)] using k2)
theorem RG.sx {H : List Nat} {bs0 : List Box} {id : Nat} {l rest : List Oper} {E : RE} {op : Op} {ty : TypeId} {pos : String} {af : Array Edge} {bs' : List Box} (h : OpE P (aftE E bs) (lookE E st) op ty bs') (hh : hideB H bs' = hideB H bs0) (k : RG P w0 M0 n bs (hideB H bs0) st id l Q ((0, .s bs') :: E) rest) :
    RG P w0 M0 n bs (hideB H bs0) st id l Q E (⟨none, op, ty, pos, af, none⟩ :: rest) := fun htr hd => k (.cons htr (RG.head hd).1 (.sx h (Hid.of hh))) (RG.head hd).2
theorem RG.fin {id : Nat} {l rest : List Oper} {E : RE} (hm : P.follows .mixedOrders = true) (hc : rgChk l.toArray (kindE E) n = true) (k : FinP [] E (aftE E bs) st fun bs st => WL P w0 M0 n bs st l.toArray rest Q) : RG P w0 M0 n bs bh st id l Q E rest :=
  fun htr hd => region_rg hm htr hc (by rw [hd]; exact k)
theorem OpE.store (i : Nat) {lk : Nat → Option Rp} {T ty bt : TypeId} {x y : Operand} {R : Rp} {b o m : Nat} {rs rs' : List Rp} (hb : bs[i]? = some (.b b bt rs)) (hx : OF lk x (val (.pointer (some ⟨b, o, none⟩)))) (hy : OF lk y R) (hfl : Flat R rs')
    (hm : sizeT P T = some m) (hl : rs'.length = m) (hr : o + m ≤ rs.length) : OpE P bs lk (.store T x y) ty (bs.set i (.b b bt (setAt rs o rs'))) := by
  intro w0 M0 n B a w hok hf
  have h1 : ev (fun t => a.tmps.getD t undef) x = _ := hx _ w _ fun i R' hi => hf _ (by simp [Op.operands]) i R' hi
  obtain ⟨vs, h2, h3⟩ := hfl _ _ _ (hy (fun t => a.tmps.getD t undef) w _ fun i R' hi => hf _ (by simp [Op.operands]) i R' hi)
  have hbB : (B ++ bs)[B.length + i]? = some (.b b bt rs) := by rw [List.getElem?_append_right (by omega)]; simpa using hb
  obtain ⟨cs, h4, h5⟩ := hok.boxes _ (List.mem_of_getElem? hbB)
  have hlv := h3.length
  have hlc := h5.length
  obtain ⟨w', k1, k2, k3, k4, k5, k6, k7⟩ := run_storeCells_in (P := P) b bt vs 0 cs w o h4 (by omega) h3.one
  have hrun : ∀ v : Value, v.cells = vs.toArray → (storeVar T ⟨b, o, none⟩ v).run P w = .ok () w' := fun v h2 => by
    unfold sizeT at hm
    cases hi : P.info? T with
    | none => rw [hi] at hm; simp at hm
    | some ti =>
      rw [hi] at hm
      simp only [Option.map_some, Option.some.injEq] at hm
      have hne : vs.length = ti.size := by omega
      simp [storeVar, h2, sizeOf, typeInfo, hi, hne, k1]
  simp only [execOp, h1, Instr.storeAt, Instr.sureAddr, Sem.run_bind, Sem.run_pure, Result.andThen_ok, hrun _ h2]
  have hok' := hok.store (w' := w') hbB (rs' := setAt rs o rs') (cs := cs.take o ++ vs ++ cs.drop (o + vs.length)) (by simpa using k2) (by unfold setAt; rw [hlv]; exact ((h5.take o).append h3).append (h5.drop _)) k3 k4 k5 k6 k7
  rw [List.set_append_right _ _ (by omega), show B.length + i - B.length = i from by omega] at hok'
  have hM : mkM M0 (B ++ bs.set i (.b b bt (setAt rs o rs'))) = mkM M0 (B ++ bs) := by
    have : ∀ (bs : List Box) (i : Nat), bs[i]? = some (.b b bt rs) → blks (bs.set i (.b b bt (setAt rs o rs'))) = blks bs := by
      intro bs
      induction bs with
      | nil => intro i h; simp at h
      | cons x bs ih =>
        intro i h
        cases i with
        | zero => simp at h; subst h; rfl
        | succ i => have := ih i (by simpa using h); rw [List.set_cons_succ]; unfold blks at *; rw [List.filterMap_cons, List.filterMap_cons, this]
    unfold mkM blks
    rw [List.filterMap_append, List.filterMap_append]
    have h' := this bs i hb
    unfold blks at h'
    rw [h']
  refine .inr ⟨_, rfl, hok', ?_⟩
  rw [hM]
  exact ⟨fun j _ hj => k3 j fun e => hj (e ▸ .inr (mem_blks (List.mem_of_getElem? hbB) rfl)), by omega, fun _ h => .inl h⟩
theorem Tells.v (b want : Bool) : Tells (val (.bool b)) want (b = want) := fun v w M h => by
  have h : v = .bool b := h
  subst h
  by_cases e : b = want
  · exact .inl ⟨e, by rw [e]⟩
  · exact .inr ⟨e, fun h => e (by cases h; rfl)⟩
theorem Tells.g {c : Prop} (b want : Bool) : Tells (Fw.gd c (val (.bool b))) want (c ∧ b = want) := fun v w M h => by
  rcases h with ⟨hc, h⟩ | ⟨hc, h⟩
  · have h : v = .bool b := h
    subst h
    by_cases e : b = want
    · exact .inl ⟨⟨hc, e⟩, by rw [e]⟩
    · exact .inr ⟨fun h => e h.2, fun h => e (by cases h; rfl)⟩
  · exact .inr ⟨fun h => hc h.1, by rw [h]; exact fun h => by cases h⟩
theorem OpB.box {lk : Nat → Option Rp} {T ty : TypeId} {x : Operand} {R : Rp} {rs : List Rp} (h : OF lk x R) (hfl : Flat R rs) : OpB P bs lk (.box T x) ty T rs := fun σ w M hf => by
  obtain ⟨cs, h1, h2⟩ := hfl _ _ _ (h σ w M (hf x (by simp [Op.operands])))
  exact ⟨cs, h2, by simp [execOp, Instr.box, newVar, newRow, h1]⟩
theorem OpB.alloc {lk : Nat → Option Rp} {T ty : TypeId} {cs : List Value} (hz : zeros P T = some cs) (h1 : cs.all (·.oneCell') = true) : OpB P bs lk (.alloc T) ty T (cs.map val) := fun σ w M hf =>
  ⟨cs, All2.vals h1, by simp [execOp, run_alloc hz]⟩
end
end Go.Fw

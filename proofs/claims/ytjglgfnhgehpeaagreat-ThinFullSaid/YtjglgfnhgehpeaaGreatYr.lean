/- Parts: Fwj, Fwi. -/
import Derived.Test.YtjglgfnhgehpeaaGreatYe
import Derived.Test.YtjglgfnhgehpeaaGreatYf
import Derived.Laws.Slices
import Derived.Laws.Cover1
import Derived.Sort.Walk0
/- A region in any order: operations that only read, at most one new variable, and a chain of operations that change rows. No program in sight. -/
namespace Go.Fw
open Go.RowKit Go.Proofs
set_option linter.unusedVariables false
set_option linter.unusedSimpArgs false
section
variable {P : Program} {w0 : World} {M0 : Mask} {n : Nat} {bs : List Box} {st : St} {ops : Array Oper} {Q : Exit → Act → World → Prop} {E : RE}
abbrev LD : FK := .n 0 0 0 []
inductive Trl2 (P : Program) (bs : List Box) (st : St) (ops : Array Oper) : RE → Prop
  | nil : Trl2 P bs st ops []
  | q {E : RE} {d : Nat} {op : Op} {ty : TypeId} {pos : String} {af : Array Edge} {R : Rp} : Trl2 P bs st ops E → ops[E.length]? = some ⟨some d, op, ty, pos, af, none⟩ → OpG P bs (lookE E st) op ty R → Trl2 P bs st ops ((d, .f false R) :: E)
  | mk {E : RE} {d : Nat} {op : Op} {ty T : TypeId} {pos : String} {af : Array Edge} {rs : List Rp} : Trl2 P bs st ops E → ops[E.length]? = some ⟨some d, op, ty, pos, af, none⟩ → OpB P bs (lookE E st) op ty T rs → Trl2 P bs st ops ((d, .b T rs) :: E)
  | ld {E : RE} {d : Nat} {op : Op} {ty : TypeId} {pos : String} {af : Array Edge} : Trl2 P bs st ops E → ops[E.length]? = some ⟨some d, op, ty, pos, af, none⟩ → Trl2 P bs st ops ((d, LD) :: E)
inductive Kd (P : Program) (bs : List Box) (st : St) (E : RE) : Oper → Nat → FK → Prop
  | q {d : Nat} {op : Op} {ty : TypeId} {pos : String} {af : Array Edge} {R : Rp} : OpG P bs (lookE E st) op ty R → Kd P bs st E ⟨some d, op, ty, pos, af, none⟩ d (.f false R)
  | mk {d : Nat} {op : Op} {ty T : TypeId} {pos : String} {af : Array Edge} {rs : List Rp} : OpB P bs (lookE E st) op ty T rs → Kd P bs st E ⟨some d, op, ty, pos, af, none⟩ d (.b T rs)
  | ld {d : Nat} {op : Op} {ty : TypeId} {pos : String} {af : Array Edge} : Kd P bs st E ⟨some d, op, ty, pos, af, none⟩ d LD
theorem fct_cons {x : Nat × FK} {j : Nat} : fct (x :: E) j = if j = E.length then some x else fct E j := by
  unfold fct
  rw [List.length_cons]
  by_cases e : j = E.length
  · subst e; rw [if_pos (by omega), if_pos rfl, show E.length + 1 - 1 - E.length = 0 from by omega]; rfl
  · rw [if_neg e]
    by_cases q : j < E.length
    · rw [if_pos (by omega), if_pos q, show E.length + 1 - 1 - j = (E.length - 1 - j) + 1 from by omega, List.getElem?_cons_succ]
    · rw [if_neg (by omega), if_neg q]
theorem drop_cons_fct {x : Nat × FK} {j : Nat} (hj : j < E.length) : (x :: E).drop ((x :: E).length - j) = E.drop (E.length - j) := by
  rw [List.length_cons, show E.length + 1 - j = (E.length - j) + 1 from by omega, List.drop_succ_cons]
theorem Trl2.at (h : Trl2 P bs st ops E) : ∀ j, j < E.length → ∃ o d F, ops[j]? = some o ∧ fct E j = some (d, F) ∧ Kd P bs st (E.drop (E.length - j)) o d F := by
  induction h with
  | nil => intro j hj; simp at hj
  | @q E d op ty pos af R _ ho hg ih =>
    intro j hj
    by_cases e : j = E.length
    · subst e; exact ⟨_, d, _, ho, by rw [fct_cons, if_pos rfl], by rw [show ((d, FK.f false R) :: E).drop (((d, FK.f false R) :: E).length - E.length) = E from by rw [List.length_cons, show E.length + 1 - E.length = 1 from by omega]; rfl]; exact .q hg⟩
    · obtain ⟨o, d', F, h1, h2, h3⟩ := ih j (by simp at hj; omega)
      exact ⟨o, d', F, h1, by rw [fct_cons, if_neg e]; exact h2, by rw [drop_cons_fct (by simp at hj; omega)]; exact h3⟩
  | @mk E d op ty T pos af rs _ ho hg ih =>
    intro j hj
    by_cases e : j = E.length
    · subst e; exact ⟨_, d, _, ho, by rw [fct_cons, if_pos rfl], by rw [show ((d, FK.b T rs) :: E).drop (((d, FK.b T rs) :: E).length - E.length) = E from by rw [List.length_cons, show E.length + 1 - E.length = 1 from by omega]; rfl]; exact .mk hg⟩
    · obtain ⟨o, d', F, h1, h2, h3⟩ := ih j (by simp at hj; omega)
      exact ⟨o, d', F, h1, by rw [fct_cons, if_neg e]; exact h2, by rw [drop_cons_fct (by simp at hj; omega)]; exact h3⟩
  | @ld E d op ty pos af _ ho ih =>
    intro j hj
    by_cases e : j = E.length
    · subst e; exact ⟨_, d, _, ho, by rw [fct_cons, if_pos rfl], .ld⟩
    · obtain ⟨o, d', F, h1, h2, h3⟩ := ih j (by simp at hj; omega)
      exact ⟨o, d', F, h1, by rw [fct_cons, if_neg e]; exact h2, by rw [drop_cons_fct (by simp at hj; omega)]; exact h3⟩
theorem Kd.dst {o : Oper} {d : Nat} {F : FK} (h : Kd P bs st E o d F) : o.dst = some d := by cases h <;> rfl
theorem Trl2.kd (h : Trl2 P bs st ops E) : ∀ j, j < E.length → kd E j ≠ 2 ∧ kd E j ≠ 3 := fun j hj => by
  obtain ⟨o, d, F, h1, h2, h3⟩ := h.at j hj
  rw [fct_kd h2]
  cases h3 <;> simp [FK.kd]
theorem Trl2.dsts (h : Trl2 P bs st ops E) (hc : rgChk ops (kindE E) n = true) {i j di dj : Nat} {Fi Fj : FK} (hi : fct E i = some (di, Fi)) (hj : fct E j = some (dj, Fj)) (hne : i ≠ j) : di ≠ dj := by
  have hil := fct_lt hi
  have hjl := fct_lt hj
  obtain ⟨oi, di', Fi', h1, h2, h3⟩ := h.at i hil
  obtain ⟨oj, dj', Fj', g1, g2, g3⟩ := h.at j hjl
  rw [hi] at h2; cases h2
  rw [hj] at g2; cases g2
  obtain ⟨d, k1, k2, k3⟩ := (chk_at hc h1).2.2.1 hil (h.kd i hil)
  rw [h3.dst] at k1; cases k1
  have := k3 j hjl (Ne.symm hne)
  rw [g1] at this
  intro e
  exact this (by rw [Option.bind_some, g3.dst, e])
inductive Need (E : RE) (ops : Array Oper) (i : Nat) : St → Prop
  | n : Need E ops i []
  | c {t : Nat} {R : Rp} {s : St} (j : Nat) : fct E j = some (t, .f false R) → edgeAt ops i j = true → Need E ops i s → Need E ops i ((t, R) :: s)
def NQ (K : Act → World → Prop) : Exit → Act → World → Prop := fun e a w => match e with
  | .normal => K a w
  | _ => False
theorem wpQ {o : Oper} {a : Act} {w : World} {K : Act → World → Prop} (h : o.wp P a w K (NQ K)) : o.wp P a w K Q := by
  unfold Oper.wp at *
  generalize (execOp a.eval o).run P w = r at *
  cases r with
  | ok x w' =>
    cases x <;> simp only [Oper.upon] at h ⊢ <;> first
      | exact h
      | exact Calls.mono h (fun e w'' he => by cases e <;> first | exact he | (exact (he : False).elim) | (obtain ⟨_, _, hx⟩ := he; exact (hx : False).elim))
  | halt x w' => cases x <;> simp only [Oper.upon] at h ⊢ <;> first | exact h | exact (h : False).elim
theorem wl_one {o : Oper} {a : Act} {w : World} {K : Act → World → Prop} (hg : o.guard = none) (h : wpList P ops (NQ K) [o] a w) : o.wp P a w K Q := by
  unfold wpList at h
  rw [if_pos (by unfold Region.wanted; rw [hg])] at h
  rcases h with h | ⟨_, _, _, h⟩
  · exact wpQ (Oper.wp_mono (fun a w h => h) h)
  · exact h.elim
abbrev ChainJ := Nat → St → List Box → Prop
def Link (P : Program) (w0 : World) (M0 : Mask) (n : Nat) (bs : List Box) (ops : Array Oper) (E : RE) (J : ChainJ) (p i : Nat) : Prop :=
  ∃ (d : Nat) (op : Op) (ty : TypeId) (pos : String) (af : Array Edge) (need : St), ops[i]? = some ⟨some d, op, ty, pos, af, none⟩ ∧ Need E ops i need ∧
    ∀ (S D : St) (B Bm : List Box), J p S B → WL P w0 M0 n (B ++ (bs ++ Bm)) (need ++ (S ++ D)) ops [⟨some d, op, ty, pos, af, none⟩]
      (NQ fun a' w' => ∃ R B', J (p + 1) ((d, R) :: S) B' ∧ Ok w0 M0 n (B' ++ (bs ++ Bm)) ((d, R) :: (need ++ (S ++ D))) a' w')
inductive Links (P : Program) (w0 : World) (M0 : Mask) (n : Nat) (bs : List Box) (ops : Array Oper) (E : RE) (J : ChainJ) : Nat → List Nat → Prop
  | n {p : Nat} : Links P w0 M0 n bs ops E J p []
  | c {p i : Nat} {is : List Nat} : Link P w0 M0 n bs ops E J p i → Links P w0 M0 n bs ops E J (p + 1) is → Links P w0 M0 n bs ops E J p (i :: is)
theorem Links.at {J : ChainJ} {p : Nat} {is : List Nat} (h : Links P w0 M0 n bs ops E J p is) : ∀ q i, is[q]? = some i → Link P w0 M0 n bs ops E J (p + q) i := by
  induction h with
  | n => intro q i h; simp at h
  | @c p i is h1 _ ih =>
    intro q j hq
    cases q with
    | zero => simp at hq; subst hq; exact h1
    | succ q => have := ih q j (by simpa using hq); rwa [show p + 1 + q = p + (q + 1) from by omega] at this
def lkChk (ops : Array Oper) (E : RE) (is : List Nat) : Bool :=
  ((List.range is.length).all fun q => decide (is.getD q 0 < E.length) && (q == 0 || edgeAt ops (is.getD q 0) (is.getD (q - 1) 0))) &&
  ((List.range E.length).all fun j => match fct E j with | some (_, .n _ _ _ _) => is.contains j | some (_, .f _ _) => !is.contains j | some (_, .b _ _) => !is.contains j | _ => false) &&
  (decide ((E.filter fun x => match x.2 with | .b _ _ => true | _ => false).length ≤ 1)) && decide is.Nodup
structure Inv2 (w0 : World) (M0 : Mask) (n : Nat) (bs : List Box) (st : St) (ops : Array Oper) (E : RE) (J : ChainJ) (is : List Nat) (l : Array Bool) (a : Act) (w : World) : Prop where
  lsize : l.size = ops.size
  lim : ∀ j, Ld l j → j < E.length
  dn : ∀ j o e, Ld l j → ops[j]? = some o → e ∈ o.after → Region.binds .any e = true → Ld l e.on
  ok : ∃ (p : Nat) (S D : St) (B Bm : List Box), (∀ q i, is[q]? = some i → (Ld l i ↔ q < p)) ∧ J p S B ∧ Ok w0 M0 n (B ++ (bs ++ Bm)) (S ++ D) a w ∧
    (∀ t R, look S t = some R → ∃ j, fct E j = some (t, LD)) ∧ (∀ j d, Ld l j → fct E j = some (d, LD) → ∃ R, look S d = some R) ∧
    (∀ j d R, Ld l j → fct E j = some (d, .f false R) → look D d = some R) ∧
    (∀ t R, look st t = some R → (∀ j d F, fct E j = some (d, F) → d ≠ t) → look D t = some R) ∧
    (∀ j d T rs, Ld l j → fct E j = some (d, .b T rs) → ∃ b, Bm = [.b b T rs] ∧ look D d = some (val (.pointer (some ⟨b, 0, none⟩)))) ∧
    ((∀ j d T rs, fct E j = some (d, .b T rs) → ¬ Ld l j) → Bm = []) ∧
    p ≤ is.length
theorem look_S {S D : St} {t : Nat} (h : look S t = none) : look (S ++ D) t = look D t := by rw [look_app, h]; rfl
theorem noneS {S : St} (hk : ∀ t R, look S t = some R → ∃ j, fct E j = some (t, LD)) {t : Nat} (h : ∀ j, fct E j ≠ some (t, LD)) : look S t = none := by
  cases hs : look S t with
  | none => rfl
  | some R => obtain ⟨j, hj⟩ := hk t R hs; exact absurd hj (h j)
theorem Inv2.fa (htr : Trl2 P bs st ops E) (hc : rgChk ops (kindE E) n = true) {l : Array Bool} {a : Act} {w : World} {S D : St} {B Bm : List Box} {i : Nat} {o : Oper} (hio : ops[i]? = some o) (hi : i < E.length) (hdep : ∀ e ∈ o.after, Region.binds .any e = true → Ld l e.on)
    (hok : Ok w0 M0 n (B ++ (bs ++ Bm)) (S ++ D) a w) (hk : ∀ t R, look S t = some R → ∃ j, fct E j = some (t, LD)) (hq : ∀ j d R, Ld l j → fct E j = some (d, .f false R) → look D d = some R) (hs : ∀ t R, look st t = some R → (∀ j d F, fct E j = some (d, F) → d ≠ t) → look D t = some R) :
    Fa (lookE (E.drop (E.length - i)) st) o.op (fun t => a.tmps.getD t undef) w (mkM M0 (B ++ (bs ++ Bm))) := fun x hx t R hxt hR => by
  subst hxt
  have hop : t ∈ opTmps ops o := List.mem_append_left _ (List.mem_filterMap.2 ⟨.tmp t, hx, rfl⟩)
  have hed := ((chk_at hc hio).2.1 hi).2 t hop
  have hdone : ∀ j d F, fct E j = some (d, F) → d = t → Ld l j := fun j d F hj e => by
    subst e
    obtain ⟨o', d', F', h1, h2, h3⟩ := htr.at j (fct_lt hj)
    rw [hj] at h2; cases h2
    have := hed j (fct_lt hj) (by rw [h1, Option.bind_some]; exact h3.dst)
    obtain ⟨e, r1, r2, r3⟩ := edge_mem this
    exact r3 ▸ hdep e r1 r2
  have hqs : ∀ R', look D t = some R' → (∀ j, fct E j ≠ some (t, LD)) → R' = R → R.h (a.tmps.getD t undef) w (mkM M0 (B ++ (bs ++ Bm))) := fun R' h1 h2 e => by
    subst e
    exact hok.facts t R' (by rw [look_S (noneS hk h2)]; exact h1)
  rcases lookE_drop (Nat.le_of_lt hi) hR with ⟨j, e, hj, hf⟩ | ⟨h, h9⟩
  · obtain ⟨hf, _⟩ := fact_iff.1 hf
    obtain ⟨o', d', F', h1, h2, h3⟩ := htr.at j (by omega)
    rw [hf] at h2; cases h2
    cases h3 with
    | q _ =>
      refine hqs R (hq j t R (hdone j t _ hf rfl) hf) (fun j' hj' => ?_) rfl
      by_cases q : j = j'
      · subst q; rw [hf] at hj'; cases hj'
      · exact htr.dsts hc hf hj' q rfl
  · have hno : ∀ j d F, fct E j = some (d, F) → d ≠ t := fun j d F hj e => by
      have hl := hdone j d F hj e
      have hji : j < i := by
        obtain ⟨o', d', F', h1, h2, h3⟩ := htr.at j (fct_lt hj)
        rw [hj] at h2; cases h2
        have := hed j (fct_lt hj) (by rw [h1, Option.bind_some, h3.dst, e])
        obtain ⟨e', r1, r2, r3⟩ := edge_mem this
        have := (chk_at hc hio).1 e' r1 r2
        omega
      subst e
      exact h9 j d F hji (fact_iff.2 ⟨hj, by
          obtain ⟨o', d', F', h1, h2, h3⟩ := htr.at j (fct_lt hj)
          rw [hj] at h2; cases h2
          cases h3 <;> rfl⟩) rfl
    exact hqs R (hs t R h hno) (fun j hj => hno j t _ hj rfl) rfl
theorem mkM_perm {A B : List Box} (h : A.Perm B) : mkM M0 A = mkM M0 B := by
  funext b
  unfold mkM
  have hb : (blks A).Perm (blks B) := h.filterMap _
  exact propext ⟨fun q => q.imp id fun q => hb.subset q, fun q => q.imp id fun q => hb.symm.subset q⟩
theorem Ok.perm {A B : List Box} {s : St} {a : Act} {w : World} (h : Ok w0 M0 n A s a w) (hp : A.Perm B) (hd : defs B = defs A) : Ok w0 M0 n B s a w := by
  have hb : (blks A).Perm (blks B) := hp.filterMap _
  have hM := mkM_perm (M0 := M0) hp
  exact ⟨h.defers.trans hd.symm, h.size, fun t R ht => hM ▸ h.facts t R ht, fun x hx => hM ▸ h.boxes x (hp.symm.subset hx), hb.nodup_iff.1 h.nodup, fun g hg => h.fresh g (hb.symm.subset hg), h.below, fun b hb' => h.msk b (hM ▸ hb'), fun g hg => h.m0 g (hb.symm.subset hg)⟩
theorem Ok.facts' {A : List Box} {s s' : St} {a : Act} {w : World} (h : Ok w0 M0 n A s a w) (hs : ∀ t R, look s' t = some R → R.h (a.tmps.getD t undef) w (mkM M0 A)) : Ok w0 M0 n A s' a w := ⟨h.defers, h.size, hs, h.boxes, h.nodup, h.fresh, h.below, h.msk, h.m0⟩
theorem Need.look {i : Nat} {s : St} (h : Need E ops i s) : ∀ t R, look s t = some R → ∃ j, fct E j = some (t, .f false R) ∧ edgeAt ops i j = true := by
  induction h with
  | n => intro t R h; simp [Fw.look] at h
  | @c u R' s j h1 h2 _ ih =>
    intro t R h
    simp only [Fw.look] at h
    split at h
    · rename_i e; subst e; cases h; exact ⟨j, h1, h2⟩
    · exact ih t R h
theorem edgeAt_dep {i j : Nat} {o : Oper} (hio : ops[i]? = some o) (h : edgeAt ops i j = true) {l : Array Bool} (hdep : ∀ e ∈ o.after, Region.binds .any e = true → Ld l e.on) : Ld l j := by
  unfold edgeAt at h
  rw [hio] at h
  obtain ⟨e, r1, r2, r3⟩ := edge_mem h
  exact r3 ▸ hdep e r1 r2
theorem lk_at {is : List Nat} (h : lkChk ops E is = true) : (∀ q i, is[q]? = some i → i < E.length ∧ (0 < q → edgeAt ops i (is.getD (q - 1) 0) = true)) ∧ (∀ j d, fct E j = some (d, LD) → j ∈ is) ∧ (∀ j d R, fct E j = some (d, .f false R) → j ∉ is) ∧ (∀ j d T rs, fct E j = some (d, .b T rs) → j ∉ is) ∧
    (E.filter fun x => match x.2 with | .b _ _ => true | _ => false).length ≤ 1 ∧ is.Nodup := by
  unfold lkChk at h
  simp only [Bool.and_eq_true, decide_eq_true_eq] at h
  obtain ⟨⟨⟨h1, h2⟩, h3⟩, h4⟩ := h
  have hm : ∀ j x, fct E j = some x → (match fct E j with | some (_, .n _ _ _ _) => is.contains j | some (_, .f _ _) => !is.contains j | some (_, .b _ _) => !is.contains j | _ => false) = true := fun j x hj => List.all_eq_true.1 h2 j (List.mem_range.2 (fct_lt hj))
  refine ⟨fun q i hq => ?_, fun j d hj => ?_, fun j d R hj => ?_, fun j d T rs hj => ?_, h3, h4⟩
  · have hql := (List.getElem?_eq_some_iff.1 hq).1
    have := List.all_eq_true.1 h1 q (List.mem_range.2 hql)
    have e : is.getD q 0 = i := by rw [List.getD_eq_getElem?_getD, hq]; rfl
    rw [e] at this
    simp only [Bool.and_eq_true, decide_eq_true_eq, Bool.or_eq_true, beq_iff_eq] at this
    exact ⟨this.1, fun h0 => this.2.resolve_left (by omega)⟩
  · have := hm j _ hj
    rw [hj] at this
    simpa using this
  · have := hm j _ hj
    rw [hj] at this
    simpa using this
  · have := hm j _ hj
    rw [hj] at this
    simpa using this
theorem Inv2.step (htr : Trl2 P bs st ops E) (hc : rgChk ops (kindE E) n = true) {J : ChainJ} {is : List Nat} (hlk : lkChk ops E is = true) (hL : Links P w0 M0 n bs ops E J 0 is) {l : Array Bool} {a : Act} {w : World} (h : Inv2 w0 M0 n bs st ops E J is l a w) {i : Nat} {o : Oper} (hio : ops[i]? = some o) (hi : i < E.length) (hnl : ¬ Ld l i)
    (hdep : ∀ e ∈ o.after, Region.binds .any e = true → Ld l e.on) {K : Act → World → Prop} (hK : ∀ a' w', Inv2 w0 M0 n bs st ops E J is (l.setIfInBounds i true) a' w' → K a' w') : wpOp P ops Q i K a w := by
  obtain ⟨p, S, D, B, Bm, hp, hJ, hok, hk, hkd, hq, hs, hm, hm0, hpl⟩ := h.ok
  obtain ⟨lk1, lk2, lk3, lk4, lk5, lk6⟩ := lk_at hlk
  have hil : i < l.size := by rw [h.lsize]; exact (Array.getElem?_eq_some_iff.1 hio).1
  obtain ⟨o', d, F, h1, h2, h3⟩ := htr.at i hi
  rw [hio] at h1; cases h1
  obtain ⟨d', k1, hdn, k2⟩ := (chk_at hc hio).2.2.1 hi (htr.kd i hi)
  rw [h3.dst] at k1; cases k1
  have hdn' : ∀ j o e, Ld (l.setIfInBounds i true) j → ops[j]? = some o → e ∈ o.after → Region.binds .any e = true → Ld (l.setIfInBounds i true) e.on := fun j o' e hj ho he hb => by
    rcases (Ld.set hil).1 hj with rfl | hj
    · rw [hio] at ho; cases ho; exact (Ld.set hil).2 (.inr (hdep e he hb))
    · exact (Ld.set hil).2 (.inr (h.dn j o' e hj ho he hb))
  have hlim' : ∀ j, Ld (l.setIfInBounds i true) j → j < E.length := fun j hj => ((Ld.set hil).1 hj).elim (fun e => e ▸ hi) (h.lim j)
  have hsz : (l.setIfInBounds i true).size = ops.size := by rw [Array.size_setIfInBounds]; exact h.lsize
  have hne : ∀ j d' F', Ld l j → fct E j = some (d', F') → d' ≠ d := fun j d' F' hj hf => htr.dsts hc hf h2 fun e => hnl (e ▸ hj)
  have hfa := Inv2.fa htr hc hio hi hdep hok hk hq hs
  have hbsok : ∀ x ∈ bs, BoxOk w (mkM M0 (B ++ (bs ++ Bm))) x := fun x hx => hok.boxes x (List.mem_append_right _ (List.mem_append_left _ hx))
  have hp' : i ∉ is → ∀ q i', is[q]? = some i' → (Ld (l.setIfInBounds i true) i' ↔ q < p) := fun hni q i' hq' => by
    rw [Ld.set hil, hp q i' hq']
    constructor
    · rintro (e | h)
      · subst e; exact absurd (List.mem_of_getElem? hq') hni
      · exact h
    · exact .inr
  unfold wpOp
  rw [hio]
  dsimp only
  cases h3 with
  | @q d op ty pos af R hg =>
    rw [if_pos (by simp [Region.wanted])]
    refine .inl (wp_of_does rfl ?_)
    rw [eval_ev, exec_eq]
    refine (hg _ w _ hok.msk hfa hbsok).mono fun v w' ⟨hR, hb⟩ => hK _ _ ?_
    have hok' := hok.put hdn (R := R) hb hR
    have hSd : look S d = none := noneS hk fun j hj => by
      by_cases e : j = i
      · subst e; rw [h2] at hj; cases hj
      · exact htr.dsts hc hj h2 e rfl
    refine ⟨hsz, hlim', hdn', p, S, (d, R) :: D, B, Bm, hp' (lk3 i d R h2), hJ, hok'.facts' fun t R' ht => hok'.facts t R' ?_, hk, fun j d' hj hf => ?_, fun j d' R' hj hf => ?_, fun t R' ht hno => ?_, fun j d' T rs hj hf => ?_, fun hall => hm0 fun j d' T rs hf hl => hall j d' T rs hf ((Ld.set hil).2 (.inr hl)), hpl⟩
    · rw [look_app] at ht
      simp only [look]
      cases hS : look S t with
      | some R2 =>
        rw [hS] at ht
        have : t ≠ d := fun e => by rw [e, hSd] at hS; cases hS
        rw [if_neg this, look_app, hS]; exact ht
      | none =>
        rw [hS] at ht
        have ht : look ((d, R) :: D) t = some R' := ht
        simp only [look] at ht
        split
        · rename_i e; rw [if_pos e] at ht; exact ht
        · rename_i e; rw [if_neg e] at ht; rw [look_app, hS]; exact ht
    · rcases (Ld.set hil).1 hj with rfl | hj
      · rw [h2] at hf; cases hf
      · exact hkd j d' hj hf
    · simp only [look]
      rcases (Ld.set hil).1 hj with rfl | hj
      · rw [h2] at hf; cases hf; rw [if_pos rfl]
      · rw [if_neg (hne j d' _ hj hf)]; exact hq j d' R' hj hf
    · simp only [look]
      rw [if_neg (fun e => hno i d _ h2 e.symm)]
      exact hs t R' ht hno
    · rcases (Ld.set hil).1 hj with rfl | hj
      · rw [h2] at hf; cases hf
      · obtain ⟨b, g1, g2⟩ := hm j d' T rs hj hf
        exact ⟨b, g1, by simp only [look]; rw [if_neg (hne j d' _ hj hf)]; exact g2⟩
  | @mk d op ty T pos af rs hg =>
    rw [if_pos (by simp [Region.wanted])]
    obtain ⟨cs, hcs, hrun⟩ := hg (fun t => a.tmps.getD t undef) w _ hfa
    refine .inl (wp_of_does rfl ?_)
    rw [eval_ev, exec_eq, hrun]
    refine hK _ _ ?_
    have hok' := hok.newBox hdn (T := T) hcs
    have hB0 : Bm = [] := hm0 fun j d' T' rs' hf hl => by
      have hne' : j ≠ i := fun e => hnl (e ▸ hl)
      have hmem : ∀ j x, fct E j = some x → E[E.length - 1 - j]? = some x := fun j x hj => by
        unfold fct at hj; rwa [if_pos (fct_lt (E := E) (by unfold fct; exact hj))] at hj
      have a1 := hmem j _ hf
      have a2 := hmem i _ h2
      have hjl := fct_lt hf
      have hlen : ∀ (L : RE) (x y : Nat) (u v : Nat × FK), x < y → L[x]? = some u → L[y]? = some v → (match u.2 with | .b _ _ => true | _ => false) = true → (match v.2 with | .b _ _ => true | _ => false) = true → 2 ≤ (L.filter fun x => match x.2 with | .b _ _ => true | _ => false).length := by
        intro L
        induction L with
        | nil => intro x y u v _ h; simp at h
        | cons z L ih =>
          intro x y u v hxy hx hy hu hv
          cases x with
          | zero =>
            simp at hx; subst hx
            obtain ⟨y, rfl⟩ : ∃ y', y = y' + 1 := ⟨y - 1, by omega⟩
            rw [List.filter_cons_of_pos (by exact hu), List.length_cons]
            have : v ∈ L.filter fun x => match x.2 with | .b _ _ => true | _ => false := List.mem_filter.2 ⟨List.mem_of_getElem? (by simpa using hy), hv⟩
            have := List.length_pos_of_mem this
            omega
          | succ x =>
            obtain ⟨y, rfl⟩ : ∃ y', y = y' + 1 := ⟨y - 1, by omega⟩
            have := ih x y u v (by omega) (by simpa using hx) (by simpa using hy) hu hv
            exact Nat.le_trans this (List.Sublist.length_le (List.Sublist.filter _ (List.sublist_cons_self z L)))
      rcases Nat.lt_or_gt_of_ne (show E.length - 1 - j ≠ E.length - 1 - i by omega) with hlt | hgt
      · have := hlen E _ _ _ _ hlt a1 a2 rfl rfl; omega
      · have := hlen E _ _ _ _ hgt a2 a1 rfl rfl; omega
    subst hB0
    have hSd : look S d = none := noneS hk fun j hj => by
      by_cases e : j = i
      · subst e; rw [h2] at hj; cases hj
      · exact htr.dsts hc hj h2 e rfl
    have hperm : (Box.b w.heap.size T rs :: (B ++ (bs ++ []))).Perm (B ++ (bs ++ [Box.b w.heap.size T rs])) := by
      rw [List.append_nil]
      refine (List.perm_middle (l₁ := []) (l₂ := B ++ bs)).trans ?_
      rw [List.nil_append, ← List.append_assoc]
      exact (List.perm_append_singleton _ _).symm
    have hdf : defs (B ++ (bs ++ [Box.b w.heap.size T rs])) = defs (Box.b w.heap.size T rs :: (B ++ (bs ++ []))) := by
      rw [defs_cons rfl, defs_app, defs_app, defs_app, defs_app]
      rfl
    have hok2 := hok'.perm hperm hdf
    refine ⟨hsz, hlim', hdn', p, S, (d, val (.pointer (some ⟨w.heap.size, 0, none⟩))) :: D, B, [.b w.heap.size T rs], hp' (lk4 i d T rs h2), hJ, hok2.facts' fun t R' ht => hok2.facts t R' ?_, hk, fun j d' hj hf => ?_, fun j d' R' hj hf => ?_, fun t R' ht hno => ?_, fun j d' T' rs' hj hf => ?_, fun hall => absurd ((Ld.set hil).2 (.inl rfl)) (hall i d T rs h2), hpl⟩
    · rw [look_app] at ht
      simp only [look]
      cases hS : look S t with
      | some R2 =>
        rw [hS] at ht
        have : t ≠ d := fun e => by rw [e, hSd] at hS; cases hS
        rw [if_neg this, look_app, hS]; exact ht
      | none =>
        rw [hS] at ht
        have ht : look ((d, val (.pointer (some ⟨w.heap.size, 0, none⟩))) :: D) t = some R' := ht
        simp only [look] at ht
        split
        · rename_i e; rw [if_pos e] at ht; exact ht
        · rename_i e; rw [if_neg e] at ht; rw [look_app, hS]; exact ht
    · rcases (Ld.set hil).1 hj with rfl | hj
      · rw [h2] at hf; cases hf
      · exact hkd j d' hj hf
    · simp only [look]
      rcases (Ld.set hil).1 hj with rfl | hj
      · rw [h2] at hf; cases hf
      · rw [if_neg (hne j d' _ hj hf)]; exact hq j d' R' hj hf
    · simp only [look]
      rw [if_neg (fun e => hno i d _ h2 e.symm)]
      exact hs t R' ht hno
    · rcases (Ld.set hil).1 hj with rfl | hj
      · rw [h2] at hf; cases hf; exact ⟨_, rfl, by simp [look]⟩
      · obtain ⟨b, g1, g2⟩ := hm j d' T' rs' hj hf
        cases g1
  | @ld d op ty pos af =>
    rw [if_pos (by simp [Region.wanted])]
    refine .inl ?_
    obtain ⟨q, hqi⟩ := List.getElem?_of_mem (lk2 i d h2)
    have hpq : p = q := by
      have c1 : ¬ q < p := fun h => hnl ((hp q i hqi).2 h)
      by_cases q0 : q = 0
      · omega
      · have hedge := (lk1 q i hqi).2 (by omega)
        have hql := (List.getElem?_eq_some_iff.1 hqi).1
        have hprev : is[q - 1]? = some (is.getD (q - 1) 0) := by
          rw [List.getD_eq_getElem?_getD, List.getElem?_eq_getElem (by omega)]; rfl
        have := (hp (q - 1) _ hprev).1 (edgeAt_dep hio hedge hdep)
        omega
    subst hpq
    obtain ⟨d2, op2, ty2, pos2, af2, need, g1, g2, g3⟩ := hL.at p i hqi
    rw [hio] at g1; cases g1
    rw [Nat.zero_add] at g3
    have hneed : ∀ t R, look need t = some R → look S t = none ∧ look D t = some R := fun t R ht => by
      obtain ⟨j, f1, f2⟩ := g2.look t R ht
      have hl := edgeAt_dep hio f2 hdep
      refine ⟨noneS hk fun j' hj' => ?_, hq j t R hl f1⟩
      by_cases e : j = j'
      · subst e; rw [f1] at hj'; cases hj'
      · exact htr.dsts hc f1 hj' e rfl
    have hokn : Ok w0 M0 n (B ++ (bs ++ Bm)) (need ++ (S ++ D)) a w := hok.facts' fun t R ht => by
      rw [look_app] at ht
      cases hn : look need t with
      | some R2 =>
        rw [hn] at ht
        cases ht
        obtain ⟨e1, e2⟩ := hneed t _ hn
        exact hok.facts t _ (by rw [look_S e1]; exact e2)
      | none =>
        rw [hn] at ht
        exact hok.facts t R ht
    refine Oper.wp_mono (fun a' w' h => ?_) (wl_one (ops := ops) rfl (g3 S D B Bm hJ a w hokn))
    obtain ⟨R, B', hJ', hok'⟩ := h
    refine hK _ _ ⟨hsz, hlim', hdn', p + 1, (d, R) :: S, D, B', Bm, fun q' i' hq' => ?_, hJ', hok'.facts' fun t R' ht => hok'.facts t R' ?_, fun t R' ht => ?_, fun j d' hj hf => ?_, fun j d' R' hj hf => ?_, hs, fun j d' T rs hj hf => ?_, fun hall => hm0 fun j d' T rs hf hl => hall j d' T rs hf ((Ld.set hil).2 (.inr hl)), ?_⟩
    · rw [Ld.set hil, hp q' i' hq']
      constructor
      · rintro (e | h)
        · subst e
          have := (List.getElem?_eq_some_iff.1 hq').1
          have := (List.getElem?_eq_some_iff.1 hqi).1
          have : q' = p := (List.getElem?_inj (i := q') (j := p) (by assumption) lk6).1 (by rw [hq', hqi])
          omega
        · omega
      · intro hlt
        by_cases e : q' = p
        · subst e; rw [hqi] at hq'; cases hq'; exact .inl rfl
        · exact .inr (by omega)
    · simp only [List.cons_append, look] at ht ⊢
      split at ht
      · rename_i e; rw [if_pos e]; exact ht
      · rename_i e
        rw [if_neg e, look_app]
        cases hn : look need t with
        | some R2 =>
          obtain ⟨e1, e2⟩ := hneed t _ hn
          rw [look_S e1, e2] at ht
          exact ht
        | none => exact ht
    · simp only [look] at ht
      split at ht
      · rename_i e; subst e; exact ⟨i, h2⟩
      · exact hk t R' ht
    · simp only [look]
      rcases (Ld.set hil).1 hj with rfl | hj
      · rw [h2] at hf; cases hf; rw [if_pos rfl]; exact ⟨R, rfl⟩
      · split
        · exact ⟨R, rfl⟩
        · exact hkd j d' hj hf
    · rcases (Ld.set hil).1 hj with rfl | hj
      · rw [h2] at hf; cases hf
      · exact hq j d' R' hj hf
    · rcases (Ld.set hil).1 hj with rfl | hj
      · rw [h2] at hf; cases hf
      · exact hm j d' T rs hj hf
    · have := (List.getElem?_eq_some_iff.1 hqi).1; omega
def qst (E : RE) (b : Nat) : St := E.filterMap fun x => match x.2 with | .f _ R => some (x.1, R) | .b _ _ => some (x.1, val (.pointer (some ⟨b, 0, none⟩))) | _ => none
def qbx (E : RE) (b : Nat) : List Box := E.filterMap fun x => match x.2 with | .b T rs => some (.b b T rs) | _ => none
theorem fct_of_mem {x : Nat × FK} (h : x ∈ E) : ∃ j, fct E j = some x := by
  obtain ⟨k, hk⟩ := List.getElem?_of_mem h
  have hl := (List.getElem?_eq_some_iff.1 hk).1
  refine ⟨E.length - 1 - k, ?_⟩
  unfold fct
  rw [if_pos (by omega), show E.length - 1 - (E.length - 1 - k) = k from by omega, hk]
theorem qst_look {b t : Nat} {R : Rp} (h : look (qst E b) t = some R) : ∃ j, (∃ e, fct E j = some (t, .f e R)) ∨ (∃ T rs, fct E j = some (t, .b T rs) ∧ R = val (.pointer (some ⟨b, 0, none⟩))) := by
  have hmem : ∀ (s : St), look s t = some R → (t, R) ∈ s := by
    intro s
    induction s with
    | nil => intro h; simp [look] at h
    | cons x s ih =>
      intro h
      obtain ⟨u, r⟩ := x
      simp only [look] at h
      split at h
      · rename_i e; subst e; cases h; exact List.mem_cons_self
      · exact List.mem_cons_of_mem _ (ih h)
  obtain ⟨x, hx, he⟩ := List.mem_filterMap.1 (hmem _ h)
  obtain ⟨j, hj⟩ := fct_of_mem hx
  obtain ⟨u, F⟩ := x
  refine ⟨j, ?_⟩
  cases F with
  | f e R' => simp only [Option.some.injEq, Prod.mk.injEq] at he; obtain ⟨rfl, rfl⟩ := he; exact .inl ⟨e, hj⟩
  | b T rs => simp only [Option.some.injEq, Prod.mk.injEq] at he; obtain ⟨rfl, rfl⟩ := he; exact .inr ⟨T, rs, hj, rfl⟩
  | n _ _ _ _ => simp at he
  | s _ => simp at he
  | o _ _ _ _ => simp at he
theorem qbx_one : ∀ {E : RE} {d : Nat} {T : TypeId} {rs : List Rp} (b : Nat), (d, FK.b T rs) ∈ E → (E.filter fun x => match x.2 with | .b _ _ => true | _ => false).length ≤ 1 → qbx E b = [.b b T rs]
  | [], d, T, rs, b, h, _ => by cases h
  | (u, F) :: E, d, T, rs, b, h, h1 => by
    have hnone : (E.filter fun x => match x.2 with | .b _ _ => true | _ => false) = [] → qbx E b = [] := fun h => by
      unfold qbx
      rw [List.filterMap_eq_nil_iff]
      intro x hx
      obtain ⟨y, G⟩ := x
      cases G <;> first | rfl | skip
      have := List.filter_eq_nil_iff.1 h _ hx
      simp at this
    rcases List.mem_cons.1 h with e | h'
    · cases e
      rw [List.filter_cons_of_pos rfl, List.length_cons] at h1
      have := hnone (List.eq_nil_of_length_eq_zero (by omega))
      unfold qbx at this ⊢
      rw [List.filterMap_cons, this]
    · cases F with
      | b T' rs' =>
        rw [List.filter_cons_of_pos rfl, List.length_cons] at h1
        have hx : (d, FK.b T rs) ∈ E.filter fun x => match x.2 with | .b _ _ => true | _ => false := List.mem_filter.2 ⟨h', rfl⟩
        have := List.length_pos_of_mem hx
        omega
      | f e R => rw [List.filter_cons_of_neg (by simp)] at h1; have := qbx_one b h' h1; unfold qbx at this ⊢; rw [List.filterMap_cons]; exact this
      | n _ _ _ _ => rw [List.filter_cons_of_neg (by simp)] at h1; have := qbx_one b h' h1; unfold qbx at this ⊢; rw [List.filterMap_cons]; exact this
      | s _ => rw [List.filter_cons_of_neg (by simp)] at h1; have := qbx_one b h' h1; unfold qbx at this ⊢; rw [List.filterMap_cons]; exact this
      | o _ _ _ _ => rw [List.filter_cons_of_neg (by simp)] at h1; have := qbx_one b h' h1; unfold qbx at this ⊢; rw [List.filterMap_cons]; exact this
theorem Inv2.fin (htr : Trl2 P bs st ops E) (hc : rgChk ops (kindE E) n = true) {J : ChainJ} {is : List Nat} (hlk : lkChk ops E is = true) {l : Array Bool} {a : Act} {w : World} (h : Inv2 w0 M0 n bs st ops E J is l a w) (hall : ∀ j, j < E.length → Ld l j) : ∃ S B b, J is.length S B ∧ Ok w0 M0 n (B ++ (bs ++ qbx E b)) (S ++ (qst E b ++ st)) a w := by
  obtain ⟨p, S, D, B, Bm, hp, hJ, hok, hk, hkd, hq, hs, hm, hm0, hpl⟩ := h.ok
  obtain ⟨lk1, lk2, lk3, lk4, lk5, lk6⟩ := lk_at hlk
  have hpe : p = is.length := by
    by_cases e : p < is.length
    · have h1 : is[p]? = some is[p] := List.getElem?_eq_getElem e
      have := (hp p _ h1).1 (hall _ (lk1 p _ h1).1)
      omega
    · omega
  subst hpe
  have hbm : ∃ b, Bm = qbx E b ∧ ∀ j d T rs, fct E j = some (d, .b T rs) → look D d = some (val (.pointer (some ⟨b, 0, none⟩))) := by
    by_cases hex : ∃ j d T rs, fct E j = some (d, .b T rs)
    · obtain ⟨j, d, T, rs, hj⟩ := hex
      obtain ⟨b, g1, g2⟩ := hm j d T rs (hall j (fct_lt hj)) hj
      have hmem : (d, FK.b T rs) ∈ E := by
        unfold fct at hj
        split at hj
        · exact List.mem_of_getElem? hj
        · cases hj
      refine ⟨b, by rw [qbx_one b hmem lk5, g1], fun j' d' T' rs' hj' => ?_⟩
      obtain ⟨b', g3, g4⟩ := hm j' d' T' rs' (hall j' (fct_lt hj')) hj'
      rw [g1] at g3
      simp only [List.cons.injEq, Box.b.injEq, and_true] at g3
      obtain ⟨rfl, _, _⟩ := g3
      exact g4
    · refine ⟨0, ?_, fun j d T rs hj => absurd ⟨j, d, T, rs, hj⟩ hex⟩
      rw [hm0 fun j d T rs hj => absurd ⟨j, d, T, rs, hj⟩ hex]
      unfold qbx
      symm
      rw [List.filterMap_eq_nil_iff]
      intro x hx
      obtain ⟨j, hj⟩ := fct_of_mem hx
      obtain ⟨u, F⟩ := x
      cases F <;> first | rfl | exact absurd ⟨j, u, _, _, hj⟩ hex
  obtain ⟨b, rfl, hb⟩ := hbm
  refine ⟨S, B, b, hJ, hok.facts' fun t R ht => ?_⟩
  rw [look_app] at ht
  cases hS : look S t with
  | some R2 =>
    rw [hS] at ht; cases ht
    exact hok.facts t _ (by rw [look_app, hS]; rfl)
  | none =>
    rw [hS] at ht
    have ht : look (qst E b ++ st) t = some R := ht
    rw [look_app] at ht
    refine hok.facts t R ((look_S hS).trans ?_)
    cases hQ : look (qst E b) t with
    | some R2 =>
      rw [hQ] at ht; cases ht
      rcases qst_look hQ with ⟨j, ⟨e, hj⟩ | ⟨T, rs, hj, rfl⟩⟩
      · obtain ⟨o', d', F', h1, h2, h3⟩ := htr.at j (fct_lt hj)
        rw [hj] at h2; cases h2
        cases h3
        exact hq j t _ (hall j (fct_lt hj)) hj
      · exact hb j t T rs hj
    | none =>
      rw [hQ] at ht
      refine hs t R ht fun j d F hj e => ?_
      subst e
      obtain ⟨o', d', F', h1, h2, h3⟩ := htr.at j (fct_lt hj)
      rw [hj] at h2; cases h2
      have hin : ∀ {r : Rp} {G : FK}, fct E j = some (d, G) → (match G with | .f _ R => some (d, R) | .b _ _ => some (d, val (.pointer (some ⟨b, 0, none⟩))) | _ => none) = some (d, r) → look (qst E b) d ≠ none := fun {r G} hG hr hno => by
        have hmem : (d, G) ∈ E := by
          unfold fct at hG
          split at hG
          · exact List.mem_of_getElem? hG
          · cases hG
        have : (d, r) ∈ qst E b := List.mem_filterMap.2 ⟨(d, G), hmem, hr⟩
        have : ∀ (s : St), (d, r) ∈ s → look s d ≠ none := by
          intro s
          induction s with
          | nil => intro h; cases h
          | cons x s ih =>
            intro h
            obtain ⟨u, r'⟩ := x
            simp only [look]
            split
            · simp
            · rename_i e
              rcases List.mem_cons.1 h with h | h
              · cases h; exact absurd rfl e
              · exact ih h
        exact this _ (by assumption) hno
      cases h3 with
      | q _ => exact hin hj rfl hQ
      | mk _ => exact hin hj rfl hQ
      | ld => obtain ⟨R', hR'⟩ := hkd j d (hall j (fct_lt hj)) hj; rw [hS] at hR'; cases hR'
theorem wpAny_ch (htr : Trl2 P bs st ops E) (hc : rgChk ops (kindE E) n = true) {J : ChainJ} {is : List Nat} (hlk : lkChk ops E is = true) (hL : Links P w0 M0 n bs ops E J 0 is) (hEl : E.length ≤ ops.size)
    (hfin : ∀ S B b, J is.length S B → WL P w0 M0 n (B ++ (bs ++ qbx E b)) (S ++ (qst E b ++ st)) ops (ops.toList.drop E.length) Q) : ∀ (k : Nat) (l : Array Bool) (a : Act) (w : World), l.toList.count true + k = ops.size → Inv2 w0 M0 n bs st ops E J is l a w → wpAny P .any ops Q k l a w := by
  intro k
  induction k with
  | zero =>
    intro l a w hcnt h
    have hall : ∀ j, j < ops.size → Ld l j := fun j hj => by
      have h1 : l.toList.count true = l.toList.length := by rw [Array.length_toList, h.lsize]; omega
      have h2 := List.count_eq_length.1 h1
      have h3 : true = l[j]'(by rw [h.lsize]; exact hj) := h2 _ (by simp)
      unfold Ld
      rw [Array.getD_eq_getD_getElem?, Array.getElem?_eq_getElem (by rw [h.lsize]; exact hj)]
      simp [← h3]
    have hEs : E.length = ops.size := by
      rcases Nat.lt_or_ge E.length ops.size with hlt | hge
      · exact absurd (h.lim E.length (hall _ hlt)) (by omega)
      · omega
    obtain ⟨S, B, b, hJ, hok⟩ := h.fin htr hc hlk (fun j hj => hall j (by omega))
    exact wpAny_tail (m := E.length) rfl hc 0 E.length l a w (Nat.le_refl _) (by omega) h.lsize (fun j hj => ⟨fun _ => by omega, fun _ => hall j hj⟩) (hfin S B b hJ a w hok)
  | succ k ih =>
    intro l a w hcnt h
    by_cases hall : ∀ j, j < E.length → Ld l j
    · obtain ⟨S, B, b, hJ, hok⟩ := h.fin htr hc hlk hall
      have hiff : ∀ j, j < ops.size → (Ld l j ↔ j < E.length) := fun j hj => ⟨h.lim j, hall j⟩
      have hcount : l.toList.count true = E.length := by
        have : ∀ (m : Nat) (xs : List Bool), (∀ j, j < xs.length → (xs[j]? = some true ↔ j < m)) → m ≤ xs.length → xs.count true = m := by
          intro m xs
          induction xs generalizing m with
          | nil => intro _ hm; simp at hm; simp [hm]
          | cons x xs ih2 =>
            intro h1 hm
            cases m with
            | zero =>
              have h0 := h1 0 (by simp)
              have hx : x = false := by
                cases x
                · rfl
                · have := h0.1 (by simp); omega
              subst hx
              rw [List.count_cons, ih2 0 (fun j hj => by have := h1 (j + 1) (by simp; omega); simpa using this) (Nat.zero_le _)]
              simp
            | succ m =>
              have h0 := (h1 0 (by simp)).2 (by omega)
              simp at h0
              subst h0
              rw [List.count_cons, ih2 m (fun j hj => by have := h1 (j + 1) (by simp; omega); simpa using this) (by simp at hm; omega)]
              simp
        refine this E.length l.toList (fun j hj => ?_) (by have e : l.toList.length = l.size := Array.length_toList; rw [e, h.lsize]; exact hEl)
        have hj' : j < l.size := by simpa using hj
        have := hiff j (by rw [← h.lsize]; exact hj')
        rw [← this]
        unfold Ld
        rw [Array.getD_eq_getD_getElem?, Array.getElem?_toList]
        rw [Array.getElem?_eq_getElem hj']
        simp
      exact wpAny_tail (m := E.length) rfl hc (k + 1) E.length l a w (Nat.le_refl _) (by omega) h.lsize hiff (hfin S B b hJ a w hok)
    · have hex : ∃ i, i < E.length ∧ ¬ Ld l i ∧ ∀ j, j < i → Ld l j := by
        have hx : ∃ i, i < E.length ∧ ¬ Ld l i := by
          apply Classical.byContradiction
          intro hn
          exact hall fun j hj => Classical.byContradiction fun hl => hn ⟨j, hj, hl⟩
        obtain ⟨m, ⟨h1, h2⟩, h3⟩ := ex_min (p := fun i => i < E.length ∧ ¬ Ld l i) hx
        exact ⟨m, h1, h2, fun j hj => Classical.byContradiction fun hl => by have := h3 j ⟨by omega, hl⟩; omega⟩
      obtain ⟨i, hi, hni, hlow⟩ := hex
      have his : i < ops.size := by omega
      have hio : ops[i]? = some ops[i] := Array.getElem?_eq_getElem his
      have notl : ∀ j, j < ops.size → (l.getD j true = false ↔ ¬ Ld l j) := fun j hj => by
        unfold Ld
        rw [Array.getD_eq_getD_getElem?, Array.getD_eq_getD_getElem?, Array.getElem?_eq_getElem (by rw [h.lsize]; exact hj)]
        simp
      refine ⟨fun hr => ?_, fun j hj => ?_⟩
      · have : i ∈ Region.ready .any ops l := mem_ready.2 ⟨(notl i his).2 hni, _, hio, fun e he hb => hlow _ ((chk_at hc hio).1 e he hb)⟩
        rw [hr] at this; cases this
      · obtain ⟨h0, o, ho, hdep⟩ := mem_ready.1 hj
        have hjs := (Array.getElem?_eq_some_iff.1 ho).1
        have hnj := (notl j hjs).1 h0
        have hjE : j < E.length := by
          rcases Nat.lt_or_ge j E.length with hlt | hge
          · exact hlt
          · rcases Nat.lt_or_ge E.length j with hgt | hle
            · obtain ⟨e, h1, h2, h3⟩ := edge_mem ((chk_at hc ho).2.2.2.2.2.1 hgt)
              have := h.lim _ (hdep e h1 h2)
              rw [h3] at this
              omega
            · have hje : E.length = j := by omega
              subst hje
              refine absurd (reach_all (D := Ld l) (fun i' he => ?_) (fun k' i' hk' he => ?_) _ _ (fun _ hk => by cases hk) i ((chk_at hc ho).2.2.2.2.2.2 rfl i hi)) hni
              · exact edgeAt_dep ho he hdep
              · unfold edgeAt at he
                cases hok' : ops[k']? with
                | none => rw [hok'] at he; cases he
                | some o' =>
                  rw [hok'] at he
                  obtain ⟨e, h1, h2, h3⟩ := edge_mem he
                  exact h3 ▸ h.dn k' o' e hk' hok' h1 h2
        exact h.step htr hc hlk hL ho hjE hnj hdep fun a' w' h' => ih _ a' w' (by rw [count_set (by rw [h.lsize]; exact hjs) hnj]; omega) h'
def LG (P : Program) (w0 : World) (M0 : Mask) (n : Nat) (bs : List Box) (st : St) (id : Nat) (l : List Oper) (Q : Exit → Act → World → Prop) (E : RE) (rest : List Oper) : Prop :=
  Trl2 P bs st l.toArray E → l.drop E.length = rest → WP P w0 M0 n bs st (.region id l.toArray true) Q
theorem WP.drawsC {id : Nat} {l : List Oper} (h : LG P w0 M0 n bs st id l Q [] l) : WP P w0 M0 n bs st (.region id l.toArray true) Q := h .nil rfl
theorem LG.op {id : Nat} {l rest : List Oper} {d : Nat} {op : Op} {ty : TypeId} {pos : String} {af : Array Edge} {R : Rp} (h : OpG P bs (lookE E st) op ty R) (k : LG P w0 M0 n bs st id l Q ((d, .f false R) :: E) rest) :
    LG P w0 M0 n bs st id l Q E (⟨some d, op, ty, pos, af, none⟩ :: rest) := fun htr hr => k (.q htr (RG.head hr).1 h) (RG.head hr).2
theorem LG.bx {id : Nat} {l rest : List Oper} {d : Nat} {op : Op} {ty T : TypeId} {pos : String} {af : Array Edge} {rs : List Rp} (h : OpB P bs (lookE E st) op ty T rs) (k : LG P w0 M0 n bs st id l Q ((d, .b T rs) :: E) rest) :
    LG P w0 M0 n bs st id l Q E (⟨some d, op, ty, pos, af, none⟩ :: rest) := fun htr hr => k (.mk htr (RG.head hr).1 h) (RG.head hr).2
theorem LG.ld {id : Nat} {l rest : List Oper} {d : Nat} {op : Op} {ty : TypeId} {pos : String} {af : Array Edge} (k : LG P w0 M0 n bs st id l Q ((d, LD) :: E) rest) :
    LG P w0 M0 n bs st id l Q E (⟨some d, op, ty, pos, af, none⟩ :: rest) := fun htr hr => k (.ld htr (RG.head hr).1) (RG.head hr).2
theorem LG.fin {id : Nat} {l rest : List Oper} (J : ChainJ) (is : List Nat) (hm : P.follows .mixedOrders = true) (hc : rgChk l.toArray (kindE E) n = true) (hlk : lkChk l.toArray E is = true) (h0 : J 0 [] []) (hL : Links P w0 M0 n bs l.toArray E J 0 is)
    (hfin : ∀ S B b, J is.length S B → WL P w0 M0 n (B ++ (bs ++ qbx E b)) (S ++ (qst E b ++ st)) l.toArray rest Q) : LG P w0 M0 n bs st id l Q E rest := fun htr hr a w hok => by
  have hEl : E.length ≤ l.toArray.size := by
    cases htr with
    | nil => simp
    | q _ ho _ => have := (Array.getElem?_eq_some_iff.1 ho).1; simp at this ⊢; omega
    | mk _ ho _ => have := (Array.getElem?_eq_some_iff.1 ho).1; simp at this ⊢; omega
    | ld _ ho => have := (Array.getElem?_eq_some_iff.1 ho).1; simp at this ⊢; omega
  subst hr
  refine wp_region_any hm (wpAny_ch htr hc hlk hL hEl (by simpa using hfin) _ _ _ _ (by rw [Array.toList_replicate, List.count_replicate]; simp) ?_)
  have hb : Below w.heap.size w { w with drawn := w.drawn + 1 } := ⟨rfl, rfl, rfl, Nat.le_refl _, fun _ _ => rfl⟩
  have hkp := Kp.of_below (mkM M0 bs) hb
  have hno : ∀ j, ¬ Ld (Array.replicate l.toArray.size false) j := fun j hj => by
    unfold Ld at hj
    rw [Array.getD_eq_getD_getElem?, Array.getElem?_replicate] at hj
    split at hj <;> simp at hj
  refine ⟨by simp, fun j hj => absurd hj (hno j), fun j _ _ hj => absurd hj (hno j), 0, [], st, [], [], fun q i _ => ⟨fun h => absurd h (hno i), fun h => absurd h (Nat.not_lt_zero q)⟩, h0, ?_, fun t R h => by simp [look] at h, fun j _ hj => absurd hj (hno j), fun j _ _ hj => absurd hj (hno j), fun t R h _ => h, fun j _ _ _ hj => absurd hj (hno j), fun _ => rfl, Nat.zero_le _⟩
  rw [List.nil_append, List.append_nil, List.nil_append]
  exact ⟨hok.defers, hok.size, fun t R ht => R.keep (hok.facts t R ht) hkp, fun x hx => (hok.boxes x hx).below hb, hok.nodup, hok.fresh, hok.below.trans (hb.mono hok.below.size), hok.msk, hok.m0⟩
end
end Go.Fw

/- Strings, structs with strings, the rest of a slice. No program in sight. -/
namespace Go.Fw
open Go.RowKit Go.Proofs
set_option linter.unusedVariables false
set_option linter.unusedSimpArgs false
section
variable {P : Program} {bs : List Box} {lk : Nat → Option Rp} {ty T T' : TypeId} {x y : Operand} {s a b : ByteArray}
theorem bless (a b : ByteArray) : Op.bytesLess a.toList b.toList = decide (a.data.toList < b.data.toList) := by rw [bytesLess_eq, ByteArray.toList_eq, ByteArray.toList_eq]
theorem sgeq (hx : OF lk x (val (.string a))) (hy : OF lk y (val (.string b))) : OpG P bs lk (.binOp .geq T x y T') ty (val (.bool (!decide (a.data.toList < b.data.toList)))) := opr fun σ w M hf => by
  have h1 : ev σ x = _ := hx σ w M (hf x (by simp [Op.operands, Call.operands])); have h2 : ev σ y = _ := hy σ w M (hf y (by simp [Op.operands, Call.operands]))
  simp [execOp, h1, h2, eqGuard, binOp_string_geq, bless]
theorem cvbs {e : TypeId} {l : List UInt8} (hs : P.underlying T = some (.slice e)) (he : P.underlying e = some (.int .u8)) (hd : P.underlying T' = some .string) (hne : l ≠ []) (hx : OF lk x (sl 1 FU l)) : OpG P bs lk (.convert T T' x) ty (val (.string ⟨l.toArray⟩)) := opr fun σ w M hf => by
  obtain ⟨A, c, h1, h2, h3⟩ := hx σ w M (hf x (by simp [Op.operands, Call.operands]))
  rcases h3 with rfl | ⟨b, o, rfl, g1, g2, g3⟩
  · exact absurd rfl hne
  have hr := run_convert_bytes_back (P := P) w T T' e ⟨b, o, none⟩ c l hs he hd fun j hj => by
    obtain ⟨⟨v, q1, q2, q3⟩, _⟩ := g3 j l[j] (List.getElem?_eq_getElem hj)
    have q3 : v = .int .u8 ((l[j]).toNat : Int) := q3
    subst q3
    rw [Nat.mul_one] at q1
    rw [add_at]; exact q1
  simp [execOp, h1, hr]
inductive Pk where
  | i (n : Int)
  | s (b : ByteArray)
deriving DecidableEq
def Pk.v : Pk → Value
  | .i n => .int .i64 n
  | .s b => .string b
def pkField (P : Program) (f : Field) (k : Bool) : Bool := P.plainKey f.type && (match P.underlying f.type with | some (.int .i64) => !k | some .string => k | _ => false)
def Pk.isS : Pk → Bool
  | .i _ => false
  | .s _ => true
def pkFields (P : Program) (T : TypeId) (ks : List Bool) : Bool := match P.underlying T with
  | some (.struct fs) => decide (fs.size = ks.length) && !P.stoodInHeld T && !P.eqGuardType P.depth T && fs.toList.zipIdx.all fun (f, i) => f.name != "_" && f.offset == i && pkField P f (ks.getD i false)
  | _ => false
theorem slt {α : Type} {sz : Nat} {f : α → List Rp} {xs : List α} {kd : IntKind} {m : Int} (hT : P.underlying T = some (.slice (P.elem T))) (hs : elemSz P T = some sz) (hx : OF lk x (sl sz f xs)) (hy : OF lk y (val (.int kd m))) (h0 : 0 ≤ m) (h1 : m ≤ xs.length) :
    OpG P bs lk (.slice T x (some y) none none) ty (sl sz f (xs.drop m.toNat)) := OpG.pure fun σ w M hf _ => by
  obtain ⟨A, c, e1, e2, e3⟩ := hx σ w M (hf x (by simp [Op.operands]))
  have e4 : ev σ y = _ := hy σ w M (hf y (by simp [Op.operands]))
  have hsz : ∃ i, P.info? (P.elem T) = some i ∧ i.size = sz := by
    unfold elemSz at hs
    rw [hT] at hs
    dsimp only at hs
    cases hi : P.info? (P.elem T) with
    | none => rw [hi] at hs; simp at hs
    | some i => rw [hi] at hs; exact ⟨i, rfl, by simpa using hs⟩
  obtain ⟨ti, hti, htz⟩ := hsz
  refine ⟨sliced A m.toNat xs.length c ti.size, ?_, ?_⟩
  · have hr : (Instr.sliceAt T (.slice A xs.length c) (some (.int kd m)) none none).run P w = .ok (sliced A m.toNat xs.length c ti.size) w := by
      rw [run_sliceAt_slice w T _ _ _ _ hT, run_slice_l w T A xs.length c hT kd m h0 h1]
      simp [sizeOf, typeInfo, hti]
    simp [execOp, e1, e4, hr]
  · have hl : (xs.drop m.toNat).length = xs.length - m.toNat := List.length_drop ..
    by_cases q : xs.drop m.toNat = []
    · refine ⟨if c = m.toNat then A else A.map (·.add (m.toNat * ti.size)), c - m.toNat, ?_, by rw [hl]; omega, .inl q⟩
      simp only [sliced, hl]
    · have hlt : m.toNat < xs.length := by
        have := List.length_pos_iff.2 q
        omega
      rcases e3 with rfl | ⟨b, o, rfl, g1, g2, g3⟩
      · simp at hlt
      · refine ⟨some ⟨b, o + m.toNat * sz, none⟩, c - m.toNat, ?_, by rw [hl]; omega, .inr ⟨b, o + m.toNat * sz, rfl, g1, g2, fun i z hz => ?_⟩⟩
        · simp only [sliced, hl]
          rw [if_neg (by omega), htz]
          simp [add_at]
        · rw [List.getElem?_drop] at hz
          have := g3 _ z hz
          rwa [show o + (m.toNat + i) * sz = o + m.toNat * sz + i * sz from by rw [Nat.add_mul]; omega] at this
theorem All2.setR {w : World} {M : Mask} {R : Rp} : ∀ {rs : List Rp} {cs : List Value} {j : Nat}, All2 w M rs cs → (∀ v, cs[j]? = some v → R.h v w M) → All2 w M (rs.set j R) cs
  | [], [], _, _, _ => trivial
  | r :: rs, c :: cs, 0, h, hR => ⟨⟨hR c rfl, h.1.2⟩, h.2⟩
  | r :: rs, c :: cs, j + 1, h, hR => ⟨h.1, All2.setR (j := j) h.2 fun v hv => hR v (by simpa using hv)⟩
end
section
variable {P : Program} {w0 : World} {M0 : Mask} {n : Nat} {bs : List Box} {st : St} {Q : Exit → Act → World → Prop} {c : Code} {g : Nat} {T : TypeId} {rs : List Rp}
theorem WP.freezeC {α : Type} (i k j : Nat) {v : Value} {e : TypeId} {sz m : Nat} (f : α → List Rp) (xs : List α) {rs' : List Rp} (hi : bs[i]? = some (.r v e sz m rs)) (hk : bs[k]? = some (.b g T rs')) (hj : rs'[j]? = some (val v)) (hik : i ≠ k) (hf : ∀ x, (f x).length = sz) (hm : m = xs.length) (hrs : rs = xs.flatMap f)
    (h : WP P w0 M0 n ((bs.set i (.r nilS e sz 0 [])).set k (.b g T (rs'.set j (sl sz f xs)))) st c Q) : WP P w0 M0 n bs st c Q := fun a w hok => by
  have h1 : Ok w0 M0 n (bs.set i (.r nilS e sz 0 [])) st a w := hok.change hi (fun _ _ _ => rfl) (Nat.le_refl _) rfl rfl rfl (fun g hg => (by cases hg)) (fun g hg => (by cases hg)) fun M _ => ⟨[], ⟨by simp, .inl ⟨rfl, rfl⟩⟩, trivial⟩
  have hk1 : (bs.set i (.r nilS e sz 0 []))[k]? = some (.b g T rs') := by rw [List.getElem?_set, if_neg hik]; exact hk
  obtain ⟨cs, h2, h3⟩ := hok.boxes _ (List.mem_of_getElem? hi)
  subst hm; subst hrs
  have hle : ∀ b, mkM M0 (bs.set i (.r nilS e sz 0 [])) b → mkM M0 bs b := fun b hb => by
    rcases hb with hb | hb
    · exact .inl hb
    · rcases mem_blks_set hb with h4 | ⟨j, z, _, h4, h5⟩
      · cases h4
      · exact .inr (mem_blks (List.mem_of_getElem? h4) h5)
  have hv : (sl sz f xs).h v w (mkM M0 (bs.set i (.r nilS e sz 0 []))) := by
    refine sl_of_own hf h2 (h3.keep (Kp.less w hle)) fun g hg hm => ?_
    rcases hm with hm | hm
    · exact hok.m0 g (mem_blks (List.mem_of_getElem? hi) hg) hm
    · rcases mem_blks_set hm with h4 | ⟨j, z, hj, h4, h5⟩
      · cases h4
      · exact hj (blks_uniq hok.nodup h4 hi h5 hg)
  refine h a w (h1.recast hk1 fun cs' _ h5 => h5.setR fun u hu => ?_)
  obtain ⟨u', q1, q2, _⟩ := h5.get j _ hj
  rw [hu] at q1
  cases q1
  have q2 : u = v := q2
  subst q2
  exact hv
theorem WP.perm {bs' : List Box} (hp : bs.Perm bs') (hd : defs bs' = defs bs) (h : WP P w0 M0 n bs' st c Q) : WP P w0 M0 n bs st c Q := fun a w hok => h a w (hok.perm hp hd)
end
end Go.Fw

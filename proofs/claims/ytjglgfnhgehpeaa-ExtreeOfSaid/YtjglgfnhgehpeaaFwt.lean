/- Slices of the call's own: appended to, read, written, handed on. No program in sight. -/
import Derived.Test.YtjglgfnhgehpeaaFws
import Derived.Maps.AppendAt
namespace Go.Fw
open Go.RowKit Go.Proofs
set_option linter.unusedVariables false
set_option linter.unusedSimpArgs false
abbrev nilS : Value := .slice none 0 0
section
variable {P : Program} {w0 : World} {M0 : Mask} {n : Nat} {bs : List Box} {st : St} {ops : Array Oper} {l : List Oper} {Q : Exit → Act → World → Prop} {c : Code}

theorem Ok.nilrow {a : Act} {w : World} (h : Ok w0 M0 n bs st a w) (e : TypeId) (sz : Nat) : Ok w0 M0 n (.r nilS e sz 0 [] :: bs) st a w :=
  ⟨h.defers.trans (defs_cons rfl bs).symm, h.size, h.facts, fun x hx => by
    rcases List.mem_cons.1 hx with rfl | hx
    · exact ⟨[], ⟨by simp, .inl ⟨rfl, rfl⟩⟩, trivial⟩
    · exact h.boxes x hx, h.nodup, h.fresh, h.below, h.msk, h.m0⟩
theorem WP.nilrow (e : TypeId) (sz : Nat) (h : WP P w0 M0 n (.r nilS e sz 0 [] :: bs) st c Q) : WP P w0 M0 n bs st c Q := fun a w hok => h a w (hok.nilrow e sz)
theorem WL.nilrow (e : TypeId) (sz : Nat) (h : WL P w0 M0 n (.r nilS e sz 0 [] :: bs) st ops l Q) : WL P w0 M0 n bs st ops l Q := fun a w hok => h a w (hok.nilrow e sz)

/-- a row's cells are known by its elements -/
theorem OpG.weak {lk : Nat → Option Rp} {op : Op} {ty : TypeId} {R R' : Rp} (h : OpG P bs lk op ty R) (k : ∀ v w M, R.h v w M → R'.h v w M) : OpG P bs lk op ty R' := fun σ w M hm hf hb => (h σ w M hm hf hb).mono fun v w' ⟨h1, h2⟩ => ⟨k _ _ _ h1, h2⟩
theorem sl_nil {α : Type} {sz : Nat} {f : α → List Rp} : ∀ v w M, (val nilS).h v w M → (sl sz f []).h v w M := fun v w M h => by
  have h : v = nilS := h
  subst h
  exact ⟨none, 0, rfl, Nat.le_refl _, .inl rfl⟩
theorem flat_at {α : Type} {sz : Nat} {f : α → List Rp} (hf : ∀ x, (f x).length = sz) : ∀ (xs : List α) (i : Nat) (x : α), xs[i]? = some x → ((xs.flatMap f).drop (i * sz)).take sz = f x
  | [], i, x, h => by simp at h
  | y :: xs, 0, x, h => by simp at h; subst h; simp [List.flatMap_cons, hf y]
  | y :: xs, i + 1, x, h => by
    rw [List.flatMap_cons, show (i + 1) * sz = (f y).length + i * sz from by rw [hf, Nat.succ_mul]; omega, ← List.drop_drop, List.drop_left]
    exact flat_at hf xs i x (by simpa using h)
theorem flat_len {α : Type} {sz : Nat} {f : α → List Rp} (hf : ∀ x, (f x).length = sz) : ∀ xs : List α, (xs.flatMap f).length = xs.length * sz
  | [] => by simp
  | y :: xs => by rw [List.flatMap_cons, List.length_append, hf, flat_len hf xs, List.length_cons, Nat.succ_mul]; omega

/-- an owned row, told by its elements, is a slice that can be read -/
theorem sl_of_own {α : Type} {sz base : Nat} {f : α → List Rp} (hf : ∀ x, (f x).length = sz) {xs : List α} {w : World} {M : Mask} {e : TypeId} {v : Value} {cs : List Value} (h : w.ownsRow base e sz v xs.length cs) (h2 : All2 w M (xs.flatMap f) cs) (hM : ∀ g, v.ownBlock = some g → ¬ M g) : (sl sz f xs).h v w M := by
  obtain ⟨h0, h1⟩ := h
  rcases h1 with ⟨rfl, h1⟩ | ⟨g, cap, cur, rfl, g1, g2, g3, g4, g5, g6⟩
  · have : xs = [] := List.eq_nil_of_length_eq_zero h1
    subst this
    exact ⟨none, 0, rfl, Nat.le_refl _, .inl rfl⟩
  · refine ⟨some ⟨g, 0, none⟩, cap, rfl, g3, .inr ⟨g, 0, rfl, (Array.getElem?_eq_some_iff.1 g2).1, hM g rfl, fun i x hx => ?_⟩⟩
    have hlt := (List.getElem?_eq_some_iff.1 hx).1
    have ha := (h2.drop (i * sz)).take sz
    rw [flat_at hf xs i x hx] at ha
    refine CellsAt.of_all2 ha fun j u hj => ?_
    rw [List.getElem?_take] at hj
    split at hj
    · rename_i hjs
      rw [List.getElem?_drop] at hj
      rw [← g6, List.getElem?_take] at hj
      split at hj
      · simp only [World.cell?, g2, Nat.zero_add]
        simpa using hj
      · cases hj
    · cases hj

/-- what is in a list of blocks when one box is changed -/
theorem mem_blks_set {bs : List Box} {i : Nat} {y : Box} {g : Nat} (h : g ∈ blks (bs.set i y)) : y.blk = some g ∨ ∃ j z, j ≠ i ∧ bs[j]? = some z ∧ z.blk = some g := by
  obtain ⟨z, hz, e⟩ := List.mem_filterMap.1 h
  obtain ⟨j, hj⟩ := List.getElem?_of_mem hz
  rw [List.getElem?_set] at hj
  split at hj
  · split at hj
    · cases hj; exact .inl e
    · cases hj
  · rename_i hne; exact .inr ⟨j, z, Ne.symm hne, hj, e⟩
theorem blks_uniq : ∀ {bs : List Box} {i j : Nat} {x y : Box} {g : Nat}, (blks bs).Nodup → bs[i]? = some x → bs[j]? = some y → x.blk = some g → y.blk = some g → i = j := by
  intro bs
  induction bs with
  | nil => intro i j x y g _ h; simp at h
  | cons z bs ih =>
    intro i j x y g hnd hi hj hx hy
    have hnd' : (blks bs).Nodup := by
      unfold blks at *
      rw [List.filterMap_cons] at hnd
      cases hz : z.blk with
      | none => rw [hz] at hnd; exact hnd
      | some g => rw [hz] at hnd; exact (List.nodup_cons.1 hnd).2
    have hno : ∀ (k : Nat) (u : Box), z.blk = some g → bs[k]? = some u → u.blk = some g → False := fun k u hz hk hu => by
      unfold blks at hnd
      rw [List.filterMap_cons, hz] at hnd
      exact (List.nodup_cons.1 hnd).1 (mem_blks (List.mem_of_getElem? hk) hu)
    cases i with
    | zero => cases j with
      | zero => rfl
      | succ j => simp at hi; subst hi; exact (hno j y hx (by simpa using hj) hy).elim
    | succ i => cases j with
      | zero => simp at hj; subst hj; exact (hno i x hy (by simpa using hi) hx).elim
      | succ j => exact congrArg (· + 1) (ih (x := x) (y := y) (g := g) hnd' (by simpa using hi) (by simpa using hj) hx hy)
theorem nodup_set {bs : List Box} {i : Nat} {x y : Box} (hi : bs[i]? = some x) (hnd : (blks bs).Nodup) (hy : ∀ g, y.blk = some g → x.blk = some g ∨ g ∉ blks bs) : (blks (bs.set i y)).Nodup := by
  induction bs generalizing i with
  | nil => simp at hi
  | cons z bs ih =>
    have hnd' : (blks bs).Nodup := by
      unfold blks at *
      rw [List.filterMap_cons] at hnd
      cases hz : z.blk with
      | none => rw [hz] at hnd; exact hnd
      | some g => rw [hz] at hnd; exact (List.nodup_cons.1 hnd).2
    have hsub : ∀ g, g ∈ blks bs → g ∈ blks (z :: bs) := fun g hg => by
      obtain ⟨u, hu, e⟩ := List.mem_filterMap.1 hg
      exact mem_blks (List.mem_cons_of_mem _ hu) e
    cases i with
    | zero =>
      simp at hi; subst hi
      simp only [List.set_cons_zero]
      unfold blks
      rw [List.filterMap_cons]
      cases hyb : y.blk with
      | none => exact hnd'
      | some g =>
        refine List.nodup_cons.2 ⟨fun hm => ?_, hnd'⟩
        rcases hy g hyb with h | h
        · unfold blks at hnd
          rw [List.filterMap_cons, h] at hnd
          exact (List.nodup_cons.1 hnd).1 hm
        · exact h (hsub g hm)
    | succ i =>
      have ih' := ih (i := i) (by simpa using hi) hnd' fun g hg => (hy g hg).imp id fun h hm => h (hsub g hm)
      rw [List.set_cons_succ]
      unfold blks
      rw [List.filterMap_cons]
      cases hzb : z.blk with
      | none => exact ih'
      | some g =>
        refine List.nodup_cons.2 ⟨fun hm => ?_, ih'⟩
        rcases mem_blks_set hm with h | ⟨j, u, hj, hu, e⟩
        · rcases hy g h with h' | h'
          · have hxi := List.mem_of_getElem? (by simpa using hi : bs[i]? = some x)
            unfold blks at hnd
            rw [List.filterMap_cons, hzb] at hnd
            exact (List.nodup_cons.1 hnd).1 (mem_blks hxi h')
          · exact h' (mem_blks List.mem_cons_self hzb)
        · unfold blks at hnd
          rw [List.filterMap_cons, hzb] at hnd
          exact (List.nodup_cons.1 hnd).1 (mem_blks (List.mem_of_getElem? hu) e)

/-- one box is changed, in a world where nothing else of old has turned -/
theorem Ok.change {a : Act} {w w' : World} (h : Ok w0 M0 n bs st a w) {i : Nat} {x y : Box} (hi : bs[i]? = some x) (hsame : ∀ g, g < w.heap.size → x.blk ≠ some g → w'.heap[g]? = w.heap[g]?) (hsz : w.heap.size ≤ w'.heap.size)
    (hos : w'.os = w.os) (htp : w'.tape = w.tape) (hout : w'.output = w.output) (hy : ∀ g, y.blk = some g → x.blk = some g ∨ w.heap.size ≤ g) (hlt : ∀ g, y.blk = some g → g < w'.heap.size)
    (hok : ∀ M, Kp w (mkM M0 bs) w' M → BoxOk w' M y) (hmk : x.mark = y.mark := by rfl) : Ok w0 M0 n (bs.set i y) st a w' := by
  have hxm : ∀ g, x.blk = some g → g ∈ blks bs := fun g hg => mem_blks (List.mem_of_getElem? hi) hg
  have hk : Kp w (mkM M0 bs) w' (mkM M0 (bs.set i y)) := ⟨fun g hg hm => hsame g hg fun e => hm (.inr (hxm g e)), hsz, fun g hg => by
    rcases hg with hg | hg
    · exact .inl (.inl hg)
    · rcases mem_blks_set hg with h1 | ⟨j, z, _, h1, h2⟩
      · exact (hy g h1).imp (fun h => .inr (hxm g h)) id
      · exact .inl (.inr (mem_blks (List.mem_of_getElem? h1) h2))⟩
  refine ⟨h.defers.trans (defs_set hi hmk).symm, h.size, fun t R ht => R.keep (h.facts t R ht) hk, fun z hz => ?_, ?_, fun g hg => ?_, ⟨hos.trans h.below.os, htp.trans h.below.tape, hout.trans h.below.output, Nat.le_trans h.below.size hsz, fun g hg => ?_⟩, fun g hg => ?_, fun g hg hm => ?_⟩
  · obtain ⟨j, hj⟩ := List.getElem?_of_mem hz
    rw [List.getElem?_set] at hj
    split at hj
    · split at hj
      · cases hj; exact hok _ hk
      · cases hj
    · rename_i hne
      exact (h.boxes z (List.mem_of_getElem? hj)).same (fun g hg hlt => hsame g hlt fun e => hne (blks_uniq h.nodup hi hj e hg)) hk
  · exact nodup_set hi h.nodup fun g hg => (hy g hg).imp id fun h1 hm => by have := h.msk g (.inr hm); omega
  · rcases mem_blks_set hg with h1 | ⟨j, z, _, h1, h2⟩
    · rcases hy g h1 with h2 | h2
      · exact h.fresh g (hxm g h2)
      · have := h.below.size; omega
    · exact h.fresh g (mem_blks (List.mem_of_getElem? h1) h2)
  · have hne : x.blk ≠ some g := fun e => by have := h.fresh g (hxm g e); omega
    rw [hsame g (by have := h.below.size; omega) hne]; exact h.below.block g hg
  · rcases hg with hg | hg
    · have := h.msk g (.inl hg); omega
    · rcases mem_blks_set hg with h1 | ⟨j, z, _, h1, h2⟩
      · exact hlt g h1
      · have := h.msk g (.inr (mem_blks (List.mem_of_getElem? h1) h2)); omega
  · rcases mem_blks_set hg with h1 | ⟨j, z, _, h1, h2⟩
    · rcases hy g h1 with h2 | h2
      · exact h.m0 g (hxm g h2) hm
      · have := h.msk g (.inl hm); omega
    · exact h.m0 g (mem_blks (List.mem_of_getElem? h1) h2) hm

/-- a row is read from now on, and written no more -/
theorem Ok.freeze {α : Type} {a : Act} {w : World} (h : Ok w0 M0 n bs st a w) {i t : Nat} {v : Value} {e : TypeId} {sz m : Nat} {rs : List Rp} (hi : bs[i]? = some (.r v e sz m rs)) {f : α → List Rp} (hf : ∀ x, (f x).length = sz) {xs : List α} (hm : m = xs.length) (hrs : rs = xs.flatMap f) (ht : look st t = some (val v)) :
    Ok w0 M0 n (bs.set i (.r nilS e sz 0 [])) ((t, sl sz f xs) :: st) a w := by
  have h1 : Ok w0 M0 n (bs.set i (.r nilS e sz 0 [])) st a w := h.change hi (fun _ _ _ => rfl) (Nat.le_refl _) rfl rfl rfl (fun g hg => by cases hg) (fun g hg => by cases hg) fun M _ => ⟨[], ⟨by simp, .inl ⟨rfl, rfl⟩⟩, trivial⟩
  refine ⟨h1.defers, h1.size, fun t' R ht' => ?_, h1.boxes, h1.nodup, h1.fresh, h1.below, h1.msk, h1.m0⟩
  simp only [look] at ht'
  split at ht'
  · rename_i e'; subst e'; cases ht'
    obtain ⟨cs, h2, h3⟩ := h.boxes _ (List.mem_of_getElem? hi)
    have hv : a.tmps.getD t' undef = v := h.facts t' _ ht
    rw [hv]
    subst hm; subst hrs
    have hle : ∀ b, mkM M0 (bs.set i (.r nilS e sz 0 [])) b → mkM M0 bs b := fun b hb => by
      rcases hb with hb | hb
      · exact .inl hb
      · rcases mem_blks_set hb with h4 | ⟨j, z, _, h4, h5⟩
        · cases h4
        · exact .inr (mem_blks (List.mem_of_getElem? h4) h5)
    refine sl_of_own hf h2 (h3.keep (Kp.less w hle)) fun g hg hm => ?_
    rcases hm with hm | hm
    · -- a block of the call's own is none of the caller's
      exact h.m0 g (mem_blks (List.mem_of_getElem? hi) hg) hm
    · rcases mem_blks_set hm with h4 | ⟨j, z, hj, h4, h5⟩
      · cases h4
      · exact hj (blks_uniq h.nodup h4 hi h5 hg)
  · exact h1.facts t' R ht'

/-- some cells of a slice that is read, one after the other -/
theorem sl_cells {α : Type} {sz : Nat} {f : α → List Rp} (hf : ∀ x, (f x).length = sz) {w : World} {M : Mask} {b o : Nat} : ∀ {xs : List α} {j : Nat}, (∀ i x, xs[i]? = some x → CellsAt w M b (o + (j + i) * sz) (f x)) →
    ∃ cs : List Value, All2 w M (xs.flatMap f) cs ∧ cs.length = xs.length * sz ∧ ∀ q u, cs[q]? = some u → w.cell? ⟨b, o + j * sz + q, none⟩ = some u
  | [], j, _ => ⟨[], trivial, by simp, fun q u h => by simp at h⟩
  | x :: xs, j, h => by
    obtain ⟨c1, h1, h2⟩ := (h 0 x rfl).all2
    obtain ⟨cs, h3, h4, h5⟩ := sl_cells hf (xs := xs) (j := j + 1) fun i y hy => by
      have := h (i + 1) y (by simpa using hy)
      rwa [show j + (i + 1) = j + 1 + i from by omega] at this
    have hl1 : c1.length = sz := by rw [← h1.length, hf]
    refine ⟨c1 ++ cs, by rw [List.flatMap_cons]; exact h1.append h3, by rw [List.length_append, hl1, h4, List.length_cons, Nat.succ_mul]; omega, fun q u hq => ?_⟩
    rw [List.getElem?_append] at hq
    split at hq
    · have := h2 q u hq
      rwa [Nat.add_zero] at this
    · have := h5 _ u hq
      rw [hl1, Nat.succ_mul] at this
      rwa [show o + (j * sz + sz) + (q - sz) = o + j * sz + q from by omega] at this

def elemInfo (P : Program) (T : TypeId) : Option (TypeId × Nat × Nat × Nat) := match P.underlying T with
  | some (.slice e) => (P.info? e).bind fun i => i.zero.map fun z => (e, i.size, i.bytes, z.cells.size)
  | _ => none
theorem Ok.setFact {bs' : List Box} {a : Act} {w : World} (h : Ok w0 M0 n bs' st a w) {d : Nat} (hd : d < n) {v : Value} {R : Rp} (hR : R.h v w (mkM M0 bs')) : Ok w0 M0 n bs' ((d, R) :: st) (a.put (some d) v) w := h.put hd (Below.refl _ _) hR

/-- append(v, x...) of one's own row v -/
theorem WL.app {α : Type} (i : Nat) {T ty e : TypeId} {sz bytes m d : Nat} {v : Value} {x y : Operand} {pos : String} {af : Array Edge} {rs : List Rp} {f : α → List Rp} {xs : List α} (hb : bs[i]? = some (.r v e sz m rs)) (hT : elemInfo P T = some (e, sz, bytes, sz)) (hsz : 0 < sz) (hx : OF (look st) x (val v)) (hy : OF (look st) y (sl sz f xs)) (hne : xs ≠ []) (hf : ∀ x, (f x).length = sz)
    (hl : m + xs.length ≤ 9223372036854775807) (hby : (m + xs.length) * bytes ≤ 140737488355328) (hd : d < n)
    (rest : ∀ v' : Value, v'.oneCell' = true → WL P w0 M0 n (bs.set i (.r v' e sz (m + xs.length) (rs ++ xs.flatMap f))) ((d, val v') :: st) ops l Q) :
    WL P w0 M0 n bs st ops (⟨some d, .call ⟨.builtin .append, #[x, y], #[T, T]⟩, ty, pos, af, none⟩ :: l) Q := by
  intro a w hok
  have h1 : ev (fun t => a.tmps.getD t undef) x = _ := hx _ w _ fun i R' _ hi => hok.facts i R' hi
  obtain ⟨A, c, h2, h3, h4⟩ := hy (fun t => a.tmps.getD t undef) w _ fun i R' _ hi => hok.facts i R' hi
  rcases h4 with h4 | ⟨b, o, rfl, g1, g2, g3⟩
  · exact absurd h4 hne
  obtain ⟨news, k1, k2, k3⟩ := sl_cells hf (o := o) (j := 0) (xs := xs) fun i x hx => by rw [Nat.zero_add]; exact g3 i x hx
  obtain ⟨cs, c1, c2⟩ := hok.boxes _ (List.mem_of_getElem? hb)
  unfold elemInfo at hT
  split at hT
  · rename_i e' hu
    cases hi : P.info? e' with
    | none => rw [hi] at hT; simp at hT
    | some ti =>
      cases hz : ti.zero with
      | none => rw [hi] at hT; simp [hz] at hT
      | some z =>
        rw [hi] at hT
        simp only [Option.bind_some, hz, Option.map_some, Option.some.injEq, Prod.mk.injEq] at hT
        obtain ⟨rfl, t1, t2, t3⟩ := hT
        obtain ⟨v', w', r1, r2, r3, _, r4⟩ := run_append_own_at (P := P) w 0 T ty e' ti z sz bytes hu hi hz t1 t2 t3 hsz v m cs c1 ⟨b, o, none⟩ xs.length c news k2 (fun j u hj => by rw [add_at]; have := k3 j u hj; rwa [Nat.zero_mul, Nat.add_zero] at this) k1.one (by unfold maxLen; omega) hby (Nat.zero_le _)
        refine wpList_plain rfl fun K hK => ?_
        unfold Oper.wp
        rw [eval_ev, exec_eq]
        have hrun : (execOp (ev fun t => a.tmps.getD t undef) ⟨none, .call ⟨.builtin .append, #[x, y], #[T, T]⟩, ty, "", #[], none⟩).run P w = .ok (.value v') w' := by
          simp only [execOp, resolve, invoke, builtin, Sem.run_bind, Sem.run_pure, Result.andThen_ok, List.map_toArray, List.map_cons, List.map_nil, h1, h2, r1]
        rw [hrun]
        have hkey : ∀ g, v'.ownBlock = some g → v.ownBlock = some g ∨ w.heap.size ≤ g := fun g hg => by
          rcases r4 with r4 | r4
          · exact .inl (r4.symm.trans hg)
          · rw [r4] at hg; cases hg; exact .inr (Nat.le_refl _)
        have hch := hok.change (y := .r v' e' sz (m + xs.length) (rs ++ xs.flatMap f)) hb (w' := w') (fun g hg hne' => r3.block g hg fun e => hne' e.symm) r3.size r3.os r3.tape r3.output hkey (fun g hg => by
          have hg : v'.ownBlock = some g := hg
          rcases r2.2 with ⟨rfl, _⟩ | ⟨g', _, _, rfl, _, g5, _⟩
          · cases hg
          · cases hg; exact (Array.getElem?_eq_some_iff.1 g5).1) fun M hM => ⟨_, r2, (c2.append k1).keep hM⟩
        exact hK _ _ (rest v' (by rcases r2.2 with ⟨h, _⟩ | ⟨_, _, _, h, _⟩ <;> rw [h] <;> rfl) _ _ (hch.setFact hd rfl))
  · cases hT

theorem WP.freeze {α : Type} (i t : Nat) {v : Value} {e : TypeId} {sz m : Nat} {rs : List Rp} (f : α → List Rp) (xs : List α) (hi : bs[i]? = some (.r v e sz m rs)) (hf : ∀ x, (f x).length = sz) (hm : m = xs.length) (hrs : rs = xs.flatMap f) (ht : look st t = some (val v))
    (h : WP P w0 M0 n (bs.set i (.r nilS e sz 0 [])) ((t, sl sz f xs) :: st) c Q) : WP P w0 M0 n bs st c Q := fun a w hok => h a w (hok.freeze hi hf hm hrs ht)
theorem WL.freeze {α : Type} (i t : Nat) {v : Value} {e : TypeId} {sz m : Nat} {rs : List Rp} (f : α → List Rp) (xs : List α) (hi : bs[i]? = some (.r v e sz m rs)) (hf : ∀ x, (f x).length = sz) (hm : m = xs.length) (hrs : rs = xs.flatMap f) (ht : look st t = some (val v))
    (h : WL P w0 M0 n (bs.set i (.r nilS e sz 0 [])) ((t, sl sz f xs) :: st) ops l Q) : WL P w0 M0 n bs st ops l Q := fun a w hok => h a w (hok.freeze hi hf hm hrs ht)
end
end Go.Fw

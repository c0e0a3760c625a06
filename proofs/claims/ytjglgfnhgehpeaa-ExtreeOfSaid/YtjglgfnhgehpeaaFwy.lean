/- A range over a function, as one step of the small logic. No program in sight. -/
import Derived.Test.YtjglgfnhgehpeaaFwx
import Derived.RangeFuncNested
namespace Go.Fw
open Go.RowKit Go.Proofs
set_option linter.unusedVariables false
set_option linter.unusedSimpArgs false
def up (w : World) (M : Mask) : Mask := fun b => M b ∨ w.heap.size ≤ b
abbrev KM (M : Mask) (W W' : World) : Prop := Kp W M W' M
/-- a fact of no world -/
def Pl (R : Rp) : Prop := ∀ v w M w' M', R.h v w M → R.h v w' M'
def PlB : Box → Prop
  | .b _ _ rs => ∀ R ∈ rs, Pl R
  | .r _ _ _ _ rs => ∀ R ∈ rs, Pl R
  | .d _ => False
theorem Pl.val (v : Value) : Pl (val v) := fun _ _ _ _ _ h => h
theorem All2.pl {w w' : World} {M M' : Mask} : ∀ {rs : List Rp} {cs : List Value}, (∀ R ∈ rs, Pl R) → All2 w M rs cs → All2 w' M' rs cs
  | [], [], _, _ => trivial
  | R :: rs, c :: cs, hp, h => ⟨⟨hp R List.mem_cons_self _ _ _ _ _ h.1.1, h.1.2⟩, All2.pl (fun R' hR => hp R' (List.mem_cons_of_mem _ hR)) h.2⟩
theorem BoxOk.cells {w : World} {M : Mask} {x : Box} (h : BoxOk w M x) (hp : PlB x) {g : Nat} (hg : x.blk = some g) : ∃ o : Obj, w.heap[g]? = some o ∧ o.isCells = true := by
  cases x with
  | b g' T rs => obtain ⟨cs, h1, _⟩ := h; cases hg; exact ⟨_, h1, rfl⟩
  | r v e sz n rs =>
    obtain ⟨cs, ⟨_, h1⟩, _⟩ := h
    rcases h1 with ⟨rfl, _⟩ | ⟨g', cap, cur, rfl, _, h2, _⟩
    · cases hg
    · cases hg; exact ⟨_, h2, rfl⟩
  | d D => exact hp.elim
theorem BoxOk.pl {w w' : World} {M M' : Mask} {x : Box} (h : BoxOk w M x) (hp : PlB x) (hb : ∀ g, x.blk = some g → w'.heap[g]? = w.heap[g]?) : BoxOk w' M' x := by
  cases x with
  | b g T rs => obtain ⟨cs, h1, h2⟩ := h; exact ⟨cs, (hb g rfl).trans h1, h2.pl hp⟩
  | r v e sz n rs =>
    obtain ⟨cs, ⟨h0, h1⟩, h2⟩ := h
    refine ⟨cs, ⟨h0, h1.imp id ?_⟩, h2.pl hp⟩
    rintro ⟨g, cap, cur, rfl, g1, g2, g3⟩
    exact ⟨g, cap, cur, rfl, g1, (hb g rfl).trans g2, g3⟩
  | d D => exact hp.elim
theorem PlB.mark {x : Box} (h : PlB x) : x.mark = none := by cases x with | d D => exact h.elim | _ => rfl
/-- the memory between two rounds: bs0 at the loop's start w, bs now -/
structure Bt (w0 : World) (M0 : Mask) (w : World) (bs0 bs : List Box) (W : World) : Prop where
  boxes : ∀ x ∈ bs, BoxOk W (up w (mkM M0 bs0)) x
  plain : ∀ x ∈ bs, PlB x
  nodup : (blks bs).Nodup
  fresh : ∀ g ∈ blks bs, w0.heap.size ≤ g
  inM : ∀ g ∈ blks bs, up w (mkM M0 bs0) g
  m0 : ∀ g ∈ blks bs, ¬ M0 g
  below : Below w0.heap.size w0 W
  kept : KM (up w (mkM M0 bs0)) w W
section
variable {P : Program} {w0 : World} {M0 : Mask} {n : Nat} {bs0 bs : List Box} {st : St} {w W : World}
theorem Bt.start {a : Act} (h : Ok w0 M0 n bs st a w) (hp : ∀ x ∈ bs, PlB x) : Bt w0 M0 w bs bs w :=
  ⟨fun x hx => (h.boxes x hx).pl (hp x hx) fun _ _ => rfl, hp, h.nodup, h.fresh, fun g hg => .inl (.inr hg), h.m0, h.below, Kp.refl _ _⟩
theorem Bt.grown (h : Bt w0 M0 w bs0 bs W) (hw : w0.heap.size ≤ w.heap.size) {W' : World} {row : Option Nat} (hg : W.grownBy W' row) (hr : ∀ r, row = some r → w.heap.size ≤ r ∧ ∃ o : Obj, W.heap[r]? = some o ∧ o.isCells = false) : Bt w0 M0 w bs0 bs W' := by
  have hb : Below w.heap.size W W' := (Below.refl _ W).grown hg (by have := h.kept.size; omega) fun k e => (hr k e).1
  have hsame : ∀ x ∈ bs, ∀ g, x.blk = some g → W'.heap[g]? = W.heap[g]? := fun x hx g hxg => by
    obtain ⟨o, h1, h2⟩ := (h.boxes x hx).cells (h.plain x hx) hxg
    refine hg.block g (Array.getElem?_eq_some_iff.1 h1).1 fun e => ?_
    obtain ⟨_, o', h3, h4⟩ := hr g e.symm
    rw [h1] at h3; cases h3; rw [h2] at h4; cases h4
  refine ⟨fun x hx => (h.boxes x hx).pl (h.plain x hx) (hsame x hx), h.plain, h.nodup, h.fresh, h.inM, h.m0, h.below.trans (hb.mono hw), h.kept.trans ⟨fun b hb' hm => ?_, hb.size, fun b hb' => .inl hb'⟩⟩
  exact hb.block b (Nat.lt_of_not_le fun hle => hm (.inr hle))
/-- the mask of a round -/
def M1 (w : World) (M : Mask) (bs : List Box) (W : World) : Mask := fun b => up w M b ∧ b < W.heap.size ∧ b ∉ blks bs ∧ ∃ o : Obj, W.heap[b]? = some o ∧ o.isCells = true
theorem Bt.mask (h : Bt w0 M0 w bs0 bs W) {b : Nat} (hb : mkM (M1 w (mkM M0 bs0) bs W) bs b) : up w (mkM M0 bs0) b ∧ b < W.heap.size ∧ ∃ o : Obj, W.heap[b]? = some o ∧ o.isCells = true := by
  rcases hb with ⟨h1, h2, _, h3⟩ | hb
  · exact ⟨h1, h2, h3⟩
  · obtain ⟨x, hx, e⟩ := List.mem_filterMap.1 hb
    obtain ⟨o, g1, g2⟩ := (h.boxes x hx).cells (h.plain x hx) e
    exact ⟨h.inM b hb, (Array.getElem?_eq_some_iff.1 g1).1, o, g1, g2⟩
/-- what was known at the loop's start is known in a round -/
theorem Bt.kp (h : Bt w0 M0 w bs0 bs W) : Kp w (mkM M0 bs0) W (mkM (M1 w (mkM M0 bs0) bs W) bs) :=
  ⟨fun b hb hm => h.kept.block b hb fun hu => hu.elim hm fun hle => by omega, h.kept.size, fun b hb => (h.mask hb).1⟩
theorem Bt.ok (h : Bt w0 M0 w bs0 bs W) {a' : Act} (hd : a'.defers = []) (hs : a'.tmps.size = n) (hf : ∀ t R, look st t = some R → R.h (a'.tmps.getD t undef) W (mkM (M1 w (mkM M0 bs0) bs W) bs)) : Ok w0 (M1 w (mkM M0 bs0) bs W) n bs st a' W :=
  ⟨hd.trans (defs_none fun x hx => (h.plain x hx).mark).symm, hs, hf, fun x hx => (h.boxes x hx).pl (h.plain x hx) fun _ _ => rfl, h.nodup, h.fresh, h.below, fun b hb => (h.mask hb).2.1, fun g hg hm => hm.2.2.1 hg⟩
/-- the round's end -/
theorem Bt.next (h : Bt w0 M0 w bs0 bs W) (hM : ∀ b, M0 b → b < w.heap.size) {bs' : List Box} {a' : Act} {W' : World} (hok : Ok w0 (M1 w (mkM M0 bs0) bs W) n bs' st a' W') (hp : ∀ x ∈ bs', PlB x) (hk : Kp W (mkM (M1 w (mkM M0 bs0) bs W) bs) W' (mkM (M1 w (mkM M0 bs0) bs W) bs')) : Bt w0 M0 w bs0 bs' W' := by
  have hin : ∀ g ∈ blks bs', up w (mkM M0 bs0) g ∧ ¬ M0 g := fun g hg => by
    rcases hk.mask g (.inr hg) with h1 | h1
    · refine ⟨(h.mask h1).1, ?_⟩
      rcases h1 with h1 | h1
      · exact absurd h1 (hok.m0 g hg)
      · exact h.m0 g h1
    · have := h.kept.size
      exact ⟨.inr (by omega), fun hm => by have := hM g hm; omega⟩
  exact ⟨fun x hx => (hok.boxes x hx).pl (hp x hx) fun _ _ => rfl, hp, hok.nodup, hok.fresh, fun g hg => (hin g hg).1, fun g hg => (hin g hg).2, hok.below,
    h.kept.trans ⟨fun b hb hm => hk.block b hb fun hu => hm (h.mask hu).1, hk.size, fun b hb => .inl hb⟩⟩
theorem Bt.keeps (h : Bt w0 M0 w bs0 bs W) {bs' : List Box} {W' : World} (hk : Kp W (mkM (M1 w (mkM M0 bs0) bs W) bs) W' (mkM (M1 w (mkM M0 bs0) bs W) bs')) (B : Nat) : KeepsFrom B W W' := ⟨hk.size, fun j o hB hj hc => by
  rw [hk.block j (Array.getElem?_eq_some_iff.1 hj).1 fun hu => ?_]
  · exact hj
  · obtain ⟨_, _, o', h1, h2⟩ := h.mask hu
    rw [hj] at h1; cases h1; rw [hc] at h2; cases h2⟩

theorem Bt.drop {A : List Box} (h : Bt w0 M0 w bs0 (A ++ bs) W) : Bt w0 M0 w bs0 bs W := by
  have hsub : ∀ g ∈ blks bs, g ∈ blks (A ++ bs) := fun g hg => by unfold blks at *; rw [List.filterMap_append]; exact List.mem_append_right _ hg
  refine ⟨fun x hx => h.boxes x (List.mem_append_right _ hx), fun x hx => h.plain x (List.mem_append_right _ hx), ?_, fun g hg => h.fresh g (hsub g hg), fun g hg => h.inM g (hsub g hg), fun g hg => h.m0 g (hsub g hg), h.below, h.kept⟩
  have := h.nodup
  unfold blks at *
  rw [List.filterMap_append] at this
  exact (List.nodup_append.1 this).2.1
/-- behind the loop -/
theorem Bt.done {a : Act} (h : Bt w0 M0 w bs0 bs W) (hok : Ok w0 M0 n bs0 st a w) (hp0 : ∀ x ∈ bs0, PlB x) {D : Nat} (hD : w.heap.size ≤ D) (hh : W.heap[D]? = some (.deferred (some []))) :
    Ok w0 M0 n (.d D :: bs) st { a with defers := { target := .collected D, args := #[] } :: a.defers } W := by
  have hlt : D < W.heap.size := (Array.getElem?_eq_some_iff.1 hh).1
  have hM : ∀ b, M0 b → b < w.heap.size := fun b hb => hok.msk b (.inl hb)
  have hk : Kp w (mkM M0 bs0) W (mkM M0 (.d D :: bs)) := ⟨fun b hb hm => h.kept.block b hb fun hu => hu.elim hm fun hle => by omega, h.kept.size, fun b hb => by
    rcases hb with hb | hb
    · exact .inl (.inl hb)
    · rcases (List.mem_cons (l := blks bs)).1 hb with h2 | h2
      · have h2 : b = D := h2
        subst h2; exact .inr hD
      · exact h.inM b h2⟩
  refine ⟨?_, hok.size, fun t R ht => R.keep (hok.facts t R ht) hk, fun x hx => ?_, ?_, fun g hg => ?_, h.below, fun b hb => ?_, fun g hg hm => ?_⟩
  · show _ :: a.defers = _ :: defs bs
    rw [hok.defers, defs_none fun x hx => (hp0 x hx).mark, defs_none fun x hx => (h.plain x hx).mark]
  · rcases List.mem_cons.1 hx with rfl | hx
    · exact hh
    · exact (h.boxes x hx).pl (h.plain x hx) fun _ _ => rfl
  · show (D :: blks bs).Nodup
    refine List.nodup_cons.2 ⟨fun hm => ?_, h.nodup⟩
    obtain ⟨x, hx, e⟩ := List.mem_filterMap.1 hm
    obtain ⟨o, g1, g2⟩ := (h.boxes x hx).cells (h.plain x hx) e
    rw [hh] at g1; cases g1; cases g2
  · rcases (List.mem_cons (l := blks bs)).1 hg with h2 | h2
    · have h2 : g = D := h2
      have := hok.below.size; omega
    · exact h.fresh g h2
  · rcases hb with hb | hb
    · have := hM b hb; have := h.kept.size; omega
    · rcases (List.mem_cons (l := blks bs)).1 hb with h2 | h2
      · have h2 : b = D := h2
        omega
      · obtain ⟨x, hx, e⟩ := List.mem_filterMap.1 h2
        obtain ⟨o, g1, _⟩ := (h.boxes x hx).cells (h.plain x hx) e
        exact (Array.getElem?_eq_some_iff.1 g1).1
  · rcases (List.mem_cons (l := blks bs)).1 hg with h2 | h2
    · have h2 : g = D := h2
      have := hM g hm; omega
    · exact h.m0 g h2 hm
end
/-- an iterator, as a fact: what its rounds bring -/
def iterR {α : Type} (P : Program) (gf : FuncId) (encs : α → Array Value) (xs : List α) : Rp :=
  ⟨fun v w M => ∃ lb, v = .func (.func gf) #[] lb ∧ Enters P gf ∧ ∀ w' M', Kp w M w' M' → SeqStopsK Fence.wide 1 P gf lb encs (KM (up w' M')) (fun ys => ys = xs) (fun pre => pre <+: xs) xs.length w',
   fun ⟨lb, h1, h2, h3⟩ k => ⟨lb, h1, h2, fun w' M' k' => h3 w' M' (k.trans k')⟩⟩
section
variable {P : Program} {w0 : World} {M0 : Mask} {n : Nat} {bs : List Box} {st : St} {Q : Exit → Act → World → Prop}
/-- how a round may end -/
def RoundPost {α β : Type} (w0 : World) (Ma : Mask) (n : Nat) (bx : β → List Box) (Iv : List α → β → Prop) (Xv : Code → List α → β → Prop) (pre : List α) (bs1 : List Box) (W : World) : Exit → Act → World → Prop
  | .normal, a, W' => ∃ y st', Iv pre y ∧ Ok w0 Ma n (bx y) st' a W' ∧ Kp W (mkM Ma bs1) W' (mkM Ma (bx y))
  | .ret, a, W' => ∃ y st', Xv .ret pre y ∧ Ok w0 Ma n (bx y) st' a W' ∧ Kp W (mkM Ma bs1) W' (mkM Ma (bx y))
  | .exit id, a, W' => ∃ y st', Xv (.exit id) pre y ∧ Ok w0 Ma n (bx y) st' a W' ∧ Kp W (mkM Ma bs1) W' (mkM Ma (bx y))
  | _, _, _ => False
theorem WP.rangeF {α β ε : Type} {gf : FuncId} {ev : α → Value} {xs : List α} {g p : Nat} {assign body : Code} (hg : look st g = some (iterR P gf (fun x => #[ev x]) xs)) (hp : p < n)
    (bx : β → List Box) (Iv : List α → β → Prop) (Xv : Code → List α → β → Prop) (y0 : β) (h0 : Iv [] y0) (hb : bs = bx y0) (hpl : ∀ y, ∀ x ∈ bx y, PlB x)
    (hdet : ∀ y y' M W, (∀ x ∈ bx y, BoxOk W M x) → (∀ x ∈ bx y', BoxOk W M x) → blks (bx y) = blks (bx y'))
    (st0 : St) (hst0 : ∀ i R, look st0 i = some R → ∃ R', look st i = some R' ∧ ∀ v w M, R'.h v w M → R.h v w M) (hpl0 : ∀ i R, look st0 i = some R → Pl R) (Rx : α → Rp) (hRx : ∀ x w M, (Rx x).h (ev x) w M)
    (ex : α → ε → List Box) (sx : α → ε → St) (hplx : ∀ x e, (∀ b ∈ ex x e, PlB b) ∧ ∀ i R, look (sx x e) i = some R → Pl R)
    (hassign : ∀ (r m : Nat) (pre : List α) (x : α) (y : β) (W : World) (Ma : Mask), Iv pre y → WPI P r m w0 Ma n (bx y) ((p, Rx x) :: st0 ++ [(sinceAt, since W (mkM Ma (bx y)))]) assign
      (fun e a W' => e = .normal ∧ ∃ e' : ε, Ok w0 Ma n (ex x e' ++ bx y) (sx x e') a W' ∧ Kp W (mkM Ma (bx y)) W' (mkM Ma (ex x e' ++ bx y))))
    (hbody : ∀ (r m : Nat) (pre : List α) (x : α) (y : β) (e : ε) (W : World) (Ma : Mask), Iv pre y → pre.length < xs.length → WPI P r m w0 Ma n (ex x e ++ bx y) (sx x e ++ [(sinceAt, since W (mkM Ma (ex x e ++ bx y)))]) body (RoundPost w0 Ma n bx Iv Xv (pre ++ [x]) (ex x e ++ bx y) W))
    (hdone : ∀ D y, Iv xs y → Lead w0 M0 n (.d D :: bx y) st .normal Q)
    (hstop : ∀ D c pre y, pre <+: xs → Xv c pre y → WP P w0 M0 n (.d D :: bx y) st c Q) :
    WP P w0 M0 n bs st (.rangeFunc (.tmp g) #[p] assign body) Q := by
  intro a w hok
  subst hb
  obtain ⟨lb, hv, heg, hseq⟩ := hok.facts g _ hg
  have hw0 : w0.heap.size ≤ w.heap.size := hok.below.size
  have hMw : ∀ b, M0 b → b < w.heap.size := fun b hb => hok.msk b (.inl hb)
  have hupK : ∀ {W W' : World} {bs1 bs' : List Box} (hB : Bt w0 M0 w (bx y0) bs1 W), Kp W (mkM (M1 w (mkM M0 (bx y0)) bs1 W) bs1) W' (mkM (M1 w (mkM M0 (bx y0)) bs1 W) bs') → KM (up w (mkM M0 (bx y0))) W W' := fun hB hk =>
    ⟨fun b hb hm => hk.block b hb fun hu => hm (hB.mask hu).1, hk.size, fun b hb => .inl hb⟩
  have hpl1 : ∀ x e y, ∀ b ∈ ex x e ++ bx y, PlB b := fun x e y b hb => (List.mem_append.1 hb).elim ((hplx x e).1 b) (hpl y b)
  refine (wpIn_wide (n := 2)).1 (wpIn_rangeFunc_ownH (F := Fence.wide) (n := 2) rfl (by decide) (gf := gf) (lb := lb) hv trivial heg (hseq w _ (Kp.refl _ _)) (fun h k => h.trans k) (fun W l o o' hl hW _ _ => ?_) (Below.refl _ _) (fun _ => rfl)
    (fun pre W => ∃ y, Iv pre y ∧ Bt w0 M0 w (bx y0) (bx y) W) (fun c pre W => ∃ y, Xv c pre y ∧ Bt w0 M0 w (bx y0) (bx y) W) (fun pre W W' row ⟨y, h1, h2⟩ hgr hr => ⟨y, h1, h2.grown hw0 hgr hr⟩) (fun c pre W W' row ⟨y, h1, h2⟩ hgr hr => ⟨y, h1, h2.grown hw0 hgr hr⟩)
    ⟨y0, h0, Bt.start hok (hpl y0)⟩
    (fun x a' W => a'.defers = [] ∧ a'.tmps.size = n ∧ ∃ (y : β) (e : ε), (∀ t R, look (sx x e) t = some R → R.h (a'.tmps.getD t undef) W (up w (mkM M0 (bx y0)))) ∧ Bt w0 M0 w (bx y0) (ex x e ++ bx y) W)
    (fun x a' _ W W' row ⟨h1, h2, y, e, h3, h4⟩ hgr hr => ⟨h1, h2, y, e, fun t R ht => (hplx x e).2 t R ht _ _ _ _ _ (h3 t R ht), h4.grown hw0 hgr hr⟩) ?_ ?_ ?_ ?_)
  · -- a block that is no cells may turn
    have hl' := (Array.getElem?_eq_some_iff.1 hW).1
    refine ⟨fun b hb hm => World.putObj_heap_other fun e => hm (.inr (by omega)), by simp, fun b hb => .inl hb⟩
  · -- the loop's variable
    intro l pre x W K ⟨y, h1, h2⟩ hK
    have hok1 := h2.ok (n := n) (st := (p, Rx x) :: st0 ++ [(sinceAt, since W (mkM (M1 w (mkM M0 (bx y0)) (bx y) W) (bx y)))]) (a' := { tmps := a.tmps.setIfInBounds p (ev x), defers := [] }) rfl (by simp [hok.size]) fun t R ht => by
      have hget : (a.tmps.setIfInBounds p (ev x)).getD t undef = if t = p then ev x else a.tmps.getD t undef := getD_put (a := a) (d := p) (by rw [hok.size]; exact hp) t
      simp only [List.cons_append, look] at ht
      show R.h ((a.tmps.setIfInBounds p (ev x)).getD t undef) W _
      rw [hget]
      split at ht
      · rename_i e; cases ht; rw [if_pos e]; exact hRx x _ _
      · rename_i e
        rw [if_neg e]
        rw [look_app] at ht
        cases hq : look st0 t with
        | some R' =>
          rw [hq] at ht; cases ht
          obtain ⟨R', g1, g2⟩ := hst0 t R hq
          exact hpl0 t R hq _ _ _ _ _ (g2 _ _ _ (hok.facts t R' g1))
        | none =>
          rw [hq] at ht
          simp only [Option.none_or, look] at ht
          split at ht
          · cases ht; exact Kp.refl _ _
          · cases ht
    have e0 : #[p].zip #[ev x] = #[(p, ev x)] := by simp
    rw [e0]
    show assign.wpIn (Fence.wide.inRound l) (2 - 1 - 1) P _ { tmps := a.tmps.setIfInBounds p (ev x), defers := [] } W
    refine Code.wpIn_mono (fun e a' W' q => ?_) (hassign l _ pre x y W _ h1 _ _ hok1)
    obtain ⟨rfl, e', q1, q2⟩ := q
    have hB := h2.next hMw q1 (hpl1 x e' y) q2
    refine hK a' W' (h2.keeps q2 _) (hupK h2 q2) ⟨y, h1, hB.drop⟩ ⟨q1.defers.trans (defs_none fun b hb => (hpl1 x e' y b hb).mark), q1.size, y, e', fun t R ht => (hplx x e').2 t R ht _ _ _ _ _ (q1.facts t R ht), hB⟩
  · -- the body
    intro l pre x a' W _ _ ⟨y, h1, h2⟩ ⟨g1, g2, y', e, g3, g4⟩ hlen
    have hbl := hdet y y' _ W h2.boxes (fun b hb => g4.boxes b (List.mem_append_right _ hb))
    have hE : blks (ex x e ++ bx y) = blks (ex x e ++ bx y') := by unfold blks at *; rw [List.filterMap_append, List.filterMap_append, hbl]
    have hB : Bt w0 M0 w (bx y0) (ex x e ++ bx y) W := ⟨fun b hb => (List.mem_append.1 hb).elim (fun h => g4.boxes b (List.mem_append_left _ h)) (h2.boxes b), hpl1 x e y, by rw [hE]; exact g4.nodup, fun g hg => g4.fresh g (hE ▸ hg), fun g hg => g4.inM g (hE ▸ hg), fun g hg => g4.m0 g (hE ▸ hg), g4.below, g4.kept⟩
    have hok1 := hB.ok (n := n) (st := sx x e ++ [(sinceAt, since W (mkM (M1 w (mkM M0 (bx y0)) (ex x e ++ bx y) W) (ex x e ++ bx y)))]) g1 g2 fun t R ht => by
      rw [look_app] at ht
      cases hq : look (sx x e) t with
      | some R' => rw [hq] at ht; cases ht; exact (hplx x e).2 t R hq _ _ _ _ _ (g3 t R hq)
      | none =>
        rw [hq] at ht
        simp only [Option.none_or, look] at ht
        split at ht
        · cases ht; exact Kp.refl _ _
        · cases ht
    refine Code.wpIn_mono (fun ee a'' W'' q => ?_) (hbody l _ pre x y e W _ h1 hlen _ _ hok1)
    cases ee with
    | normal =>
      obtain ⟨y'', st', q0, q1, q2⟩ := q
      exact ⟨hB.keeps q2 _, hupK hB q2, y'', q0, hB.next hMw q1 (hpl y'') q2⟩
    | ret =>
      obtain ⟨y'', st', q0, q1, q2⟩ := q
      exact ⟨hB.keeps q2 _, y'', q0, hB.next hMw q1 (hpl y'') q2⟩
    | exit id =>
      obtain ⟨y'', st', q0, q1, q2⟩ := q
      exact ⟨hB.keeps q2 _, y'', q0, hB.next hMw q1 (hpl y'') q2⟩
    | _ => exact (q : False).elim
  · intro D ys W hD hys ⟨y, h1, h2⟩ hh
    subst hys
    exact hdone D y h1 _ _ (h2.done hok (hpl y0) hD hh)
  · intro D c pre W hD hpre ⟨y, h1, h2⟩ hh
    exact wpIn_wide.2 (hstop D c pre y hpre h1 _ _ (h2.done hok (hpl y0) hD hh))

/-! ### how such a function is left -/
theorem Ok.take {D : Nat} {a : Act} {w : World} (h : Ok w0 M0 n (.d D :: bs) st a w) : Ok w0 M0 n bs st { a with defers := defs bs } (w.putObj D (.deferred none)) := by
  have hDm : D ∈ blks (.d D :: bs) := List.mem_cons_self
  have hsub : ∀ g, g ∈ blks bs → g ∈ blks (.d D :: bs) := fun g hg => List.mem_cons_of_mem _ hg
  have hnd : (D :: blks bs).Nodup := h.nodup
  have hother : ∀ b, b ≠ D → (w.putObj D (.deferred none)).heap[b]? = w.heap[b]? := fun b hb => World.putObj_heap_other hb
  have hk : Kp w (mkM M0 (.d D :: bs)) (w.putObj D (.deferred none)) (mkM M0 bs) := ⟨fun b _ hm => hother b fun e => hm (by rw [e]; exact .inr hDm), by simp, fun b hb => .inl (hb.imp id (hsub b))⟩
  refine ⟨rfl, h.size, fun t R ht => R.keep (h.facts t R ht) hk, fun x hx => (h.boxes x (List.mem_cons_of_mem _ hx)).same (fun g hg _ => hother g fun e => ?_) hk, (List.nodup_cons.1 hnd).2, fun g hg => h.fresh g (hsub g hg), ⟨h.below.os, h.below.tape, h.below.output, by simpa using h.below.size, fun b hb => ?_⟩, fun b hb => ?_, fun g hg => h.m0 g (hsub g hg)⟩
  · subst e; exact (List.nodup_cons.1 hnd).1 (mem_blks hx hg)
  · rw [hother b fun e => by have := h.fresh D hDm; omega]; exact h.below.block b hb
  · have := h.msk b (hb.imp id (hsub b)); simpa using this
theorem Lead.ofM {F : Fence} {m : Nat} {fn : Func} {R : Ending → World → Prop} (h : Lead w0 M0 n bs st .ret (bodyPost P fn R)) : Lead w0 M0 n bs st .ret (bodyPostM F m P fn R) := fun a w hok => by
  obtain ⟨h1, h2⟩ := h a w hok
  show LeavesInM F m P fn a.tmps R a.defers .returning w
  rw [h1]
  exact h2
theorem Lead.mk {F : Fence} {m D : Nat} {fn : Func} {R : Ending → World → Prop} (h : Lead w0 M0 n bs st .ret (bodyPostM F m P fn R)) : Lead w0 M0 n (.d D :: bs) st .ret (bodyPostM F m P fn R) := fun a w hok => by
  have hD : w.heap[D]? = some (.deferred (some [])) := hok.boxes (.d D) List.mem_cons_self
  have h1 := h _ _ hok.take
  have e : a.defers = { target := .collected D, args := #[] } :: defs bs := hok.defers
  show LeavesInM F m P fn a.tmps R a.defers .returning w
  rw [e]
  exact ⟨by simp, .inl ⟨D, _, rfl, run_takeDeferred hD, h1⟩⟩
theorem PureC.of_wpM {f : FuncId} {fn : Func} {c : Code} {args : List Rp} {res : Rp} (hf : P.funcs[f]? = some fn) (hname : (fn.name == "runtime.NumGoroutine") = false) (hb : fn.body = some c)
    (hn : fn.ntmps = n) (hl : args.length ≤ n) (h : ∀ w0 M0, WP P w0 M0 n [] (argst 0 args) c (bodyPostM Fence.wide 2 P fn (Post res w0 M0))) : PureC P f args res := by
  refine ⟨enters_of hf hname hb, fun w M vs hm hvs => (callsIn_wide (n := 2)).1 (callsIn_of_wp_marks hf hb trivial (wpIn_wide.2 (h w M _ _ ⟨rfl, ?_, ?_, by simp, List.nodup_nil, fun _ h => (by cases h), Below.refl _ _, fun b hb => ?_, fun _ h => (by cases h)⟩)) rfl)⟩
  · have := TupAll.length hvs
    simp; omega
  · intro t R ht
    obtain ⟨v, h1, h2, h3⟩ := look_argst hvs t R ht
    have h4 : (vs.toArray ++ Array.replicate (fn.ntmps - vs.toArray.size) undef).getD t undef = v := by
      have hlt := (List.getElem?_eq_some_iff.1 h2).1
      simp only [Nat.sub_zero] at h2 hlt
      rw [Array.getD_eq_getD_getElem?, Array.getElem?_append_left (by simpa using hlt)]
      simp [h2]
    show R.h ((vs.toArray ++ Array.replicate (fn.ntmps - vs.toArray.size) undef).getD t undef) w _
    rw [h4]
    exact R.keep h3 (Kp.less w fun b hb => hb.elim id fun h => by cases h)
  · rcases hb with hb | hb
    · exact hm b hb
    · cases hb
theorem blks_hide (H : List Nat) : ∀ (bs : List Box) (i : Nat), blks (hideB H bs i) = blks bs
  | [], _ => rfl
  | x :: bs, i => by
    have ih := blks_hide H bs (i + 1)
    have e : (if H.contains i then hideBox x else x).blk = x.blk := by split <;> cases x <;> rfl
    unfold blks at *
    simp only [hideB, List.filterMap_cons, e, ih]
theorem defs_hide (H : List Nat) : ∀ (bs : List Box) (i : Nat), defs (hideB H bs i) = defs bs
  | [], _ => rfl
  | x :: bs, i => by
    have ih := defs_hide H bs (i + 1)
    have e : (if H.contains i then hideBox x else x).mark = x.mark := by split <;> cases x <;> rfl
    unfold defs at *
    simp only [hideB, List.filterMap_cons, e, ih]
/-- what some boxes hold is forgotten -/
theorem WP.forget (H : List Nat) {c : Code} (h : WP P w0 M0 n (hideB H bs) st c Q) : WP P w0 M0 n bs st c Q := fun a w hok => h a w (by
  have hm : mkM M0 (hideB H bs) = mkM M0 bs := by unfold mkM; rw [blks_hide]
  refine ⟨hok.defers.trans (defs_hide H bs 0).symm, hok.size, fun t R ht => by rw [hm]; exact hok.facts t R ht, ?_, by rw [blks_hide]; exact hok.nodup, fun g hg => hok.fresh g (by rwa [blks_hide] at hg), hok.below, fun b hb => hok.msk b (by rwa [hm] at hb), fun g hg => hok.m0 g (by rwa [blks_hide] at hg)⟩
  rw [hm]
  exact Hid.hide H bs w _ hok.boxes)
/-- the length of an own row -/
theorem lenr (i : Nat) {lk : Nat → Option Rp} {T ty e : TypeId} {sz k : Nat} {v : Value} {rs : List Rp} {x : Operand} (hb : bs[i]? = some (.r v e sz k rs)) (hT : P.underlying T = some (.slice e)) (hx : OF lk x (val v)) : OpG P bs lk (.call ⟨.builtin .len, #[x], #[T]⟩) ty (val (.int .i64 (k : Int))) := OpG.pure fun σ w M hf hbx => by
  have h1 : ev σ x = v := hx σ w M (hf x (by simp [Op.operands, Call.operands]))
  obtain ⟨cs, ⟨_, h2⟩, _⟩ := hbx _ (List.mem_of_getElem? hb)
  have hs : ∃ A c, v = .slice A k c := by
    rcases h2 with ⟨rfl, rfl⟩ | ⟨g, cap, cur, rfl, _⟩
    · exact ⟨_, _, rfl⟩
    · exact ⟨_, _, rfl⟩
  obtain ⟨A, c, rfl⟩ := hs
  exact ⟨_, by simp [execOp, resolve, invoke, builtin, Builtin.len_, h1, run_underlying hT, goInt], rfl⟩

/-! ### steps inside a round -/
variable {r m : Nat} {ops : Array Oper} {l : List Oper}
theorem WLI.op {d : Nat} {op : Op} {ty : TypeId} {pos : String} {af : Array Edge} {R : Rp} (h : OpG P bs (look st) op ty R) (hd : d < n) (rest : WLI P r m w0 M0 n bs ((d, R) :: st) ops l Q) (hf : ∀ c, op ≠ .defer c := by intro c h; cases h) :
    WLI P r m w0 M0 n bs st ops (⟨some d, op, ty, pos, af, none⟩ :: l) Q :=
  WLI.of (β := Unit) (bx := fun _ => bs) (sx := fun _ => (d, R) :: st) (C := fun _ => True) hf (WL.op h hd (WL.nl fun a w hok => ⟨rfl, (), trivial, hok⟩)) fun _ _ => rest
theorem WLI.alloc {d : Nat} {T ty : TypeId} {pos : String} {af : Array Edge} {cs : List Value} (hz : zeros P T = some cs) (h1 : cs.all (·.oneCell') = true) (hd : d < n)
    (rest : ∀ b, WLI P r m w0 M0 n (.b b T (cs.map val) :: bs) ((d, val (.pointer (some ⟨b, 0, none⟩))) :: st) ops l Q) : WLI P r m w0 M0 n bs st ops (⟨some d, .alloc T, ty, pos, af, none⟩ :: l) Q :=
  WLI.of (β := Nat) (bx := fun b => .b b T (cs.map val) :: bs) (sx := fun b => (d, val (.pointer (some ⟨b, 0, none⟩))) :: st) (C := fun _ => True) (by intro c h; cases h) (WL.alloc hz h1 hd fun b => WL.nl fun a w hok => ⟨rfl, b, trivial, hok⟩) fun b _ => rest b
theorem WLI.store (i : Nat) {T ty bt : TypeId} {x y : Operand} {pos : String} {af : Array Edge} {R : Rp} {b o k : Nat} {rs rs' : List Rp} (hb : bs[i]? = some (.b b bt rs)) (hx : OF (look st) x (val (.pointer (some ⟨b, o, none⟩)))) (hy : OF (look st) y R) (hfl : Flat R rs')
    (hm : sizeT P T = some k) (hl : rs'.length = k) (hr : o + k ≤ rs.length) (rest : WLI P r m w0 M0 n (bs.set i (.b b bt (setAt rs o rs'))) st ops l Q) : WLI P r m w0 M0 n bs st ops (⟨none, .store T x y, ty, pos, af, none⟩ :: l) Q :=
  WLI.of (β := Unit) (bx := fun _ => bs.set i (.b b bt (setAt rs o rs'))) (sx := fun _ => st) (C := fun _ => True) (by intro c h; cases h) (WL.store i hb hx hy hfl hm hl hr (WL.nl fun a w hok => ⟨rfl, (), trivial, hok⟩)) fun _ _ => rest
theorem WLI.app {α : Type} (i : Nat) {T ty e : TypeId} {sz bytes k d : Nat} {v : Value} {x y : Operand} {pos : String} {af : Array Edge} {rs : List Rp} {f : α → List Rp} {xs : List α} (hb : bs[i]? = some (.r v e sz k rs)) (hT : elemInfo P T = some (e, sz, bytes, sz)) (hsz : 0 < sz) (hx : OF (look st) x (val v)) (hy : OF (look st) y (sl sz f xs)) (hne : xs ≠ []) (hf : ∀ x, (f x).length = sz)
    (hl : k + xs.length ≤ 9223372036854775807) (hby : (k + xs.length) * bytes ≤ 140737488355328) (hd : d < n)
    (rest : ∀ v' : Value, v'.oneCell' = true → WLI P r m w0 M0 n (bs.set i (.r v' e sz (k + xs.length) (rs ++ xs.flatMap f))) ((d, val v') :: st) ops l Q) :
    WLI P r m w0 M0 n bs st ops (⟨some d, .call ⟨.builtin .append, #[x, y], #[T, T]⟩, ty, pos, af, none⟩ :: l) Q :=
  WLI.of (β := Value) (bx := fun v' => bs.set i (.r v' e sz (k + xs.length) (rs ++ xs.flatMap f))) (sx := fun v' => (d, val v') :: st) (C := fun v' => v'.oneCell' = true) (by intro c h; cases h) (WL.app i hb hT hsz hx hy hne hf hl hby hd fun v' h' => WL.nl fun a w hok => ⟨rfl, v', h', hok⟩) fun v' h' => rest v' h'
end
end Go.Fw

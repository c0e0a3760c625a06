/- Parts: Fwy, Fwz, Fwm, Fwn, Fwq. -/
import Derived.Test.YtjglgfnhgehpeaaGreatYd
import Derived.RangeFuncNested
import Derived.Laws.Slices
import Derived.Laws.MakeOwn
import Derived.Laws.CopyRow
import Derived.Laws.IdiomCopy
/- A range over a function, as one step of the small logic. No program in sight. -/
namespace Go.Fw
open Go.RowKit Go.Proofs
set_option linter.unusedVariables false
set_option linter.unusedSimpArgs false
def up (w : World) (M : Mask) : Mask := fun b => M b ∨ w.heap.size ≤ b
abbrev KM (M : Mask) (W W' : World) : Prop := Kp W M W' M
def Pl (R : Rp) : Prop := ∀ v w M w' M', R.h v w M → R.h v w' M'
def PlB : Box → Prop
  | .b _ _ rs => ∀ R ∈ rs, Pl R
  | .r _ _ _ _ rs => ∀ R ∈ rs, Pl R
  | .d _ => False
  | .m _ _ => False
theorem Pl.val (v : Value) : Pl (val v) := fun _ _ _ _ _ h => h
theorem All2.pl {w w' : World} {M M' : Mask} : ∀ {rs : List Rp} {cs : List Value}, (∀ R ∈ rs, Pl R) → All2 w M rs cs → All2 w' M' rs cs
  | [], [], _, _ => trivial
  | R :: rs, c :: cs, hp, h => ⟨⟨hp R List.mem_cons_self _ _ _ _ _ h.1.1, h.1.2⟩, All2.pl (fun R' hR => hp R' (List.mem_cons_of_mem _ hR)) h.2⟩
theorem BoxOk.cells {w : World} {M : Mask} {x : Box} (h : BoxOk w M x) (hp : PlB x) {g : Nat} (hg : x.blk = some g) : ∃ o : Obj, w.heap[g]? = some o ∧ o.isCells = true := by
  cases x with
  | b g' T rs => obtain ⟨cs, h1, _⟩ := h; cases hg; exact ⟨_, h1, rfl⟩
  | r v e sz n rs =>
    obtain ⟨cs, ⟨_, h1⟩, _⟩ := h
    rcases h1 with ⟨rfl, _⟩ | ⟨g', cap, cur, rfl, _, h2, _⟩
    · cases hg
    · cases hg; exact ⟨_, h2, rfl⟩
  | d D => exact hp.elim
  | m g kv => exact hp.elim
theorem BoxOk.pl {w w' : World} {M M' : Mask} {x : Box} (h : BoxOk w M x) (hp : PlB x) (hb : ∀ g, x.blk = some g → w'.heap[g]? = w.heap[g]?) : BoxOk w' M' x := by
  cases x with
  | b g T rs => obtain ⟨cs, h1, h2⟩ := h; exact ⟨cs, (hb g rfl).trans h1, h2.pl hp⟩
  | r v e sz n rs =>
    obtain ⟨cs, ⟨h0, h1⟩, h2⟩ := h
    refine ⟨cs, ⟨h0, h1.imp id ?_⟩, h2.pl hp⟩
    rintro ⟨g, cap, cur, rfl, g1, g2, g3⟩
    exact ⟨g, cap, cur, rfl, g1, (hb g rfl).trans g2, g3⟩
  | d D => exact hp.elim
  | m g kv => exact hp.elim
theorem PlB.mark {x : Box} (h : PlB x) : x.mark = none := by cases x with | d D => exact h.elim | _ => rfl
structure Bt (w0 : World) (M0 : Mask) (w : World) (bs0 bs : List Box) (W : World) : Prop where
  boxes : ∀ x ∈ bs, BoxOk W (up w (mkM M0 bs0)) x
  plain : ∀ x ∈ bs, PlB x
  nodup : (blks bs).Nodup
  fresh : ∀ g ∈ blks bs, w0.heap.size ≤ g
  inM : ∀ g ∈ blks bs, up w (mkM M0 bs0) g
  m0 : ∀ g ∈ blks bs, ¬ M0 g
  below : Below w0.heap.size w0 W
  kept : KM (up w (mkM M0 bs0)) w W
section
variable {P : Program} {w0 : World} {M0 : Mask} {n : Nat} {bs0 bs : List Box} {st : St} {w W : World}
theorem Bt.start {a : Act} (h : Ok w0 M0 n bs st a w) (hp : ∀ x ∈ bs, PlB x) : Bt w0 M0 w bs bs w :=
  ⟨fun x hx => (h.boxes x hx).pl (hp x hx) fun _ _ => rfl, hp, h.nodup, h.fresh, fun g hg => .inl (.inr hg), h.m0, h.below, Kp.refl _ _⟩
theorem Bt.grown (h : Bt w0 M0 w bs0 bs W) (hw : w0.heap.size ≤ w.heap.size) {W' : World} {row : Option Nat} (hg : W.grownBy W' row) (hr : ∀ r, row = some r → w.heap.size ≤ r ∧ ∃ o : Obj, W.heap[r]? = some o ∧ o.isCells = false) : Bt w0 M0 w bs0 bs W' := by
  have hb : Below w.heap.size W W' := (Below.refl _ W).grown hg (by have := h.kept.size; omega) fun k e => (hr k e).1
  have hsame : ∀ x ∈ bs, ∀ g, x.blk = some g → W'.heap[g]? = W.heap[g]? := fun x hx g hxg => by
    obtain ⟨o, h1, h2⟩ := (h.boxes x hx).cells (h.plain x hx) hxg
    refine hg.block g (Array.getElem?_eq_some_iff.1 h1).1 fun e => ?_
    obtain ⟨_, o', h3, h4⟩ := hr g e.symm
    rw [h1] at h3; cases h3; rw [h2] at h4; cases h4
  refine ⟨fun x hx => (h.boxes x hx).pl (h.plain x hx) (hsame x hx), h.plain, h.nodup, h.fresh, h.inM, h.m0, h.below.trans (hb.mono hw), h.kept.trans ⟨fun b hb' hm => ?_, hb.size, fun b hb' => .inl hb'⟩⟩
  exact hb.block b (Nat.lt_of_not_le fun hle => hm (.inr hle))
def M1 (w : World) (M : Mask) (bs : List Box) (W : World) : Mask := fun b => up w M b ∧ b < W.heap.size ∧ b ∉ blks bs ∧ ∃ o : Obj, W.heap[b]? = some o ∧ o.isCells = true
theorem Bt.mask (h : Bt w0 M0 w bs0 bs W) {b : Nat} (hb : mkM (M1 w (mkM M0 bs0) bs W) bs b) : up w (mkM M0 bs0) b ∧ b < W.heap.size ∧ ∃ o : Obj, W.heap[b]? = some o ∧ o.isCells = true := by
  rcases hb with ⟨h1, h2, _, h3⟩ | hb
  · exact ⟨h1, h2, h3⟩
  · obtain ⟨x, hx, e⟩ := List.mem_filterMap.1 hb
    obtain ⟨o, g1, g2⟩ := (h.boxes x hx).cells (h.plain x hx) e
    exact ⟨h.inM b hb, (Array.getElem?_eq_some_iff.1 g1).1, o, g1, g2⟩
theorem Bt.ok (h : Bt w0 M0 w bs0 bs W) {a' : Act} (hd : a'.defers = []) (hs : a'.tmps.size = n) (hf : ∀ t R, look st t = some R → R.h (a'.tmps.getD t undef) W (mkM (M1 w (mkM M0 bs0) bs W) bs)) : Ok w0 (M1 w (mkM M0 bs0) bs W) n bs st a' W :=
  ⟨hd.trans (defs_none fun x hx => (h.plain x hx).mark).symm, hs, hf, fun x hx => (h.boxes x hx).pl (h.plain x hx) fun _ _ => rfl, h.nodup, h.fresh, h.below, fun b hb => (h.mask hb).2.1, fun g hg hm => hm.2.2.1 hg⟩
theorem Bt.next (h : Bt w0 M0 w bs0 bs W) (hM : ∀ b, M0 b → b < w.heap.size) {bs' : List Box} {a' : Act} {W' : World} (hok : Ok w0 (M1 w (mkM M0 bs0) bs W) n bs' st a' W') (hp : ∀ x ∈ bs', PlB x) (hk : Kp W (mkM (M1 w (mkM M0 bs0) bs W) bs) W' (mkM (M1 w (mkM M0 bs0) bs W) bs')) : Bt w0 M0 w bs0 bs' W' := by
  have hin : ∀ g ∈ blks bs', up w (mkM M0 bs0) g ∧ ¬ M0 g := fun g hg => by
    rcases hk.mask g (.inr hg) with h1 | h1
    · refine ⟨(h.mask h1).1, ?_⟩
      rcases h1 with h1 | h1
      · exact absurd h1 (hok.m0 g hg)
      · exact h.m0 g h1
    · have := h.kept.size
      exact ⟨.inr (by omega), fun hm => by have := hM g hm; omega⟩
  exact ⟨fun x hx => (hok.boxes x hx).pl (hp x hx) fun _ _ => rfl, hp, hok.nodup, hok.fresh, fun g hg => (hin g hg).1, fun g hg => (hin g hg).2, hok.below,
    h.kept.trans ⟨fun b hb hm => hk.block b hb fun hu => hm (h.mask hu).1, hk.size, fun b hb => .inl hb⟩⟩
theorem Bt.keeps (h : Bt w0 M0 w bs0 bs W) {bs' : List Box} {W' : World} (hk : Kp W (mkM (M1 w (mkM M0 bs0) bs W) bs) W' (mkM (M1 w (mkM M0 bs0) bs W) bs')) (B : Nat) : KeepsFrom B W W' := ⟨hk.size, fun j o hB hj hc => by
  rw [hk.block j (Array.getElem?_eq_some_iff.1 hj).1 fun hu => ?_]
  · exact hj
  · obtain ⟨_, _, o', h1, h2⟩ := h.mask hu
    rw [hj] at h1; cases h1; rw [hc] at h2; cases h2⟩

theorem Bt.drop {A : List Box} (h : Bt w0 M0 w bs0 (A ++ bs) W) : Bt w0 M0 w bs0 bs W := by
  have hsub : ∀ g ∈ blks bs, g ∈ blks (A ++ bs) := fun g hg => by unfold blks at *; rw [List.filterMap_append]; exact List.mem_append_right _ hg
  refine ⟨fun x hx => h.boxes x (List.mem_append_right _ hx), fun x hx => h.plain x (List.mem_append_right _ hx), ?_, fun g hg => h.fresh g (hsub g hg), fun g hg => h.inM g (hsub g hg), fun g hg => h.m0 g (hsub g hg), h.below, h.kept⟩
  have := h.nodup
  unfold blks at *
  rw [List.filterMap_append] at this
  exact (List.nodup_append.1 this).2.1
theorem Bt.done {a : Act} (h : Bt w0 M0 w bs0 bs W) (hok : Ok w0 M0 n bs0 st a w) (hp0 : ∀ x ∈ bs0, PlB x) {D : Nat} (hD : w.heap.size ≤ D) (hh : W.heap[D]? = some (.deferred (some []))) :
    Ok w0 M0 n (.d D :: bs) st { a with defers := { target := .collected D, args := #[] } :: a.defers } W := by
  have hlt : D < W.heap.size := (Array.getElem?_eq_some_iff.1 hh).1
  have hM : ∀ b, M0 b → b < w.heap.size := fun b hb => hok.msk b (.inl hb)
  have hk : Kp w (mkM M0 bs0) W (mkM M0 (.d D :: bs)) := ⟨fun b hb hm => h.kept.block b hb fun hu => hu.elim hm fun hle => by omega, h.kept.size, fun b hb => by
    rcases hb with hb | hb
    · exact .inl (.inl hb)
    · rcases (List.mem_cons (l := blks bs)).1 hb with h2 | h2
      · have h2 : b = D := h2
        subst h2; exact .inr hD
      · exact h.inM b h2⟩
  refine ⟨?_, hok.size, fun t R ht => R.keep (hok.facts t R ht) hk, fun x hx => ?_, ?_, fun g hg => ?_, h.below, fun b hb => ?_, fun g hg hm => ?_⟩
  · show _ :: a.defers = _ :: defs bs
    rw [hok.defers, defs_none fun x hx => (hp0 x hx).mark, defs_none fun x hx => (h.plain x hx).mark]
  · rcases List.mem_cons.1 hx with rfl | hx
    · exact hh
    · exact (h.boxes x hx).pl (h.plain x hx) fun _ _ => rfl
  · show (D :: blks bs).Nodup
    refine List.nodup_cons.2 ⟨fun hm => ?_, h.nodup⟩
    obtain ⟨x, hx, e⟩ := List.mem_filterMap.1 hm
    obtain ⟨o, g1, g2⟩ := (h.boxes x hx).cells (h.plain x hx) e
    rw [hh] at g1; cases g1; cases g2
  · rcases (List.mem_cons (l := blks bs)).1 hg with h2 | h2
    · have h2 : g = D := h2
      have := hok.below.size; omega
    · exact h.fresh g h2
  · rcases hb with hb | hb
    · have := hM b hb; have := h.kept.size; omega
    · rcases (List.mem_cons (l := blks bs)).1 hb with h2 | h2
      · have h2 : b = D := h2
        omega
      · obtain ⟨x, hx, e⟩ := List.mem_filterMap.1 h2
        obtain ⟨o, g1, _⟩ := (h.boxes x hx).cells (h.plain x hx) e
        exact (Array.getElem?_eq_some_iff.1 g1).1
  · rcases (List.mem_cons (l := blks bs)).1 hg with h2 | h2
    · have h2 : g = D := h2
      have := hM g hm; omega
    · exact h.m0 g h2 hm
end
def iterR {α : Type} (P : Program) (gf : FuncId) (encs : α → Array Value) (xs : List α) : Rp :=
  ⟨fun v w M => ∃ lb, v = .func (.func gf) #[] lb ∧ Enters P gf ∧ ∀ w' M', Kp w M w' M' → SeqStopsK Fence.wide 1 P gf lb encs (KM (up w' M')) (fun ys => ys = xs) (fun pre => pre <+: xs) xs.length w',
   fun ⟨lb, h1, h2, h3⟩ k => ⟨lb, h1, h2, fun w' M' k' => h3 w' M' (k.trans k')⟩⟩
section
variable {P : Program} {w0 : World} {M0 : Mask} {n : Nat} {bs : List Box} {st : St} {Q : Exit → Act → World → Prop}
def RoundPost {α β : Type} (w0 : World) (Ma : Mask) (n : Nat) (bx : β → List Box) (Iv : List α → β → Prop) (Xv : Code → List α → β → Prop) (pre : List α) (bs1 : List Box) (W : World) : Exit → Act → World → Prop
  | .normal, a, W' => ∃ y st', Iv pre y ∧ Ok w0 Ma n (bx y) st' a W' ∧ Kp W (mkM Ma bs1) W' (mkM Ma (bx y))
  | .ret, a, W' => ∃ y st', Xv .ret pre y ∧ Ok w0 Ma n (bx y) st' a W' ∧ Kp W (mkM Ma bs1) W' (mkM Ma (bx y))
  | .exit id, a, W' => ∃ y st', Xv (.exit id) pre y ∧ Ok w0 Ma n (bx y) st' a W' ∧ Kp W (mkM Ma bs1) W' (mkM Ma (bx y))
  | _, _, _ => False
theorem WP.rangeF {α β ε : Type} {gf : FuncId} {ev : α → Value} {xs : List α} {g p : Nat} {assign body : Code} (hg : look st g = some (iterR P gf (fun x => #[ev x]) xs)) (hp : p < n)
    (bx : β → List Box) (Iv : List α → β → Prop) (Xv : Code → List α → β → Prop) (y0 : β) (h0 : Iv [] y0) (hb : bs = bx y0) (hpl : ∀ y, ∀ x ∈ bx y, PlB x)
    (hdet : ∀ y y' M W, (∀ x ∈ bx y, BoxOk W M x) → (∀ x ∈ bx y', BoxOk W M x) → blks (bx y) = blks (bx y'))
    (st0 : St) (hst0 : ∀ i R, look st0 i = some R → ∃ R', look st i = some R' ∧ ∀ v w M, R'.h v w M → R.h v w M) (hpl0 : ∀ i R, look st0 i = some R → Pl R) (Rx : α → Rp) (hRx : ∀ x w M, (Rx x).h (ev x) w M)
    (ex : α → ε → List Box) (sx : α → ε → St) (hplx : ∀ x e, (∀ b ∈ ex x e, PlB b) ∧ ∀ i R, look (sx x e) i = some R → Pl R)
    (hassign : ∀ (r m : Nat) (pre : List α) (x : α) (y : β) (W : World) (Ma : Mask), Iv pre y → WPI P r m w0 Ma n (bx y) ((p, Rx x) :: st0 ++ [(sinceAt, since W (mkM Ma (bx y)))]) assign
      (fun e a W' => e = .normal ∧ ∃ e' : ε, Ok w0 Ma n (ex x e' ++ bx y) (sx x e') a W' ∧ Kp W (mkM Ma (bx y)) W' (mkM Ma (ex x e' ++ bx y))))
    (hbody : ∀ (r m : Nat) (pre : List α) (x : α) (y : β) (e : ε) (W : World) (Ma : Mask), Iv pre y → pre.length < xs.length → WPI P r m w0 Ma n (ex x e ++ bx y) (sx x e ++ [(sinceAt, since W (mkM Ma (ex x e ++ bx y)))]) body (RoundPost w0 Ma n bx Iv Xv (pre ++ [x]) (ex x e ++ bx y) W))
    (hdone : ∀ D y, Iv xs y → Lead w0 M0 n (.d D :: bx y) st .normal Q)
    (hstop : ∀ D c pre y, pre <+: xs → Xv c pre y → WP P w0 M0 n (.d D :: bx y) st c Q) :
    WP P w0 M0 n bs st (.rangeFunc (.tmp g) #[p] assign body) Q := by
  intro a w hok
  subst hb
  obtain ⟨lb, hv, heg, hseq⟩ := hok.facts g _ hg
  have hw0 : w0.heap.size ≤ w.heap.size := hok.below.size
  have hMw : ∀ b, M0 b → b < w.heap.size := fun b hb => hok.msk b (.inl hb)
  have hupK : ∀ {W W' : World} {bs1 bs' : List Box} (hB : Bt w0 M0 w (bx y0) bs1 W), Kp W (mkM (M1 w (mkM M0 (bx y0)) bs1 W) bs1) W' (mkM (M1 w (mkM M0 (bx y0)) bs1 W) bs') → KM (up w (mkM M0 (bx y0))) W W' := fun hB hk =>
    ⟨fun b hb hm => hk.block b hb fun hu => hm (hB.mask hu).1, hk.size, fun b hb => .inl hb⟩
  have hpl1 : ∀ x e y, ∀ b ∈ ex x e ++ bx y, PlB b := fun x e y b hb => (List.mem_append.1 hb).elim ((hplx x e).1 b) (hpl y b)
  refine (wpIn_wide (n := 2)).1 (wpIn_rangeFunc_ownH (F := Fence.wide) (n := 2) rfl (by decide) (gf := gf) (lb := lb) hv trivial heg (hseq w _ (Kp.refl _ _)) (fun h k => h.trans k) (fun W l o o' hl hW _ _ => ?_) (Below.refl _ _) (fun _ => rfl)
    (fun pre W => ∃ y, Iv pre y ∧ Bt w0 M0 w (bx y0) (bx y) W) (fun c pre W => ∃ y, Xv c pre y ∧ Bt w0 M0 w (bx y0) (bx y) W) (fun pre W W' row ⟨y, h1, h2⟩ hgr hr => ⟨y, h1, h2.grown hw0 hgr hr⟩) (fun c pre W W' row ⟨y, h1, h2⟩ hgr hr => ⟨y, h1, h2.grown hw0 hgr hr⟩)
    ⟨y0, h0, Bt.start hok (hpl y0)⟩
    (fun x a' W => a'.defers = [] ∧ a'.tmps.size = n ∧ ∃ (y : β) (e : ε), (∀ t R, look (sx x e) t = some R → R.h (a'.tmps.getD t undef) W (up w (mkM M0 (bx y0)))) ∧ Bt w0 M0 w (bx y0) (ex x e ++ bx y) W)
    (fun x a' _ W W' row ⟨h1, h2, y, e, h3, h4⟩ hgr hr => ⟨h1, h2, y, e, fun t R ht => (hplx x e).2 t R ht _ _ _ _ _ (h3 t R ht), h4.grown hw0 hgr hr⟩) ?_ ?_ ?_ ?_)
  · -- a block that is no cells may turn
    have hl' := (Array.getElem?_eq_some_iff.1 hW).1
    refine ⟨fun b hb hm => World.putObj_heap_other fun e => hm (.inr (by omega)), by simp, fun b hb => .inl hb⟩
  · -- the loop's variable
    intro l pre x W K ⟨y, h1, h2⟩ hK
    have hok1 := h2.ok (n := n) (st := (p, Rx x) :: st0 ++ [(sinceAt, since W (mkM (M1 w (mkM M0 (bx y0)) (bx y) W) (bx y)))]) (a' := { tmps := a.tmps.setIfInBounds p (ev x), defers := [] }) rfl (by simp [hok.size]) fun t R ht => by
      have hget : (a.tmps.setIfInBounds p (ev x)).getD t undef = if t = p then ev x else a.tmps.getD t undef := getD_put (a := a) (d := p) (by rw [hok.size]; exact hp) t
      simp only [List.cons_append, look] at ht
      show R.h ((a.tmps.setIfInBounds p (ev x)).getD t undef) W _
      rw [hget]
      split at ht
      · rename_i e; cases ht; rw [if_pos e]; exact hRx x _ _
      · rename_i e
        rw [if_neg e]
        rw [look_app] at ht
        cases hq : look st0 t with
        | some R' =>
          rw [hq] at ht; cases ht
          obtain ⟨R', g1, g2⟩ := hst0 t R hq
          exact hpl0 t R hq _ _ _ _ _ (g2 _ _ _ (hok.facts t R' g1))
        | none =>
          rw [hq] at ht
          simp only [Option.none_or, look] at ht
          split at ht
          · cases ht; exact Kp.refl _ _
          · cases ht
    have e0 : #[p].zip #[ev x] = #[(p, ev x)] := by simp
    rw [e0]
    show assign.wpIn (Fence.wide.inRound l) (2 - 1 - 1) P _ { tmps := a.tmps.setIfInBounds p (ev x), defers := [] } W
    refine Code.wpIn_mono (fun e a' W' q => ?_) (hassign l _ pre x y W _ h1 _ _ hok1)
    obtain ⟨rfl, e', q1, q2⟩ := q
    have hB := h2.next hMw q1 (hpl1 x e' y) q2
    refine hK a' W' (h2.keeps q2 _) (hupK h2 q2) ⟨y, h1, hB.drop⟩ ⟨q1.defers.trans (defs_none fun b hb => (hpl1 x e' y b hb).mark), q1.size, y, e', fun t R ht => (hplx x e').2 t R ht _ _ _ _ _ (q1.facts t R ht), hB⟩
  · -- the body
    intro l pre x a' W _ _ ⟨y, h1, h2⟩ ⟨g1, g2, y', e, g3, g4⟩ hlen
    have hbl := hdet y y' _ W h2.boxes (fun b hb => g4.boxes b (List.mem_append_right _ hb))
    have hE : blks (ex x e ++ bx y) = blks (ex x e ++ bx y') := by unfold blks at *; rw [List.filterMap_append, List.filterMap_append, hbl]
    have hB : Bt w0 M0 w (bx y0) (ex x e ++ bx y) W := ⟨fun b hb => (List.mem_append.1 hb).elim (fun h => g4.boxes b (List.mem_append_left _ h)) (h2.boxes b), hpl1 x e y, by rw [hE]; exact g4.nodup, fun g hg => g4.fresh g (hE ▸ hg), fun g hg => g4.inM g (hE ▸ hg), fun g hg => g4.m0 g (hE ▸ hg), g4.below, g4.kept⟩
    have hok1 := hB.ok (n := n) (st := sx x e ++ [(sinceAt, since W (mkM (M1 w (mkM M0 (bx y0)) (ex x e ++ bx y) W) (ex x e ++ bx y)))]) g1 g2 fun t R ht => by
      rw [look_app] at ht
      cases hq : look (sx x e) t with
      | some R' => rw [hq] at ht; cases ht; exact (hplx x e).2 t R hq _ _ _ _ _ (g3 t R hq)
      | none =>
        rw [hq] at ht
        simp only [Option.none_or, look] at ht
        split at ht
        · cases ht; exact Kp.refl _ _
        · cases ht
    refine Code.wpIn_mono (fun ee a'' W'' q => ?_) (hbody l _ pre x y e W _ h1 hlen _ _ hok1)
    cases ee with
    | normal =>
      obtain ⟨y'', st', q0, q1, q2⟩ := q
      exact ⟨hB.keeps q2 _, hupK hB q2, y'', q0, hB.next hMw q1 (hpl y'') q2⟩
    | ret =>
      obtain ⟨y'', st', q0, q1, q2⟩ := q
      exact ⟨hB.keeps q2 _, y'', q0, hB.next hMw q1 (hpl y'') q2⟩
    | exit id =>
      obtain ⟨y'', st', q0, q1, q2⟩ := q
      exact ⟨hB.keeps q2 _, y'', q0, hB.next hMw q1 (hpl y'') q2⟩
    | _ => exact (q : False).elim
  · intro D ys W hD hys ⟨y, h1, h2⟩ hh
    subst hys
    exact hdone D y h1 _ _ (h2.done hok (hpl y0) hD hh)
  · intro D c pre W hD hpre ⟨y, h1, h2⟩ hh
    exact wpIn_wide.2 (hstop D c pre y hpre h1 _ _ (h2.done hok (hpl y0) hD hh))

theorem Ok.take {D : Nat} {a : Act} {w : World} (h : Ok w0 M0 n (.d D :: bs) st a w) : Ok w0 M0 n bs st { a with defers := defs bs } (w.putObj D (.deferred none)) := by
  have hDm : D ∈ blks (.d D :: bs) := List.mem_cons_self
  have hsub : ∀ g, g ∈ blks bs → g ∈ blks (.d D :: bs) := fun g hg => List.mem_cons_of_mem _ hg
  have hnd : (D :: blks bs).Nodup := h.nodup
  have hother : ∀ b, b ≠ D → (w.putObj D (.deferred none)).heap[b]? = w.heap[b]? := fun b hb => World.putObj_heap_other hb
  have hk : Kp w (mkM M0 (.d D :: bs)) (w.putObj D (.deferred none)) (mkM M0 bs) := ⟨fun b _ hm => hother b fun e => hm (by rw [e]; exact .inr hDm), by simp, fun b hb => .inl (hb.imp id (hsub b))⟩
  refine ⟨rfl, h.size, fun t R ht => R.keep (h.facts t R ht) hk, fun x hx => (h.boxes x (List.mem_cons_of_mem _ hx)).same (fun g hg _ => hother g fun e => ?_) hk, (List.nodup_cons.1 hnd).2, fun g hg => h.fresh g (hsub g hg), ⟨h.below.os, h.below.tape, h.below.output, by simpa using h.below.size, fun b hb => ?_⟩, fun b hb => ?_, fun g hg => h.m0 g (hsub g hg)⟩
  · subst e; exact (List.nodup_cons.1 hnd).1 (mem_blks hx hg)
  · rw [hother b fun e => by have := h.fresh D hDm; omega]; exact h.below.block b hb
  · have := h.msk b (hb.imp id (hsub b)); simpa using this
theorem Lead.ofM {F : Fence} {m : Nat} {fn : Func} {R : Ending → World → Prop} (h : Lead w0 M0 n bs st .ret (bodyPost P fn R)) : Lead w0 M0 n bs st .ret (bodyPostM F m P fn R) := fun a w hok => by
  obtain ⟨h1, h2⟩ := h a w hok
  show LeavesInM F m P fn a.tmps R a.defers .returning w
  rw [h1]
  exact h2
theorem Lead.mk {F : Fence} {m D : Nat} {fn : Func} {R : Ending → World → Prop} (h : Lead w0 M0 n bs st .ret (bodyPostM F m P fn R)) : Lead w0 M0 n (.d D :: bs) st .ret (bodyPostM F m P fn R) := fun a w hok => by
  have hD : w.heap[D]? = some (.deferred (some [])) := hok.boxes (.d D) List.mem_cons_self
  have h1 := h _ _ hok.take
  have e : a.defers = { target := .collected D, args := #[] } :: defs bs := hok.defers
  show LeavesInM F m P fn a.tmps R a.defers .returning w
  rw [e]
  exact ⟨by simp, .inl ⟨D, _, rfl, run_takeDeferred hD, h1⟩⟩
theorem PureC.of_wpM {f : FuncId} {fn : Func} {c : Code} {args : List Rp} {res : Rp} (hf : P.funcs[f]? = some fn) (hname : (fn.name == "runtime.NumGoroutine") = false) (hb : fn.body = some c)
    (hn : fn.ntmps = n) (hl : args.length ≤ n) (h : ∀ w0 M0, WP P w0 M0 n [] (argst 0 args) c (bodyPostM Fence.wide 2 P fn (Post res w0 M0))) : PureC P f args res := by
  refine ⟨enters_of hf hname hb, fun w M vs hm hvs => (callsIn_wide (n := 2)).1 (callsIn_of_wp_marks hf hb trivial (wpIn_wide.2 (h w M _ _ ⟨rfl, ?_, ?_, by simp, List.nodup_nil, fun _ h => (by cases h), Below.refl _ _, fun b hb => ?_, fun _ h => (by cases h)⟩)) rfl)⟩
  · have := TupAll.length hvs
    simp; omega
  · intro t R ht
    obtain ⟨v, h1, h2, h3⟩ := look_argst hvs t R ht
    have h4 : (vs.toArray ++ Array.replicate (fn.ntmps - vs.toArray.size) undef).getD t undef = v := by
      have hlt := (List.getElem?_eq_some_iff.1 h2).1
      simp only [Nat.sub_zero] at h2 hlt
      rw [Array.getD_eq_getD_getElem?, Array.getElem?_append_left (by simpa using hlt)]
      simp [h2]
    show R.h ((vs.toArray ++ Array.replicate (fn.ntmps - vs.toArray.size) undef).getD t undef) w _
    rw [h4]
    exact R.keep h3 (Kp.less w fun b hb => hb.elim id fun h => by cases h)
  · rcases hb with hb | hb
    · exact hm b hb
    · cases hb
theorem lenr (i : Nat) {lk : Nat → Option Rp} {T ty e : TypeId} {sz k : Nat} {v : Value} {rs : List Rp} {x : Operand} (hb : bs[i]? = some (.r v e sz k rs)) (hT : P.underlying T = some (.slice e)) (hx : OF lk x (val v)) : OpG P bs lk (.call ⟨.builtin .len, #[x], #[T]⟩) ty (val (.int .i64 (k : Int))) := OpG.pure fun σ w M hf hbx => by
  have h1 : ev σ x = v := hx σ w M (hf x (by simp [Op.operands, Call.operands]))
  obtain ⟨cs, ⟨_, h2⟩, _⟩ := hbx _ (List.mem_of_getElem? hb)
  have hs : ∃ A c, v = .slice A k c := by
    rcases h2 with ⟨rfl, rfl⟩ | ⟨g, cap, cur, rfl, _⟩
    · exact ⟨_, _, rfl⟩
    · exact ⟨_, _, rfl⟩
  obtain ⟨A, c, rfl⟩ := hs
  exact ⟨_, by simp [execOp, resolve, invoke, builtin, Builtin.len_, h1, run_underlying hT, goInt], rfl⟩

variable {r m : Nat} {ops : Array Oper} {l : List Oper}
theorem WLI.op {d : Nat} {op : Op} {ty : TypeId} {pos : String} {af : Array Edge} {R : Rp} (h : OpG P bs (look st) op ty R) (hd : d < n) (rest : WLI P r m w0 M0 n bs ((d, R) :: st) ops l Q) (hf : ∀ c, op ≠ .defer c := by intro c h; cases h) :
    WLI P r m w0 M0 n bs st ops (⟨some d, op, ty, pos, af, none⟩ :: l) Q :=
  WLI.of (β := Unit) (bx := fun _ => bs) (sx := fun _ => (d, R) :: st) (C := fun _ => True) hf (WL.op h hd (WL.nl fun a w hok => ⟨rfl, (), trivial, hok⟩)) fun _ _ => rest
theorem WLI.alloc {d : Nat} {T ty : TypeId} {pos : String} {af : Array Edge} {cs : List Value} (hz : zeros P T = some cs) (h1 : cs.all (·.oneCell') = true) (hd : d < n)
    (rest : ∀ b, WLI P r m w0 M0 n (.b b T (cs.map val) :: bs) ((d, val (.pointer (some ⟨b, 0, none⟩))) :: st) ops l Q) : WLI P r m w0 M0 n bs st ops (⟨some d, .alloc T, ty, pos, af, none⟩ :: l) Q :=
  WLI.of (β := Nat) (bx := fun b => .b b T (cs.map val) :: bs) (sx := fun b => (d, val (.pointer (some ⟨b, 0, none⟩))) :: st) (C := fun _ => True) (by intro c h; cases h) (WL.alloc hz h1 hd fun b => WL.nl fun a w hok => ⟨rfl, b, trivial, hok⟩) fun b _ => rest b
theorem WLI.store (i : Nat) {T ty bt : TypeId} {x y : Operand} {pos : String} {af : Array Edge} {R : Rp} {b o k : Nat} {rs rs' : List Rp} (hb : bs[i]? = some (.b b bt rs)) (hx : OF (look st) x (val (.pointer (some ⟨b, o, none⟩)))) (hy : OF (look st) y R) (hfl : Flat R rs')
    (hm : sizeT P T = some k) (hl : rs'.length = k) (hr : o + k ≤ rs.length) (rest : WLI P r m w0 M0 n (bs.set i (.b b bt (setAt rs o rs'))) st ops l Q) : WLI P r m w0 M0 n bs st ops (⟨none, .store T x y, ty, pos, af, none⟩ :: l) Q :=
  WLI.of (β := Unit) (bx := fun _ => bs.set i (.b b bt (setAt rs o rs'))) (sx := fun _ => st) (C := fun _ => True) (by intro c h; cases h) (WL.store i hb hx hy hfl hm hl hr (WL.nl fun a w hok => ⟨rfl, (), trivial, hok⟩)) fun _ _ => rest
theorem WLI.app {α : Type} (i : Nat) {T ty e : TypeId} {sz bytes k d : Nat} {v : Value} {x y : Operand} {pos : String} {af : Array Edge} {rs : List Rp} {f : α → List Rp} {xs : List α} (hb : bs[i]? = some (.r v e sz k rs)) (hT : elemInfo P T = some (e, sz, bytes, sz)) (hsz : 0 < sz) (hx : OF (look st) x (val v)) (hy : OF (look st) y (sl sz f xs)) (hne : xs ≠ []) (hf : ∀ x, (f x).length = sz)
    (hl : k + xs.length ≤ 9223372036854775807) (hby : (k + xs.length) * bytes ≤ 140737488355328) (hd : d < n)
    (rest : ∀ v' : Value, v'.oneCell' = true → WLI P r m w0 M0 n (bs.set i (.r v' e sz (k + xs.length) (rs ++ xs.flatMap f))) ((d, val v') :: st) ops l Q) :
    WLI P r m w0 M0 n bs st ops (⟨some d, .call ⟨.builtin .append, #[x, y], #[T, T]⟩, ty, pos, af, none⟩ :: l) Q :=
  WLI.of (β := Value) (bx := fun v' => bs.set i (.r v' e sz (k + xs.length) (rs ++ xs.flatMap f))) (sx := fun v' => (d, val v') :: st) (C := fun v' => v'.oneCell' = true) (by intro c h; cases h) (WL.app i hb hT hsz hx hy hne hf hl hby hd fun v' h' => WL.nl fun a w hok => ⟨rfl, v', h', hok⟩) fun v' h' => rest v' h'
end
end Go.Fw

/- Calls that hand back a row of their own making. No program in sight. -/
namespace Go.Fw
open Go.RowKit Go.Proofs
set_option linter.unusedVariables false
set_option linter.unusedSimpArgs false
section
variable {P : Program} {w0 : World} {M0 : Mask} {n : Nat} {bs : List Box} {st : St} {ops : Array Oper} {l : List Oper} {Q : Exit → Act → World → Prop}
def NewPost (w0 : World) (M0 : Mask) (e : TypeId) (sz k : Nat) (rs : List Rp) : Ending → World → Prop := fun en w' => ∃ v, en = .returned v ∧ v.oneCell' = true ∧ Mem w0 M0 [.r v e sz k rs] w'
def NewC (P : Program) (f : FuncId) (args : List Rp) (e : TypeId) (sz k : Nat) (rs : List Rp) : Prop := Enters P f ∧ ∀ (w : World) (M : Mask) (vs : List Value), (∀ b, M b → b < w.heap.size) → TupAll w M args vs → Calls P f vs.toArray w (NewPost w M e sz k rs)
theorem NewC.of_wp {f : FuncId} {fn : Func} {c : Code} {args : List Rp} {e : TypeId} {sz k : Nat} {rs : List Rp} (hf : P.funcs[f]? = some fn) (hname : (fn.name == "runtime.NumGoroutine") = false) (hb : fn.body = some c)
    (hn : fn.ntmps = n) (hl : args.length ≤ n) (h : ∀ w0 M0, WP P w0 M0 n [] (argst 0 args) c (bodyPost P fn (NewPost w0 M0 e sz k rs))) : NewC P f args e sz k rs := by
  refine ⟨enters_of hf hname hb, fun w M vs hm hvs => ?_⟩
  refine calls_lent (bs := []) hf hb hn hl (w0 := w) (M0 := M) ⟨by simp, List.nodup_nil, fun _ h => (by cases h), Below.refl _ _, fun b hb => hm b (hb.elim id fun h => by cases h), fun _ h => (by cases h)⟩
    (hvs.keep (Kp.less w fun b hb => hb.elim id fun h => by cases h)) fun a w' hok => ?_
  refine h w M a w' ⟨hok.defers, hok.size, fun t R ht => hok.facts t R ?_, hok.boxes, hok.nodup, hok.fresh, hok.below, hok.msk, hok.m0⟩
  rw [look_app, ht]; rfl
theorem Lead.new {fn : Func} {e : TypeId} {sz m i : Nat} {rs : List Rp} {v : Value} (hr : fn.results = #[.tmp i]) (hs : look st i = some (val v)) (hv : v.oneCell' = true) (k : Nat) (hb : bs.drop k = [.r v e sz m rs]) (hx : noMark (bs.take k) = true := by rfl) (hd : defs bs = [] := by rfl) :
    Lead w0 M0 n bs st .ret (bodyPost P fn (NewPost w0 M0 e sz m rs)) := fun a w' hok => by
  have h1 := hok.drop k hx
  rw [hb] at h1
  have h2 : a.tmps.getD i undef = v := h1.facts i _ hs
  exact ⟨hok.defers.trans hd, _, results_tmp hr _ _ _, _, rfl, by rw [h2]; exact hv, by rw [h2]; exact h1.mem⟩
theorem WL.new {f : FuncId} {xs : List Operand} {Rs rs : List Rp} {ats : Array TypeId} {e : TypeId} {sz k d : Nat} {ty : TypeId} {pos : String} {af : Array Edge} (hc : NewC P f Rs e sz k rs) (hx : OFs (look st) xs Rs) (hd : d < n)
    (rest : ∀ v : Value, v.oneCell' = true → WL P w0 M0 n (.r v e sz k rs :: bs) ((d, val v) :: st) ops l Q) : WL P w0 M0 n bs st ops (⟨some d, .call ⟨.value (.func f), xs.toArray, ats⟩, ty, pos, af, none⟩ :: l) Q := by
  intro a w hok
  refine wpList_plain rfl fun K hK => wp_of_does rfl ?_
  rw [exec_eq, run_callF hc.1 (Rs := Rs) a w]
  refine Calls.mono (hc.2 w (mkM M0 bs) _ hok.msk (hx.ok hok)) ?_
  rintro en w' ⟨v, rfl, hv, hm⟩
  refine ⟨v, rfl, hK _ _ (rest v hv _ _ ?_)⟩
  have hok' := (hok.new hm).2
  exact hok'.setFact hd rfl
theorem run_append_zero (w : World) {base size k : Nat} {v : Value} {xs : List Value} {T ty e : TypeId} {i : TypeInfo} (ht : P.underlying T = some (.slice e)) (hi : P.info? e = some i) (hown : w.ownsRow base e size v k xs) (A : Option Addr) (c : Nat) :
    (Builtin.append_ #[T, T] ty #[v, .slice A 0 c]).run P w = .ok v w := by
  rcases hown.2 with ⟨rfl, rfl⟩ | ⟨g, cap, cur, rfl, _, _, hnc, _⟩
  · cases A <;> simp [Builtin.append_, run_underlying ht, sizeOf, typeInfo, hi, Builtin.lenOf, Builtin.firstCells, loadCells, loadCellsFrom]
  · cases A <;> simp [Builtin.append_, run_underlying ht, sizeOf, typeInfo, hi, Builtin.lenOf, Builtin.firstCells, loadCells, loadCellsFrom, hnc, storeCells]
theorem WL.app' {α : Type} (i : Nat) {T ty e : TypeId} {sz bytes m d : Nat} {v : Value} {x y : Operand} {pos : String} {af : Array Edge} {rs : List Rp} {f : α → List Rp} {xs : List α} (hb : bs[i]? = some (.r v e sz m rs)) (hT : elemInfo P T = some (e, sz, bytes, sz)) (hsz : 0 < sz) (hx : OF (look st) x (val v)) (hy : OF (look st) y (sl sz f xs)) (hv : v.oneCell' = true) (hf : ∀ x, (f x).length = sz)
    (hl : m + xs.length ≤ 9223372036854775807) (hby : (m + xs.length) * bytes ≤ 140737488355328) (hd : d < n)
    (rest : ∀ v' : Value, v'.oneCell' = true → WL P w0 M0 n (bs.set i (.r v' e sz (m + xs.length) (rs ++ xs.flatMap f))) ((d, val v') :: st) ops l Q) :
    WL P w0 M0 n bs st ops (⟨some d, .call ⟨.builtin .append, #[x, y], #[T, T]⟩, ty, pos, af, none⟩ :: l) Q := by
  by_cases hne : xs = []
  · subst hne
    intro a w hok
    have h1 : ev (fun t => a.tmps.getD t undef) x = _ := hx _ w _ fun i R' _ hi => hok.facts i R' hi
    obtain ⟨A, c, h2, _⟩ := hy (fun t => a.tmps.getD t undef) w _ fun i R' _ hi => hok.facts i R' hi
    obtain ⟨cs, c1, c2⟩ := hok.boxes _ (List.mem_of_getElem? hb)
    unfold elemInfo at hT
    split at hT
    · rename_i e' hu
      cases hi : P.info? e' with
      | none => rw [hi] at hT; simp at hT
      | some ti =>
        cases hz : ti.zero with
        | none => rw [hi] at hT; simp [hz] at hT
        | some z =>
          rw [hi] at hT
          simp only [Option.bind_some, hz, Option.map_some, Option.some.injEq, Prod.mk.injEq] at hT
          obtain ⟨rfl, t1, t2, t3⟩ := hT
          refine wpList_plain rfl fun K hK => ?_
          unfold Oper.wp
          rw [eval_ev, exec_eq]
          have hrun : (execOp (ev fun t => a.tmps.getD t undef) ⟨none, .call ⟨.builtin .append, #[x, y], #[T, T]⟩, ty, "", #[], none⟩).run P w = .ok (.value v) w := by
            simp only [execOp, resolve, invoke, builtin, Sem.run_bind, Sem.run_pure, Result.andThen_ok, List.map_toArray, List.map_cons, List.map_nil, h1, h2, List.length_nil, run_append_zero (P := P) w hu hi c1 A c]
          rw [hrun]
          have hset : bs.set i (.r v e' sz (m + ([] : List α).length) (rs ++ ([] : List α).flatMap f)) = bs := by
            simp only [List.length_nil, Nat.add_zero, List.flatMap_nil, List.append_nil]
            obtain ⟨hlt, he⟩ := List.getElem?_eq_some_iff.1 hb
            rw [← he, List.set_getElem_self]
          have hr := rest v hv
          rw [hset] at hr
          exact hK _ _ (hr _ _ (hok.setFact hd rfl))
    · cases hT
  · exact WL.app i hb hT hsz hx hy hne hf hl hby hd rest
theorem OpN.call {f : FuncId} {xs : List Operand} {Rs rs : List Rp} {ats : Array TypeId} {e : TypeId} {sz k : Nat} {ty : TypeId} {lk : Nat → Option Rp} (hc : NewC P f Rs e sz k rs) (hx : OFs lk xs Rs) :
    OpN P bs lk (.call ⟨.value (.func f), xs.toArray, ats⟩) ty e sz k rs := by
  intro σ w M hm hf _
  have h1 : (execOp (ev σ) ⟨none, .call ⟨.value (.func f), xs.toArray, ats⟩, ty, "", #[], none⟩).run P w = .ok (.enter f (xs.map (ev σ)).toArray) w := by
    have := hc.1 (xs.map (ev σ)).toArray w
    simp [execOp, resolve, Deferred.ofValue, ev, invoke, this]
  rw [h1]
  refine Calls.mono (hc.2 w M _ hm (hx.all fun x hx => hf x (by simp [Op.operands, Call.operands, hx]))) ?_
  rintro en w' ⟨v, rfl, hv, hm'⟩
  exact ⟨v, rfl, hv, hm'⟩
end
section
variable {P : Program} {bs : List Box} {lk : Nat → Option Rp} {ty T T' : TypeId} {x y : Operand}
end
end Go.Fw

/- Rows of one's own, read and written element by element. No program in sight. -/
namespace Go.Fw
open Go.RowKit Go.Proofs
set_option linter.unusedVariables false
set_option linter.unusedSimpArgs false
section
variable {P : Program} {w0 : World} {M0 : Mask} {n : Nat} {bs : List Box} {st : St} {ops : Array Oper} {l : List Oper} {Q : Exit → Act → World → Prop} {c : Code}
variable {lk : Nat → Option Rp} {T ty e : TypeId} {x y : Operand} {R : Rp} {g m k cap sz o q : Nat} {rs rs' : List Rp}
abbrev rowv (g m cap : Nat) : Value := .slice (some ⟨g, 0, none⟩) m cap
theorem row_open {w : World} {M : Mask} {v : Value} (h : BoxOk w M (.r v e sz m rs)) (hm : 0 < m) : ∃ g cap, v = rowv g m cap := by
  obtain ⟨cs, ⟨_, h2⟩, _⟩ := h
  rcases h2 with ⟨rfl, h⟩ | ⟨g, cap, cur, rfl, _⟩
  · omega
  · exact ⟨g, cap, rfl⟩
theorem row_cells {w : World} {M : Mask} (h : BoxOk w M (.r (rowv g m cap) e sz m rs)) : ∃ cs : List Value, All2 w M rs cs ∧ ∀ j v, cs[j]? = some v → w.cell? ⟨g, j, none⟩ = some v := by
  obtain ⟨cs, ⟨h1, h2⟩, h3⟩ := h
  refine ⟨cs, h3, fun j v hv => ?_⟩
  rcases h2 with ⟨h, _⟩ | ⟨g', cap', cur, h, _, hg, _, _, _, ht⟩
  · cases h
  · cases h
    rw [← ht, List.getElem?_take] at hv
    split at hv
    · rw [cell_of_row w g j cur e (0, 0) hg, ← hv]; simp
    · cases hv
theorem ixr {T : TypeId} {kd : IntKind} {i : Int} (hT : elemSz P T = some sz) (hx : OF lk x (val (rowv g m cap))) (hy : OF lk y (val (.int kd i))) (h0 : 0 ≤ i) (h1 : i < m) : OpG P bs lk (.indexAddr T x y) ty (val (.pointer (some ⟨g, i.toNat * sz, none⟩))) :=
  opr fun σ w M hf => by
    have e1 : ev σ x = _ := hx σ w M (hf x (by simp [Op.operands, Call.operands]))
    have e2 : ev σ y = _ := hy σ w M (hf y (by simp [Op.operands, Call.operands]))
    have := run_indexAt_sl (P := P) hT g 0 m cap kd i h0 h1 w
    rw [Nat.zero_add] at this
    simp [execOp, e1, e2, this]
theorem lr (i : Nat) (hb : bs[i]? = some (.r (rowv g m cap) e sz m rs)) (hT : scal P T = true) (hx : OF lk x (val (.pointer (some ⟨g, o, none⟩)))) (hr : rs[o]? = some R) : OpG P bs lk (.load T x) ty R :=
  OpG.pure fun σ w M hf hbs => by
    have h1 : ev σ x = _ := hx σ w M (hf x (by simp [Op.operands, Call.operands]))
    obtain ⟨cs, h2, h3⟩ := row_cells (hbs _ (List.mem_of_getElem? hb))
    obtain ⟨v, h4, h5, _⟩ := h2.get o R hr
    exact ⟨v, by simp [execOp, h1, Instr.loadAt, Instr.sureAddr, run_loadVar_scal hT (h3 o v h4)], h5⟩
theorem WP.rowAt' (i : Nat) {v : Value} (hb : bs[i]? = some (.r v e sz m rs)) (h : ∀ g cap, (0 < m → v = rowv g m cap) → WP P w0 M0 n bs st c Q) : WP P w0 M0 n bs st c Q := fun a w hok => by
  by_cases hm : 0 < m
  · obtain ⟨g, cap, hv⟩ := row_open (hok.boxes _ (List.mem_of_getElem? hb)) hm
    exact h g cap (fun _ => hv) a w hok
  · exact h 0 0 (fun h => absurd h hm) a w hok
theorem ixr' {T : TypeId} {kd : IntKind} {i : Int} {v : Value} (hv : v = rowv g m cap) (hT : elemSz P T = some sz) (hx : OF lk x (val v)) (hy : OF lk y (val (.int kd i))) (h0 : 0 ≤ i) (h1 : i < m) : OpG P bs lk (.indexAddr T x y) ty (val (.pointer (some ⟨g, i.toNat * sz, none⟩))) := by
  subst hv; exact ixr hT hx hy h0 h1
theorem lr' (i : Nat) {v : Value} (hv : v = rowv g m cap) (hb : bs[i]? = some (.r v e sz m rs)) (hT : scal P T = true) (hx : OF lk x (val (.pointer (some ⟨g, o, none⟩)))) (hr : rs[o]? = some R) : OpG P bs lk (.load T x) ty R := by
  subst hv; exact lr i hb hT hx hr
theorem run_storeR {w : World} {M : Mask} {vs : List Value} (hbx : BoxOk w M (.r (rowv g m cap) e sz m rs)) (h3 : All2 w M rs' vs) (hm : sizeT P T = some q) (hl : rs'.length = q) (hr : o + q ≤ rs.length) :
    ∃ w', (∀ v : Value, v.cells = vs.toArray → (storeVar T ⟨g, o, none⟩ v).run P w = .ok () w') ∧ (∀ j, j ≠ g → w'.heap[j]? = w.heap[j]?) ∧ w'.heap.size = w.heap.size ∧ w'.os = w.os ∧ w'.tape = w.tape ∧ w'.output = w.output ∧
      ∃ cs, w'.ownsRow 0 e sz (rowv g m cap) m cs ∧ All2 w M (setAt rs o rs') cs := by
  obtain ⟨cs, ⟨h1, h2⟩, h5⟩ := hbx
  have hlv := h3.length
  have hlc := h5.length
  rcases h2 with ⟨h, _⟩ | ⟨g', cap', cur, h, h0, hg, hmc, hcm, hcs, ht⟩
  · cases h
  · cases h
    have hcl : cs.length ≤ cur.toList.length := by rw [← ht]; simp; omega
    have hle : m * sz ≤ cur.toList.length := by rw [Array.length_toList, hcs]; exact Nat.mul_le_mul_right _ hmc
    obtain ⟨w', k1, k2, k3, k4, k5, k6, k7⟩ := run_storeCells_in (P := P) g e vs 0 cur.toList w o (by simpa using hg) (by omega) h3.one
    refine ⟨w', fun v h2 => ?_, k3, k4, k5, k6, k7, cs.take o ++ vs ++ cs.drop (o + vs.length), ⟨?_, .inr ⟨g, cap, _, rfl, h0, k2, hmc, hcm, ?_, ?_⟩⟩, by unfold setAt; rw [hlv]; exact ((h5.take o).append h3).append (h5.drop _)⟩
    · unfold sizeT at hm
      cases hi : P.info? T with
      | none => rw [hi] at hm; simp at hm
      | some ti =>
        rw [hi] at hm
        simp only [Option.map_some, Option.some.injEq] at hm
        have hne : vs.length = ti.size := by omega
        simp [storeVar, h2, sizeOf, typeInfo, hi, hne, k1]
    · simp only [List.length_append, List.length_take, List.length_drop]; omega
    · simp only [List.length_append, List.length_take, List.length_drop, List.size_toArray, Nat.add_zero]
      rw [← hcs]; simp at hcl hle ⊢; omega
    · simp only [Nat.add_zero, List.toList_toArray]
      have h9 : o + vs.length ≤ m * sz := by omega
      rw [← ht, List.take_append, List.take_append, List.take_take, List.take_take, List.drop_take, Nat.min_eq_right (by omega), Nat.min_eq_left (by omega), List.take_of_length_le (l := vs) (by simp; omega)]
      congr 1
      simp only [List.length_append, List.length_take]
      rw [Nat.min_eq_left (by omega)]
theorem OpE.storeR (i : Nat) (hb : bs[i]? = some (.r (rowv g m cap) e sz m rs)) (hx : OF lk x (val (.pointer (some ⟨g, o, none⟩)))) (hy : OF lk y R) (hfl : Flat R rs')
    (hm : sizeT P T = some q) (hl : rs'.length = q) (hr : o + q ≤ rs.length) : OpE P bs lk (.store T x y) ty (bs.set i (.r (rowv g m cap) e sz m (setAt rs o rs'))) := by
  intro w0 M0 n B a w hok hf
  have h1 : ev (fun t => a.tmps.getD t undef) x = _ := hx _ w _ fun i R' hi => hf _ (by simp [Op.operands]) i R' hi
  obtain ⟨vs, h2, h3⟩ := hfl _ _ _ (hy (fun t => a.tmps.getD t undef) w _ fun i R' hi => hf _ (by simp [Op.operands]) i R' hi)
  have hbB : (B ++ bs)[B.length + i]? = some (.r (rowv g m cap) e sz m rs) := by rw [List.getElem?_append_right (by omega)]; simpa using hb
  obtain ⟨w', hrun, k3, k4, k5, k6, k7, cs, c1, c2⟩ := run_storeR (P := P) (hok.boxes _ (List.mem_of_getElem? hbB)) h3 hm hl hr
  simp only [execOp, h1, Instr.storeAt, Instr.sureAddr, Sem.run_bind, Sem.run_pure, Result.andThen_ok, hrun _ h2]
  have hok' := hok.change (w' := w') (y := .r (rowv g m cap) e sz m (setAt rs o rs')) hbB (fun j _ hj => k3 j fun e => hj (by rw [e]; rfl)) (by omega) k5 k6 k7 (fun g' hg' => .inl hg') (fun g' hg' => by
    have h9 := hok.msk g' (.inr (mem_blks (List.mem_of_getElem? hbB) hg')); omega) fun M hM => ⟨cs, c1, c2.keep hM⟩
  rw [List.set_append_right _ _ (by omega), show B.length + i - B.length = i from by omega] at hok'
  have hM : mkM M0 (B ++ bs.set i (.r (rowv g m cap) e sz m (setAt rs o rs'))) = mkM M0 (B ++ bs) := by
    have : ∀ (bs : List Box) (i : Nat), bs[i]? = some (.r (rowv g m cap) e sz m rs) → blks (bs.set i (.r (rowv g m cap) e sz m (setAt rs o rs'))) = blks bs := by
      intro bs
      induction bs with
      | nil => intro i h; simp at h
      | cons x bs ih =>
        intro i h
        cases i with
        | zero => simp at h; subst h; rfl
        | succ i => have := ih i (by simpa using h); rw [List.set_cons_succ]; unfold blks at *; rw [List.filterMap_cons, List.filterMap_cons, this]
    unfold mkM blks
    rw [List.filterMap_append, List.filterMap_append]
    have h' := this bs i hb
    unfold blks at h'
    rw [h']
  refine .inr ⟨_, rfl, hok', ?_⟩
  rw [hM]
  exact ⟨fun j _ hj => k3 j fun e => hj (e ▸ .inr (mem_blks (List.mem_of_getElem? hbB) rfl)), by omega, fun _ h => .inl h⟩
theorem WL.storeR (i : Nat) {pos : String} {af : Array Edge} (hb : bs[i]? = some (.r (rowv g m cap) e sz m rs)) (hx : OF (look st) x (val (.pointer (some ⟨g, o, none⟩)))) (hy : OF (look st) y R) (hfl : Flat R rs')
    (hm : sizeT P T = some q) (hl : rs'.length = q) (hr : o + q ≤ rs.length)
    (rest : WL P w0 M0 n (bs.set i (.r (rowv g m cap) e sz m (setAt rs o rs'))) st ops l Q) : WL P w0 M0 n bs st ops (⟨none, .store T x y, ty, pos, af, none⟩ :: l) Q := by
  intro a w hok
  have h1 : ev (fun t => a.tmps.getD t undef) x = _ := hx _ w _ fun i R' _ hi => hok.facts i R' hi
  obtain ⟨vs, h2, h3⟩ := hfl _ _ _ (hy (fun t => a.tmps.getD t undef) w _ fun i R' _ hi => hok.facts i R' hi)
  obtain ⟨w', hrun, k3, k4, k5, k6, k7, cs, c1, c2⟩ := run_storeR (P := P) (hok.boxes _ (List.mem_of_getElem? hb)) h3 hm hl hr
  have hok' := hok.change (w' := w') (y := .r (rowv g m cap) e sz m (setAt rs o rs')) hb (fun j _ hj => k3 j fun e => hj (by rw [e]; rfl)) (by omega) k5 k6 k7 (fun g' hg' => .inl hg') (fun g' hg' => by
    have h9 := hok.msk g' (.inr (mem_blks (List.mem_of_getElem? hb) hg')); omega) fun M hM => ⟨cs, c1, c2.keep hM⟩
  refine wpList_plain rfl fun K hK => ?_
  unfold Oper.wp
  rw [eval_ev, exec_eq]
  simp only [execOp, h1, Instr.storeAt, Instr.sureAddr, Sem.run_bind, Sem.run_pure, Result.andThen_ok, hrun _ h2]
  exact hK _ _ (rest _ _ hok')
theorem WL.storeR' (i : Nat) {v : Value} (hv : v = rowv g m cap) {pos : String} {af : Array Edge} (hb : bs[i]? = some (.r v e sz m rs)) (hx : OF (look st) x (val (.pointer (some ⟨g, o, none⟩)))) (hy : OF (look st) y R) (hfl : Flat R rs')
    (hm : sizeT P T = some q) (hl : rs'.length = q) (hr : o + q ≤ rs.length)
    (rest : WL P w0 M0 n (bs.set i (.r v e sz m (setAt rs o rs'))) st ops l Q) : WL P w0 M0 n bs st ops (⟨none, .store T x y, ty, pos, af, none⟩ :: l) Q := by
  subst hv; exact WL.storeR i hb hx hy hfl hm hl hr rest
theorem WL.mkr {op : Op} {d : Nat} {ty e : TypeId} {pos : String} {af : Array Edge} {sz k : Nat} {rs : List Rp} (h : OpN P bs (look st) op ty e sz k rs) (hd : d < n)
    (rest : ∀ v : Value, v.oneCell' = true → WL P w0 M0 n (.r v e sz k rs :: bs) ((d, val v) :: st) ops l Q) : WL P w0 M0 n bs st ops (⟨some d, op, ty, pos, af, none⟩ :: l) Q := by
  intro a w hok
  refine wpList_plain rfl fun K hK => wp_of_does rfl ?_
  rw [eval_ev, exec_eq]
  exact (h _ w _ hok.msk (fun x hx i R _ hR => hok.facts i R hR) hok.boxes).mono fun v w' ⟨hv, hm⟩ => hK _ _ (rest v hv _ _ ((hok.new hm).2.setFact hd rfl))
end
end Go.Fw

/- What a box holds is put away and taken back; rows that are read from now on; slicing. No program in sight. -/
namespace Go.Fw
open Go.RowKit Go.Proofs
set_option linter.unusedVariables false
set_option linter.unusedSimpArgs false
section
variable {P : Program} {w0 : World} {M0 : Mask} {n : Nat} {bs : List Box} {st : St} {ops : Array Oper} {l : List Oper} {Q : Exit → Act → World → Prop} {c : Code} {g k : Nat} {T : TypeId} {rs rs' : List Rp}
theorem Ok.recast {a : Act} {w : World} (h : Ok w0 M0 n bs st a w) (hk : bs[k]? = some (.b g T rs)) (hi : ∀ cs : List Value, w.heap[g]? = some (.cells cs.toArray T (0, 0)) → All2 w (mkM M0 bs) rs cs → All2 w (mkM M0 bs) rs' cs) : Ok w0 M0 n (bs.set k (.b g T rs')) st a w :=
  h.change hk (fun _ _ _ => rfl) (Nat.le_refl _) rfl rfl rfl (fun _ hg => .inl hg) (fun g' hg => h.msk g' (.inr (mem_blks (List.mem_of_getElem? hk) hg))) fun M hM => by
    obtain ⟨cs, h1, h2⟩ := h.boxes _ (List.mem_of_getElem? hk)
    exact ⟨cs, h1, (hi cs h1 h2).keep hM⟩
def pinned (rs : List Rp) (cs : List Value) : Rp := ⟨fun _ w M => All2 w M rs cs, fun h k => h.keep k⟩
theorem All2.of_vals {w : World} {M : Mask} : ∀ {cs cs' : List Value}, All2 w M (cs.map val) cs' → cs' = cs
  | [], [], _ => rfl
  | c :: cs, c' :: cs', h => by
    have h1 : c' = c := h.1.1
    rw [h1, All2.of_vals h.2]
theorem slh {α : Type} {lk : Nat → Option Rp} {ty : TypeId} {x y : Operand} {sz : Nat} {f : α → List Rp} {xs : List α} {kd : IntKind} {m : Int} (hT : P.underlying T = some (.slice (P.elem T))) (hs : elemSz P T = some sz) (hx : OF lk x (sl sz f xs)) (hy : OF lk y (val (.int kd m))) (h0 : 0 ≤ m) (h1 : m ≤ xs.length) :
    OpG P bs lk (.slice T x none (some y) none) ty (sl sz f (xs.take m.toNat)) := OpG.pure fun σ w M hf _ => by
  obtain ⟨A, c, e1, e2, e3⟩ := hx σ w M (hf x (by simp [Op.operands]))
  have e4 : ev σ y = _ := hy σ w M (hf y (by simp [Op.operands]))
  have hsz : ∃ i, P.info? (P.elem T) = some i := by
    unfold elemSz at hs
    rw [hT] at hs
    dsimp only at hs
    cases hi : P.info? (P.elem T) with
    | none => rw [hi] at hs; simp at hs
    | some i => exact ⟨i, rfl⟩
  obtain ⟨ti, hti⟩ := hsz
  refine ⟨sliced A 0 m.toNat c ti.size, ?_, ?_⟩
  · have hr : (Instr.sliceAt T (.slice A xs.length c) none (some (.int kd m)) none).run P w = .ok (sliced A 0 m.toNat c ti.size) w := by
      rw [run_sliceAt_slice w T _ _ _ _ hT, run_slice_h w T A xs.length c hT kd m h0 (by omega)]
      simp [sizeOf, typeInfo, hti]
    simp [execOp, e1, e4, hr]
  · have hl : (xs.take m.toNat).length = m.toNat := by rw [List.length_take]; omega
    rcases e3 with rfl | ⟨b, o, rfl, g1, g2, g3⟩
    · refine ⟨if c = 0 then A else A.map (·.add (0 * ti.size)), c, ?_, by simp, .inl (by simp)⟩
      simp only [sliced, hl, Nat.sub_zero]
    · refine ⟨some ⟨b, o, none⟩, c, ?_, by rw [hl]; omega, .inr ⟨b, o, rfl, g1, g2, fun i z hz => g3 i z ?_⟩⟩
      · simp only [sliced, hl]
        split <;> simp [add_at]
      · rw [List.getElem?_take] at hz
        split at hz
        · exact hz
        · cases hz
theorem OpN.bsl0 {lk : Nat → Option Rp} {T ty e : TypeId} {sz bytes : Nat} (hT : elemInfo P T = some (e, sz, bytes, sz)) : OpN P bs lk (.buildSlice T 0 #[]) ty e sz 0 [] := fun σ w M hm hfa _ => by
  unfold elemInfo at hT
  split at hT
  · rename_i e' hu
    cases hi : P.info? e' with
    | none => rw [hi] at hT; simp at hT
    | some ti =>
      cases hz : ti.zero with
      | none => rw [hi] at hT; simp [hz] at hT
      | some z =>
        rw [hi] at hT
        simp only [Option.bind_some, hz, Option.map_some, Option.some.injEq, Prod.mk.injEq] at hT
        obtain ⟨rfl, t1, t2, t3⟩ := hT
        have hrun : (Instr.buildSlice T 0 #[]).run P w = .ok (.slice (some ⟨w.heap.size, 0, none⟩) 0 0) (w.alloc (.cells ([] : List Value).toArray e')) := by
          unfold Instr.buildSlice
          simp only [Sem.run_bind, run_underlying hu, Result.andThen_ok, sizeOf, typeInfo, run_program, hi, Sem.run_pure, Sem.run_ite, Nat.zero_mul]
          simp [Instr.fill, newRow, show (Array.range 0) = #[] from rfl]
        have : (execOp (ev σ) ⟨none, .buildSlice T 0 #[], ty, "", #[], none⟩).run P w = .ok (.value (.slice (some ⟨w.heap.size, 0, none⟩) 0 0)) (w.alloc (.cells ([] : List Value).toArray e')) := by
          simp [execOp, hrun]
        rw [this]
        have hb : Below w.heap.size w (w.alloc (.cells ([] : List Value).toArray e')) := (Below.refl _ w).alloc (Nat.le_refl _) _
        have hrow := World.ownsRow_lit (e := e') (size := sz) (base := 0) w ([] : List Value).toArray 0 (Nat.zero_le _) (by unfold maxLen; omega) (by simp)
        have hms : ∀ b, mkM M [.r (.slice (some ⟨w.heap.size, 0, none⟩) 0 0) e' sz 0 []] b → M b ∨ b = w.heap.size := fun b hb => hb.imp id fun h => by simpa [blks, Box.blk, Value.ownBlock] using h
        refine ⟨rfl, ⟨fun y hy => ?_, by simp [blks, Box.blk, Value.ownBlock], fun g hg => ?_, hb, fun b hb' => ?_, fun g hg hm' => ?_⟩⟩
        · rw [List.mem_singleton.1 hy]
          exact ⟨[], hrow, trivial⟩
        · have : g = w.heap.size := by simpa [blks, Box.blk, Value.ownBlock] using hg
          omega
        · rcases hms b hb' with h | h
          · have := hm b h; have := hb.size; omega
          · subst h; simp
        · have : g = w.heap.size := by simpa [blks, Box.blk, Value.ownBlock] using hg
          have := hm g hm'; omega
  · cases hT
end
end Go.Fw

/- Functions as values, make, copy. No program in sight. -/
namespace Go.Fw
open Go.RowKit Go.Proofs
set_option linter.unusedVariables false
set_option linter.unusedSimpArgs false
section
variable {P : Program} {w0 : World} {M0 : Mask} {n : Nat} {bs : List Box} {st : St} {ops : Array Oper} {l : List Oper} {Q : Exit → Act → World → Prop} {c : Code} {lk : Nat → Option Rp} {ty : TypeId}
def fnR (f : FuncId) (caps : List Rp) : Rp := ⟨fun v w M => ∃ cs : List Value, v = .func (.func f) #[] cs.toArray ∧ TupAll w M caps cs, fun ⟨cs, h1, h2⟩ k => ⟨cs, h1, h2.keep k⟩⟩
theorem TupAll.cat {w : World} {M : Mask} : ∀ {rs : List Rp} {vs : List Value} {rs' : List Rp} {vs' : List Value}, TupAll w M rs vs → TupAll w M rs' vs' → TupAll w M (rs ++ rs') (vs ++ vs')
  | [], [], _, _, _, h => h
  | _ :: _, _ :: _, _, _, h, h' => ⟨h.1, TupAll.cat h.2 h'⟩
theorem ofn (f : FuncId) : OF lk (.func f) (fnR f []) := fun σ w M _ => ⟨[], rfl, trivial⟩
theorem mkfn {f : FuncId} {i : Nat} {R : Rp} (hx : OF lk (.tmp i) R) : OpG P bs lk (.makeFunc (.func f) #[] #[.tmp i]) ty (fnR f [R]) := OpG.pure fun σ w M hf _ =>
  ⟨.func (.func f) #[] #[σ i], by simp [execOp, Instr.makeFunc, ev], [σ i], rfl, hx σ w M (hf (.tmp i) (by simp [Op.operands])), trivial⟩
theorem callv {f : FuncId} {x : Operand} {xs : List Operand} {Rs caps : List Rp} {R : Rp} {ats : Array TypeId} (hc : PureC P f (Rs ++ caps) R) (hv : OF lk x (fnR f caps)) (hx : OFs lk xs Rs) : OpG P bs lk (.call ⟨.value x, xs.toArray, ats⟩) ty R := by
  intro σ w M hm hf _
  obtain ⟨cs, e1, e2⟩ := hv σ w M (hf x (by simp [Op.operands, Call.operands]))
  have h1 : (execOp (ev σ) ⟨none, .call ⟨.value x, xs.toArray, ats⟩, ty, "", #[], none⟩).run P w = .ok (.enter f ((xs.map (ev σ)).toArray ++ cs.toArray)) w := by
    have := hc.1 (xs.map (ev σ) ++ cs).toArray w
    simp [execOp, resolve, Deferred.ofValue, e1, invoke, this]
  rw [h1]
  have h2 := hc.2 w M (xs.map (ev σ) ++ cs) hm (TupAll.cat (hx.all fun x hx => hf x (by simp [Op.operands, Call.operands, hx])) e2)
  rwa [show ((xs.map (ev σ)).toArray ++ cs.toArray) = (xs.map (ev σ) ++ cs).toArray from by simp]

theorem OpN.mks {T e : TypeId} {bytes k : Nat} {x y : Operand} {z : Value} {kl kc : IntKind} (hT : elemInfo P T = some (e, 1, bytes, 1)) (hz : zeros P e = some [z]) (h1 : z.oneCell' = true) (hx : OF lk x (val (.int kl (k : Int)))) (hy : OF lk y (val (.int kc (k : Int)))) (hk : bytes * k ≤ 281474976710656) (h63 : k ≤ 9223372036854775807) :
    OpN P bs lk (.makeSlice T x y) ty e 1 k (List.replicate k (val z)) := fun σ w M hm hfa _ => by
  have e1 : ev σ x = _ := hx σ w M (hfa x (by simp [Op.operands]))
  have e2 : ev σ y = _ := hy σ w M (hfa y (by simp [Op.operands]))
  unfold elemInfo at hT
  split at hT
  · rename_i e' hu
    cases hi : P.info? e' with
    | none => rw [hi] at hT; simp at hT
    | some ti =>
      cases hzi : ti.zero with
      | none => rw [hi] at hT; simp [hzi] at hT
      | some zz =>
        rw [hi] at hT
        simp only [Option.bind_some, hzi, Option.map_some, Option.some.injEq, Prod.mk.injEq] at hT
        obtain ⟨rfl, t1, t2, t3⟩ := hT
        have hzc : zz.cells = #[z] := by
          unfold zeros at hz
          rw [hi] at hz
          simp only [Option.bind_some, hzi, Option.map_some, Option.some.injEq] at hz
          apply Array.ext'
          rw [hz]
        have hr := run_make (P := P) w T e' ti zz hu hi hzi kl kc (k : Int) (k : Int) (by omega) (by omega) (by rw [t2]; omega) (by omega)
        have hmc : madeCells zz.cells ((k : Int).toNat * ti.size) = (List.replicate k z).toArray := by
          rw [hzc, t1, Nat.mul_one, Int.toNat_natCast]
          unfold madeCells
          apply Array.ext
          · simp
          · intro i h1 h2
            simp [Nat.mod_one]
        rw [hmc, Int.toNat_natCast] at hr
        have : (execOp (ev σ) ⟨none, .makeSlice T x y, ty, "", #[], none⟩).run P w = .ok (.value (.slice (some ⟨w.heap.size, 0, none⟩) k k)) (w.alloc (.cells (List.replicate k z).toArray e')) := by
          simp [execOp, e1, e2, hr]
        rw [this]
        have hb : Below w.heap.size w (w.alloc (.cells (List.replicate k z).toArray e')) := (Below.refl _ w).alloc (Nat.le_refl _) _
        have hrow := World.ownsRow_lit (e := e') (size := 1) (base := 0) w (List.replicate k z).toArray k (Nat.zero_le _) (by unfold maxLen; omega) (by simp)
        have hms : ∀ b, mkM M [.r (.slice (some ⟨w.heap.size, 0, none⟩) k k) e' 1 k (List.replicate k (val z))] b → M b ∨ b = w.heap.size := fun b hb => hb.imp id fun h => by simpa [blks, Box.blk, Value.ownBlock] using h
        refine ⟨rfl, ⟨fun y hy => ?_, by simp [blks, Box.blk, Value.ownBlock], fun g hg => ?_, hb, fun b hb' => ?_, fun g hg hm' => ?_⟩⟩
        · rw [List.mem_singleton.1 hy]
          refine ⟨_, hrow, ?_⟩
          have := All2.vals (w := w.alloc (.cells (List.replicate k z).toArray e')) (M := mkM M [.r (.slice (some ⟨w.heap.size, 0, none⟩) k k) e' 1 k (List.replicate k (val z))]) (cs := List.replicate k z) (List.all_eq_true.2 fun u hu => by rw [List.eq_of_mem_replicate hu]; exact h1)
          rwa [List.map_replicate] at this
        · have : g = w.heap.size := by simpa [blks, Box.blk, Value.ownBlock] using hg
          omega
        · rcases hms b hb' with h | h
          · have := hm b h; have := hb.size; omega
          · subst h; simp
        · have : g = w.heap.size := by simpa [blks, Box.blk, Value.ownBlock] using hg
          have := hm g hm'; omega
  · cases hT

theorem WL.copy {α : Type} (i : Nat) {T ty e : TypeId} {bytes k d : Nat} {v : Value} {x y : Operand} {pos : String} {af : Array Edge} {rs : List Rp} {f : α → List Rp} {xs : List α} (hb : bs[i]? = some (.r v e 1 k rs)) (hT : elemInfo P T = some (e, 1, bytes, 1)) (hx : OF (look st) x (val v)) (hy : OF (look st) y (sl 1 f xs)) (hf : ∀ x, (f x).length = 1) (hk : xs.length = k) (hd : d < n)
    (rest : WL P w0 M0 n (bs.set i (.r v e 1 k (xs.flatMap f))) ((d, val (.int .i64 (k : Int))) :: st) ops l Q) :
    WL P w0 M0 n bs st ops (⟨some d, .call ⟨.builtin .copy, #[x, y], #[T, T]⟩, ty, pos, af, none⟩ :: l) Q := by
  intro a w hok
  have h1 : ev (fun t => a.tmps.getD t undef) x = _ := hx _ w _ fun i R' _ hi => hok.facts i R' hi
  obtain ⟨A, c, h2, h3, h4⟩ := hy (fun t => a.tmps.getD t undef) w _ fun i R' _ hi => hok.facts i R' hi
  obtain ⟨cs, ⟨c0, c1⟩, c2⟩ := hok.boxes _ (List.mem_of_getElem? hb)
  have hsz : ∃ e', P.underlying T = some (.slice e') ∧ (P.info? e').map (·.size) = some 1 := by
    unfold elemInfo at hT
    split at hT
    · rename_i e' hu
      cases hi : P.info? e' with
      | none => rw [hi] at hT; simp at hT
      | some ti =>
        cases hz : ti.zero with
        | none => rw [hi] at hT; simp [hz] at hT
        | some z =>
          rw [hi] at hT
          simp only [Option.bind_some, hz, Option.map_some, Option.some.injEq, Prod.mk.injEq] at hT
          exact ⟨e', hu, by rw [hi]; simp [hT.2.1]⟩
    · cases hT
  obtain ⟨e', hu, hi⟩ := hsz
  refine wpList_plain rfl fun K hK => ?_
  unfold Oper.wp
  rw [eval_ev, exec_eq]
  have run : ∀ (v' : Value) (w' : World), (Builtin.copy_ #[T, T] ty #[v, .slice A xs.length c]).run P w = .ok v' w' → (execOp (ev fun t => a.tmps.getD t undef) ⟨none, .call ⟨.builtin .copy, #[x, y], #[T, T]⟩, ty, "", #[], none⟩).run P w = .ok (.value v') w' := fun v' w' hr => by
    simp only [execOp, resolve, invoke, builtin, Sem.run_bind, Sem.run_pure, Result.andThen_ok, List.map_toArray, List.map_cons, List.map_nil, h1, h2, hr]
  by_cases hk0 : k = 0
  · have hxs : xs = [] := List.eq_nil_of_length_eq_zero (by omega)
    subst hxs
    subst hk0
    have hvs : ∃ A' c', v = .slice A' 0 c' := by
      rcases c1 with ⟨rfl, _⟩ | ⟨g, cap, cur, rfl, _⟩
      · exact ⟨_, _, rfl⟩
      · exact ⟨_, _, rfl⟩
    obtain ⟨A', c', hv⟩ := hvs
    have hr := run_copy_none (P := P) w T T ty e' A' A 0 c' 0 c hu hi (by rfl)
    rw [run _ _ (by rw [hv]; exact hr)]
    have hrs : rs = [] := by
      have := c2.length; rw [c0] at this
      exact List.eq_nil_of_length_eq_zero (by omega)
    have hset : bs.set i (.r v e 1 0 (([] : List α).flatMap f)) = bs := by
      rw [List.flatMap_nil, ← hrs]
      obtain ⟨hlt, he⟩ := List.getElem?_eq_some_iff.1 hb
      rw [← he, List.set_getElem_self]
    rw [hset] at rest
    exact hK _ _ (rest _ _ (hok.setFact hd rfl))
  · obtain ⟨g, cap, hv⟩ := row_open (hok.boxes _ (List.mem_of_getElem? hb)) (by omega : 0 < k)
    subst hv
    rcases h4 with h4 | ⟨b, o, rfl, g1, g2, g3⟩
    · subst h4; simp at hk; omega
    obtain ⟨news, k1, k2, k3⟩ := sl_cells hf (o := o) (j := 0) (xs := xs) fun i x hx => by rw [Nat.zero_add]; exact g3 i x hx
    rcases c1 with ⟨h, _⟩ | ⟨g', cap', cur, h, d0, d1, d2, d3, d4, d5⟩
    · cases h
    cases h
    have hcl : k ≤ cur.size := by rw [d4]; omega
    have hr := run_copy_row (P := P) w T T ty e' g 0 k cap ⟨b, o, none⟩ xs.length c cur e news hu hi d1 (by rw [k2, hk]; simp [Nat.min_def]) (fun j u hj => by rw [add_at]; have := k3 j u hj; rwa [Nat.zero_mul, Nat.add_zero] at this) (by rw [k2]; omega) k1.one
    rw [run _ _ hr]
    have hnl : news.length = k := by rw [k2]; omega
    have hch := hok.change (y := .r (rowv g k cap) e 1 k (xs.flatMap f)) hb (w' := w.setRow g (cur.toList.take 0 ++ news ++ cur.toList.drop (0 + news.length)).toArray) (fun j _ hj => setRow_other w g j _ fun e => hj (by rw [e]; rfl)) (by simp) rfl rfl rfl (fun g' hg' => .inl hg') (fun g' hg' => by
      have := hok.msk g' (.inr (mem_blks (List.mem_of_getElem? hb) hg')); simpa using this) fun M hM => ⟨news, ⟨by rw [hnl]; omega, .inr ⟨g, cap, _, rfl, d0, setRow_heap w g cur _ e _ d1, d2, d3, by simp; omega, by simp [List.take_append, hnl]⟩⟩, k1.keep hM⟩
    have hgo : goInt news.length = .int .i64 (k : Int) := by rw [hnl]; rfl
    rw [hgo]
    exact hK _ _ (rest _ _ (hch.setFact hd rfl))
end
end Go.Fw

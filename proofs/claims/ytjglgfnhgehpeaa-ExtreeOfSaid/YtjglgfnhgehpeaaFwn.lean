/- What a box holds is put away and taken back; rows that are read from now on; slicing. No program in sight. -/
import Derived.Test.YtjglgfnhgehpeaaFwm
import Derived.Laws.Slices
namespace Go.Fw
open Go.RowKit Go.Proofs
set_option linter.unusedVariables false
set_option linter.unusedSimpArgs false
section
variable {P : Program} {w0 : World} {M0 : Mask} {n : Nat} {bs : List Box} {st : St} {ops : Array Oper} {l : List Oper} {Q : Exit → Act → World → Prop} {c : Code} {g k : Nat} {T : TypeId} {rs rs' : List Rp}
theorem Ok.recast {a : Act} {w : World} (h : Ok w0 M0 n bs st a w) (hk : bs[k]? = some (.b g T rs)) (hi : ∀ cs : List Value, w.heap[g]? = some (.cells cs.toArray T (0, 0)) → All2 w (mkM M0 bs) rs cs → All2 w (mkM M0 bs) rs' cs) : Ok w0 M0 n (bs.set k (.b g T rs')) st a w :=
  h.change hk (fun _ _ _ => rfl) (Nat.le_refl _) rfl rfl rfl (fun _ hg => .inl hg) (fun g' hg => h.msk g' (.inr (mem_blks (List.mem_of_getElem? hk) hg))) fun M hM => by
    obtain ⟨cs, h1, h2⟩ := h.boxes _ (List.mem_of_getElem? hk)
    exact ⟨cs, h1, (hi cs h1 h2).keep hM⟩
/-- what some cells hold: a fact of no slot -/
def pinned (rs : List Rp) (cs : List Value) : Rp := ⟨fun _ w M => All2 w M rs cs, fun h k => h.keep k⟩
theorem All2.of_vals {w : World} {M : Mask} : ∀ {cs cs' : List Value}, All2 w M (cs.map val) cs' → cs' = cs
  | [], [], _ => rfl
  | c :: cs, c' :: cs', h => by
    have h1 : c' = c := h.1.1
    rw [h1, All2.of_vals h.2]
theorem mkM_set {k : Nat} {x y : Box} (hk : bs[k]? = some x) (hxy : x.blk = y.blk) : ∀ b, mkM M0 (bs.set k y) b → mkM M0 bs b := fun b hb => by
  rcases hb with hb | hb
  · exact .inl hb
  · rcases mem_blks_set hb with h | ⟨j, z, _, h1, h2⟩
    · exact .inr (mem_blks (List.mem_of_getElem? hk) (hxy.trans h))
    · exact .inr (mem_blks (List.mem_of_getElem? h1) h2)
theorem WP.pin (k slot : Nat) (hk : bs[k]? = some (.b g T rs)) (h : ∀ cs : List Value, cs.length = rs.length → WP P w0 M0 n (bs.set k (.b g T (cs.map val))) ((slot, pinned rs cs) :: st) c Q) : WP P w0 M0 n bs st c Q := fun a w hok => by
  obtain ⟨cs, h1, h2⟩ := hok.boxes _ (List.mem_of_getElem? hk)
  have h3 := hok.recast hk (rs' := cs.map val) fun cs' h1' _ => by
    rw [h1] at h1'
    have e : cs = cs' := by simpa using h1'
    subst e
    exact All2.vals (List.all_eq_true.2 fun u hu => h2.one u hu)
  refine h cs h2.length.symm a w ⟨h3.defers, h3.size, fun t R ht => ?_, h3.boxes, h3.nodup, h3.fresh, h3.below, h3.msk, h3.m0⟩
  simp only [look] at ht
  split at ht
  · cases ht
    show All2 w _ rs cs
    exact h2.keep (Kp.less w (mkM_set (y := .b g T (cs.map val)) hk rfl))
  · exact h3.facts t R ht
theorem WP.unpin (k slot : Nat) {cs : List Value} (hk : bs[k]? = some (.b g T (cs.map val))) (hs : look st slot = some (pinned rs cs)) (h : WP P w0 M0 n (bs.set k (.b g T rs)) st c Q) : WP P w0 M0 n bs st c Q := fun a w hok =>
  h a w (hok.recast hk fun cs' _ h2 => by rw [All2.of_vals h2]; exact hok.facts slot _ hs)
/-- a row is read from now on; the variable that holds it -/
theorem WP.freezeB {α : Type} (i k : Nat) {v : Value} {e : TypeId} {sz m : Nat} (f : α → List Rp) (xs : List α) (hi : bs[i]? = some (.r v e sz m rs)) (hk : bs[k]? = some (.b g T [val v])) (hik : i ≠ k) (hf : ∀ x, (f x).length = sz) (hm : m = xs.length) (hrs : rs = xs.flatMap f)
    (h : WP P w0 M0 n ((bs.set i (.r nilS e sz 0 [])).set k (.b g T [sl sz f xs])) st c Q) : WP P w0 M0 n bs st c Q := fun a w hok => by
  have h1 : Ok w0 M0 n (bs.set i (.r nilS e sz 0 [])) st a w := hok.change hi (fun _ _ _ => rfl) (Nat.le_refl _) rfl rfl rfl (fun g hg => (by cases hg)) (fun g hg => (by cases hg)) fun M _ => ⟨[], ⟨by simp, .inl ⟨rfl, rfl⟩⟩, trivial⟩
  have hk1 : (bs.set i (.r nilS e sz 0 []))[k]? = some (.b g T [val v]) := by rw [List.getElem?_set, if_neg hik]; exact hk
  obtain ⟨cs, h2, h3⟩ := hok.boxes _ (List.mem_of_getElem? hi)
  subst hm; subst hrs
  have hle : ∀ b, mkM M0 (bs.set i (.r nilS e sz 0 [])) b → mkM M0 bs b := fun b hb => by
    rcases hb with hb | hb
    · exact .inl hb
    · rcases mem_blks_set hb with h4 | ⟨j, z, _, h4, h5⟩
      · cases h4
      · exact .inr (mem_blks (List.mem_of_getElem? h4) h5)
  have hv : (sl sz f xs).h v w (mkM M0 (bs.set i (.r nilS e sz 0 []))) := by
    refine sl_of_own hf h2 (h3.keep (Kp.less w hle)) fun g hg hm => ?_
    rcases hm with hm | hm
    · exact hok.m0 g (mem_blks (List.mem_of_getElem? hi) hg) hm
    · rcases mem_blks_set hm with h4 | ⟨j, z, hj, h4, h5⟩
      · cases h4
      · exact hj (blks_uniq hok.nodup h4 hi h5 hg)
  refine h a w (h1.recast hk1 fun cs' _ h5 => ?_)
  cases cs' with
  | nil => exact h5.elim
  | cons u us =>
    have hu : u = v := h5.1.1
    subst hu
    cases us with
    | nil => exact ⟨⟨hv, h5.1.2⟩, trivial⟩
    | cons _ _ => exact h5.2.elim
theorem slh {α : Type} {lk : Nat → Option Rp} {ty : TypeId} {x y : Operand} {sz : Nat} {f : α → List Rp} {xs : List α} {kd : IntKind} {m : Int} (hT : P.underlying T = some (.slice (P.elem T))) (hs : elemSz P T = some sz) (hx : OF lk x (sl sz f xs)) (hy : OF lk y (val (.int kd m))) (h0 : 0 ≤ m) (h1 : m ≤ xs.length) :
    OpG P bs lk (.slice T x none (some y) none) ty (sl sz f (xs.take m.toNat)) := OpG.pure fun σ w M hf _ => by
  obtain ⟨A, c, e1, e2, e3⟩ := hx σ w M (hf x (by simp [Op.operands]))
  have e4 : ev σ y = _ := hy σ w M (hf y (by simp [Op.operands]))
  have hsz : ∃ i, P.info? (P.elem T) = some i := by
    unfold elemSz at hs
    rw [hT] at hs
    dsimp only at hs
    cases hi : P.info? (P.elem T) with
    | none => rw [hi] at hs; simp at hs
    | some i => exact ⟨i, rfl⟩
  obtain ⟨ti, hti⟩ := hsz
  refine ⟨sliced A 0 m.toNat c ti.size, ?_, ?_⟩
  · have hr : (Instr.sliceAt T (.slice A xs.length c) none (some (.int kd m)) none).run P w = .ok (sliced A 0 m.toNat c ti.size) w := by
      rw [run_sliceAt_slice w T _ _ _ _ hT, run_slice_h w T A xs.length c hT kd m h0 (by omega)]
      simp [sizeOf, typeInfo, hti]
    simp [execOp, e1, e4, hr]
  · have hl : (xs.take m.toNat).length = m.toNat := by rw [List.length_take]; omega
    rcases e3 with rfl | ⟨b, o, rfl, g1, g2, g3⟩
    · refine ⟨if c = 0 then A else A.map (·.add (0 * ti.size)), c, ?_, by simp, .inl (by simp)⟩
      simp only [sliced, hl, Nat.sub_zero]
    · refine ⟨some ⟨b, o, none⟩, c, ?_, by rw [hl]; omega, .inr ⟨b, o, rfl, g1, g2, fun i z hz => g3 i z ?_⟩⟩
      · simp only [sliced, hl]
        split <;> simp [add_at]
      · rw [List.getElem?_take] at hz
        split at hz
        · exact hz
        · cases hz
theorem OpN.bsl0 {lk : Nat → Option Rp} {T ty e : TypeId} {sz bytes : Nat} (hT : elemInfo P T = some (e, sz, bytes, sz)) : OpN P bs lk (.buildSlice T 0 #[]) ty e sz 0 [] := fun σ w M hm hfa _ => by
  unfold elemInfo at hT
  split at hT
  · rename_i e' hu
    cases hi : P.info? e' with
    | none => rw [hi] at hT; simp at hT
    | some ti =>
      cases hz : ti.zero with
      | none => rw [hi] at hT; simp [hz] at hT
      | some z =>
        rw [hi] at hT
        simp only [Option.bind_some, hz, Option.map_some, Option.some.injEq, Prod.mk.injEq] at hT
        obtain ⟨rfl, t1, t2, t3⟩ := hT
        have hrun : (Instr.buildSlice T 0 #[]).run P w = .ok (.slice (some ⟨w.heap.size, 0, none⟩) 0 0) (w.alloc (.cells ([] : List Value).toArray e')) := by
          unfold Instr.buildSlice
          simp only [Sem.run_bind, run_underlying hu, Result.andThen_ok, sizeOf, typeInfo, run_program, hi, Sem.run_pure, Sem.run_ite, Nat.zero_mul]
          simp [Instr.fill, newRow, show (Array.range 0) = #[] from rfl]
        have : (execOp (ev σ) ⟨none, .buildSlice T 0 #[], ty, "", #[], none⟩).run P w = .ok (.value (.slice (some ⟨w.heap.size, 0, none⟩) 0 0)) (w.alloc (.cells ([] : List Value).toArray e')) := by
          simp [execOp, hrun]
        rw [this]
        have hb : Below w.heap.size w (w.alloc (.cells ([] : List Value).toArray e')) := (Below.refl _ w).alloc (Nat.le_refl _) _
        have hrow := World.ownsRow_lit (e := e') (size := sz) (base := 0) w ([] : List Value).toArray 0 (Nat.zero_le _) (by unfold maxLen; omega) (by simp)
        have hms : ∀ b, mkM M [.r (.slice (some ⟨w.heap.size, 0, none⟩) 0 0) e' sz 0 []] b → M b ∨ b = w.heap.size := fun b hb => hb.imp id fun h => by simpa [blks, Box.blk, Value.ownBlock] using h
        refine ⟨rfl, ⟨fun y hy => ?_, by simp [blks, Box.blk, Value.ownBlock], fun g hg => ?_, hb, fun b hb' => ?_, fun g hg hm' => ?_⟩⟩
        · rw [List.mem_singleton.1 hy]
          exact ⟨[], hrow, trivial⟩
        · have : g = w.heap.size := by simpa [blks, Box.blk, Value.ownBlock] using hg
          omega
        · rcases hms b hb' with h | h
          · have := hm b h; have := hb.size; omega
          · subst h; simp
        · have : g = w.heap.size := by simpa [blks, Box.blk, Value.ownBlock] using hg
          have := hm g hm'; omega
  · cases hT
end
end Go.Fw

/- Parts: Fwm, Fwn, Fwq, Fwk. -/
import Derived.Test.YtjglgfnhgehpeaaGreatZe
import Derived.Laws.Slices
import Derived.Laws.MakeOwn
import Derived.Laws.CopyRow
import Derived.Laws.IdiomCopy
import Derived.WalkSpells
import Derived.Lib.SliceRun
/- Rows of one's own, read and written element by element. No program in sight. -/
namespace Go.Fw
open Go.RowKit Go.Proofs
set_option linter.unusedVariables false
set_option linter.unusedSimpArgs false
section
variable {P : Program} {w0 : World} {M0 : Mask} {n : Nat} {bs : List Box} {st : St} {ops : Array Oper} {l : List Oper} {Q : Exit → Act → World → Prop} {c : Code}
variable {lk : Nat → Option Rp} {T ty e : TypeId} {x y : Operand} {R : Rp} {g m k cap sz o q : Nat} {rs rs' : List Rp}
/-- one's own row, at a place -/
abbrev rowv (g m cap : Nat) : Value := .slice (some ⟨g, 0, none⟩) m cap
theorem row_open {w : World} {M : Mask} {v : Value} (h : BoxOk w M (.r v e sz m rs)) (hm : 0 < m) : ∃ g cap, v = rowv g m cap := by
  obtain ⟨cs, ⟨_, h2⟩, _⟩ := h
  rcases h2 with ⟨rfl, h⟩ | ⟨g, cap, cur, rfl, _⟩
  · omega
  · exact ⟨g, cap, rfl⟩
theorem WP.rowAt (i : Nat) {v : Value} (hb : bs[i]? = some (.r v e sz m rs)) (hm : 0 < m) (h : ∀ g cap, v = rowv g m cap → WP P w0 M0 n bs st c Q) : WP P w0 M0 n bs st c Q := fun a w hok => by
  obtain ⟨g, cap, hv⟩ := row_open (hok.boxes _ (List.mem_of_getElem? hb)) hm
  exact h g cap hv a w hok
theorem row_cells {w : World} {M : Mask} (h : BoxOk w M (.r (rowv g m cap) e sz m rs)) : ∃ cs : List Value, All2 w M rs cs ∧ ∀ j v, cs[j]? = some v → w.cell? ⟨g, j, none⟩ = some v := by
  obtain ⟨cs, ⟨h1, h2⟩, h3⟩ := h
  refine ⟨cs, h3, fun j v hv => ?_⟩
  rcases h2 with ⟨h, _⟩ | ⟨g', cap', cur, h, _, hg, _, _, _, ht⟩
  · cases h
  · cases h
    rw [← ht, List.getElem?_take] at hv
    split at hv
    · rw [cell_of_row w g j cur e (0, 0) hg, ← hv]; simp
    · cases hv
theorem ixr {T : TypeId} {kd : IntKind} {i : Int} (hT : elemSz P T = some sz) (hx : OF lk x (val (rowv g m cap))) (hy : OF lk y (val (.int kd i))) (h0 : 0 ≤ i) (h1 : i < m) : OpG P bs lk (.indexAddr T x y) ty (val (.pointer (some ⟨g, i.toNat * sz, none⟩))) :=
  opr fun σ w M hf => by
    have e1 : ev σ x = _ := hx σ w M (hf x (by simp [Op.operands, Call.operands]))
    have e2 : ev σ y = _ := hy σ w M (hf y (by simp [Op.operands, Call.operands]))
    have := run_indexAt_sl (P := P) hT g 0 m cap kd i h0 h1 w
    rw [Nat.zero_add] at this
    simp [execOp, e1, e2, this]
theorem lr (i : Nat) (hb : bs[i]? = some (.r (rowv g m cap) e sz m rs)) (hT : scal P T = true) (hx : OF lk x (val (.pointer (some ⟨g, o, none⟩)))) (hr : rs[o]? = some R) : OpG P bs lk (.load T x) ty R :=
  OpG.pure fun σ w M hf hbs => by
    have h1 : ev σ x = _ := hx σ w M (hf x (by simp [Op.operands, Call.operands]))
    obtain ⟨cs, h2, h3⟩ := row_cells (hbs _ (List.mem_of_getElem? hb))
    obtain ⟨v, h4, h5, _⟩ := h2.get o R hr
    exact ⟨v, by simp [execOp, h1, Instr.loadAt, Instr.sureAddr, run_loadVar_scal hT (h3 o v h4)], h5⟩
theorem lrs (i : Nat) (hb : bs[i]? = some (.r (rowv g m cap) e sz m rs)) (hT : aggs P T = some q) (hx : OF lk x (val (.pointer (some ⟨g, o, none⟩)))) (hm : o + q ≤ rs.length) : OpG P bs lk (.load T x) ty (agg ((rs.drop o).take q)) :=
  OpG.pure fun σ w M hf hbs => by
    have h1 : ev σ x = _ := hx σ w M (hf x (by simp [Op.operands, Call.operands]))
    obtain ⟨cs, h2, h3⟩ := row_cells (hbs _ (List.mem_of_getElem? hb))
    have hl := h2.length
    refine ⟨.agg ((cs.drop o).take q).toArray, ?_, _, rfl, (h2.drop o).take q⟩
    have h4 : ∀ j v, ((cs.drop o).take q)[j]? = some v → w.cell? ⟨g, o + j, none⟩ = some v := fun j v hv => by
      rw [List.getElem?_take] at hv
      split at hv
      · rw [List.getElem?_drop] at hv; exact h3 _ _ hv
      · cases hv
    simp only [execOp, h1, Instr.loadAt, Instr.sureAddr, Sem.run_bind, Sem.run_pure, Result.andThen_ok, run_loadVar_agg (hT.trans (by simp; omega)) h4]
theorem WP.rowAt' (i : Nat) {v : Value} (hb : bs[i]? = some (.r v e sz m rs)) (h : ∀ g cap, (0 < m → v = rowv g m cap) → WP P w0 M0 n bs st c Q) : WP P w0 M0 n bs st c Q := fun a w hok => by
  by_cases hm : 0 < m
  · obtain ⟨g, cap, hv⟩ := row_open (hok.boxes _ (List.mem_of_getElem? hb)) hm
    exact h g cap (fun _ => hv) a w hok
  · exact h 0 0 (fun h => absurd h hm) a w hok
theorem ixr' {T : TypeId} {kd : IntKind} {i : Int} {v : Value} (hv : v = rowv g m cap) (hT : elemSz P T = some sz) (hx : OF lk x (val v)) (hy : OF lk y (val (.int kd i))) (h0 : 0 ≤ i) (h1 : i < m) : OpG P bs lk (.indexAddr T x y) ty (val (.pointer (some ⟨g, i.toNat * sz, none⟩))) := by
  subst hv; exact ixr hT hx hy h0 h1
theorem lr' (i : Nat) {v : Value} (hv : v = rowv g m cap) (hb : bs[i]? = some (.r v e sz m rs)) (hT : scal P T = true) (hx : OF lk x (val (.pointer (some ⟨g, o, none⟩)))) (hr : rs[o]? = some R) : OpG P bs lk (.load T x) ty R := by
  subst hv; exact lr i hb hT hx hr
theorem lrs' (i : Nat) {v : Value} (hv : v = rowv g m cap) (hb : bs[i]? = some (.r v e sz m rs)) (hT : aggs P T = some q) (hx : OF lk x (val (.pointer (some ⟨g, o, none⟩)))) (hm : o + q ≤ rs.length) : OpG P bs lk (.load T x) ty (agg ((rs.drop o).take q)) := by
  subst hv; exact lrs i hb hT hx hm
/-- a store into one's own row: what it leaves -/
theorem run_storeR {w : World} {M : Mask} {vs : List Value} (hbx : BoxOk w M (.r (rowv g m cap) e sz m rs)) (h3 : All2 w M rs' vs) (hm : sizeT P T = some q) (hl : rs'.length = q) (hr : o + q ≤ rs.length) :
    ∃ w', (∀ v : Value, v.cells = vs.toArray → (storeVar T ⟨g, o, none⟩ v).run P w = .ok () w') ∧ (∀ j, j ≠ g → w'.heap[j]? = w.heap[j]?) ∧ w'.heap.size = w.heap.size ∧ w'.os = w.os ∧ w'.tape = w.tape ∧ w'.output = w.output ∧
      ∃ cs, w'.ownsRow 0 e sz (rowv g m cap) m cs ∧ All2 w M (setAt rs o rs') cs := by
  obtain ⟨cs, ⟨h1, h2⟩, h5⟩ := hbx
  have hlv := h3.length
  have hlc := h5.length
  rcases h2 with ⟨h, _⟩ | ⟨g', cap', cur, h, h0, hg, hmc, hcm, hcs, ht⟩
  · cases h
  · cases h
    have hcl : cs.length ≤ cur.toList.length := by rw [← ht]; simp; omega
    have hle : m * sz ≤ cur.toList.length := by rw [Array.length_toList, hcs]; exact Nat.mul_le_mul_right _ hmc
    obtain ⟨w', k1, k2, k3, k4, k5, k6, k7⟩ := run_storeCells_in (P := P) g e vs 0 cur.toList w o (by simpa using hg) (by omega) h3.one
    refine ⟨w', fun v h2 => ?_, k3, k4, k5, k6, k7, cs.take o ++ vs ++ cs.drop (o + vs.length), ⟨?_, .inr ⟨g, cap, _, rfl, h0, k2, hmc, hcm, ?_, ?_⟩⟩, by unfold setAt; rw [hlv]; exact ((h5.take o).append h3).append (h5.drop _)⟩
    · unfold sizeT at hm
      cases hi : P.info? T with
      | none => rw [hi] at hm; simp at hm
      | some ti =>
        rw [hi] at hm
        simp only [Option.map_some, Option.some.injEq] at hm
        have hne : vs.length = ti.size := by omega
        simp [storeVar, h2, sizeOf, typeInfo, hi, hne, k1]
    · simp only [List.length_append, List.length_take, List.length_drop]; omega
    · simp only [List.length_append, List.length_take, List.length_drop, List.size_toArray, Nat.add_zero]
      rw [← hcs]; simp at hcl hle ⊢; omega
    · simp only [Nat.add_zero, List.toList_toArray]
      have h9 : o + vs.length ≤ m * sz := by omega
      rw [← ht, List.take_append, List.take_append, List.take_take, List.take_take, List.drop_take, Nat.min_eq_right (by omega), Nat.min_eq_left (by omega), List.take_of_length_le (l := vs) (by simp; omega)]
      congr 1
      simp only [List.length_append, List.length_take]
      rw [Nat.min_eq_left (by omega)]
theorem OpE.storeR (i : Nat) (hb : bs[i]? = some (.r (rowv g m cap) e sz m rs)) (hx : OF lk x (val (.pointer (some ⟨g, o, none⟩)))) (hy : OF lk y R) (hfl : Flat R rs')
    (hm : sizeT P T = some q) (hl : rs'.length = q) (hr : o + q ≤ rs.length) : OpE P bs lk (.store T x y) ty (bs.set i (.r (rowv g m cap) e sz m (setAt rs o rs'))) := by
  intro w0 M0 n B a w hok hf
  have h1 : ev (fun t => a.tmps.getD t undef) x = _ := hx _ w _ fun i R' hi => hf _ (by simp [Op.operands]) i R' hi
  obtain ⟨vs, h2, h3⟩ := hfl _ _ _ (hy (fun t => a.tmps.getD t undef) w _ fun i R' hi => hf _ (by simp [Op.operands]) i R' hi)
  have hbB : (B ++ bs)[B.length + i]? = some (.r (rowv g m cap) e sz m rs) := by rw [List.getElem?_append_right (by omega)]; simpa using hb
  obtain ⟨w', hrun, k3, k4, k5, k6, k7, cs, c1, c2⟩ := run_storeR (P := P) (hok.boxes _ (List.mem_of_getElem? hbB)) h3 hm hl hr
  simp only [execOp, h1, Instr.storeAt, Instr.sureAddr, Sem.run_bind, Sem.run_pure, Result.andThen_ok, hrun _ h2]
  have hok' := hok.change (w' := w') (y := .r (rowv g m cap) e sz m (setAt rs o rs')) hbB (fun j _ hj => k3 j fun e => hj (by rw [e]; rfl)) (by omega) k5 k6 k7 (fun g' hg' => .inl hg') (fun g' hg' => by
    have h9 := hok.msk g' (.inr (mem_blks (List.mem_of_getElem? hbB) hg')); omega) fun M hM => ⟨cs, c1, c2.keep hM⟩
  rw [List.set_append_right _ _ (by omega), show B.length + i - B.length = i from by omega] at hok'
  have hM : mkM M0 (B ++ bs.set i (.r (rowv g m cap) e sz m (setAt rs o rs'))) = mkM M0 (B ++ bs) := by
    have : ∀ (bs : List Box) (i : Nat), bs[i]? = some (.r (rowv g m cap) e sz m rs) → blks (bs.set i (.r (rowv g m cap) e sz m (setAt rs o rs'))) = blks bs := by
      intro bs
      induction bs with
      | nil => intro i h; simp at h
      | cons x bs ih =>
        intro i h
        cases i with
        | zero => simp at h; subst h; rfl
        | succ i => have := ih i (by simpa using h); rw [List.set_cons_succ]; unfold blks at *; rw [List.filterMap_cons, List.filterMap_cons, this]
    unfold mkM blks
    rw [List.filterMap_append, List.filterMap_append]
    have h' := this bs i hb
    unfold blks at h'
    rw [h']
  refine .inr ⟨_, rfl, hok', ?_⟩
  rw [hM]
  exact ⟨fun j _ hj => k3 j fun e => hj (e ▸ .inr (mem_blks (List.mem_of_getElem? hbB) rfl)), by omega, fun _ h => .inl h⟩
theorem WL.storeR (i : Nat) {pos : String} {af : Array Edge} (hb : bs[i]? = some (.r (rowv g m cap) e sz m rs)) (hx : OF (look st) x (val (.pointer (some ⟨g, o, none⟩)))) (hy : OF (look st) y R) (hfl : Flat R rs')
    (hm : sizeT P T = some q) (hl : rs'.length = q) (hr : o + q ≤ rs.length)
    (rest : WL P w0 M0 n (bs.set i (.r (rowv g m cap) e sz m (setAt rs o rs'))) st ops l Q) : WL P w0 M0 n bs st ops (⟨none, .store T x y, ty, pos, af, none⟩ :: l) Q := by
  intro a w hok
  have h1 : ev (fun t => a.tmps.getD t undef) x = _ := hx _ w _ fun i R' _ hi => hok.facts i R' hi
  obtain ⟨vs, h2, h3⟩ := hfl _ _ _ (hy (fun t => a.tmps.getD t undef) w _ fun i R' _ hi => hok.facts i R' hi)
  obtain ⟨w', hrun, k3, k4, k5, k6, k7, cs, c1, c2⟩ := run_storeR (P := P) (hok.boxes _ (List.mem_of_getElem? hb)) h3 hm hl hr
  have hok' := hok.change (w' := w') (y := .r (rowv g m cap) e sz m (setAt rs o rs')) hb (fun j _ hj => k3 j fun e => hj (by rw [e]; rfl)) (by omega) k5 k6 k7 (fun g' hg' => .inl hg') (fun g' hg' => by
    have h9 := hok.msk g' (.inr (mem_blks (List.mem_of_getElem? hb) hg')); omega) fun M hM => ⟨cs, c1, c2.keep hM⟩
  refine wpList_plain rfl fun K hK => ?_
  unfold Oper.wp
  rw [eval_ev, exec_eq]
  simp only [execOp, h1, Instr.storeAt, Instr.sureAddr, Sem.run_bind, Sem.run_pure, Result.andThen_ok, hrun _ h2]
  exact hK _ _ (rest _ _ hok')
theorem WL.storeR' (i : Nat) {v : Value} (hv : v = rowv g m cap) {pos : String} {af : Array Edge} (hb : bs[i]? = some (.r v e sz m rs)) (hx : OF (look st) x (val (.pointer (some ⟨g, o, none⟩)))) (hy : OF (look st) y R) (hfl : Flat R rs')
    (hm : sizeT P T = some q) (hl : rs'.length = q) (hr : o + q ≤ rs.length)
    (rest : WL P w0 M0 n (bs.set i (.r v e sz m (setAt rs o rs'))) st ops l Q) : WL P w0 M0 n bs st ops (⟨none, .store T x y, ty, pos, af, none⟩ :: l) Q := by
  subst hv; exact WL.storeR i hb hx hy hfl hm hl hr rest
theorem OpE.storeR' (i : Nat) {v : Value} (hv : v = rowv g m cap) (hb : bs[i]? = some (.r v e sz m rs)) (hx : OF lk x (val (.pointer (some ⟨g, o, none⟩)))) (hy : OF lk y R) (hfl : Flat R rs')
    (hm : sizeT P T = some q) (hl : rs'.length = q) (hr : o + q ≤ rs.length) : OpE P bs lk (.store T x y) ty (bs.set i (.r v e sz m (setAt rs o rs'))) := by
  subst hv; exact OpE.storeR i hb hx hy hfl hm hl hr
theorem WL.mkr {op : Op} {d : Nat} {ty e : TypeId} {pos : String} {af : Array Edge} {sz k : Nat} {rs : List Rp} (h : OpN P bs (look st) op ty e sz k rs) (hd : d < n)
    (rest : ∀ v : Value, v.oneCell' = true → WL P w0 M0 n (.r v e sz k rs :: bs) ((d, val v) :: st) ops l Q) : WL P w0 M0 n bs st ops (⟨some d, op, ty, pos, af, none⟩ :: l) Q := by
  intro a w hok
  refine wpList_plain rfl fun K hK => wp_of_does rfl ?_
  rw [eval_ev, exec_eq]
  exact (h _ w _ hok.msk (fun x hx i R _ hR => hok.facts i R hR) hok.boxes).mono fun v w' ⟨hv, hm⟩ => hK _ _ (rest v hv _ _ ((hok.new hm).2.setFact hd rfl))
theorem OpN.bsl {lk : Nat → Option Rp} {T ty e : TypeId} {sz bytes : Nat} {x : Operand} {R : Rp} {rs : List Rp} (hT : elemInfo P T = some (e, sz, bytes, sz)) (hx : OF lk x R) (hfl : Flat R rs) (hf : rs.length = sz) (h0 : 0 < sz) (h1 : sz ≤ 1000) :
    OpN P bs lk (.buildSlice T 1 #[(0, x)]) ty e sz 1 rs := fun σ w M hm hfa _ => by
  obtain ⟨vs, g1, g2⟩ := hfl _ _ _ (hx σ w M (hfa x (by simp [Op.operands])))
  have hlv := g2.length
  unfold elemInfo at hT
  split at hT
  · rename_i e' hu
    cases hi : P.info? e' with
    | none => rw [hi] at hT; simp at hT
    | some ti =>
      cases hz : ti.zero with
      | none => rw [hi] at hT; simp [hz] at hT
      | some z =>
        rw [hi] at hT
        simp only [Option.bind_some, hz, Option.map_some, Option.some.injEq, Prod.mk.injEq] at hT
        obtain ⟨rfl, t1, t2, t3⟩ := hT
        have hb : Below w.heap.size w (w.alloc (.cells vs.toArray e')) := (Below.refl _ w).alloc (Nat.le_refl _) _
        have hfold : ∀ (cs : List Value), cs.length = vs.length → (vs.zipIdx 0).foldl (fun cs (c, j) => cs.setIfInBounds (0 * sz + j) c) cs.toArray = vs.toArray := by
          have key : ∀ (vs pre suf : List Value), suf.length = vs.length → (vs.zipIdx pre.length).foldl (fun cs (c, j) => cs.setIfInBounds (0 * sz + j) c) (pre ++ suf).toArray = (pre ++ vs).toArray := by
            intro vs
            induction vs with
            | nil => intro pre suf h; have : suf = [] := List.eq_nil_of_length_eq_zero h; simp [this]
            | cons v vs ih =>
              intro pre suf h
              cases suf with
              | nil => simp at h
              | cons s suf =>
                simp only [List.zipIdx_cons, List.foldl_cons, List.setIfInBounds_toArray, Nat.zero_mul, Nat.zero_add]
                have hset : (pre ++ s :: suf).set pre.length v = (pre ++ [v]) ++ suf := by simp
                rw [hset]
                have := ih (pre ++ [v]) suf (by simpa using h)
                simp only [List.length_append, List.length_cons, List.length_nil, Nat.zero_add, Nat.zero_mul] at this
                rw [this]
                simp
          intro cs hc
          exact key vs [] cs hc
        have hrun : (Instr.buildSlice T 1 #[(0, ev σ x)]).run P w = .ok (.slice (some ⟨w.heap.size, 0, none⟩) 1 1) (w.alloc (.cells vs.toArray e')) := by
          have hfill : ∀ cs : Array Value, cs.size = sz → Instr.fill (fun i => some (i * sz, sz)) cs [(0, ev σ x)] = some vs.toArray := fun cs hc => by
            have e := hfold cs.toList (by simp; omega)
            simp only [Instr.fill, g1]
            rw [if_neg (by simp; omega)]
            refine congrArg some (Eq.trans ?_ e)
            simp
          unfold Instr.buildSlice
          have hsz : ti.size = sz := t1
          have h2 : ¬ (1 * sz > 2 ^ 24) := by omega
          have h3 : ¬ (1 * sz = 0) := by omega
          simp only [Sem.run_bind, run_underlying hu, Result.andThen_ok, sizeOf, typeInfo, run_program, hi, Sem.run_pure, hsz, Sem.run_ite, if_neg h2, if_neg h3, zeroValue, hz]
          rw [hfill _ (by simp)]
          simp [newRow]
        have : (execOp (ev σ) ⟨none, .buildSlice T 1 #[(0, x)], ty, "", #[], none⟩).run P w = .ok (.value (.slice (some ⟨w.heap.size, 0, none⟩) 1 1)) (w.alloc (.cells vs.toArray e')) := by
          simp [execOp, hrun]
        rw [this]
        have hrow := World.ownsRow_lit (e := e') (size := sz) (base := 0) w vs.toArray 1 (Nat.zero_le _) (by unfold maxLen; omega) (by simp; omega)
        have hms : ∀ b, mkM M [.r (.slice (some ⟨w.heap.size, 0, none⟩) 1 1) e' sz 1 rs] b → M b ∨ b = w.heap.size := fun b hb => hb.imp id fun h => by simpa [blks, Box.blk, Value.ownBlock] using h
        refine ⟨rfl, ⟨fun y hy => ?_, by simp [blks, Box.blk, Value.ownBlock], fun g hg => ?_, hb, fun b hb' => ?_, fun g hg hm' => ?_⟩⟩
        · rw [List.mem_singleton.1 hy]
          exact ⟨vs, hrow, g2.keep ⟨fun b hb' _ => hb.block b hb', hb.size, fun b hb' => (hms b hb').imp id fun h => Nat.le_of_eq h.symm⟩⟩
        · have : g = w.heap.size := by simpa [blks, Box.blk, Value.ownBlock] using hg
          omega
        · rcases hms b hb' with h | h
          · have := hm b h; have := hb.size; omega
          · subst h; simp
        · have : g = w.heap.size := by simpa [blks, Box.blk, Value.ownBlock] using hg
          have := hm g hm'; omega
  · cases hT
end
end Go.Fw

/- What a box holds is put away and taken back; rows that are read from now on; slicing. No program in sight. -/
namespace Go.Fw
open Go.RowKit Go.Proofs
set_option linter.unusedVariables false
set_option linter.unusedSimpArgs false
section
variable {P : Program} {w0 : World} {M0 : Mask} {n : Nat} {bs : List Box} {st : St} {ops : Array Oper} {l : List Oper} {Q : Exit → Act → World → Prop} {c : Code} {g k : Nat} {T : TypeId} {rs rs' : List Rp}
theorem Ok.recast {a : Act} {w : World} (h : Ok w0 M0 n bs st a w) (hk : bs[k]? = some (.b g T rs)) (hi : ∀ cs : List Value, w.heap[g]? = some (.cells cs.toArray T (0, 0)) → All2 w (mkM M0 bs) rs cs → All2 w (mkM M0 bs) rs' cs) : Ok w0 M0 n (bs.set k (.b g T rs')) st a w :=
  h.change hk (fun _ _ _ => rfl) (Nat.le_refl _) rfl rfl rfl (fun _ hg => .inl hg) (fun g' hg => h.msk g' (.inr (mem_blks (List.mem_of_getElem? hk) hg))) fun M hM => by
    obtain ⟨cs, h1, h2⟩ := h.boxes _ (List.mem_of_getElem? hk)
    exact ⟨cs, h1, (hi cs h1 h2).keep hM⟩
/-- what some cells hold: a fact of no slot -/
def pinned (rs : List Rp) (cs : List Value) : Rp := ⟨fun _ w M => All2 w M rs cs, fun h k => h.keep k⟩
theorem All2.of_vals {w : World} {M : Mask} : ∀ {cs cs' : List Value}, All2 w M (cs.map val) cs' → cs' = cs
  | [], [], _ => rfl
  | c :: cs, c' :: cs', h => by
    have h1 : c' = c := h.1.1
    rw [h1, All2.of_vals h.2]
theorem mkM_set {k : Nat} {x y : Box} (hk : bs[k]? = some x) (hxy : x.blk = y.blk) : ∀ b, mkM M0 (bs.set k y) b → mkM M0 bs b := fun b hb => by
  rcases hb with hb | hb
  · exact .inl hb
  · rcases mem_blks_set hb with h | ⟨j, z, _, h1, h2⟩
    · exact .inr (mem_blks (List.mem_of_getElem? hk) (hxy.trans h))
    · exact .inr (mem_blks (List.mem_of_getElem? h1) h2)
theorem WP.pin (k slot : Nat) (hk : bs[k]? = some (.b g T rs)) (h : ∀ cs : List Value, cs.length = rs.length → WP P w0 M0 n (bs.set k (.b g T (cs.map val))) ((slot, pinned rs cs) :: st) c Q) : WP P w0 M0 n bs st c Q := fun a w hok => by
  obtain ⟨cs, h1, h2⟩ := hok.boxes _ (List.mem_of_getElem? hk)
  have h3 := hok.recast hk (rs' := cs.map val) fun cs' h1' _ => by
    rw [h1] at h1'
    have e : cs = cs' := by simpa using h1'
    subst e
    exact All2.vals (List.all_eq_true.2 fun u hu => h2.one u hu)
  refine h cs h2.length.symm a w ⟨h3.defers, h3.size, fun t R ht => ?_, h3.boxes, h3.nodup, h3.fresh, h3.below, h3.msk, h3.m0⟩
  simp only [look] at ht
  split at ht
  · cases ht
    show All2 w _ rs cs
    exact h2.keep (Kp.less w (mkM_set (y := .b g T (cs.map val)) hk rfl))
  · exact h3.facts t R ht
theorem WP.unpin (k slot : Nat) {cs : List Value} (hk : bs[k]? = some (.b g T (cs.map val))) (hs : look st slot = some (pinned rs cs)) (h : WP P w0 M0 n (bs.set k (.b g T rs)) st c Q) : WP P w0 M0 n bs st c Q := fun a w hok =>
  h a w (hok.recast hk fun cs' _ h2 => by rw [All2.of_vals h2]; exact hok.facts slot _ hs)
/-- a row is read from now on; the variable that holds it -/
theorem WP.freezeB {α : Type} (i k : Nat) {v : Value} {e : TypeId} {sz m : Nat} (f : α → List Rp) (xs : List α) (hi : bs[i]? = some (.r v e sz m rs)) (hk : bs[k]? = some (.b g T [val v])) (hik : i ≠ k) (hf : ∀ x, (f x).length = sz) (hm : m = xs.length) (hrs : rs = xs.flatMap f)
    (h : WP P w0 M0 n ((bs.set i (.r nilS e sz 0 [])).set k (.b g T [sl sz f xs])) st c Q) : WP P w0 M0 n bs st c Q := fun a w hok => by
  have h1 : Ok w0 M0 n (bs.set i (.r nilS e sz 0 [])) st a w := hok.change hi (fun _ _ _ => rfl) (Nat.le_refl _) rfl rfl rfl (fun g hg => (by cases hg)) (fun g hg => (by cases hg)) fun M _ => ⟨[], ⟨by simp, .inl ⟨rfl, rfl⟩⟩, trivial⟩
  have hk1 : (bs.set i (.r nilS e sz 0 []))[k]? = some (.b g T [val v]) := by rw [List.getElem?_set, if_neg hik]; exact hk
  obtain ⟨cs, h2, h3⟩ := hok.boxes _ (List.mem_of_getElem? hi)
  subst hm; subst hrs
  have hle : ∀ b, mkM M0 (bs.set i (.r nilS e sz 0 [])) b → mkM M0 bs b := fun b hb => by
    rcases hb with hb | hb
    · exact .inl hb
    · rcases mem_blks_set hb with h4 | ⟨j, z, _, h4, h5⟩
      · cases h4
      · exact .inr (mem_blks (List.mem_of_getElem? h4) h5)
  have hv : (sl sz f xs).h v w (mkM M0 (bs.set i (.r nilS e sz 0 []))) := by
    refine sl_of_own hf h2 (h3.keep (Kp.less w hle)) fun g hg hm => ?_
    rcases hm with hm | hm
    · exact hok.m0 g (mem_blks (List.mem_of_getElem? hi) hg) hm
    · rcases mem_blks_set hm with h4 | ⟨j, z, hj, h4, h5⟩
      · cases h4
      · exact hj (blks_uniq hok.nodup h4 hi h5 hg)
  refine h a w (h1.recast hk1 fun cs' _ h5 => ?_)
  cases cs' with
  | nil => exact h5.elim
  | cons u us =>
    have hu : u = v := h5.1.1
    subst hu
    cases us with
    | nil => exact ⟨⟨hv, h5.1.2⟩, trivial⟩
    | cons _ _ => exact h5.2.elim
theorem slh {α : Type} {lk : Nat → Option Rp} {ty : TypeId} {x y : Operand} {sz : Nat} {f : α → List Rp} {xs : List α} {kd : IntKind} {m : Int} (hT : P.underlying T = some (.slice (P.elem T))) (hs : elemSz P T = some sz) (hx : OF lk x (sl sz f xs)) (hy : OF lk y (val (.int kd m))) (h0 : 0 ≤ m) (h1 : m ≤ xs.length) :
    OpG P bs lk (.slice T x none (some y) none) ty (sl sz f (xs.take m.toNat)) := OpG.pure fun σ w M hf _ => by
  obtain ⟨A, c, e1, e2, e3⟩ := hx σ w M (hf x (by simp [Op.operands]))
  have e4 : ev σ y = _ := hy σ w M (hf y (by simp [Op.operands]))
  have hsz : ∃ i, P.info? (P.elem T) = some i := by
    unfold elemSz at hs
    rw [hT] at hs
    dsimp only at hs
    cases hi : P.info? (P.elem T) with
    | none => rw [hi] at hs; simp at hs
    | some i => exact ⟨i, rfl⟩
  obtain ⟨ti, hti⟩ := hsz
  refine ⟨sliced A 0 m.toNat c ti.size, ?_, ?_⟩
  · have hr : (Instr.sliceAt T (.slice A xs.length c) none (some (.int kd m)) none).run P w = .ok (sliced A 0 m.toNat c ti.size) w := by
      rw [run_sliceAt_slice w T _ _ _ _ hT, run_slice_h w T A xs.length c hT kd m h0 (by omega)]
      simp [sizeOf, typeInfo, hti]
    simp [execOp, e1, e4, hr]
  · have hl : (xs.take m.toNat).length = m.toNat := by rw [List.length_take]; omega
    rcases e3 with rfl | ⟨b, o, rfl, g1, g2, g3⟩
    · refine ⟨if c = 0 then A else A.map (·.add (0 * ti.size)), c, ?_, by simp, .inl (by simp)⟩
      simp only [sliced, hl, Nat.sub_zero]
    · refine ⟨some ⟨b, o, none⟩, c, ?_, by rw [hl]; omega, .inr ⟨b, o, rfl, g1, g2, fun i z hz => g3 i z ?_⟩⟩
      · simp only [sliced, hl]
        split <;> simp [add_at]
      · rw [List.getElem?_take] at hz
        split at hz
        · exact hz
        · cases hz
theorem OpN.bsl0 {lk : Nat → Option Rp} {T ty e : TypeId} {sz bytes : Nat} (hT : elemInfo P T = some (e, sz, bytes, sz)) : OpN P bs lk (.buildSlice T 0 #[]) ty e sz 0 [] := fun σ w M hm hfa _ => by
  unfold elemInfo at hT
  split at hT
  · rename_i e' hu
    cases hi : P.info? e' with
    | none => rw [hi] at hT; simp at hT
    | some ti =>
      cases hz : ti.zero with
      | none => rw [hi] at hT; simp [hz] at hT
      | some z =>
        rw [hi] at hT
        simp only [Option.bind_some, hz, Option.map_some, Option.some.injEq, Prod.mk.injEq] at hT
        obtain ⟨rfl, t1, t2, t3⟩ := hT
        have hrun : (Instr.buildSlice T 0 #[]).run P w = .ok (.slice (some ⟨w.heap.size, 0, none⟩) 0 0) (w.alloc (.cells ([] : List Value).toArray e')) := by
          unfold Instr.buildSlice
          simp only [Sem.run_bind, run_underlying hu, Result.andThen_ok, sizeOf, typeInfo, run_program, hi, Sem.run_pure, Sem.run_ite, Nat.zero_mul]
          simp [Instr.fill, newRow, show (Array.range 0) = #[] from rfl]
        have : (execOp (ev σ) ⟨none, .buildSlice T 0 #[], ty, "", #[], none⟩).run P w = .ok (.value (.slice (some ⟨w.heap.size, 0, none⟩) 0 0)) (w.alloc (.cells ([] : List Value).toArray e')) := by
          simp [execOp, hrun]
        rw [this]
        have hb : Below w.heap.size w (w.alloc (.cells ([] : List Value).toArray e')) := (Below.refl _ w).alloc (Nat.le_refl _) _
        have hrow := World.ownsRow_lit (e := e') (size := sz) (base := 0) w ([] : List Value).toArray 0 (Nat.zero_le _) (by unfold maxLen; omega) (by simp)
        have hms : ∀ b, mkM M [.r (.slice (some ⟨w.heap.size, 0, none⟩) 0 0) e' sz 0 []] b → M b ∨ b = w.heap.size := fun b hb => hb.imp id fun h => by simpa [blks, Box.blk, Value.ownBlock] using h
        refine ⟨rfl, ⟨fun y hy => ?_, by simp [blks, Box.blk, Value.ownBlock], fun g hg => ?_, hb, fun b hb' => ?_, fun g hg hm' => ?_⟩⟩
        · rw [List.mem_singleton.1 hy]
          exact ⟨[], hrow, trivial⟩
        · have : g = w.heap.size := by simpa [blks, Box.blk, Value.ownBlock] using hg
          omega
        · rcases hms b hb' with h | h
          · have := hm b h; have := hb.size; omega
          · subst h; simp
        · have : g = w.heap.size := by simpa [blks, Box.blk, Value.ownBlock] using hg
          have := hm g hm'; omega
  · cases hT
end
end Go.Fw

/- Functions as values, make, copy. No program in sight. -/
namespace Go.Fw
open Go.RowKit Go.Proofs
set_option linter.unusedVariables false
set_option linter.unusedSimpArgs false
section
variable {P : Program} {w0 : World} {M0 : Mask} {n : Nat} {bs : List Box} {st : St} {ops : Array Oper} {l : List Oper} {Q : Exit → Act → World → Prop} {c : Code} {lk : Nat → Option Rp} {ty : TypeId}
/-- a function's value, with what it caught -/
def fnR (f : FuncId) (caps : List Rp) : Rp := ⟨fun v w M => ∃ cs : List Value, v = .func (.func f) #[] cs.toArray ∧ TupAll w M caps cs, fun ⟨cs, h1, h2⟩ k => ⟨cs, h1, h2.keep k⟩⟩
theorem TupAll.cat {w : World} {M : Mask} : ∀ {rs : List Rp} {vs : List Value} {rs' : List Rp} {vs' : List Value}, TupAll w M rs vs → TupAll w M rs' vs' → TupAll w M (rs ++ rs') (vs ++ vs')
  | [], [], _, _, _, h => h
  | _ :: _, _ :: _, _, _, h, h' => ⟨h.1, TupAll.cat h.2 h'⟩
theorem ofn (f : FuncId) : OF lk (.func f) (fnR f []) := fun σ w M _ => ⟨[], rfl, trivial⟩
theorem mkfn {f : FuncId} {i : Nat} {R : Rp} (hx : OF lk (.tmp i) R) : OpG P bs lk (.makeFunc (.func f) #[] #[.tmp i]) ty (fnR f [R]) := OpG.pure fun σ w M hf _ =>
  ⟨.func (.func f) #[] #[σ i], by simp [execOp, Instr.makeFunc, ev], [σ i], rfl, hx σ w M (hf (.tmp i) (by simp [Op.operands])), trivial⟩
theorem callv {f : FuncId} {x : Operand} {xs : List Operand} {Rs caps : List Rp} {R : Rp} {ats : Array TypeId} (hc : PureC P f (Rs ++ caps) R) (hv : OF lk x (fnR f caps)) (hx : OFs lk xs Rs) : OpG P bs lk (.call ⟨.value x, xs.toArray, ats⟩) ty R := by
  intro σ w M hm hf _
  obtain ⟨cs, e1, e2⟩ := hv σ w M (hf x (by simp [Op.operands, Call.operands]))
  have h1 : (execOp (ev σ) ⟨none, .call ⟨.value x, xs.toArray, ats⟩, ty, "", #[], none⟩).run P w = .ok (.enter f ((xs.map (ev σ)).toArray ++ cs.toArray)) w := by
    have := hc.1 (xs.map (ev σ) ++ cs).toArray w
    simp [execOp, resolve, Deferred.ofValue, e1, invoke, this]
  rw [h1]
  have h2 := hc.2 w M (xs.map (ev σ) ++ cs) hm (TupAll.cat (hx.all fun x hx => hf x (by simp [Op.operands, Call.operands, hx])) e2)
  rwa [show ((xs.map (ev σ)).toArray ++ cs.toArray) = (xs.map (ev σ) ++ cs).toArray from by simp]

/-- make([]T, k), T of one cell -/
theorem OpN.mks {T e : TypeId} {bytes k : Nat} {x y : Operand} {z : Value} {kl kc : IntKind} (hT : elemInfo P T = some (e, 1, bytes, 1)) (hz : zeros P e = some [z]) (h1 : z.oneCell' = true) (hx : OF lk x (val (.int kl (k : Int)))) (hy : OF lk y (val (.int kc (k : Int)))) (hk : bytes * k ≤ 281474976710656) (h63 : k ≤ 9223372036854775807) :
    OpN P bs lk (.makeSlice T x y) ty e 1 k (List.replicate k (val z)) := fun σ w M hm hfa _ => by
  have e1 : ev σ x = _ := hx σ w M (hfa x (by simp [Op.operands]))
  have e2 : ev σ y = _ := hy σ w M (hfa y (by simp [Op.operands]))
  unfold elemInfo at hT
  split at hT
  · rename_i e' hu
    cases hi : P.info? e' with
    | none => rw [hi] at hT; simp at hT
    | some ti =>
      cases hzi : ti.zero with
      | none => rw [hi] at hT; simp [hzi] at hT
      | some zz =>
        rw [hi] at hT
        simp only [Option.bind_some, hzi, Option.map_some, Option.some.injEq, Prod.mk.injEq] at hT
        obtain ⟨rfl, t1, t2, t3⟩ := hT
        have hzc : zz.cells = #[z] := by
          unfold zeros at hz
          rw [hi] at hz
          simp only [Option.bind_some, hzi, Option.map_some, Option.some.injEq] at hz
          apply Array.ext'
          rw [hz]
        have hr := run_make (P := P) w T e' ti zz hu hi hzi kl kc (k : Int) (k : Int) (by omega) (by omega) (by rw [t2]; omega) (by omega)
        have hmc : madeCells zz.cells ((k : Int).toNat * ti.size) = (List.replicate k z).toArray := by
          rw [hzc, t1, Nat.mul_one, Int.toNat_natCast]
          unfold madeCells
          apply Array.ext
          · simp
          · intro i h1 h2
            simp [Nat.mod_one]
        rw [hmc, Int.toNat_natCast] at hr
        have : (execOp (ev σ) ⟨none, .makeSlice T x y, ty, "", #[], none⟩).run P w = .ok (.value (.slice (some ⟨w.heap.size, 0, none⟩) k k)) (w.alloc (.cells (List.replicate k z).toArray e')) := by
          simp [execOp, e1, e2, hr]
        rw [this]
        have hb : Below w.heap.size w (w.alloc (.cells (List.replicate k z).toArray e')) := (Below.refl _ w).alloc (Nat.le_refl _) _
        have hrow := World.ownsRow_lit (e := e') (size := 1) (base := 0) w (List.replicate k z).toArray k (Nat.zero_le _) (by unfold maxLen; omega) (by simp)
        have hms : ∀ b, mkM M [.r (.slice (some ⟨w.heap.size, 0, none⟩) k k) e' 1 k (List.replicate k (val z))] b → M b ∨ b = w.heap.size := fun b hb => hb.imp id fun h => by simpa [blks, Box.blk, Value.ownBlock] using h
        refine ⟨rfl, ⟨fun y hy => ?_, by simp [blks, Box.blk, Value.ownBlock], fun g hg => ?_, hb, fun b hb' => ?_, fun g hg hm' => ?_⟩⟩
        · rw [List.mem_singleton.1 hy]
          refine ⟨_, hrow, ?_⟩
          have := All2.vals (w := w.alloc (.cells (List.replicate k z).toArray e')) (M := mkM M [.r (.slice (some ⟨w.heap.size, 0, none⟩) k k) e' 1 k (List.replicate k (val z))]) (cs := List.replicate k z) (List.all_eq_true.2 fun u hu => by rw [List.eq_of_mem_replicate hu]; exact h1)
          rwa [List.map_replicate] at this
        · have : g = w.heap.size := by simpa [blks, Box.blk, Value.ownBlock] using hg
          omega
        · rcases hms b hb' with h | h
          · have := hm b h; have := hb.size; omega
          · subst h; simp
        · have : g = w.heap.size := by simpa [blks, Box.blk, Value.ownBlock] using hg
          have := hm g hm'; omega
  · cases hT

/-- copy(v, y) where v is one's own row of the same length, of one cell each -/
theorem WL.copy {α : Type} (i : Nat) {T ty e : TypeId} {bytes k d : Nat} {v : Value} {x y : Operand} {pos : String} {af : Array Edge} {rs : List Rp} {f : α → List Rp} {xs : List α} (hb : bs[i]? = some (.r v e 1 k rs)) (hT : elemInfo P T = some (e, 1, bytes, 1)) (hx : OF (look st) x (val v)) (hy : OF (look st) y (sl 1 f xs)) (hf : ∀ x, (f x).length = 1) (hk : xs.length = k) (hd : d < n)
    (rest : WL P w0 M0 n (bs.set i (.r v e 1 k (xs.flatMap f))) ((d, val (.int .i64 (k : Int))) :: st) ops l Q) :
    WL P w0 M0 n bs st ops (⟨some d, .call ⟨.builtin .copy, #[x, y], #[T, T]⟩, ty, pos, af, none⟩ :: l) Q := by
  intro a w hok
  have h1 : ev (fun t => a.tmps.getD t undef) x = _ := hx _ w _ fun i R' _ hi => hok.facts i R' hi
  obtain ⟨A, c, h2, h3, h4⟩ := hy (fun t => a.tmps.getD t undef) w _ fun i R' _ hi => hok.facts i R' hi
  obtain ⟨cs, ⟨c0, c1⟩, c2⟩ := hok.boxes _ (List.mem_of_getElem? hb)
  have hsz : ∃ e', P.underlying T = some (.slice e') ∧ (P.info? e').map (·.size) = some 1 := by
    unfold elemInfo at hT
    split at hT
    · rename_i e' hu
      cases hi : P.info? e' with
      | none => rw [hi] at hT; simp at hT
      | some ti =>
        cases hz : ti.zero with
        | none => rw [hi] at hT; simp [hz] at hT
        | some z =>
          rw [hi] at hT
          simp only [Option.bind_some, hz, Option.map_some, Option.some.injEq, Prod.mk.injEq] at hT
          exact ⟨e', hu, by rw [hi]; simp [hT.2.1]⟩
    · cases hT
  obtain ⟨e', hu, hi⟩ := hsz
  refine wpList_plain rfl fun K hK => ?_
  unfold Oper.wp
  rw [eval_ev, exec_eq]
  have run : ∀ (v' : Value) (w' : World), (Builtin.copy_ #[T, T] ty #[v, .slice A xs.length c]).run P w = .ok v' w' → (execOp (ev fun t => a.tmps.getD t undef) ⟨none, .call ⟨.builtin .copy, #[x, y], #[T, T]⟩, ty, "", #[], none⟩).run P w = .ok (.value v') w' := fun v' w' hr => by
    simp only [execOp, resolve, invoke, builtin, Sem.run_bind, Sem.run_pure, Result.andThen_ok, List.map_toArray, List.map_cons, List.map_nil, h1, h2, hr]
  by_cases hk0 : k = 0
  · have hxs : xs = [] := List.eq_nil_of_length_eq_zero (by omega)
    subst hxs
    subst hk0
    have hvs : ∃ A' c', v = .slice A' 0 c' := by
      rcases c1 with ⟨rfl, _⟩ | ⟨g, cap, cur, rfl, _⟩
      · exact ⟨_, _, rfl⟩
      · exact ⟨_, _, rfl⟩
    obtain ⟨A', c', hv⟩ := hvs
    have hr := run_copy_none (P := P) w T T ty e' A' A 0 c' 0 c hu hi (by rfl)
    rw [run _ _ (by rw [hv]; exact hr)]
    have hrs : rs = [] := by
      have := c2.length; rw [c0] at this
      exact List.eq_nil_of_length_eq_zero (by omega)
    have hset : bs.set i (.r v e 1 0 (([] : List α).flatMap f)) = bs := by
      rw [List.flatMap_nil, ← hrs]
      obtain ⟨hlt, he⟩ := List.getElem?_eq_some_iff.1 hb
      rw [← he, List.set_getElem_self]
    rw [hset] at rest
    exact hK _ _ (rest _ _ (hok.setFact hd rfl))
  · obtain ⟨g, cap, hv⟩ := row_open (hok.boxes _ (List.mem_of_getElem? hb)) (by omega : 0 < k)
    subst hv
    rcases h4 with h4 | ⟨b, o, rfl, g1, g2, g3⟩
    · subst h4; simp at hk; omega
    obtain ⟨news, k1, k2, k3⟩ := sl_cells hf (o := o) (j := 0) (xs := xs) fun i x hx => by rw [Nat.zero_add]; exact g3 i x hx
    rcases c1 with ⟨h, _⟩ | ⟨g', cap', cur, h, d0, d1, d2, d3, d4, d5⟩
    · cases h
    cases h
    have hcl : k ≤ cur.size := by rw [d4]; omega
    have hr := run_copy_row (P := P) w T T ty e' g 0 k cap ⟨b, o, none⟩ xs.length c cur e news hu hi d1 (by rw [k2, hk]; simp [Nat.min_def]) (fun j u hj => by rw [add_at]; have := k3 j u hj; rwa [Nat.zero_mul, Nat.add_zero] at this) (by rw [k2]; omega) k1.one
    rw [run _ _ hr]
    have hnl : news.length = k := by rw [k2]; omega
    have hch := hok.change (y := .r (rowv g k cap) e 1 k (xs.flatMap f)) hb (w' := w.setRow g (cur.toList.take 0 ++ news ++ cur.toList.drop (0 + news.length)).toArray) (fun j _ hj => setRow_other w g j _ fun e => hj (by rw [e]; rfl)) (by simp) rfl rfl rfl (fun g' hg' => .inl hg') (fun g' hg' => by
      have := hok.msk g' (.inr (mem_blks (List.mem_of_getElem? hb) hg')); simpa using this) fun M hM => ⟨news, ⟨by rw [hnl]; omega, .inr ⟨g, cap, _, rfl, d0, setRow_heap w g cur _ e _ d1, d2, d3, by simp; omega, by simp [List.take_append, hnl]⟩⟩, k1.keep hM⟩
    have hgo : goInt news.length = .int .i64 (k : Int) := by rw [hnl]; rfl
    rw [hgo]
    exact hK _ _ (rest _ _ (hch.setFact hd rfl))
end
end Go.Fw

/- A slice against nil; calls that read one's own row; a row that is sorted. No program in sight. -/
namespace Go.Fw
open Go.RowKit Go.Proofs
set_option linter.unusedVariables false
set_option linter.unusedSimpArgs false
section
variable {P : Program} {w0 : World} {M0 : Mask} {n : Nat} {bs : List Box} {st : St} {ops : Array Oper} {l : List Oper} {Q : Exit → Act → World → Prop} {c : Code} {lk : Nat → Option Rp} {ty : TypeId}
/-- a Bool of which one side is known -/
def boolIf (p : Prop) : Rp := ⟨fun v _ _ => ∃ b : Bool, v = .bool b ∧ (b = true → p), fun h _ => h⟩
theorem WP.condU {i : Nat} {p : Prop} {x y : Code} (hs : look st i = some (boolIf p)) (ht : p → WP P w0 M0 n bs st x Q) (hf : WP P w0 M0 n bs st y Q) : WP P w0 M0 n bs st (.cond (.tmp i) x y) Q := fun a w hok => by
  obtain ⟨b, h1, h2⟩ := hok.facts i _ hs
  exact wp_cond_split h1 (fun h => ht (h2 h) a w hok) (fun _ => hf a w hok)
theorem slnil {α : Type} {T T' e : TypeId} {x : Operand} {sz : Nat} {f : α → List Rp} {xs : List α} (hT : P.underlying T = some (.slice e)) (hx : OF lk x (sl sz f xs)) : OpG P bs lk (.binOp .eql T x (.const (.slice none 0 0)) T') ty (boolIf (xs = [])) := OpG.pure fun σ w M hf _ => by
  obtain ⟨A, c, h1, h2, h3⟩ := hx σ w M (hf x (by simp [Op.operands]))
  have hr := Lib.run_eql_slice_nil (P := P) w T e A xs.length c 0 0 hT
  have hg : eqGuard .eql T x (.const (.slice none 0 0)) (.slice A xs.length c) (.slice none 0 0) = pure () := by simp [eqGuard]
  refine ⟨.bool A.isNone, by simp [execOp, h1, ev_const, hg, hr], A.isNone, rfl, fun h => ?_⟩
  rcases h3 with h3 | ⟨b, o, rfl, _⟩
  · exact h3
  · cases h
/-- a value, and what it holds -/
def vsl {α : Type} (v : Value) (sz : Nat) (f : α → List Rp) (xs : List α) : Rp := ⟨fun u w M => u = v ∧ (sl sz f xs).h u w M, fun ⟨h1, h2⟩ k => ⟨h1, Rp.keep _ h2 k⟩⟩
theorem vsl_sl {α : Type} {v : Value} {sz : Nat} {f : α → List Rp} {xs : List α} : ∀ u w M, (vsl v sz f xs).h u w M → (sl sz f xs).h u w M := fun _ _ _ h => h.2
theorem vsl_v {α : Type} {v : Value} {sz : Nat} {f : α → List Rp} {xs : List α} : ∀ u w M, (vsl v sz f xs).h u w M → (val v).h u w M := fun _ _ _ h => h.1
theorem OF.weak {x : Operand} {R R' : Rp} (h : OF lk x R) (k : ∀ v w M, R.h v w M → R'.h v w M) : OF lk x R' := fun σ w M hf => k _ _ _ (h σ w M hf)
/-- a call that only reads a row of one's own -/
theorem WL.callR {α : Type} (i t : Nat) {f : FuncId} {xs : List Operand} {Rs : List Rp} {R : Rp} {ats : Array TypeId} {d : Nat} {pos : String} {af : Array Edge} {v : Value} {e : TypeId} {sz m : Nat} (F : α → List Rp) (L : List α) (hb : bs[i]? = some (.r v e sz m (L.flatMap F))) (hF : ∀ x, (F x).length = sz) (hm : m = L.length) (ht : look st t = some (val v))
    (hc : PureC P f Rs R) (hpl : ∀ v w M M', R.h v w M → R.h v w M') (hx : OFs (look ((t, vsl v sz F L) :: st)) xs Rs) (hd : d < n)
    (rest : WL P w0 M0 n bs ((d, R) :: st) ops l Q) : WL P w0 M0 n bs st ops (⟨some d, .call ⟨.value (.func f), xs.toArray, ats⟩, ty, pos, af, none⟩ :: l) Q := by
  intro a w hok
  have hfz := hok.freeze (i := i) (t := t) hb hF hm rfl ht
  have hv : a.tmps.getD t undef = v := hok.facts t _ ht
  have hok1 : Ok w0 M0 n (bs.set i (.r nilS e sz 0 [])) ((t, vsl v sz F L) :: st) a w := ⟨hfz.defers, hfz.size, fun u R' hu => by
    simp only [look] at hu
    split at hu
    · rename_i e'; subst e'; cases hu
      exact ⟨hv, hfz.facts u (sl sz F L) (by simp [look])⟩
    · rename_i e'; exact hfz.facts u R' (by simp only [look]; rw [if_neg e']; exact hu), hfz.boxes, hfz.nodup, hfz.fresh, hfz.below, hfz.msk, hfz.m0⟩
  refine wpList_plain rfl fun K hK => wp_of_does rfl ?_
  rw [exec_eq, run_callF hc.1 (Rs := Rs) a w]
  refine Calls.mono (hc.2 w _ _ hok1.msk (hx.ok hok1)) ?_
  rintro en w' ⟨u, rfl, hR, hbl⟩
  exact ⟨u, rfl, hK _ _ (rest _ _ (hok.put hd hbl (hpl _ _ _ _ hR)))⟩

/-- what is asked of a sort -/
def srt (U : List Int) : List Int := U.mergeSort (fun x y => decide (x ≤ y))
theorem srt_len (U : List Int) : (srt U).length = U.length := List.length_mergeSort U
structure SortC (P : Program) (f g : FuncId) (enc : Int → List Value) (k : Nat) : Prop where
  ent : Enters P f
  none : ∀ (w : World) (p : Option Addr) (cap : Nat), Calls P f #[.slice p 0 cap, .func (.func g) #[] #[]] w fun e w' => e = .returned (.tuple #[]) ∧ w' = w
  some : ∀ (w : World) (b cap : Nat) (T : TypeId) (cur : Array Value) (U : List Int), w.heap[b]? = .some (.cells cur T (0, 0)) → U.length * k ≤ cur.size → cur.toList.take (U.length * k) = U.flatMap enc → U.length ≤ 1000000 →
    Calls P f #[.slice (.some ⟨b, 0, .none⟩) U.length cap, .func (.func g) #[] #[]] w fun e w' => e = .returned (.tuple #[]) ∧ ∃ cur' : Array Value, w'.heap[b]? = .some (.cells cur' T (0, 0)) ∧ cur'.size = cur.size ∧ cur'.toList.take (U.length * k) = (srt U).flatMap enc ∧
      (∀ j, j ≠ b → j < w.heap.size → w'.heap[j]? = w.heap[j]?) ∧ w.heap.size ≤ w'.heap.size ∧ w'.os = w.os ∧ w'.tape = w.tape ∧ w'.output = w.output
theorem flat_vals (enc : Int → List Value) (U : List Int) : (U.flatMap fun u => (enc u).map val) = (U.flatMap enc).map val := by
  induction U with
  | nil => rfl
  | cons u U ih => rw [List.flatMap_cons, List.flatMap_cons, List.map_append, ih]
theorem WL.sortU (i : Nat) {f g : FuncId} {x : Operand} {ats : Array TypeId} {d : Nat} {pos : String} {af : Array Edge} {v : Value} {e : TypeId} {enc : Int → List Value} {k m : Nat} {U : List Int} (hs : SortC P f g enc k) (hk : ∀ u, (enc u).length = k) (h1 : ∀ u, ∀ c ∈ enc u, c.oneCell' = true) (hb : bs[i]? = some (.r v e k m (U.flatMap fun u => (enc u).map val))) (hm : m = U.length) (hl : U.length ≤ 1000000) (hx : OF (look st) x (val v)) (hd : d < n)
    (rest : WL P w0 M0 n (bs.set i (.r v e k m ((srt U).flatMap fun u => (enc u).map val))) ((d, val (.tuple #[])) :: st) ops l Q) : WL P w0 M0 n bs st ops (⟨some d, .call ⟨.value (.func f), #[x, .func g], ats⟩, ty, pos, af, none⟩ :: l) Q := by
  intro a w hok
  have e1 : ev (fun t => a.tmps.getD t undef) x = v := hx _ w _ fun i R' _ hi => hok.facts i R' hi
  have e1 : a.eval x = v := by rw [eval_ev]; exact e1
  obtain ⟨cs, c1, c2⟩ := hok.boxes _ (List.mem_of_getElem? hb)
  rw [flat_vals] at c2
  have hcs := All2.of_vals c2
  subst hcs
  subst hm
  refine wpList_plain rfl fun K hK => wp_of_does rfl ?_
  have hent : (execOp a.eval ⟨none, .call ⟨.value (.func f), #[x, .func g], ats⟩, ty, "", #[], none⟩).run P w = .ok (.enter f #[v, .func (.func g) #[] #[]]) w := by
    have := hs.ent #[v, .func (.func g) #[] #[]] w
    simp [execOp, resolve, Deferred.ofValue, Act.eval, invoke, this]
    have e1' : a.eval x = v := e1
    simp [Act.eval] at e1'
    simp [e1', this]
  rw [exec_eq, hent]
  by_cases h0 : U.length = 0
  · have hU : U = [] := List.eq_nil_of_length_eq_zero h0
    subst hU
    have hvs : ∃ A' c', v = .slice A' 0 c' := by
      rcases c1.2 with ⟨rfl, _⟩ | ⟨g, cap, cur, rfl, _⟩
      · exact ⟨_, _, rfl⟩
      · exact ⟨_, _, rfl⟩
    obtain ⟨A', c', rfl⟩ := hvs
    refine Calls.mono (hs.none w A' c') ?_
    rintro en w' ⟨rfl, rfl⟩
    have hset : bs.set i (.r (.slice A' 0 c') e k 0 ((srt []).flatMap fun u => (enc u).map val)) = bs := by
      rw [show srt [] = [] from by unfold srt; simp]
      obtain ⟨hlt, he⟩ := List.getElem?_eq_some_iff.1 hb
      have he' : bs[i] = .r (.slice A' 0 c') e k 0 (([] : List Int).flatMap fun u => (enc u).map val) := he
      rw [← he', List.set_getElem_self]
    have rest' := rest
    simp only [List.length_nil] at rest'
    rw [hset] at rest'
    exact ⟨_, rfl, hK _ _ (rest' _ _ (hok.setFact hd rfl))⟩
  · obtain ⟨g', cap, hv⟩ := row_open (hok.boxes _ (List.mem_of_getElem? hb)) (by omega : 0 < U.length)
    subst hv
    rcases c1.2 with ⟨h, _⟩ | ⟨g2, cap', cur, h, d0, d1, d2, d3, d4, d5⟩
    · cases h
    cases h
    refine Calls.mono (hs.some w g' cap e cur U d1 (by rw [d4]; exact Nat.mul_le_mul_right _ d2) d5 hl) ?_
    rintro en w' ⟨rfl, cur', k1, k2, k3, k4, k5, k6, k7, k8⟩
    have hch := hok.change (w' := w') (y := .r (rowv g' U.length cap) e k U.length ((srt U).flatMap fun u => (enc u).map val)) hb (fun j hj hne => k4 j (fun e => hne (by rw [e]; rfl)) hj) k5 k6 k7 k8 (fun g hg => .inl hg) (fun g hg => by
      have := hok.msk g (.inr (mem_blks (List.mem_of_getElem? hb) hg)); omega) fun M hM => by
        refine ⟨(srt U).flatMap enc, ⟨?_, .inr ⟨g', cap, cur', rfl, d0, k1, d2, d3, by rw [k2, d4], k3⟩⟩, ?_⟩
        · rw [← srt_len U]
          have : ∀ U : List Int, (U.flatMap enc).length = U.length * k := fun U => by
            induction U with
            | nil => simp
            | cons u U ih => rw [List.flatMap_cons, List.length_append, ih, hk, List.length_cons, Nat.succ_mul]; omega
          exact this _
        · rw [flat_vals]
          refine All2.vals (List.all_eq_true.2 fun c hc => ?_)
          obtain ⟨u, _, hu⟩ := List.mem_flatMap.1 hc
          exact h1 u c hu
    exact ⟨_, rfl, hK _ _ (rest _ _ (hch.setFact hd rfl))⟩
end
end Go.Fw

/- Rows of one's own, read and written element by element. No program in sight. -/
import Derived.Test.YtjglgfnhgehpeaaFwz
namespace Go.Fw
open Go.RowKit Go.Proofs
set_option linter.unusedVariables false
set_option linter.unusedSimpArgs false
section
variable {P : Program} {w0 : World} {M0 : Mask} {n : Nat} {bs : List Box} {st : St} {ops : Array Oper} {l : List Oper} {Q : Exit → Act → World → Prop} {c : Code}
variable {lk : Nat → Option Rp} {T ty e : TypeId} {x y : Operand} {R : Rp} {g m k cap sz o q : Nat} {rs rs' : List Rp}
/-- one's own row, at a place -/
abbrev rowv (g m cap : Nat) : Value := .slice (some ⟨g, 0, none⟩) m cap
theorem row_open {w : World} {M : Mask} {v : Value} (h : BoxOk w M (.r v e sz m rs)) (hm : 0 < m) : ∃ g cap, v = rowv g m cap := by
  obtain ⟨cs, ⟨_, h2⟩, _⟩ := h
  rcases h2 with ⟨rfl, h⟩ | ⟨g, cap, cur, rfl, _⟩
  · omega
  · exact ⟨g, cap, rfl⟩
theorem WP.rowAt (i : Nat) {v : Value} (hb : bs[i]? = some (.r v e sz m rs)) (hm : 0 < m) (h : ∀ g cap, v = rowv g m cap → WP P w0 M0 n bs st c Q) : WP P w0 M0 n bs st c Q := fun a w hok => by
  obtain ⟨g, cap, hv⟩ := row_open (hok.boxes _ (List.mem_of_getElem? hb)) hm
  exact h g cap hv a w hok
theorem row_cells {w : World} {M : Mask} (h : BoxOk w M (.r (rowv g m cap) e sz m rs)) : ∃ cs : List Value, All2 w M rs cs ∧ ∀ j v, cs[j]? = some v → w.cell? ⟨g, j, none⟩ = some v := by
  obtain ⟨cs, ⟨h1, h2⟩, h3⟩ := h
  refine ⟨cs, h3, fun j v hv => ?_⟩
  rcases h2 with ⟨h, _⟩ | ⟨g', cap', cur, h, _, hg, _, _, _, ht⟩
  · cases h
  · cases h
    rw [← ht, List.getElem?_take] at hv
    split at hv
    · rw [cell_of_row w g j cur e (0, 0) hg, ← hv]; simp
    · cases hv
theorem ixr {T : TypeId} {kd : IntKind} {i : Int} (hT : elemSz P T = some sz) (hx : OF lk x (val (rowv g m cap))) (hy : OF lk y (val (.int kd i))) (h0 : 0 ≤ i) (h1 : i < m) : OpG P bs lk (.indexAddr T x y) ty (val (.pointer (some ⟨g, i.toNat * sz, none⟩))) :=
  opr fun σ w M hf => by
    have e1 : ev σ x = _ := hx σ w M (hf x (by simp [Op.operands, Call.operands]))
    have e2 : ev σ y = _ := hy σ w M (hf y (by simp [Op.operands, Call.operands]))
    have := run_indexAt_sl (P := P) hT g 0 m cap kd i h0 h1 w
    rw [Nat.zero_add] at this
    simp [execOp, e1, e2, this]
theorem lr (i : Nat) (hb : bs[i]? = some (.r (rowv g m cap) e sz m rs)) (hT : scal P T = true) (hx : OF lk x (val (.pointer (some ⟨g, o, none⟩)))) (hr : rs[o]? = some R) : OpG P bs lk (.load T x) ty R :=
  OpG.pure fun σ w M hf hbs => by
    have h1 : ev σ x = _ := hx σ w M (hf x (by simp [Op.operands, Call.operands]))
    obtain ⟨cs, h2, h3⟩ := row_cells (hbs _ (List.mem_of_getElem? hb))
    obtain ⟨v, h4, h5, _⟩ := h2.get o R hr
    exact ⟨v, by simp [execOp, h1, Instr.loadAt, Instr.sureAddr, run_loadVar_scal hT (h3 o v h4)], h5⟩
theorem lrs (i : Nat) (hb : bs[i]? = some (.r (rowv g m cap) e sz m rs)) (hT : aggs P T = some q) (hx : OF lk x (val (.pointer (some ⟨g, o, none⟩)))) (hm : o + q ≤ rs.length) : OpG P bs lk (.load T x) ty (agg ((rs.drop o).take q)) :=
  OpG.pure fun σ w M hf hbs => by
    have h1 : ev σ x = _ := hx σ w M (hf x (by simp [Op.operands, Call.operands]))
    obtain ⟨cs, h2, h3⟩ := row_cells (hbs _ (List.mem_of_getElem? hb))
    have hl := h2.length
    refine ⟨.agg ((cs.drop o).take q).toArray, ?_, _, rfl, (h2.drop o).take q⟩
    have h4 : ∀ j v, ((cs.drop o).take q)[j]? = some v → w.cell? ⟨g, o + j, none⟩ = some v := fun j v hv => by
      rw [List.getElem?_take] at hv
      split at hv
      · rw [List.getElem?_drop] at hv; exact h3 _ _ hv
      · cases hv
    simp only [execOp, h1, Instr.loadAt, Instr.sureAddr, Sem.run_bind, Sem.run_pure, Result.andThen_ok, run_loadVar_agg (hT.trans (by simp; omega)) h4]
theorem WP.rowAt' (i : Nat) {v : Value} (hb : bs[i]? = some (.r v e sz m rs)) (h : ∀ g cap, (0 < m → v = rowv g m cap) → WP P w0 M0 n bs st c Q) : WP P w0 M0 n bs st c Q := fun a w hok => by
  by_cases hm : 0 < m
  · obtain ⟨g, cap, hv⟩ := row_open (hok.boxes _ (List.mem_of_getElem? hb)) hm
    exact h g cap (fun _ => hv) a w hok
  · exact h 0 0 (fun h => absurd h hm) a w hok
theorem ixr' {T : TypeId} {kd : IntKind} {i : Int} {v : Value} (hv : v = rowv g m cap) (hT : elemSz P T = some sz) (hx : OF lk x (val v)) (hy : OF lk y (val (.int kd i))) (h0 : 0 ≤ i) (h1 : i < m) : OpG P bs lk (.indexAddr T x y) ty (val (.pointer (some ⟨g, i.toNat * sz, none⟩))) := by
  subst hv; exact ixr hT hx hy h0 h1
theorem lr' (i : Nat) {v : Value} (hv : v = rowv g m cap) (hb : bs[i]? = some (.r v e sz m rs)) (hT : scal P T = true) (hx : OF lk x (val (.pointer (some ⟨g, o, none⟩)))) (hr : rs[o]? = some R) : OpG P bs lk (.load T x) ty R := by
  subst hv; exact lr i hb hT hx hr
theorem lrs' (i : Nat) {v : Value} (hv : v = rowv g m cap) (hb : bs[i]? = some (.r v e sz m rs)) (hT : aggs P T = some q) (hx : OF lk x (val (.pointer (some ⟨g, o, none⟩)))) (hm : o + q ≤ rs.length) : OpG P bs lk (.load T x) ty (agg ((rs.drop o).take q)) := by
  subst hv; exact lrs i hb hT hx hm
/-- a store into one's own row: what it leaves -/
theorem run_storeR {w : World} {M : Mask} {vs : List Value} (hbx : BoxOk w M (.r (rowv g m cap) e sz m rs)) (h3 : All2 w M rs' vs) (hm : sizeT P T = some q) (hl : rs'.length = q) (hr : o + q ≤ rs.length) :
    ∃ w', (∀ v : Value, v.cells = vs.toArray → (storeVar T ⟨g, o, none⟩ v).run P w = .ok () w') ∧ (∀ j, j ≠ g → w'.heap[j]? = w.heap[j]?) ∧ w'.heap.size = w.heap.size ∧ w'.os = w.os ∧ w'.tape = w.tape ∧ w'.output = w.output ∧
      ∃ cs, w'.ownsRow 0 e sz (rowv g m cap) m cs ∧ All2 w M (setAt rs o rs') cs := by
  obtain ⟨cs, ⟨h1, h2⟩, h5⟩ := hbx
  have hlv := h3.length
  have hlc := h5.length
  rcases h2 with ⟨h, _⟩ | ⟨g', cap', cur, h, h0, hg, hmc, hcm, hcs, ht⟩
  · cases h
  · cases h
    have hcl : cs.length ≤ cur.toList.length := by rw [← ht]; simp; omega
    have hle : m * sz ≤ cur.toList.length := by rw [Array.length_toList, hcs]; exact Nat.mul_le_mul_right _ hmc
    obtain ⟨w', k1, k2, k3, k4, k5, k6, k7⟩ := run_storeCells_in (P := P) g e vs 0 cur.toList w o (by simpa using hg) (by omega) h3.one
    refine ⟨w', fun v h2 => ?_, k3, k4, k5, k6, k7, cs.take o ++ vs ++ cs.drop (o + vs.length), ⟨?_, .inr ⟨g, cap, _, rfl, h0, k2, hmc, hcm, ?_, ?_⟩⟩, by unfold setAt; rw [hlv]; exact ((h5.take o).append h3).append (h5.drop _)⟩
    · unfold sizeT at hm
      cases hi : P.info? T with
      | none => rw [hi] at hm; simp at hm
      | some ti =>
        rw [hi] at hm
        simp only [Option.map_some, Option.some.injEq] at hm
        have hne : vs.length = ti.size := by omega
        simp [storeVar, h2, sizeOf, typeInfo, hi, hne, k1]
    · simp only [List.length_append, List.length_take, List.length_drop]; omega
    · simp only [List.length_append, List.length_take, List.length_drop, List.size_toArray, Nat.add_zero]
      rw [← hcs]; simp at hcl hle ⊢; omega
    · simp only [Nat.add_zero, List.toList_toArray]
      have h9 : o + vs.length ≤ m * sz := by omega
      rw [← ht, List.take_append, List.take_append, List.take_take, List.take_take, List.drop_take, Nat.min_eq_right (by omega), Nat.min_eq_left (by omega), List.take_of_length_le (l := vs) (by simp; omega)]
      congr 1
      simp only [List.length_append, List.length_take]
      rw [Nat.min_eq_left (by omega)]
theorem OpE.storeR (i : Nat) (hb : bs[i]? = some (.r (rowv g m cap) e sz m rs)) (hx : OF lk x (val (.pointer (some ⟨g, o, none⟩)))) (hy : OF lk y R) (hfl : Flat R rs')
    (hm : sizeT P T = some q) (hl : rs'.length = q) (hr : o + q ≤ rs.length) : OpE P bs lk (.store T x y) ty (bs.set i (.r (rowv g m cap) e sz m (setAt rs o rs'))) := by
  intro w0 M0 n B a w hok hf
  have h1 : ev (fun t => a.tmps.getD t undef) x = _ := hx _ w _ fun i R' hi => hf _ (by simp [Op.operands]) i R' hi
  obtain ⟨vs, h2, h3⟩ := hfl _ _ _ (hy (fun t => a.tmps.getD t undef) w _ fun i R' hi => hf _ (by simp [Op.operands]) i R' hi)
  have hbB : (B ++ bs)[B.length + i]? = some (.r (rowv g m cap) e sz m rs) := by rw [List.getElem?_append_right (by omega)]; simpa using hb
  obtain ⟨w', hrun, k3, k4, k5, k6, k7, cs, c1, c2⟩ := run_storeR (P := P) (hok.boxes _ (List.mem_of_getElem? hbB)) h3 hm hl hr
  simp only [execOp, h1, Instr.storeAt, Instr.sureAddr, Sem.run_bind, Sem.run_pure, Result.andThen_ok, hrun _ h2]
  have hok' := hok.change (w' := w') (y := .r (rowv g m cap) e sz m (setAt rs o rs')) hbB (fun j _ hj => k3 j fun e => hj (by rw [e]; rfl)) (by omega) k5 k6 k7 (fun g' hg' => .inl hg') (fun g' hg' => by
    have h9 := hok.msk g' (.inr (mem_blks (List.mem_of_getElem? hbB) hg')); omega) fun M hM => ⟨cs, c1, c2.keep hM⟩
  rw [List.set_append_right _ _ (by omega), show B.length + i - B.length = i from by omega] at hok'
  have hM : mkM M0 (B ++ bs.set i (.r (rowv g m cap) e sz m (setAt rs o rs'))) = mkM M0 (B ++ bs) := by
    have : ∀ (bs : List Box) (i : Nat), bs[i]? = some (.r (rowv g m cap) e sz m rs) → blks (bs.set i (.r (rowv g m cap) e sz m (setAt rs o rs'))) = blks bs := by
      intro bs
      induction bs with
      | nil => intro i h; simp at h
      | cons x bs ih =>
        intro i h
        cases i with
        | zero => simp at h; subst h; rfl
        | succ i => have := ih i (by simpa using h); rw [List.set_cons_succ]; unfold blks at *; rw [List.filterMap_cons, List.filterMap_cons, this]
    unfold mkM blks
    rw [List.filterMap_append, List.filterMap_append]
    have h' := this bs i hb
    unfold blks at h'
    rw [h']
  refine .inr ⟨_, rfl, hok', ?_⟩
  rw [hM]
  exact ⟨fun j _ hj => k3 j fun e => hj (e ▸ .inr (mem_blks (List.mem_of_getElem? hbB) rfl)), by omega, fun _ h => .inl h⟩
theorem WL.storeR (i : Nat) {pos : String} {af : Array Edge} (hb : bs[i]? = some (.r (rowv g m cap) e sz m rs)) (hx : OF (look st) x (val (.pointer (some ⟨g, o, none⟩)))) (hy : OF (look st) y R) (hfl : Flat R rs')
    (hm : sizeT P T = some q) (hl : rs'.length = q) (hr : o + q ≤ rs.length)
    (rest : WL P w0 M0 n (bs.set i (.r (rowv g m cap) e sz m (setAt rs o rs'))) st ops l Q) : WL P w0 M0 n bs st ops (⟨none, .store T x y, ty, pos, af, none⟩ :: l) Q := by
  intro a w hok
  have h1 : ev (fun t => a.tmps.getD t undef) x = _ := hx _ w _ fun i R' _ hi => hok.facts i R' hi
  obtain ⟨vs, h2, h3⟩ := hfl _ _ _ (hy (fun t => a.tmps.getD t undef) w _ fun i R' _ hi => hok.facts i R' hi)
  obtain ⟨w', hrun, k3, k4, k5, k6, k7, cs, c1, c2⟩ := run_storeR (P := P) (hok.boxes _ (List.mem_of_getElem? hb)) h3 hm hl hr
  have hok' := hok.change (w' := w') (y := .r (rowv g m cap) e sz m (setAt rs o rs')) hb (fun j _ hj => k3 j fun e => hj (by rw [e]; rfl)) (by omega) k5 k6 k7 (fun g' hg' => .inl hg') (fun g' hg' => by
    have h9 := hok.msk g' (.inr (mem_blks (List.mem_of_getElem? hb) hg')); omega) fun M hM => ⟨cs, c1, c2.keep hM⟩
  refine wpList_plain rfl fun K hK => ?_
  unfold Oper.wp
  rw [eval_ev, exec_eq]
  simp only [execOp, h1, Instr.storeAt, Instr.sureAddr, Sem.run_bind, Sem.run_pure, Result.andThen_ok, hrun _ h2]
  exact hK _ _ (rest _ _ hok')
theorem WL.storeR' (i : Nat) {v : Value} (hv : v = rowv g m cap) {pos : String} {af : Array Edge} (hb : bs[i]? = some (.r v e sz m rs)) (hx : OF (look st) x (val (.pointer (some ⟨g, o, none⟩)))) (hy : OF (look st) y R) (hfl : Flat R rs')
    (hm : sizeT P T = some q) (hl : rs'.length = q) (hr : o + q ≤ rs.length)
    (rest : WL P w0 M0 n (bs.set i (.r v e sz m (setAt rs o rs'))) st ops l Q) : WL P w0 M0 n bs st ops (⟨none, .store T x y, ty, pos, af, none⟩ :: l) Q := by
  subst hv; exact WL.storeR i hb hx hy hfl hm hl hr rest
theorem OpE.storeR' (i : Nat) {v : Value} (hv : v = rowv g m cap) (hb : bs[i]? = some (.r v e sz m rs)) (hx : OF lk x (val (.pointer (some ⟨g, o, none⟩)))) (hy : OF lk y R) (hfl : Flat R rs')
    (hm : sizeT P T = some q) (hl : rs'.length = q) (hr : o + q ≤ rs.length) : OpE P bs lk (.store T x y) ty (bs.set i (.r v e sz m (setAt rs o rs'))) := by
  subst hv; exact OpE.storeR i hb hx hy hfl hm hl hr
theorem WL.mkr {op : Op} {d : Nat} {ty e : TypeId} {pos : String} {af : Array Edge} {sz k : Nat} {rs : List Rp} (h : OpN P bs (look st) op ty e sz k rs) (hd : d < n)
    (rest : ∀ v : Value, v.oneCell' = true → WL P w0 M0 n (.r v e sz k rs :: bs) ((d, val v) :: st) ops l Q) : WL P w0 M0 n bs st ops (⟨some d, op, ty, pos, af, none⟩ :: l) Q := by
  intro a w hok
  refine wpList_plain rfl fun K hK => wp_of_does rfl ?_
  rw [eval_ev, exec_eq]
  exact (h _ w _ hok.msk (fun x hx i R _ hR => hok.facts i R hR) hok.boxes).mono fun v w' ⟨hv, hm⟩ => hK _ _ (rest v hv _ _ ((hok.new hm).2.setFact hd rfl))
theorem OpN.bsl {lk : Nat → Option Rp} {T ty e : TypeId} {sz bytes : Nat} {x : Operand} {R : Rp} {rs : List Rp} (hT : elemInfo P T = some (e, sz, bytes, sz)) (hx : OF lk x R) (hfl : Flat R rs) (hf : rs.length = sz) (h0 : 0 < sz) (h1 : sz ≤ 1000) :
    OpN P bs lk (.buildSlice T 1 #[(0, x)]) ty e sz 1 rs := fun σ w M hm hfa _ => by
  obtain ⟨vs, g1, g2⟩ := hfl _ _ _ (hx σ w M (hfa x (by simp [Op.operands])))
  have hlv := g2.length
  unfold elemInfo at hT
  split at hT
  · rename_i e' hu
    cases hi : P.info? e' with
    | none => rw [hi] at hT; simp at hT
    | some ti =>
      cases hz : ti.zero with
      | none => rw [hi] at hT; simp [hz] at hT
      | some z =>
        rw [hi] at hT
        simp only [Option.bind_some, hz, Option.map_some, Option.some.injEq, Prod.mk.injEq] at hT
        obtain ⟨rfl, t1, t2, t3⟩ := hT
        have hb : Below w.heap.size w (w.alloc (.cells vs.toArray e')) := (Below.refl _ w).alloc (Nat.le_refl _) _
        have hfold : ∀ (cs : List Value), cs.length = vs.length → (vs.zipIdx 0).foldl (fun cs (c, j) => cs.setIfInBounds (0 * sz + j) c) cs.toArray = vs.toArray := by
          have key : ∀ (vs pre suf : List Value), suf.length = vs.length → (vs.zipIdx pre.length).foldl (fun cs (c, j) => cs.setIfInBounds (0 * sz + j) c) (pre ++ suf).toArray = (pre ++ vs).toArray := by
            intro vs
            induction vs with
            | nil => intro pre suf h; have : suf = [] := List.eq_nil_of_length_eq_zero h; simp [this]
            | cons v vs ih =>
              intro pre suf h
              cases suf with
              | nil => simp at h
              | cons s suf =>
                simp only [List.zipIdx_cons, List.foldl_cons, List.setIfInBounds_toArray, Nat.zero_mul, Nat.zero_add]
                have hset : (pre ++ s :: suf).set pre.length v = (pre ++ [v]) ++ suf := by simp
                rw [hset]
                have := ih (pre ++ [v]) suf (by simpa using h)
                simp only [List.length_append, List.length_cons, List.length_nil, Nat.zero_add, Nat.zero_mul] at this
                rw [this]
                simp
          intro cs hc
          exact key vs [] cs hc
        have hrun : (Instr.buildSlice T 1 #[(0, ev σ x)]).run P w = .ok (.slice (some ⟨w.heap.size, 0, none⟩) 1 1) (w.alloc (.cells vs.toArray e')) := by
          have hfill : ∀ cs : Array Value, cs.size = sz → Instr.fill (fun i => some (i * sz, sz)) cs [(0, ev σ x)] = some vs.toArray := fun cs hc => by
            have e := hfold cs.toList (by simp; omega)
            simp only [Instr.fill, g1]
            rw [if_neg (by simp; omega)]
            refine congrArg some (Eq.trans ?_ e)
            simp
          unfold Instr.buildSlice
          have hsz : ti.size = sz := t1
          have h2 : ¬ (1 * sz > 2 ^ 24) := by omega
          have h3 : ¬ (1 * sz = 0) := by omega
          simp only [Sem.run_bind, run_underlying hu, Result.andThen_ok, sizeOf, typeInfo, run_program, hi, Sem.run_pure, hsz, Sem.run_ite, if_neg h2, if_neg h3, zeroValue, hz]
          rw [hfill _ (by simp)]
          simp [newRow]
        have : (execOp (ev σ) ⟨none, .buildSlice T 1 #[(0, x)], ty, "", #[], none⟩).run P w = .ok (.value (.slice (some ⟨w.heap.size, 0, none⟩) 1 1)) (w.alloc (.cells vs.toArray e')) := by
          simp [execOp, hrun]
        rw [this]
        have hrow := World.ownsRow_lit (e := e') (size := sz) (base := 0) w vs.toArray 1 (Nat.zero_le _) (by unfold maxLen; omega) (by simp; omega)
        have hms : ∀ b, mkM M [.r (.slice (some ⟨w.heap.size, 0, none⟩) 1 1) e' sz 1 rs] b → M b ∨ b = w.heap.size := fun b hb => hb.imp id fun h => by simpa [blks, Box.blk, Value.ownBlock] using h
        refine ⟨rfl, ⟨fun y hy => ?_, by simp [blks, Box.blk, Value.ownBlock], fun g hg => ?_, hb, fun b hb' => ?_, fun g hg hm' => ?_⟩⟩
        · rw [List.mem_singleton.1 hy]
          exact ⟨vs, hrow, g2.keep ⟨fun b hb' _ => hb.block b hb', hb.size, fun b hb' => (hms b hb').imp id fun h => Nat.le_of_eq h.symm⟩⟩
        · have : g = w.heap.size := by simpa [blks, Box.blk, Value.ownBlock] using hg
          omega
        · rcases hms b hb' with h | h
          · have := hm b h; have := hb.size; omega
          · subst h; simp
        · have : g = w.heap.size := by simpa [blks, Box.blk, Value.ownBlock] using hg
          have := hm g hm'; omega
  · cases hT
end
end Go.Fw

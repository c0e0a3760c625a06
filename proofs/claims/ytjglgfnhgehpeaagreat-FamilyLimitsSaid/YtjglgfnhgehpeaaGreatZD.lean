/- Parts: L36b, Fwe, Lay11, Cor, Fwa, Lim. -/
import Derived.Test.YtjglgfnhgehpeaaGreatZC
import Derived.Test.YtjglgfnhgehpeaaGreatZu
import Derived.Test.YtjglgfnhgehpeaaGreatZm
import Derived.Test.YtjglgfnhgehpeaaGreatZh
import Derived.Test.YtjglgfnhgehpeaaGreatZA
import Derived.Test.YtjglgfnhgehpeaaGreatZg
/- The law of families: building both. -/
set_option linter.unusedVariables false
set_option linter.unusedSimpArgs false
set_option maxRecDepth 4000
namespace Go.Proofs.YtjglgfnhgehpeaaGreat
open Go.RowKit Go.Fw Go.Xt
theorem freed_len {g q : RF} (h : GOk g) : (rFreed g q).length ≤ 65536 := by
  have h1 := mruns_len ((fz (rCounts g) (rCounts q)).map un)
  rw [List.length_map] at h1
  have h2 := asc_le (rCounts g).length fun s => decide (0 < (rCounts g).getD s 0) && decide ((rCounts q).getD s 0 = 0)
  have h3 := (counts_spec h).1
  have h4 := h.k
  unfold fz at h1
  unfold rFreed fz
  omega
theorem apply_len {g : RF} (h : GOk g) (t : St6) : (rApply g t).2.1.length ≤ 65536 := by
  have h0 : ([] : List X).length ≤ 65536 := Nat.zero_le _
  unfold rApply
  split
  · exact h0
  split
  · exact h0
  split
  · unfold rDelete; cases gl (nm t.v) g.vs with
    | none => exact h0
    | some v => exact freed_len h
  split
  · unfold rUnmap; cases gl (nm t.v) g.vs with
    | none => exact h0
    | some v => dsimp only; split; exact freed_len h; exact h0
  · unfold rAssign; cases gl (nm t.v) g.vs with
    | none => exact h0
    | some v => dsimp only; split; exact freed_len h; exact h0
theorem cr_apply {f : Fam} {g : RF} {t : St6} (h : Rel f g) (ht : t.U8) : PureC Tryz.prog 24 [eF f, agg (FS6 t)] (tup [eF (fApply f t).1, sl 3 FX (rApply g t).2.1, I (rApply g t).2.2]) := by
  have := c_w36_apply (f := f) h.fw ht
  rwa [(rel_apply h t).1, (rel_apply h t).2.1] at this
theorem eF_imp {f f' : Fam} (h : f = f') : ∀ v w M, (eF f).h v w M → (eF f').h v w M := fun v w M q => h ▸ q

theorem c_w36_build {m : Int} {sc : List St6} (hm : 0 ≤ m ∧ m ≤ 255) (hl : sc.length ≤ 100000) (ht : ∀ t ∈ sc, t.U8) : PureC Tryz.prog 23 [val (.int .u8 m), sl 6 FS6 sc] (tup [eF (runP (m % 50).toNat sc).1, eG (runP (m % 50).toNat sc).2, val (.bool true)]) := by
  refine PureC.of_wp Tryz.func23 (by kernel_rfl) rfl Tryz.ntmps23 (le_ rfl) (fun w0 M0 => ?_)
  refine WP.seq ?_
  refine WP.region ?_
  refine WL.alloc zr_family_Family rfl (by decide) fun b4 => ?_
  refine WL.alloc zr_ef36_Family rfl (by decide) fun b5 => ?_
  refine WL.op (asg (oc _)) (by decide) ?_
  refine WL.nl (.thn ?_)
  refine WP.seq ?_
  refine WP.region ?_
  refine WL.op (mv (ot rfl)) (by decide) ?_
  refine WL.op (rem_ (ot rfl) (oc _) (by omega) (by omega)) (by decide) ?_
  refine WL.op (OpG.weak (R' := I ((m % 50).toNat : Int)) (cv un_uint8 un_int (ot rfl) (IntWalk.i64_in _ (by omega))) (imp_eq (congrArg I (by omega)))) (by decide) ?_
  refine WL.op (call (c_family_New (k := (m % 50).toNat) (by omega)) (.c (ot rfl) .n)) (by decide) ?_
  refine WL.op (mv (ot rfl)) (by decide) ?_
  refine WL.op (ex (ot rfl) rfl) (by decide) ?_
  refine WL.op (ex (ot rfl) rfl) (by decide) ?_
  refine WL.alloc zr_family_Family rfl (by decide) fun b7 => ?_
  refine WL.store 0 rfl (ot rfl) (ot rfl) (.agg _) sz_family_Family rfl (le_ rfl) ?_
  refine WL.op (asg (ot rfl)) (by decide) ?_
  refine WL.nl (.thn ?_)
  refine WP.seq ?_
  refine WP.region ?_
  refine WL.op (mv (ot rfl)) (by decide) ?_
  refine WL.op (rem_ (ot rfl) (oc _) (by omega) (by omega)) (by decide) ?_
  refine WL.op (OpG.weak (R' := I ((m % 50).toNat : Int)) (cv un_uint8 un_int (ot rfl) (IntWalk.i64_in _ (by omega))) (imp_eq (congrArg I (by omega)))) (by decide) ?_
  refine WL.op (call (c_r36_New (k := (m % 50).toNat) (by omega)) (.c (ot rfl) .n)) (by decide) ?_
  refine WL.op (mv (ot rfl)) (by decide) ?_
  refine WL.op (ex (ot rfl) rfl) (by decide) ?_
  refine WL.op (ex (ot rfl) rfl) (by decide) ?_
  refine WL.alloc zr_ef36_Family rfl (by decide) fun b9 => ?_
  refine WL.store 0 rfl (ot rfl) (ot rfl) (.agg _) sz_ef36_Family rfl (le_ rfl) ?_
  refine WL.op (asg (ot rfl)) (by decide) ?_
  refine WL.nl (.thn ?_)
  refine WP.seq ?_
  refine WP.seq ?_
  refine WP.region ?_
  refine WL.op (asg (oc _)) (by decide) ?_
  refine WL.nl (.thn ?_)
  refine WP.block ?_
  refine WP.loop (fun y : Nat => [.b b9 45 [I ((runP (m % 50).toNat (sc.take y)).2.k : Int), sl 4 FRV (runP (m % 50).toNat (sc.take y)).2.vs], .b b7 28 [sl 1 FI (runP (m % 50).toNat (sc.take y)).1.cs, mp FV (runP (m % 50).toNat (sc.take y)).1.vs], .b b5 45 [I 0, val nilS], .b b4 28 [val nilS, val (.map none)]]) (fun y => [(11, I (y : Int)), (9, val (.pointer (some ⟨b9, 0, none⟩))), (8, I 0), (7, val (.pointer (some ⟨b7, 0, none⟩))), (5, val (.pointer (some ⟨b5, 0, none⟩))), (4, val (.pointer (some ⟨b4, 0, none⟩))), (1, sl 6 FS6 sc)]) (fun y => y ≤ sc.length) (fun y => sc.length - y) 0 (Nat.zero_le _) (Sub.ofD 0 rfl (Sub.cons rfl (imp_eq rfl) (Sub.cons rfl (imp  _) (Sub.cons rfl (imp  _) (Sub.cons rfl (imp  _) (Sub.cons rfl (imp  _) (Sub.cons rfl (imp  _) (Sub.cons rfl (imp  _) Sub.nil)))))))) (fun i hi => ?_)
  replace hi : i ≤ sc.length := hi
  show WP _ _ _ _ [.b b9 45 [I ((runP (m % 50).toNat (sc.take i)).2.k : Int), sl 4 FRV (runP (m % 50).toNat (sc.take i)).2.vs], .b b7 28 [sl 1 FI (runP (m % 50).toNat (sc.take i)).1.cs, mp FV (runP (m % 50).toNat (sc.take i)).1.vs], .b b5 45 [I 0, val nilS], .b b4 28 [val nilS, val (.map none)]] [(11, I (i : Int)), (9, val (.pointer (some ⟨b9, 0, none⟩))), (8, I 0), (7, val (.pointer (some ⟨b7, 0, none⟩))), (5, val (.pointer (some ⟨b5, 0, none⟩))), (4, val (.pointer (some ⟨b4, 0, none⟩))), (1, sl 6 FS6 sc)] _ _
  refine WP.seq ?_
  refine WP.seq ?_
  refine WP.region ?_
  refine WL.op (mv (ot rfl)) (by decide) ?_
  refine WL.op (mv (ot rfl)) (by decide) ?_
  refine WL.op (len_ us_s_tegularef36_Step (ot rfl)) (by decide) ?_
  refine WL.op (lss (ot rfl) (ot rfl)) (by decide) ?_
  refine WL.op (mv (ot rfl)) (by decide) ?_
  refine WL.gd rfl rfl (Tells.v _ _) (fun hg => mv (ot rfl)) (by decide) ?_
  refine WL.gd rfl rfl (Tells.v _ _) (fun hg => eql (og rfl hg) (oc _)) (by decide) ?_
  refine WL.op (and_ (ot rfl) (ot rfl)) (by decide) ?_
  refine WL.nl (.thn ?_)
  refine WP.cond rfl (fun hc => ?_) (fun hc => ?_)
  · skip
    have hc1 : i < sc.length := by simp only [Bool.and_eq_true, decide_eq_true_eq] at hc; omega
    have hrs := run_rs (k := (m % 50).toNat) (sc := sc.take i) (by omega) fun t h => ht t (List.mem_of_mem_take h)
    have hal := apply_len hrs.rel.ok (sc.getD (i : Int).toNat default)
    refine WP.sk (.thn ?_)
    refine WP.seq ?_
    refine WP.block ?_
    refine WP.seq ?_
    refine WP.draws ?_
    refine RG.op (lbs 1 rfl ag_family_Family (ot rfl) (le_ rfl)) ?_
    refine RG.op (mv (ot rfl)) ?_
    refine RG.op (mv (ot rfl)) ?_
    refine RG.op (ixd el_s_tegularef36_Step (ot rfl) (ot rfl) (by omega) (by omega)) ?_
    refine RG.op (ls ag_ef36_Step (ot rfl) (le_ rfl)) ?_
    refine RG.op (call (cr_apply hrs.rel (ht _ (getS_mem hc1))) (.c (ot rfl) (.c (ot rfl) .n))) ?_
    refine RG.op (mv (ot rfl)) ?_
    refine RG.op (ex (ot rfl) rfl) ?_
    refine RG.op (ex (ot rfl) rfl) ?_
    refine RG.op (ex (ot rfl) rfl) ?_
    refine RG.bx (.alloc zr_family_Family rfl) ?_
    refine RG.ox 10 rfl rfl (OpO.store (ot rfl) (.agg _) sz_family_Family rfl rfl) ?_
    refine RG.op (asg (ot rfl)) ?_
    refine RG.op (asg (ot rfl)) ?_
    refine RG.fin HM (by kernel_rfl) ?_
    intro b12
    show WL _ _ _ _ _ _ _ _ _
    refine WL.nl (.thn ?_)
    refine WP.seq ?_
    refine WP.draws ?_
    refine RG.op (lbs 1 rfl ag_ef36_Family (ot rfl) (le_ rfl)) ?_
    refine RG.op (mv (ot rfl)) ?_
    refine RG.op (mv (ot rfl)) ?_
    refine RG.op (ixd el_s_tegularef36_Step (ot rfl) (ot rfl) (by omega) (by omega)) ?_
    refine RG.op (ls ag_ef36_Step (ot rfl) (le_ rfl)) ?_
    refine RG.op (call (c_r36_Family_Apply hrs.rel.ok hrs.sm (ht _ (getS_mem hc1))) (.c (ot rfl) (.c (ot rfl) .n))) ?_
    refine RG.op (mv (ot rfl)) ?_
    refine RG.op (ex (ot rfl) rfl) ?_
    refine RG.op (ex (ot rfl) rfl) ?_
    refine RG.op (ex (ot rfl) rfl) ?_
    refine RG.bx (.alloc zr_ef36_Family rfl) ?_
    refine RG.ox 10 rfl rfl (OpO.store (ot rfl) (.agg _) sz_ef36_Family rfl rfl) ?_
    refine RG.op (asg (ot rfl)) ?_
    refine RG.op (asg (ot rfl)) ?_
    refine RG.fin HM (by kernel_rfl) ?_
    intro b15
    show WL _ _ _ _ _ _ _ _ _
    refine WL.nl (.thn ?_)
    refine WP.seq ?_
    refine WP.seq ?_
    refine WP.region ?_
    refine WL.op (mv (ot rfl)) (by decide) ?_
    refine WL.op (mv (ot rfl)) (by decide) ?_
    refine WL.op (OpG.weak (R' := val (.bool false)) (neq  (ot rfl) (ot rfl)) (imp_eq (congrArg (fun b => val (.bool b)) (by rw [decide_eq_true rfl]; rfl)))) (by decide) ?_
    refine WL.op (mv (ot rfl)) (by decide) ?_
    refine WL.gd rfl rfl (Tells.v _ _) (fun hg => mv (ot rfl)) (by decide) ?_
    refine WL.gd rfl rfl (Tells.v _ _) (fun hg => mv (ot rfl)) (by decide) ?_
    refine WL.gd rfl rfl (Tells.v _ _) (fun hg => call (c_r32_Same (rApply (runP (m % 50).toNat (sc.take i)).2 (sc.getD (i : Int).toNat default)).2.1 (rApply (runP (m % 50).toNat (sc.take i)).2 (sc.getD (i : Int).toNat default)).2.1 (by omega) (by omega)) (.c (og rfl hg) (.c (og rfl hg) .n))) (by decide) ?_
    refine WL.gd rfl rfl (Tells.v _ _) (fun hg => OpG.weak (R' := val (.bool false)) (not_  (og rfl hg)) (imp_eq (congrArg (fun b => val (.bool b)) (by rw [decide_eq_true rfl]; rfl)))) (by decide) ?_
    refine WL.op (or_ (ot rfl) (ot rfl)) (by decide) ?_
    refine WL.nl (.thn ?_)
    refine WP.condF rfl ?_
    refine WP.sk (.thn ?_)
    refine WP.seq ?_
    refine WP.region ?_
    refine WL.op (mv (ot rfl)) (by decide) ?_
    refine WL.op (eql (ot rfl) (oc _)) (by decide) ?_
    refine WL.nl (.thn ?_)
    refine WP.cond rfl (fun hc => ?_) (fun hc => ?_)
    · skip
      have hz : (rApply (runP (m % 50).toNat (sc.take i)).2 (sc.getD (i : Int).toNat default)).2.2 = 0 := by simpa using hc
      refine WP.drawsH [2, 3] ?_
      refine RG.opE (lbs 1 rfl ag_family_Family (ot rfl) (le_ rfl)) ?_
      refine RG.op (lbs 0 rfl ag_ef36_Family (ot rfl) (le_ rfl)) ?_
      refine RG.sx (OpE.store 3 rfl (ot rfl) (ot rfl) (.agg _) sz_family_Family rfl (le_ rfl)) rfl ?_
      refine RG.sx (OpE.store 2 rfl (ot rfl) (ot rfl) (.agg _) sz_ef36_Family rfl (le_ rfl)) rfl ?_
      refine RG.fin HM (by kernel_rfl) ?_
      show WL _ _ _ _ _ _ _ _ _
      refine WL.nl (.blk (.thn ?_))
      refine WP.region ?_
      refine WL.op (mv (ot rfl)) (by decide) ?_
      refine WL.op (add (ot rfl) (oc _) (by omega)) (by decide) ?_
      refine WL.op (asg (ot rfl)) (by decide) ?_
      exact WL.nl (.again (i + 1) hc1 (by omega) (Sub.ofD 2 (by rw [run_step hc1]; unfold ap; rw [if_pos hz]; rfl) (Sub.cons rfl (imp_eq (congrArg I (by omega))) (Sub.cons rfl (imp  _) (Sub.cons rfl (imp  _) (Sub.cons rfl (imp  _) (Sub.cons rfl (imp  _) (Sub.cons rfl (imp  _) (Sub.cons rfl (imp  _) Sub.nil)))))))))
    · skip
      have hz : ¬ (rApply (runP (m % 50).toNat (sc.take i)).2 (sc.getD (i : Int).toNat default)).2.2 = 0 := by simpa using hc
      refine WP.sk (.blk (.thn ?_))
      refine WP.region ?_
      refine WL.op (mv (ot rfl)) (by decide) ?_
      refine WL.op (add (ot rfl) (oc _) (by omega)) (by decide) ?_
      refine WL.op (asg (ot rfl)) (by decide) ?_
      exact WL.nl (.again (i + 1) hc1 (by omega) (Sub.ofD 2 (by rw [run_step hc1]; unfold ap; rw [if_neg hz]; rfl) (Sub.cons rfl (imp_eq (congrArg I (by omega))) (Sub.cons rfl (imp  _) (Sub.cons rfl (imp  _) (Sub.cons rfl (imp  _) (Sub.cons rfl (imp  _) (Sub.cons rfl (imp  _) (Sub.cons rfl (imp  _) Sub.nil)))))))))
  · skip
    have hc1 : ¬ i < sc.length := by simpa using hc
    have hrs := run_rs (k := (m % 50).toNat) (sc := sc.take i) (by omega) fun t h => ht t (List.mem_of_mem_take h)
    refine WP.xt (.xthn (.xthn (.xin (.thn ?_))))
    refine WP.seq ?_
    refine WP.drawsH [2, 3] ?_
    refine RG.opE (lbs 1 rfl ag_family_Family (ot rfl) (le_ rfl)) ?_
    refine RG.op (lbs 0 rfl ag_ef36_Family (ot rfl) (le_ rfl)) ?_
    refine RG.op (mv (ot rfl)) ?_
    refine RG.op (eql (ot rfl) (oc _)) ?_
    refine RG.op (mv (ot rfl)) ?_
    refine RG.gd rfl rfl (Tells.v _ _) (fun hg => lbs 1 rfl ag_family_Family (ot rfl) (le_ rfl)) ?_
    refine RG.gd rfl rfl (Tells.v _ _) (fun hg => lbs 0 rfl ag_ef36_Family (ot rfl) (le_ rfl)) ?_
    refine RG.gd rfl rfl (Tells.v _ _) (fun hg => call (c_w36_same (f := (runP (m % 50).toNat (sc.take i)).1) (g := (runP (m % 50).toNat (sc.take i)).2) hrs.rel) (.c (og rfl hg) (.c (og rfl hg) .n))) ?_
    refine RG.op (and_ (ot rfl) (ot rfl)) ?_
    refine RG.sx (OpE.store 3 rfl (ot rfl) (ot rfl) (.agg _) sz_family_Family rfl (le_ rfl)) rfl ?_
    refine RG.sx (OpE.store 2 rfl (ot rfl) (ot rfl) (.agg _) sz_ef36_Family rfl (le_ rfl)) rfl ?_
    refine RG.op (asg (ot rfl)) ?_
    refine RG.fin HM (by kernel_rfl) ?_
    show WL _ _ _ _ _ _ _ _ _
    refine WL.nl (.thn ?_)
    exact WP.rt (.rN rfl (.cons (.bx 3 rfl rfl ag_family_Family) (.cons (.bx 2 rfl rfl ag_ef36_Family) (.cons (.tm rfl) .nil))) (le_ rfl) (imp_eq (by rw [← run_all (k := (m % 50).toNat) (sc := sc) (i := i) (by omega)]; rfl)))
theorem c_w36_FamilyScript {m : Int} {sc : List St6} (hm : 0 ≤ m ∧ m ≤ 255) (ht : ∀ t ∈ sc, t.U8) : PureC Tryz.prog 4 [val (.int .u8 m), sl 6 FS6 sc] (val (.bool true)) := by
  refine PureC.of_wp Tryz.func4 (by kernel_rfl) rfl Tryz.ntmps4 (le_ rfl) (fun w0 M0 => ?_)
  refine WP.seq ?_
  refine WP.region ?_
  refine WL.op (asg (oc _)) (by decide) ?_
  refine WL.nl (.thn ?_)
  refine WP.seq ?_
  refine WP.seq ?_
  refine WP.region ?_
  refine WL.op (call c_w36_awake .n) (by decide) ?_
  refine WL.op (not_ (ot rfl)) (by decide) ?_
  refine WL.nl (.thn ?_)
  refine WP.condF rfl ?_
  refine WP.sk (.thn ?_)
  refine WP.seq ?_
  refine WP.seq ?_
  refine WP.region ?_
  refine WL.op (mv (ot rfl)) (by decide) ?_
  refine WL.op (len_ us_s_tegularef36_Step (ot rfl)) (by decide) ?_
  refine WL.op (gtr (ot rfl) (oc _)) (by decide) ?_
  refine WL.nl (.thn ?_)
  refine WP.cond rfl (fun hc => ?_) (fun hc => ?_)
  · skip
    refine WP.seq ?_
    refine WP.region ?_
    refine WL.op (asg (oc _)) (by decide) ?_
    refine WL.nl (.thn ?_)
    exact WP.rt (.rthn (.r1 rfl rfl (imp _)))
  · skip
    have hc2 : sc.length ≤ 25 := by have := of_decide_eq_false hc; omega
    refine WP.sk (.thn ?_)
    refine WP.seq ?_
    refine WP.region ?_
    refine WL.op (mv (ot rfl)) (by decide) ?_
    refine WL.op (mv (ot rfl)) (by decide) ?_
    refine WL.op (call (c_w36_build hm (by omega) ht) (.c (ot rfl) (.c (ot rfl) .n))) (by decide) ?_
    refine WL.op (mv (ot rfl)) (by decide) ?_
    refine WL.op (ex (ot rfl) rfl) (by decide) ?_
    refine WL.op (ex (ot rfl) rfl) (by decide) ?_
    refine WL.op (ex (ot rfl) rfl) (by decide) ?_
    refine WL.alloc zr_family_Family rfl (by decide) fun b5 => ?_
    refine WL.alloc zr_ef36_Family rfl (by decide) fun b6 => ?_
    refine WL.store 1 rfl (ot rfl) (ot rfl) (.agg _) sz_family_Family rfl (le_ rfl) ?_
    refine WL.store 0 rfl (ot rfl) (ot rfl) (.agg _) sz_ef36_Family rfl (le_ rfl) ?_
    refine WL.op (asg (ot rfl)) (by decide) ?_
    refine WL.nl (.thn ?_)
    refine WP.seq ?_
    refine WP.region ?_
    refine WL.op (mv (ot rfl)) (by decide) ?_
    refine WL.op (asg (ot rfl)) (by decide) ?_
    refine WL.nl (.thn ?_)
    exact WP.rt (.r1 rfl rfl (imp _))
end Go.Proofs.YtjglgfnhgehpeaaGreat

/- Arrays: a part of one's own; arguments. No program in sight. -/
namespace Go.Fw
open Go.RowKit Go.Proofs Go.ChangeShapes Go.WideShapes
set_option linter.unusedVariables false
set_option linter.unusedSimpArgs false
section
variable {P : Program} {bs : List Box} {lk : Nat → Option Rp} {ty T : TypeId} {x : Operand}
def arrOff (P : Program) (T : TypeId) (i : Nat) : Option Nat := match P.underlying T with
  | some (.array n e) => if i < n then (P.info? e).map (fun d => i * d.size) else none
  | _ => none
theorem ia {i : Nat} {off b o : Nat} {kd : IntKind} (ho : arrOff P T i = some off) (hx : OF lk x (val (.pointer (some ⟨b, o, none⟩)))) : OpG P bs lk (.indexAddr T x (.const (.int kd (i : Int)))) ty (val (.pointer (some ⟨b, o + off, none⟩))) := opr fun σ w M hf => by
  have h1 : ev σ x = _ := hx σ w M (hf x (by simp [Op.operands, Call.operands]))
  unfold arrOff at ho
  split at ho
  · rename_i n e hu
    split at ho
    · rename_i hlt
      cases hi : P.info? e with
      | none => rw [hi] at ho; cases ho
      | some d =>
        rw [hi] at ho
        simp only [Option.map_some, Option.some.injEq] at ho
        subst ho
        have hl : (i : Int) < n := by omega
        simp [execOp, h1, ev_const, Instr.indexAt, run_underlying hu, Instr.sureAddr, asIntOf, hl, sizeOf, typeInfo, hi, add_at]
        try (intro hq; omega)
    · cases ho
  · cases ho
/-! ### arguments -/
variable {H : Type} {enc : TypeId × Value → H} {W : World} {t e : TypeId} {v : Value} {d : DataW H} {p : List MemPlace} {base : Nat} {ks : List (Option IntKind)}
theorem agg_vals {w : World} {M : Mask} {cs : List Value} (h : cs.all (·.oneCell') = true) : (agg (cs.map val)).h (.agg cs.toArray) w M := ⟨cs, rfl, All2.vals h⟩
theorem open_stc (hk : skFields P t ks = true) (hv : Value.okWide P W .any base t v) (h : DataW.Trod enc P W 0 (fun _ => true) true t v d p) : ∃ cs : List Value, v = .agg cs.toArray ∧ SkAll ks cs := by
  obtain ⟨fs, hu⟩ : ∃ fs, P.underlying t = some (.struct fs) := by
    unfold skFields at hk
    split at hk
    · exact ⟨_, by assumption⟩
    · cases hk
  obtain ⟨cs, rfl, _⟩ := okWide_struct hu hv
  obtain ⟨fuel, hf⟩ := h
  exact ⟨cs.toList, by simp, sk_of_trod hk (by simpa [Value.cells] using hf)⟩
theorem okWide_arr {n : Nat} (ht : P.underlying t = some (.array n e)) (h : Value.okWide P W .any base t v) : ∃ cs, v = .agg cs ∧ cs.size = P.cellsOf t := by
  unfold Value.okWide at h
  rw [ht] at h
  obtain ⟨cs, h1, h2, _⟩ := h
  exact ⟨cs, h1, h2⟩
theorem open_ar2 {k : IntKind} (hu : P.underlying t = some (.array 2 e)) (hct : P.cellsOf t = 2) (hce : P.cellsOf e = 1) (he : P.underlying e = some (.int k)) (hv : Value.okWide P W .any base t v) (h : DataW.Trod enc P W 0 (fun _ => true) true t v d p) :
    ∃ a b : Int, v = .agg [.int k a, .int k b].toArray ∧ (Lit.int k a).wf = true ∧ (Lit.int k b).wf = true := by
  obtain ⟨cs, rfl, hsz⟩ := okWide_arr hu hv
  obtain ⟨fuel, hf⟩ := h
  obtain ⟨xs, m, _, _, hl, hx, hg⟩ := DataW.trod_array hu hf
  have hc : ∃ c0 c1, cs.toList = [c0, c1] := by
    have : cs.toList.length = 2 := by rw [Array.length_toList, hsz, hct]
    match hq : cs.toList, this with
    | [c0, c1], _ => exact ⟨c0, c1, rfl⟩
  obtain ⟨c0, c1, hc⟩ := hc
  have hcs : cs = [c0, c1].toArray := by rw [← hc]
  subst hcs
  have g0 := hg 0 (by omega)
  have g1 := hg 1 (by omega)
  rw [hce, List.getElem?_eq_getElem (by omega)] at g0 g1
  simp only [Value.cells, Nat.zero_mul, Nat.one_mul, List.drop_zero, List.take_succ_cons, List.take_zero, List.drop_succ_cons] at g0 g1
  obtain ⟨a, ha, _, wa⟩ := DataW.trod_int he g0
  obtain ⟨b, hb, _, wb⟩ := DataW.trod_int he g1
  cases ha; cases hb
  exact ⟨a, b, rfl, wa, wb⟩
theorem open_ar2s (hu : P.underlying t = some (.array 2 e)) (hct : P.cellsOf t = 2 * ks.length) (hce : P.cellsOf e = ks.length) (hk : skFields P e ks = true) (hv : Value.okWide P W .any base t v) (h : DataW.Trod enc P W 0 (fun _ => true) true t v d p) :
    ∃ a1 b1 : List Value, v = .agg (a1 ++ b1).toArray ∧ SkAll ks a1 ∧ SkAll ks b1 := by
  obtain ⟨cs, rfl, hsz⟩ := okWide_arr hu hv
  obtain ⟨fuel, hf⟩ := h
  obtain ⟨xs, m, _, _, hl, hx, hg⟩ := DataW.trod_array hu hf
  have g0 := hg 0 (by omega)
  have g1 := hg 1 (by omega)
  rw [hce, List.getElem?_eq_getElem (by omega)] at g0 g1
  simp only [Value.cells, Nat.zero_mul, Nat.one_mul, List.drop_zero] at g0 g1
  refine ⟨cs.toList.take ks.length, (cs.toList.drop ks.length).take ks.length, ?_, sk_of_trod hk g0, sk_of_trod hk g1⟩
  have : (cs.toList.drop ks.length).take ks.length = cs.toList.drop ks.length := List.take_of_length_le (by rw [List.length_drop, Array.length_toList, hsz, hct]; omega)
  rw [this, List.take_append_drop]
end
end Go.Fw

/- Sizes and places of this program's types, each asked of the kernel. -/
namespace Go.Proofs.YtjglgfnhgehpeaaGreat
open Go.Fw
theorem fo_VolumeInfo_1 : fieldOff Tryz.prog 34 1 = some 1 := by kernel_rfl
theorem fo_VolumeInfo_2 : fieldOff Tryz.prog 34 2 = some 2 := by kernel_rfl
theorem fo_VolumeInfo_3 : fieldOff Tryz.prog 34 3 = some 3 := by kernel_rfl
end Go.Proofs.YtjglgfnhgehpeaaGreat

/- Families: what the laws say, plainly. -/
set_option linter.unusedVariables false
set_option linter.unusedSimpArgs false
namespace Go.Proofs.YtjglgfnhgehpeaaGreat
open Go.RowKit Go.Fw Go.Xt
/-! ### a change of one volume keeps the others -/
theorem mem_with {g : RF} (h : GOk g) {w v : RV} (hne : v.s ≠ w.s) (hv : v ∈ g.vs) : v ∈ (rWith g w).vs := (with_perm h.srt w).symm.subset (List.mem_cons_of_mem _ (oth_mem.2 ⟨hv, hne⟩))
theorem apply_keep {g : RF} (h : GOk g) {t : St6} (q : (rApply g t).2.2 = 0) {v : RV} (hv : v ∈ g.vs) (hne : v.s ≠ nm t.v ∨ t.k % 8 = 1) : v ∈ (rApply g t).1.vs := by
  unfold rApply at q ⊢
  split
  · rename_i k0
    rw [if_pos k0] at q
    unfold rCreate at q ⊢
    dsimp only at q ⊢
    split
    · rename_i q1; rw [if_pos q1] at q; cases q
    · rename_i q1
      rw [if_neg q1] at q
      cases hm : gl (nm t.v) g.vs with
      | some w => rw [hm] at q; cases q
      | none =>
        rw [hm] at q
        dsimp only at q ⊢
        split
        · rename_i q2; rw [if_pos q2] at q; cases q
        · exact mem_with h (hne.resolve_right (by omega)) hv
  rename_i k0
  rw [if_neg k0] at q
  split
  · rename_i k1
    rw [if_pos k1] at q
    unfold rClone at q ⊢
    dsimp only at q ⊢
    cases hm : gl (nm t.v) g.vs with
    | none => rw [hm] at q; cases q
    | some w =>
      rw [hm] at q
      dsimp only at q ⊢
      split
      · rename_i q1; rw [if_pos q1] at q; cases q
      · rename_i q1
        rw [if_neg q1] at q
        cases hm2 : gl (nm t.o) g.vs with
        | some w => rw [hm2] at q; cases q
        | none =>
          rw [hm2] at q
          dsimp only at q ⊢
          split
          · rename_i q2; rw [if_pos q2] at q; cases q
          · exact mem_with h ((at_none hm2).2 v hv) hv
  rename_i k1
  rw [if_neg k1] at q
  have hne := hne.resolve_right k1
  split
  · rename_i k2
    rw [if_pos k2] at q
    unfold rDelete at q ⊢
    cases hm : gl (nm t.v) g.vs with
    | none => rw [hm] at q; cases q
    | some w =>
      dsimp only
      obtain ⟨i, i1, i2, i3, i4⟩ := at_some hm
      unfold rDel
      rw [i2, Int.toNat_natCast, del_eq h.srt i2 i1]
      exact oth_mem.2 ⟨hv, hne⟩
  rename_i k2
  rw [if_neg k2] at q
  split
  · rename_i k3
    rw [if_pos k3] at q
    unfold rUnmap at q ⊢
    cases hm : gl (nm t.v) g.vs with
    | none => rw [hm] at q; cases q
    | some w =>
      rw [hm] at q
      dsimp only at q ⊢
      split
      · exact mem_with h (by rw [show (⟨w.s, w.n, w.r, (rCut w.l t.a t.n).1⟩ : RV).s = nm t.v from (gl_mem hm).2]; exact hne) hv
      · rename_i q1; rw [if_neg q1] at q; cases q
  · rename_i k3
    rw [if_neg k3] at q
    unfold rAssign at q ⊢
    cases hm : gl (nm t.v) g.vs with
    | none => rw [hm] at q; cases q
    | some w =>
      rw [hm] at q
      dsimp only at q ⊢
      split
      · exact mem_with h (by rw [show (⟨w.s, w.n, w.r, (rPut w.l t.x).1⟩ : RV).s = nm t.v from (gl_mem hm).2]; exact hne) hv
      · rename_i q1; rw [if_neg q1] at q; cases q
/-! ### sums over lists -/
def sL {α : Type} (h : α → Int) : List α → Int
  | [] => 0
  | x :: l => h x + sL h l
section
variable {α : Type} {h : α → Int}
theorem sL_app : ∀ (a b : List α), sL h (a ++ b) = sL h a + sL h b
  | [], b => by simp [sL]
  | x :: a, b => by simp only [List.cons_append, sL, sL_app a b]; omega
theorem sL_take [Inhabited α] {l : List α} {i : Nat} (hi : i < l.length) : sL h (l.take (i + 1)) = sL h (l.take i) + h (l.getD (i : Int).toNat default) := by
  rw [List.take_add_one, List.getElem?_eq_getElem hi, sL_app, show ((i : Nat) : Int).toNat = i from by omega, List.getD_eq_getElem?_getD, List.getElem?_eq_getElem hi]
  simp [sL]
theorem sL_nn : ∀ {l : List α}, (∀ x ∈ l, 0 ≤ h x) → 0 ≤ sL h l
  | [], _ => Int.le_refl _
  | x :: l, q => by
    have := q x List.mem_cons_self
    have := sL_nn (l := l) fun y hy => q y (List.mem_cons_of_mem _ hy)
    simp only [sL]; omega
theorem sL_pre {l : List α} (q : ∀ x ∈ l, 0 ≤ h x) (i : Nat) : 0 ≤ sL h (l.take i) ∧ sL h (l.take i) ≤ sL h l := by
  have h1 := sL_nn (l := l.take i) fun x hx => q x (List.mem_of_mem_take hx)
  have h2 := sL_nn (l := l.drop i) fun x hx => q x (List.mem_of_mem_drop hx)
  have h3 := sL_app (h := h) (l.take i) (l.drop i)
  rw [List.take_append_drop] at h3
  omega
end
theorem sumN_sL : ∀ (L : List X), sumN L = sL (·.n) L
  | [] => rfl
  | x :: L => by show x.n + sumN L = _; rw [sumN_sL L]; rfl
theorem rstep_nn {acc : List X} {u : Int} (h : ∀ x ∈ acc, 0 ≤ x.n) : ∀ x ∈ rstep acc (un u), 0 ≤ x.n := by
  intro x hx
  unfold rstep at hx
  split at hx
  · rename_i q
    rcases List.mem_or_eq_of_mem_set hx with hx | rfl
    · exact h x hx
    · have : 0 ≤ (lastX acc).n := by
        rcases List.eq_nil_or_concat acc with rfl | ⟨L, y, rfl⟩
        · simp at q
        · rw [List.concat_eq_append] at h ⊢
          rw [lastX_snoc]
          exact h y (by simp)
      exact Int.le_trans this (Int.le_max_left ..)
  · rcases List.mem_append.1 hx with hx | hx
    · exact h x hx
    · rw [List.mem_singleton] at hx
      subst hx
      show (0 : Int) ≤ 1
      omega
theorem sumN_take {L : List X} {i : Nat} (hi : i < L.length) : sumN (L.take (i + 1)) = sumN (L.take i) + (L.getD (i : Int).toNat default).n := by rw [sumN_sL, sumN_sL, sL_take hi]
theorem sumN_pre {L : List X} (q : ∀ x ∈ L, 0 ≤ x.n) (i : Nat) : 0 ≤ sumN (L.take i) ∧ sumN (L.take i) ≤ sumN L := by rw [sumN_sL, sumN_sL]; exact sL_pre q i
theorem info_tup {g : RF} (h : GOk g) {v : RV} (hv : v ∈ g.vs) : tup [agg (FInf (rInfo g v.s).1), I (rInfo g v.s).2] = tup [agg [val (.string v.s), I v.n, I v.r, I (sumN v.l), I (exH (rCounts g) v.l)], I 0] := by
  have := info_at h hv
  exact congrArg (fun p : Inf × Int => tup [agg (FInf p.1), I p.2]) this
/-! ### the accounts -/
def cN (cs : List Int) (i : Nat) : Int := sumR (fun s => cs.getD s 0) i
def oN (cs : List Int) (i : Nat) : Int := sumR (fun s => if cs.getD s 0 = 1 then 1 else 0) i
def zN (cs : List Int) (i : Nat) : Int := sumR (fun s => if cs.getD s 0 = 0 then 1 else 0) i
theorem oN_bd (cs : List Int) (i : Nat) : 0 ≤ oN cs i ∧ oN cs i ≤ i := ⟨sumR_nn fun _ _ => by split <;> omega, sumR_ub fun _ _ => by split <;> omega⟩
theorem zN_bd (cs : List Int) (i : Nat) : 0 ≤ zN cs i ∧ zN cs i ≤ i := ⟨sumR_nn fun _ _ => by split <;> omega, sumR_ub fun _ _ => by split <;> omega⟩
theorem cN_step (cs : List Int) (i : Nat) : cN cs (i + 1) = cN cs i + cs.getD i 0 := rfl
theorem oN_pos {cs : List Int} {i : Nat} (h : cs.getD i 0 = 1) : oN cs (i + 1) = oN cs i + 1 := by show oN cs i + (if cs.getD i 0 = 1 then 1 else 0) = _; rw [if_pos h]
theorem oN_neg {cs : List Int} {i : Nat} (h : ¬ cs.getD i 0 = 1) : oN cs (i + 1) = oN cs i := by show oN cs i + (if cs.getD i 0 = 1 then 1 else 0) = _; rw [if_neg h]; omega
theorem zN_pos {cs : List Int} {i : Nat} (h : cs.getD i 0 = 0) : zN cs (i + 1) = zN cs i + 1 := by show zN cs i + (if cs.getD i 0 = 0 then 1 else 0) = _; rw [if_pos h]
theorem zN_neg {cs : List Int} {i : Nat} (h : ¬ cs.getD i 0 = 0) : zN cs (i + 1) = zN cs i := by show zN cs i + (if cs.getD i 0 = 0 then 1 else 0) = _; rw [if_neg h]; omega
theorem cnt_k {g : RF} {s : Nat} (hs : s < g.k) : rCnt g (s : Int) = (rCounts g).getD s 0 := by
  unfold rCnt
  rw [if_neg (by omega), Int.toNat_natCast]
theorem cnt_bd {g : RF} (h : GOk g) (s : Nat) : 0 ≤ (rCounts g).getD s 0 ∧ (rCounts g).getD s 0 ≤ 3000000 := by
  rw [(counts_spec h).2 s]
  exact ⟨tot_nn _ _, tot_le h _⟩
theorem cN_bd {g : RF} (h : GOk g) : ∀ i : Nat, 0 ≤ cN (rCounts g) i ∧ cN (rCounts g) i ≤ 3000000 * i
  | 0 => ⟨Int.le_refl _, Int.le_refl _⟩
  | i + 1 => by
    have := cN_bd h i
    have := cnt_bd h i
    rw [cN_step]
    omega
theorem tot_sum {k : Nat} : ∀ {vs : List RV}, (∀ v ∈ vs, VOk k v) → sumR (fun s => tot vs s) k = sL (fun v => sumN v.l) vs
  | [], _ => sumR_zero fun _ _ => rfl
  | v :: vs, h => by
    rw [show (fun s : Nat => tot (v :: vs) (s : Int)) = fun s : Nat => hits v.l s + tot vs s from rfl, sumR_add, sumR_hits (h v List.mem_cons_self).slots, tot_sum fun w hw => h w (List.mem_cons_of_mem _ hw)]
    rfl
theorem acc_total {g : RF} (h : GOk g) : cN (rCounts g) g.k = sL (fun v => sumN v.l) g.vs := by
  rw [← tot_sum h.vol]
  exact sumR_congr fun i _ => (counts_spec h).2 i
theorem ex_sum {cs : List Int} : ∀ (vs : List RV), sumR (fun s => if cs.getD s 0 = 1 then tot vs s else 0) cs.length = sL (fun v => exH cs v.l) vs
  | [] => sumR_zero fun _ _ => by simp [tot]
  | v :: vs => by
    rw [sumR_congr (g := fun s => (if cs.getD s 0 = 1 then hits v.l s else 0) + (if cs.getD s 0 = 1 then tot vs s else 0)) fun i _ => by simp only [tot]; split <;> omega, sumR_add, ex_sum vs]
    rfl
theorem acc_single {g : RF} (h : GOk g) : oN (rCounts g) g.k = sL (fun v => exH (rCounts g) v.l) g.vs := by
  rw [← ex_sum, (counts_spec h).1]
  refine sumR_congr fun i _ => ?_
  split
  · rename_i q; rw [← (counts_spec h).2 i, q]
  · rfl
theorem acc_free {g : RF} (h : GOk g) : zN (rCounts g) g.k = sumN (rFree g) := by
  show _ = sumN (mruns ((za (rCounts g)).map un))
  have := runs_sum (U := za (rCounts g)) (asc_lt _ _)
  rw [this, za_len]
  unfold frN zN
  rw [(counts_spec h).1]
theorem free_nn (g : RF) : ∀ x ∈ rFree g, 0 ≤ x.n := by
  have : ∀ (U : List Int) (acc : List X), (∀ x ∈ acc, 0 ≤ x.n) → ∀ x ∈ (U.map un).foldl rstep acc, 0 ≤ x.n := by
    intro U
    induction U with
    | nil => intro acc h; exact h
    | cons u U ih => intro acc h; exact ih _ (rstep_nn h)
  exact this _ [] fun x hx => by cases hx
theorem sum_bd {g : RF} (h : GOk g) : ∀ v ∈ g.vs, 0 ≤ sumN v.l ∧ 0 ≤ exH (rCounts g) v.l := fun v hv => ⟨((h.vol v hv).ok.sum (Int.le_refl 0)).1 |> fun _ => by rw [← sumR_hits (h.vol v hv).slots]; exact sumR_nn fun _ _ => hits_nn _ _, exH_nn _ _⟩
end Go.Proofs.YtjglgfnhgehpeaaGreat

/- A slice of two bytes written out. No program in sight. -/
namespace Go.Fw
open Go.RowKit Go.Proofs Go.ChangeShapes Go.WideShapes
set_option linter.unusedVariables false
set_option linter.unusedSimpArgs false
section
variable {P : Program} {bs : List Box} {lk : Nat → Option Rp}
theorem quo {T T' ty : TypeId} {x y : Operand} {a b : Int} (hx : OF lk x (val (.int .i64 a))) (hy : OF lk y (val (.int .i64 b))) (h0 : 0 ≤ a ∧ a ≤ 9223372036854775807) (h1 : 0 < b) : OpG P bs lk (.binOp .quo T x y T') ty (val (.int .i64 (a / b))) :=
  opr fun σ w M hf => by
    have e1 : ev σ x = _ := hx σ w M (hf x (by simp [Op.operands, Call.operands])); have e2 : ev σ y = _ := hy σ w M (hf y (by simp [Op.operands, Call.operands]))
    have e3 : ¬ b = 0 := by omega
    have g1 := Int.ediv_nonneg h0.1 (Int.le_of_lt h1)
    have g2 := Int.ediv_le_self b h0.1
    have e4 : IntKind.i64.wrap (a / b) = a / b := IntWalk.i64_in _ (by omega)
    simp [execOp, e1, e2, binOp, eqGuard, Op.intDiv, e3, Int.tdiv_eq_ediv_of_nonneg h0.1, e4]
theorem bsl2 {T ty e : TypeId} {bytes : Nat} {x y : Operand} {u v : UInt8} (hT : elemInfo P T = some (e, 1, bytes, 1)) (hx : OF lk x (val (.int .u8 (u.toNat : Int)))) (hy : OF lk y (val (.int .u8 (v.toNat : Int)))) :
    OpG P bs lk (.buildSlice T 2 #[(0, x), (1, y)]) ty (sl 1 FU [u, v]) := fun σ w M hm hfa _ => by
  have e1 : ev σ x = .int .u8 (u.toNat : Int) := hx σ w M (hfa x (by simp [Op.operands]))
  have e2 : ev σ y = .int .u8 (v.toNat : Int) := hy σ w M (hfa y (by simp [Op.operands]))
  unfold elemInfo at hT
  split at hT
  · rename_i e' hu
    cases hi : P.info? e' with
    | none => rw [hi] at hT; simp at hT
    | some ti =>
      cases hz : ti.zero with
      | none => rw [hi] at hT; simp [hz] at hT
      | some z =>
        rw [hi] at hT
        simp only [Option.bind_some, hz, Option.map_some, Option.some.injEq, Prod.mk.injEq] at hT
        obtain ⟨rfl, t1, t2, t3⟩ := hT
        have hb : Below w.heap.size w (w.alloc (.cells #[.int .u8 (u.toNat : Int), .int .u8 (v.toNat : Int)] e')) := (Below.refl _ w).alloc (Nat.le_refl _) _
        have hrun : (Instr.buildSlice T 2 #[(0, ev σ x), (1, ev σ y)]).run P w = .ok (.slice (some ⟨w.heap.size, 0, none⟩) 2 2) (w.alloc (.cells #[.int .u8 (u.toNat : Int), .int .u8 (v.toNat : Int)] e')) := by
          have hfill : ∀ cs : Array Value, cs.size = 2 → Instr.fill (fun i => some (i * 1, 1)) cs [(0, ev σ x), (1, ev σ y)] = some #[.int .u8 (u.toNat : Int), .int .u8 (v.toNat : Int)] := fun cs hc => by
            obtain ⟨l⟩ := cs
            match l, hc with
            | [c0, c1], _ => simp [Instr.fill, e1, e2, Value.cells]
          unfold Instr.buildSlice
          have hsz : ti.size = 1 := t1
          have h2 : ¬ (2 * 1 > 2 ^ 24) := by omega
          have h3 : ¬ (2 * 1 = 0) := by omega
          simp only [Sem.run_bind, run_underlying hu, Result.andThen_ok, sizeOf, typeInfo, run_program, hi, Sem.run_pure, hsz, Sem.run_ite, if_neg h2, if_neg h3, zeroValue, hz]
          rw [hfill _ (by simp)]
          simp [newRow]
        have : (execOp (ev σ) ⟨none, .buildSlice T 2 #[(0, x), (1, y)], ty, "", #[], none⟩).run P w = .ok (.value (.slice (some ⟨w.heap.size, 0, none⟩) 2 2)) (w.alloc (.cells #[.int .u8 (u.toNat : Int), .int .u8 (v.toNat : Int)] e')) := by
          simp [execOp, hrun]
        rw [this]
        refine ⟨⟨some ⟨w.heap.size, 0, none⟩, 2, rfl, Nat.le_refl _, .inr ⟨w.heap.size, 0, rfl, by simp, fun h => by have := hm _ h; omega, fun i y hy => ?_⟩⟩, hb⟩
        have h4 := heap_alloc_new w (.cells #[.int .u8 (u.toNat : Int), .int .u8 (v.toNat : Int)] e')
        have hi2 : (i = 0 ∧ y = u) ∨ (i = 1 ∧ y = v) := by
          match i, hy with
          | 0, hy => simp at hy; exact .inl ⟨rfl, hy.symm⟩
          | 1, hy => simp at hy; exact .inr ⟨rfl, hy.symm⟩
          | i + 2, hy => simp at hy
        rcases hi2 with ⟨rfl, rfl⟩ | ⟨rfl, rfl⟩
        · refine CellsAt.of_all2 (cs := [.int .u8 (y.toNat : Int)]) ⟨⟨rfl, rfl⟩, trivial⟩ fun j q hq => ?_
          match j, hq with
          | 0, hq => simp at hq; subst hq; simp only [World.cell?, h4]; rfl
          | j + 1, hq => simp at hq
        · refine CellsAt.of_all2 (cs := [.int .u8 (y.toNat : Int)]) ⟨⟨rfl, rfl⟩, trivial⟩ fun j q hq => ?_
          match j, hq with
          | 0, hq => simp at hq; subst hq; simp only [World.cell?, h4]; rfl
          | j + 1, hq => simp at hq
  · cases hT
end
end Go.Fw

/- Families: as many volumes as there may be. -/
set_option linter.unusedVariables false
set_option linter.unusedSimpArgs false
namespace Go.Proofs.YtjglgfnhgehpeaaGreat
open Go.RowKit Go.Fw Go.Xt
def vN : ByteArray := ⟨#[118]⟩
def wN : ByteArray := ⟨#[119]⟩
def cn (k : Nat) : ByteArray := (⟨#[118]⟩ : ByteArray) ++ (⟨[UInt8.ofNat (97 + k % 26), UInt8.ofNat (48 + k / 26)].toArray⟩ : ByteArray)
theorem cn_ne : ∀ i < 32, ∀ j < 32, i ≠ j → cn i ≠ cn j := by decide +kernel
theorem cn_ok : ∀ i < 32, cn i ≠ vN ∧ cn i ≠ wN ∧ nameE (cn i) = true := by decide +kernel
theorem vw_ok : nameE vN = true ∧ nameE wN = true ∧ vN ≠ wN := by decide +kernel
theorem cn_a : ∀ k : Nat, k < 32 → IntKind.u8.wrap (97 + (k : Int) % 26) = (((UInt8.ofNat (97 + k % 26)).toNat : Nat) : Int) := by decide +kernel
theorem cn_b : ∀ k : Nat, k < 32 → IntKind.u8.wrap (48 + (k : Int) / 26) = (((UInt8.ofNat (48 + k / 26)).toNat : Nat) : Int) := by decide +kernel
def lm (p : Fam × RF) : Nat → Fam × RF
  | 0 => p
  | j + 1 => ((fClone (lm p j).1 vN (cn (j + 1))).1, (rClone (lm p j).2 vN (cn (j + 1))).1)
structure LI (p : Fam × RF) (n r : Int) (j : Nat) : Prop where
  rel : Rel p.1 p.2
  len : p.2.vs.length = j + 1
  at_ : gl vN p.2.vs = some ⟨vN, n, r, []⟩
  nms : ∀ v ∈ p.2.vs, v.s = vN ∨ ∃ i, 1 ≤ i ∧ i ≤ j ∧ v.s = cn i
theorem gl_no {vs : List RV} {s : ByteArray} (h : ∀ v ∈ vs, v.s ≠ s) : gl s vs = none := List.find?_eq_none.2 fun v hv => by
  show ¬ decide (v.s = s) = true
  rw [decide_eq_true_eq]
  exact h v hv
theorem with_len {g : RF} (h : GOk g) {v : RV} (ho : gl v.s g.vs = none) : (rWith g v).vs.length = g.vs.length + 1 := by
  have := (with_perm h.srt v).length_eq
  rw [oth_none ho] at this
  exact this
theorem li_step {p : Fam × RF} {n r : Int} {j : Nat} (h : LI p n r j) (hj : j + 1 < 32) : (fClone p.1 vN (cn (j + 1))).2 = 0 ∧ LI ((fClone p.1 vN (cn (j + 1))).1, (rClone p.2 vN (cn (j + 1))).1) n r (j + 1) := by
  have hg := h.rel.ok
  have hno : gl (cn (j + 1)) p.2.vs = none := gl_no fun v hv => by
    rcases h.nms v hv with e | ⟨i, h1, h2, e⟩
    · rw [e]; exact (cn_ok _ hj).1.symm
    · rw [e]; exact cn_ne i (by omega) _ hj (by omega)
  have e : rClone p.2 vN (cn (j + 1)) = (rWith p.2 ⟨cn (j + 1), n, 0, []⟩, 0) := by
    unfold rClone
    rw [h.at_]
    dsimp only
    rw [if_neg (by rw [(cn_ok _ hj).2.2]; decide), hno]
    dsimp only
    rw [if_neg (by rw [h.len]; omega)]
  have hr := rel_clone h.rel vN (cn (j + 1))
  rw [e] at hr ⊢
  refine ⟨hr.1, hr.2 rfl, ?_, ?_, ?_⟩
  · show (rWith p.2 _).vs.length = _
    rw [with_len hg hno, h.len]
  · show gl vN (rWithL p.2.vs _) = _
    rw [gl_with hg, if_neg (fun q => (cn_ok _ hj).1 q.symm), h.at_]
  · intro v hv
    rcases List.mem_cons.1 ((with_perm hg.srt _).subset hv) with rfl | hv
    · exact .inr ⟨j + 1, by omega, by omega, rfl⟩
    · rcases h.nms v (oth_mem.1 hv).1 with q | ⟨i, h1, h2, q⟩
      · exact .inl q
      · exact .inr ⟨i, h1, by omega, q⟩
theorem li_run {p : Fam × RF} {n r : Int} (h : LI p n r 0) : ∀ j : Nat, j < 32 → LI (lm p j) n r j
  | 0, _ => h
  | j + 1, hj => (li_step (li_run h j (by omega)) hj).2
theorem bad_v {n r : Int} : badN vN n r ↔ (n < 1 ∨ 65536 < n ∨ r < 0 ∨ n < r) := by
  unfold badN
  rw [vw_ok.1]
  simp
theorem bad_w : ¬ badN wN 1 0 := by
  unfold badN
  rw [vw_ok.2.1]
  decide
theorem li_start {m n r : Int} (hm : 0 ≤ m ∧ m ≤ 65536) (hn : ¬ (n < 1 ∨ 65536 < n ∨ r < 0 ∨ n < r)) : (fCreate (fNew m).1 vN n r).2 = 0 ∧ LI ((fCreate (fNew m).1 vN n r).1, (rCreate (rNew m).1 vN n r).1) n r 0 := by
  have e0 : rNew m = (⟨m.toNat, []⟩, 0) := if_pos hm
  have h0 := (rel_new m).2 (by rw [e0])
  have e : rCreate (rNew m).1 vN n r = (rWith ⟨m.toNat, []⟩ ⟨vN, n, r, []⟩, 0) := by
    rw [e0]
    unfold rCreate
    rw [if_neg (fun q => hn (bad_v.1 q))]
    rfl
  have hr := rel_create h0 vN n r
  have hg : GOk ⟨m.toNat, []⟩ := by have := h0.ok; rwa [e0] at this
  rw [e] at hr ⊢
  refine ⟨hr.1, hr.2 rfl, ?_, ?_, ?_⟩
  · show (rWith _ _).vs.length = _
    rw [with_len hg rfl]
    rfl
  · show gl vN (rWithL [] _) = _
    have := gl_with hg ⟨vN, n, r, []⟩ vN
    rw [if_pos rfl] at this
    exact this
  · intro v hv
    rcases List.mem_cons.1 ((with_perm hg.srt _).subset hv) with rfl | hv
    · exact .inl rfl
    · exact absurd (oth_mem.1 hv).1 List.not_mem_nil
theorem li_bad {m n r : Int} (hn : n < 1 ∨ 65536 < n ∨ r < 0 ∨ n < r) : (fCreate (fNew m).1 vN n r).2 = 1 := by
  unfold fCreate
  rw [if_pos (bad_v.2 hn)]
theorem li_w {p : Fam × RF} {n r : Int} (h : LI p n r 31) : gl wN p.2.vs = none := gl_no fun v hv => by
  rcases h.nms v hv with e | ⟨i, h1, h2, e⟩
  · rw [e]; exact vw_ok.2.2
  · rw [e]; exact (cn_ok i (by omega)).2.1
theorem li_clone {p : Fam × RF} {n r : Int} (h : LI p n r 31) : (fClone p.1 vN wN).2 = 7 := by
  rw [(rel_clone h.rel vN wN).1]
  unfold rClone
  rw [h.at_]
  dsimp only
  rw [if_neg (by rw [vw_ok.2.1]; decide), li_w h]
  dsimp only
  rw [if_pos (by rw [h.len]; omega)]
theorem li_create {p : Fam × RF} {n r : Int} (h : LI p n r 31) : (fCreate p.1 wN 1 0).2 = 7 := by
  rw [(rel_create h.rel wN 1 0).1]
  unfold rCreate
  rw [if_neg bad_w, li_w h]
  dsimp only
  rw [if_pos (by rw [h.len]; omega)]
theorem li_info {p : Fam × RF} {n r : Int} {j : Nat} (h : LI p n r j) : tup [agg (FInf (rInfo p.2 vN).1), I (rInfo p.2 vN).2] = tup [agg [val (.string vN), I n, I r, I 0, I 0], I 0] := by
  have := info_tup h.rel.ok (gl_mem h.at_).1
  have e : exH (rCounts p.2) [] = 0 := exH_nil _
  rw [show exH (rCounts p.2) (⟨vN, n, r, []⟩ : RV).l = 0 from e] at this
  exact this
theorem nms_lt {g : RF} (h : GOk g) {i : Nat} (hi : i + 1 < (nms g).length) : key ((nms g).getD (i : Int).toNat default) < key ((nms g).getD ((i + 1 : Nat) : Int).toNat default) := by
  have hs : (nms g).Pairwise fun a b => key a < key b := List.pairwise_map.2 h.srt
  have := List.pairwise_iff_getElem.1 hs i (i + 1) (by omega) hi (by omega)
  rwa [Int.toNat_natCast, Int.toNat_natCast, List.getD_eq_getElem?_getD, List.getD_eq_getElem?_getD, List.getElem?_eq_getElem hi, List.getElem?_eq_getElem (by omega : i < (nms g).length)]
theorem nms_ge {g : RF} (h : GOk g) {i : Nat} (hi : i + 1 < (nms g).length) : (!decide (((nms g).getD (i : Int).toNat default).data.toList < ((nms g).getD ((i : Int) + 1).toNat default).data.toList)) = false := by
  have := nms_lt h hi
  rw [show (((i + 1 : Nat) : Int)) = (i : Int) + 1 from by omega] at this
  rw [decide_eq_true this]
  rfl
end Go.Proofs.YtjglgfnhgehpeaaGreat

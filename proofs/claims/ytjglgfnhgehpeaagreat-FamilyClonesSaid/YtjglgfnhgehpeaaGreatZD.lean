/- Parts: L36b, Fwe, RowZ, Lay11, Cor, Clo, L36g. -/
import Derived.Test.YtjglgfnhgehpeaaGreatZC
import Derived.Test.YtjglgfnhgehpeaaGreatZu
import Derived.Test.YtjglgfnhgehpeaaGreatZm
import Derived.Test.YtjglgfnhgehpeaaGreatZn
import Derived.Test.YtjglgfnhgehpeaaGreatZv
import Derived.Test.YtjglgfnhgehpeaaGreatZh
import Derived.Test.YtjglgfnhgehpeaaGreatZA
/- The law of families: building both. -/
set_option linter.unusedVariables false
set_option linter.unusedSimpArgs false
set_option maxRecDepth 4000
namespace Go.Proofs.YtjglgfnhgehpeaaGreat
open Go.RowKit Go.Fw Go.Xt
theorem freed_len {g q : RF} (h : GOk g) : (rFreed g q).length ≤ 65536 := by
  have h1 := mruns_len ((fz (rCounts g) (rCounts q)).map un)
  rw [List.length_map] at h1
  have h2 := asc_le (rCounts g).length fun s => decide (0 < (rCounts g).getD s 0) && decide ((rCounts q).getD s 0 = 0)
  have h3 := (counts_spec h).1
  have h4 := h.k
  unfold fz at h1
  unfold rFreed fz
  omega
theorem apply_len {g : RF} (h : GOk g) (t : St6) : (rApply g t).2.1.length ≤ 65536 := by
  have h0 : ([] : List X).length ≤ 65536 := Nat.zero_le _
  unfold rApply
  split
  · exact h0
  split
  · exact h0
  split
  · unfold rDelete; cases gl (nm t.v) g.vs with
    | none => exact h0
    | some v => exact freed_len h
  split
  · unfold rUnmap; cases gl (nm t.v) g.vs with
    | none => exact h0
    | some v => dsimp only; split; exact freed_len h; exact h0
  · unfold rAssign; cases gl (nm t.v) g.vs with
    | none => exact h0
    | some v => dsimp only; split; exact freed_len h; exact h0
theorem cr_apply {f : Fam} {g : RF} {t : St6} (h : Rel f g) (ht : t.U8) : PureC Tryz.prog 24 [eF f, agg (FS6 t)] (tup [eF (fApply f t).1, sl 3 FX (rApply g t).2.1, I (rApply g t).2.2]) := by
  have := c_w36_apply (f := f) h.fw ht
  rwa [(rel_apply h t).1, (rel_apply h t).2.1] at this
theorem eF_imp {f f' : Fam} (h : f = f') : ∀ v w M, (eF f).h v w M → (eF f').h v w M := fun v w M q => h ▸ q

theorem c_w36_build {m : Int} {sc : List St6} (hm : 0 ≤ m ∧ m ≤ 255) (hl : sc.length ≤ 100000) (ht : ∀ t ∈ sc, t.U8) : PureC Tryz.prog 23 [val (.int .u8 m), sl 6 FS6 sc] (tup [eF (runP (m % 50).toNat sc).1, eG (runP (m % 50).toNat sc).2, val (.bool true)]) := by
  refine PureC.of_wp Tryz.func23 (by kernel_rfl) rfl Tryz.ntmps23 (le_ rfl) (fun w0 M0 => ?_)
  refine WP.seq ?_
  refine WP.region ?_
  refine WL.alloc zr_family_Family rfl (by decide) fun b4 => ?_
  refine WL.alloc zr_ef36_Family rfl (by decide) fun b5 => ?_
  refine WL.op (asg (oc _)) (by decide) ?_
  refine WL.nl (.thn ?_)
  refine WP.seq ?_
  refine WP.region ?_
  refine WL.op (mv (ot rfl)) (by decide) ?_
  refine WL.op (rem_ (ot rfl) (oc _) (by omega) (by omega)) (by decide) ?_
  refine WL.op (OpG.weak (R' := I ((m % 50).toNat : Int)) (cv un_uint8 un_int (ot rfl) (IntWalk.i64_in _ (by omega))) (imp_eq (congrArg I (by omega)))) (by decide) ?_
  refine WL.op (call (c_family_New (k := (m % 50).toNat) (by omega)) (.c (ot rfl) .n)) (by decide) ?_
  refine WL.op (mv (ot rfl)) (by decide) ?_
  refine WL.op (ex (ot rfl) rfl) (by decide) ?_
  refine WL.op (ex (ot rfl) rfl) (by decide) ?_
  refine WL.alloc zr_family_Family rfl (by decide) fun b7 => ?_
  refine WL.store 0 rfl (ot rfl) (ot rfl) (.agg _) sz_family_Family rfl (le_ rfl) ?_
  refine WL.op (asg (ot rfl)) (by decide) ?_
  refine WL.nl (.thn ?_)
  refine WP.seq ?_
  refine WP.region ?_
  refine WL.op (mv (ot rfl)) (by decide) ?_
  refine WL.op (rem_ (ot rfl) (oc _) (by omega) (by omega)) (by decide) ?_
  refine WL.op (OpG.weak (R' := I ((m % 50).toNat : Int)) (cv un_uint8 un_int (ot rfl) (IntWalk.i64_in _ (by omega))) (imp_eq (congrArg I (by omega)))) (by decide) ?_
  refine WL.op (call (c_r36_New (k := (m % 50).toNat) (by omega)) (.c (ot rfl) .n)) (by decide) ?_
  refine WL.op (mv (ot rfl)) (by decide) ?_
  refine WL.op (ex (ot rfl) rfl) (by decide) ?_
  refine WL.op (ex (ot rfl) rfl) (by decide) ?_
  refine WL.alloc zr_ef36_Family rfl (by decide) fun b9 => ?_
  refine WL.store 0 rfl (ot rfl) (ot rfl) (.agg _) sz_ef36_Family rfl (le_ rfl) ?_
  refine WL.op (asg (ot rfl)) (by decide) ?_
  refine WL.nl (.thn ?_)
  refine WP.seq ?_
  refine WP.seq ?_
  refine WP.region ?_
  refine WL.op (asg (oc _)) (by decide) ?_
  refine WL.nl (.thn ?_)
  refine WP.block ?_
  refine WP.loop (fun y : Nat => [.b b9 45 [I ((runP (m % 50).toNat (sc.take y)).2.k : Int), sl 4 FRV (runP (m % 50).toNat (sc.take y)).2.vs], .b b7 28 [sl 1 FI (runP (m % 50).toNat (sc.take y)).1.cs, mp FV (runP (m % 50).toNat (sc.take y)).1.vs], .b b5 45 [I 0, val nilS], .b b4 28 [val nilS, val (.map none)]]) (fun y => [(11, I (y : Int)), (9, val (.pointer (some ⟨b9, 0, none⟩))), (8, I 0), (7, val (.pointer (some ⟨b7, 0, none⟩))), (5, val (.pointer (some ⟨b5, 0, none⟩))), (4, val (.pointer (some ⟨b4, 0, none⟩))), (1, sl 6 FS6 sc)]) (fun y => y ≤ sc.length) (fun y => sc.length - y) 0 (Nat.zero_le _) (Sub.ofD 0 rfl (Sub.cons rfl (imp_eq rfl) (Sub.cons rfl (imp  _) (Sub.cons rfl (imp  _) (Sub.cons rfl (imp  _) (Sub.cons rfl (imp  _) (Sub.cons rfl (imp  _) (Sub.cons rfl (imp  _) Sub.nil)))))))) (fun i hi => ?_)
  replace hi : i ≤ sc.length := hi
  show WP _ _ _ _ [.b b9 45 [I ((runP (m % 50).toNat (sc.take i)).2.k : Int), sl 4 FRV (runP (m % 50).toNat (sc.take i)).2.vs], .b b7 28 [sl 1 FI (runP (m % 50).toNat (sc.take i)).1.cs, mp FV (runP (m % 50).toNat (sc.take i)).1.vs], .b b5 45 [I 0, val nilS], .b b4 28 [val nilS, val (.map none)]] [(11, I (i : Int)), (9, val (.pointer (some ⟨b9, 0, none⟩))), (8, I 0), (7, val (.pointer (some ⟨b7, 0, none⟩))), (5, val (.pointer (some ⟨b5, 0, none⟩))), (4, val (.pointer (some ⟨b4, 0, none⟩))), (1, sl 6 FS6 sc)] _ _
  refine WP.seq ?_
  refine WP.seq ?_
  refine WP.region ?_
  refine WL.op (mv (ot rfl)) (by decide) ?_
  refine WL.op (mv (ot rfl)) (by decide) ?_
  refine WL.op (len_ us_s_tegularef36_Step (ot rfl)) (by decide) ?_
  refine WL.op (lss (ot rfl) (ot rfl)) (by decide) ?_
  refine WL.op (mv (ot rfl)) (by decide) ?_
  refine WL.gd rfl rfl (Tells.v _ _) (fun hg => mv (ot rfl)) (by decide) ?_
  refine WL.gd rfl rfl (Tells.v _ _) (fun hg => eql (og rfl hg) (oc _)) (by decide) ?_
  refine WL.op (and_ (ot rfl) (ot rfl)) (by decide) ?_
  refine WL.nl (.thn ?_)
  refine WP.cond rfl (fun hc => ?_) (fun hc => ?_)
  · skip
    have hc1 : i < sc.length := by simp only [Bool.and_eq_true, decide_eq_true_eq] at hc; omega
    have hrs := run_rs (k := (m % 50).toNat) (sc := sc.take i) (by omega) fun t h => ht t (List.mem_of_mem_take h)
    have hal := apply_len hrs.rel.ok (sc.getD (i : Int).toNat default)
    refine WP.sk (.thn ?_)
    refine WP.seq ?_
    refine WP.block ?_
    refine WP.seq ?_
    refine WP.draws ?_
    refine RG.op (lbs 1 rfl ag_family_Family (ot rfl) (le_ rfl)) ?_
    refine RG.op (mv (ot rfl)) ?_
    refine RG.op (mv (ot rfl)) ?_
    refine RG.op (ixd el_s_tegularef36_Step (ot rfl) (ot rfl) (by omega) (by omega)) ?_
    refine RG.op (ls ag_ef36_Step (ot rfl) (le_ rfl)) ?_
    refine RG.op (call (cr_apply hrs.rel (ht _ (getS_mem hc1))) (.c (ot rfl) (.c (ot rfl) .n))) ?_
    refine RG.op (mv (ot rfl)) ?_
    refine RG.op (ex (ot rfl) rfl) ?_
    refine RG.op (ex (ot rfl) rfl) ?_
    refine RG.op (ex (ot rfl) rfl) ?_
    refine RG.bx (.alloc zr_family_Family rfl) ?_
    refine RG.ox 10 rfl rfl (OpO.store (ot rfl) (.agg _) sz_family_Family rfl rfl) ?_
    refine RG.op (asg (ot rfl)) ?_
    refine RG.op (asg (ot rfl)) ?_
    refine RG.fin HM (by kernel_rfl) ?_
    intro b12
    show WL _ _ _ _ _ _ _ _ _
    refine WL.nl (.thn ?_)
    refine WP.seq ?_
    refine WP.draws ?_
    refine RG.op (lbs 1 rfl ag_ef36_Family (ot rfl) (le_ rfl)) ?_
    refine RG.op (mv (ot rfl)) ?_
    refine RG.op (mv (ot rfl)) ?_
    refine RG.op (ixd el_s_tegularef36_Step (ot rfl) (ot rfl) (by omega) (by omega)) ?_
    refine RG.op (ls ag_ef36_Step (ot rfl) (le_ rfl)) ?_
    refine RG.op (call (c_r36_Family_Apply hrs.rel.ok hrs.sm (ht _ (getS_mem hc1))) (.c (ot rfl) (.c (ot rfl) .n))) ?_
    refine RG.op (mv (ot rfl)) ?_
    refine RG.op (ex (ot rfl) rfl) ?_
    refine RG.op (ex (ot rfl) rfl) ?_
    refine RG.op (ex (ot rfl) rfl) ?_
    refine RG.bx (.alloc zr_ef36_Family rfl) ?_
    refine RG.ox 10 rfl rfl (OpO.store (ot rfl) (.agg _) sz_ef36_Family rfl rfl) ?_
    refine RG.op (asg (ot rfl)) ?_
    refine RG.op (asg (ot rfl)) ?_
    refine RG.fin HM (by kernel_rfl) ?_
    intro b15
    show WL _ _ _ _ _ _ _ _ _
    refine WL.nl (.thn ?_)
    refine WP.seq ?_
    refine WP.seq ?_
    refine WP.region ?_
    refine WL.op (mv (ot rfl)) (by decide) ?_
    refine WL.op (mv (ot rfl)) (by decide) ?_
    refine WL.op (OpG.weak (R' := val (.bool false)) (neq  (ot rfl) (ot rfl)) (imp_eq (congrArg (fun b => val (.bool b)) (by rw [decide_eq_true rfl]; rfl)))) (by decide) ?_
    refine WL.op (mv (ot rfl)) (by decide) ?_
    refine WL.gd rfl rfl (Tells.v _ _) (fun hg => mv (ot rfl)) (by decide) ?_
    refine WL.gd rfl rfl (Tells.v _ _) (fun hg => mv (ot rfl)) (by decide) ?_
    refine WL.gd rfl rfl (Tells.v _ _) (fun hg => call (c_r32_Same (rApply (runP (m % 50).toNat (sc.take i)).2 (sc.getD (i : Int).toNat default)).2.1 (rApply (runP (m % 50).toNat (sc.take i)).2 (sc.getD (i : Int).toNat default)).2.1 (by omega) (by omega)) (.c (og rfl hg) (.c (og rfl hg) .n))) (by decide) ?_
    refine WL.gd rfl rfl (Tells.v _ _) (fun hg => OpG.weak (R' := val (.bool false)) (not_  (og rfl hg)) (imp_eq (congrArg (fun b => val (.bool b)) (by rw [decide_eq_true rfl]; rfl)))) (by decide) ?_
    refine WL.op (or_ (ot rfl) (ot rfl)) (by decide) ?_
    refine WL.nl (.thn ?_)
    refine WP.condF rfl ?_
    refine WP.sk (.thn ?_)
    refine WP.seq ?_
    refine WP.region ?_
    refine WL.op (mv (ot rfl)) (by decide) ?_
    refine WL.op (eql (ot rfl) (oc _)) (by decide) ?_
    refine WL.nl (.thn ?_)
    refine WP.cond rfl (fun hc => ?_) (fun hc => ?_)
    · skip
      have hz : (rApply (runP (m % 50).toNat (sc.take i)).2 (sc.getD (i : Int).toNat default)).2.2 = 0 := by simpa using hc
      refine WP.drawsH [2, 3] ?_
      refine RG.opE (lbs 1 rfl ag_family_Family (ot rfl) (le_ rfl)) ?_
      refine RG.op (lbs 0 rfl ag_ef36_Family (ot rfl) (le_ rfl)) ?_
      refine RG.sx (OpE.store 3 rfl (ot rfl) (ot rfl) (.agg _) sz_family_Family rfl (le_ rfl)) rfl ?_
      refine RG.sx (OpE.store 2 rfl (ot rfl) (ot rfl) (.agg _) sz_ef36_Family rfl (le_ rfl)) rfl ?_
      refine RG.fin HM (by kernel_rfl) ?_
      show WL _ _ _ _ _ _ _ _ _
      refine WL.nl (.blk (.thn ?_))
      refine WP.region ?_
      refine WL.op (mv (ot rfl)) (by decide) ?_
      refine WL.op (add (ot rfl) (oc _) (by omega)) (by decide) ?_
      refine WL.op (asg (ot rfl)) (by decide) ?_
      exact WL.nl (.again (i + 1) hc1 (by omega) (Sub.ofD 2 (by rw [run_step hc1]; unfold ap; rw [if_pos hz]; rfl) (Sub.cons rfl (imp_eq (congrArg I (by omega))) (Sub.cons rfl (imp  _) (Sub.cons rfl (imp  _) (Sub.cons rfl (imp  _) (Sub.cons rfl (imp  _) (Sub.cons rfl (imp  _) (Sub.cons rfl (imp  _) Sub.nil)))))))))
    · skip
      have hz : ¬ (rApply (runP (m % 50).toNat (sc.take i)).2 (sc.getD (i : Int).toNat default)).2.2 = 0 := by simpa using hc
      refine WP.sk (.blk (.thn ?_))
      refine WP.region ?_
      refine WL.op (mv (ot rfl)) (by decide) ?_
      refine WL.op (add (ot rfl) (oc _) (by omega)) (by decide) ?_
      refine WL.op (asg (ot rfl)) (by decide) ?_
      exact WL.nl (.again (i + 1) hc1 (by omega) (Sub.ofD 2 (by rw [run_step hc1]; unfold ap; rw [if_neg hz]; rfl) (Sub.cons rfl (imp_eq (congrArg I (by omega))) (Sub.cons rfl (imp  _) (Sub.cons rfl (imp  _) (Sub.cons rfl (imp  _) (Sub.cons rfl (imp  _) (Sub.cons rfl (imp  _) (Sub.cons rfl (imp  _) Sub.nil)))))))))
  · skip
    have hc1 : ¬ i < sc.length := by simpa using hc
    have hrs := run_rs (k := (m % 50).toNat) (sc := sc.take i) (by omega) fun t h => ht t (List.mem_of_mem_take h)
    refine WP.xt (.xthn (.xthn (.xin (.thn ?_))))
    refine WP.seq ?_
    refine WP.drawsH [2, 3] ?_
    refine RG.opE (lbs 1 rfl ag_family_Family (ot rfl) (le_ rfl)) ?_
    refine RG.op (lbs 0 rfl ag_ef36_Family (ot rfl) (le_ rfl)) ?_
    refine RG.op (mv (ot rfl)) ?_
    refine RG.op (eql (ot rfl) (oc _)) ?_
    refine RG.op (mv (ot rfl)) ?_
    refine RG.gd rfl rfl (Tells.v _ _) (fun hg => lbs 1 rfl ag_family_Family (ot rfl) (le_ rfl)) ?_
    refine RG.gd rfl rfl (Tells.v _ _) (fun hg => lbs 0 rfl ag_ef36_Family (ot rfl) (le_ rfl)) ?_
    refine RG.gd rfl rfl (Tells.v _ _) (fun hg => call (c_w36_same (f := (runP (m % 50).toNat (sc.take i)).1) (g := (runP (m % 50).toNat (sc.take i)).2) hrs.rel) (.c (og rfl hg) (.c (og rfl hg) .n))) ?_
    refine RG.op (and_ (ot rfl) (ot rfl)) ?_
    refine RG.sx (OpE.store 3 rfl (ot rfl) (ot rfl) (.agg _) sz_family_Family rfl (le_ rfl)) rfl ?_
    refine RG.sx (OpE.store 2 rfl (ot rfl) (ot rfl) (.agg _) sz_ef36_Family rfl (le_ rfl)) rfl ?_
    refine RG.op (asg (ot rfl)) ?_
    refine RG.fin HM (by kernel_rfl) ?_
    show WL _ _ _ _ _ _ _ _ _
    refine WL.nl (.thn ?_)
    exact WP.rt (.rN rfl (.cons (.bx 3 rfl rfl ag_family_Family) (.cons (.bx 2 rfl rfl ag_ef36_Family) (.cons (.tm rfl) .nil))) (le_ rfl) (imp_eq (by rw [← run_all (k := (m % 50).toNat) (sc := sc) (i := i) (by omega)]; rfl)))
theorem c_w36_FamilyScript {m : Int} {sc : List St6} (hm : 0 ≤ m ∧ m ≤ 255) (ht : ∀ t ∈ sc, t.U8) : PureC Tryz.prog 4 [val (.int .u8 m), sl 6 FS6 sc] (val (.bool true)) := by
  refine PureC.of_wp Tryz.func4 (by kernel_rfl) rfl Tryz.ntmps4 (le_ rfl) (fun w0 M0 => ?_)
  refine WP.seq ?_
  refine WP.region ?_
  refine WL.op (asg (oc _)) (by decide) ?_
  refine WL.nl (.thn ?_)
  refine WP.seq ?_
  refine WP.seq ?_
  refine WP.region ?_
  refine WL.op (call c_w36_awake .n) (by decide) ?_
  refine WL.op (not_ (ot rfl)) (by decide) ?_
  refine WL.nl (.thn ?_)
  refine WP.condF rfl ?_
  refine WP.sk (.thn ?_)
  refine WP.seq ?_
  refine WP.seq ?_
  refine WP.region ?_
  refine WL.op (mv (ot rfl)) (by decide) ?_
  refine WL.op (len_ us_s_tegularef36_Step (ot rfl)) (by decide) ?_
  refine WL.op (gtr (ot rfl) (oc _)) (by decide) ?_
  refine WL.nl (.thn ?_)
  refine WP.cond rfl (fun hc => ?_) (fun hc => ?_)
  · skip
    refine WP.seq ?_
    refine WP.region ?_
    refine WL.op (asg (oc _)) (by decide) ?_
    refine WL.nl (.thn ?_)
    exact WP.rt (.rthn (.r1 rfl rfl (imp _)))
  · skip
    have hc2 : sc.length ≤ 25 := by have := of_decide_eq_false hc; omega
    refine WP.sk (.thn ?_)
    refine WP.seq ?_
    refine WP.region ?_
    refine WL.op (mv (ot rfl)) (by decide) ?_
    refine WL.op (mv (ot rfl)) (by decide) ?_
    refine WL.op (call (c_w36_build hm (by omega) ht) (.c (ot rfl) (.c (ot rfl) .n))) (by decide) ?_
    refine WL.op (mv (ot rfl)) (by decide) ?_
    refine WL.op (ex (ot rfl) rfl) (by decide) ?_
    refine WL.op (ex (ot rfl) rfl) (by decide) ?_
    refine WL.op (ex (ot rfl) rfl) (by decide) ?_
    refine WL.alloc zr_family_Family rfl (by decide) fun b5 => ?_
    refine WL.alloc zr_ef36_Family rfl (by decide) fun b6 => ?_
    refine WL.store 1 rfl (ot rfl) (ot rfl) (.agg _) sz_family_Family rfl (le_ rfl) ?_
    refine WL.store 0 rfl (ot rfl) (ot rfl) (.agg _) sz_ef36_Family rfl (le_ rfl) ?_
    refine WL.op (asg (ot rfl)) (by decide) ?_
    refine WL.nl (.thn ?_)
    refine WP.seq ?_
    refine WP.region ?_
    refine WL.op (mv (ot rfl)) (by decide) ?_
    refine WL.op (asg (ot rfl)) (by decide) ?_
    refine WL.nl (.thn ?_)
    exact WP.rt (.r1 rfl rfl (imp _))
end Go.Proofs.YtjglgfnhgehpeaaGreat

/- Arrays: a part of one's own; arguments. No program in sight. -/
namespace Go.Fw
open Go.RowKit Go.Proofs Go.ChangeShapes Go.WideShapes
set_option linter.unusedVariables false
set_option linter.unusedSimpArgs false
section
variable {P : Program} {bs : List Box} {lk : Nat → Option Rp} {ty T : TypeId} {x : Operand}
def arrOff (P : Program) (T : TypeId) (i : Nat) : Option Nat := match P.underlying T with
  | some (.array n e) => if i < n then (P.info? e).map (fun d => i * d.size) else none
  | _ => none
theorem ia {i : Nat} {off b o : Nat} {kd : IntKind} (ho : arrOff P T i = some off) (hx : OF lk x (val (.pointer (some ⟨b, o, none⟩)))) : OpG P bs lk (.indexAddr T x (.const (.int kd (i : Int)))) ty (val (.pointer (some ⟨b, o + off, none⟩))) := opr fun σ w M hf => by
  have h1 : ev σ x = _ := hx σ w M (hf x (by simp [Op.operands, Call.operands]))
  unfold arrOff at ho
  split at ho
  · rename_i n e hu
    split at ho
    · rename_i hlt
      cases hi : P.info? e with
      | none => rw [hi] at ho; cases ho
      | some d =>
        rw [hi] at ho
        simp only [Option.map_some, Option.some.injEq] at ho
        subst ho
        have hl : (i : Int) < n := by omega
        simp [execOp, h1, ev_const, Instr.indexAt, run_underlying hu, Instr.sureAddr, asIntOf, hl, sizeOf, typeInfo, hi, add_at]
        try (intro hq; omega)
    · cases ho
  · cases ho
/-! ### arguments -/
variable {H : Type} {enc : TypeId × Value → H} {W : World} {t e : TypeId} {v : Value} {d : DataW H} {p : List MemPlace} {base : Nat} {ks : List (Option IntKind)}
theorem agg_vals {w : World} {M : Mask} {cs : List Value} (h : cs.all (·.oneCell') = true) : (agg (cs.map val)).h (.agg cs.toArray) w M := ⟨cs, rfl, All2.vals h⟩
theorem open_stc (hk : skFields P t ks = true) (hv : Value.okWide P W .any base t v) (h : DataW.Trod enc P W 0 (fun _ => true) true t v d p) : ∃ cs : List Value, v = .agg cs.toArray ∧ SkAll ks cs := by
  obtain ⟨fs, hu⟩ : ∃ fs, P.underlying t = some (.struct fs) := by
    unfold skFields at hk
    split at hk
    · exact ⟨_, by assumption⟩
    · cases hk
  obtain ⟨cs, rfl, _⟩ := okWide_struct hu hv
  obtain ⟨fuel, hf⟩ := h
  exact ⟨cs.toList, by simp, sk_of_trod hk (by simpa [Value.cells] using hf)⟩
theorem okWide_arr {n : Nat} (ht : P.underlying t = some (.array n e)) (h : Value.okWide P W .any base t v) : ∃ cs, v = .agg cs ∧ cs.size = P.cellsOf t := by
  unfold Value.okWide at h
  rw [ht] at h
  obtain ⟨cs, h1, h2, _⟩ := h
  exact ⟨cs, h1, h2⟩
theorem open_ar2 {k : IntKind} (hu : P.underlying t = some (.array 2 e)) (hct : P.cellsOf t = 2) (hce : P.cellsOf e = 1) (he : P.underlying e = some (.int k)) (hv : Value.okWide P W .any base t v) (h : DataW.Trod enc P W 0 (fun _ => true) true t v d p) :
    ∃ a b : Int, v = .agg [.int k a, .int k b].toArray ∧ (Lit.int k a).wf = true ∧ (Lit.int k b).wf = true := by
  obtain ⟨cs, rfl, hsz⟩ := okWide_arr hu hv
  obtain ⟨fuel, hf⟩ := h
  obtain ⟨xs, m, _, _, hl, hx, hg⟩ := DataW.trod_array hu hf
  have hc : ∃ c0 c1, cs.toList = [c0, c1] := by
    have : cs.toList.length = 2 := by rw [Array.length_toList, hsz, hct]
    match hq : cs.toList, this with
    | [c0, c1], _ => exact ⟨c0, c1, rfl⟩
  obtain ⟨c0, c1, hc⟩ := hc
  have hcs : cs = [c0, c1].toArray := by rw [← hc]
  subst hcs
  have g0 := hg 0 (by omega)
  have g1 := hg 1 (by omega)
  rw [hce, List.getElem?_eq_getElem (by omega)] at g0 g1
  simp only [Value.cells, Nat.zero_mul, Nat.one_mul, List.drop_zero, List.take_succ_cons, List.take_zero, List.drop_succ_cons] at g0 g1
  obtain ⟨a, ha, _, wa⟩ := DataW.trod_int he g0
  obtain ⟨b, hb, _, wb⟩ := DataW.trod_int he g1
  cases ha; cases hb
  exact ⟨a, b, rfl, wa, wb⟩
theorem open_ar2s (hu : P.underlying t = some (.array 2 e)) (hct : P.cellsOf t = 2 * ks.length) (hce : P.cellsOf e = ks.length) (hk : skFields P e ks = true) (hv : Value.okWide P W .any base t v) (h : DataW.Trod enc P W 0 (fun _ => true) true t v d p) :
    ∃ a1 b1 : List Value, v = .agg (a1 ++ b1).toArray ∧ SkAll ks a1 ∧ SkAll ks b1 := by
  obtain ⟨cs, rfl, hsz⟩ := okWide_arr hu hv
  obtain ⟨fuel, hf⟩ := h
  obtain ⟨xs, m, _, _, hl, hx, hg⟩ := DataW.trod_array hu hf
  have g0 := hg 0 (by omega)
  have g1 := hg 1 (by omega)
  rw [hce, List.getElem?_eq_getElem (by omega)] at g0 g1
  simp only [Value.cells, Nat.zero_mul, Nat.one_mul, List.drop_zero] at g0 g1
  refine ⟨cs.toList.take ks.length, (cs.toList.drop ks.length).take ks.length, ?_, sk_of_trod hk g0, sk_of_trod hk g1⟩
  have : (cs.toList.drop ks.length).take ks.length = cs.toList.drop ks.length := List.take_of_length_le (by rw [List.length_drop, Array.length_toList, hsz, hct]; omega)
  rw [this, List.take_append_drop]
end
end Go.Fw

/- How the families' arguments lie in memory. -/
namespace Go.Proofs.YtjglgfnhgehpeaaGreat
open Go.ChangeShapes Go.WideShapes Go.ChangeAt Go.RowKit Go.Fw Go.Xt
def encT (t : St6) : List Value := [.int .u8 t.k, .int .u8 t.v, .int .u8 t.o, .int .u8 t.a, .int .u8 t.n, .int .u8 t.s]
abbrev ksT : List (Option IntKind) := [some .u8, some .u8, some .u8, some .u8, some .u8, some .u8]
theorem sk6 {k1 k2 k3 k4 k5 k6 : Option IntKind} : ∀ {cs : List Value}, SkAll [k1, k2, k3, k4, k5, k6] cs → ∃ c1 c2 c3 c4 c5 c6, cs = [c1, c2, c3, c4, c5, c6] ∧ skOk k1 c1 ∧ skOk k2 c2 ∧ skOk k3 c3 ∧ skOk k4 c4 ∧ skOk k5 c5 ∧ skOk k6 c6
  | [c1, c2, c3, c4, c5, c6], h => ⟨c1, c2, c3, c4, c5, c6, rfl, h.1, h.2.1, h.2.2.1, h.2.2.2.1, h.2.2.2.2.1, h.2.2.2.2.2.1⟩
theorem decT (cs : List Value) (h : SkAll ksT cs) : ∃ x : St6, x.U8 ∧ cs = encT x := by
  obtain ⟨c1, c2, c3, c4, c5, c6, e, ⟨n1, h1, w1⟩, ⟨n2, h2, w2⟩, ⟨n3, h3, w3⟩, ⟨n4, h4, w4⟩, ⟨n5, h5, w5⟩, ⟨n6, h6, w6⟩⟩ := sk6 h
  subst h1; subst h2; subst h3; subst h4; subst h5; subst h6
  exact ⟨⟨n1, n2, n3, n4, n5, n6⟩, ⟨u8_bounds w1, u8_bounds w2, u8_bounds w3, u8_bounds w4, u8_bounds w5, u8_bounds w6⟩, e⟩
theorem encT_one (t : St6) : (encT t).all (·.oneCell') = true := rfl
end Go.Proofs.YtjglgfnhgehpeaaGreat

/- Sizes and places of this program's types, each asked of the kernel. -/
namespace Go.Proofs.YtjglgfnhgehpeaaGreat
open Go.Fw
theorem fo_VolumeInfo_1 : fieldOff Tryz.prog 34 1 = some 1 := by kernel_rfl
theorem fo_VolumeInfo_2 : fieldOff Tryz.prog 34 2 = some 2 := by kernel_rfl
theorem fo_VolumeInfo_3 : fieldOff Tryz.prog 34 3 = some 3 := by kernel_rfl
end Go.Proofs.YtjglgfnhgehpeaaGreat

/- Families: what the laws say, plainly. -/
set_option linter.unusedVariables false
set_option linter.unusedSimpArgs false
namespace Go.Proofs.YtjglgfnhgehpeaaGreat
open Go.RowKit Go.Fw Go.Xt
/-! ### a change of one volume keeps the others -/
theorem mem_with {g : RF} (h : GOk g) {w v : RV} (hne : v.s ≠ w.s) (hv : v ∈ g.vs) : v ∈ (rWith g w).vs := (with_perm h.srt w).symm.subset (List.mem_cons_of_mem _ (oth_mem.2 ⟨hv, hne⟩))
theorem apply_keep {g : RF} (h : GOk g) {t : St6} (q : (rApply g t).2.2 = 0) {v : RV} (hv : v ∈ g.vs) (hne : v.s ≠ nm t.v ∨ t.k % 8 = 1) : v ∈ (rApply g t).1.vs := by
  unfold rApply at q ⊢
  split
  · rename_i k0
    rw [if_pos k0] at q
    unfold rCreate at q ⊢
    dsimp only at q ⊢
    split
    · rename_i q1; rw [if_pos q1] at q; cases q
    · rename_i q1
      rw [if_neg q1] at q
      cases hm : gl (nm t.v) g.vs with
      | some w => rw [hm] at q; cases q
      | none =>
        rw [hm] at q
        dsimp only at q ⊢
        split
        · rename_i q2; rw [if_pos q2] at q; cases q
        · exact mem_with h (hne.resolve_right (by omega)) hv
  rename_i k0
  rw [if_neg k0] at q
  split
  · rename_i k1
    rw [if_pos k1] at q
    unfold rClone at q ⊢
    dsimp only at q ⊢
    cases hm : gl (nm t.v) g.vs with
    | none => rw [hm] at q; cases q
    | some w =>
      rw [hm] at q
      dsimp only at q ⊢
      split
      · rename_i q1; rw [if_pos q1] at q; cases q
      · rename_i q1
        rw [if_neg q1] at q
        cases hm2 : gl (nm t.o) g.vs with
        | some w => rw [hm2] at q; cases q
        | none =>
          rw [hm2] at q
          dsimp only at q ⊢
          split
          · rename_i q2; rw [if_pos q2] at q; cases q
          · exact mem_with h ((at_none hm2).2 v hv) hv
  rename_i k1
  rw [if_neg k1] at q
  have hne := hne.resolve_right k1
  split
  · rename_i k2
    rw [if_pos k2] at q
    unfold rDelete at q ⊢
    cases hm : gl (nm t.v) g.vs with
    | none => rw [hm] at q; cases q
    | some w =>
      dsimp only
      obtain ⟨i, i1, i2, i3, i4⟩ := at_some hm
      unfold rDel
      rw [i2, Int.toNat_natCast, del_eq h.srt i2 i1]
      exact oth_mem.2 ⟨hv, hne⟩
  rename_i k2
  rw [if_neg k2] at q
  split
  · rename_i k3
    rw [if_pos k3] at q
    unfold rUnmap at q ⊢
    cases hm : gl (nm t.v) g.vs with
    | none => rw [hm] at q; cases q
    | some w =>
      rw [hm] at q
      dsimp only at q ⊢
      split
      · exact mem_with h (by rw [show (⟨w.s, w.n, w.r, (rCut w.l t.a t.n).1⟩ : RV).s = nm t.v from (gl_mem hm).2]; exact hne) hv
      · rename_i q1; rw [if_neg q1] at q; cases q
  · rename_i k3
    rw [if_neg k3] at q
    unfold rAssign at q ⊢
    cases hm : gl (nm t.v) g.vs with
    | none => rw [hm] at q; cases q
    | some w =>
      rw [hm] at q
      dsimp only at q ⊢
      split
      · exact mem_with h (by rw [show (⟨w.s, w.n, w.r, (rPut w.l t.x).1⟩ : RV).s = nm t.v from (gl_mem hm).2]; exact hne) hv
      · rename_i q1; rw [if_neg q1] at q; cases q
/-! ### sums over lists -/
def sL {α : Type} (h : α → Int) : List α → Int
  | [] => 0
  | x :: l => h x + sL h l
section
variable {α : Type} {h : α → Int}
theorem sL_app : ∀ (a b : List α), sL h (a ++ b) = sL h a + sL h b
  | [], b => by simp [sL]
  | x :: a, b => by simp only [List.cons_append, sL, sL_app a b]; omega
theorem sL_take [Inhabited α] {l : List α} {i : Nat} (hi : i < l.length) : sL h (l.take (i + 1)) = sL h (l.take i) + h (l.getD (i : Int).toNat default) := by
  rw [List.take_add_one, List.getElem?_eq_getElem hi, sL_app, show ((i : Nat) : Int).toNat = i from by omega, List.getD_eq_getElem?_getD, List.getElem?_eq_getElem hi]
  simp [sL]
theorem sL_nn : ∀ {l : List α}, (∀ x ∈ l, 0 ≤ h x) → 0 ≤ sL h l
  | [], _ => Int.le_refl _
  | x :: l, q => by
    have := q x List.mem_cons_self
    have := sL_nn (l := l) fun y hy => q y (List.mem_cons_of_mem _ hy)
    simp only [sL]; omega
theorem sL_pre {l : List α} (q : ∀ x ∈ l, 0 ≤ h x) (i : Nat) : 0 ≤ sL h (l.take i) ∧ sL h (l.take i) ≤ sL h l := by
  have h1 := sL_nn (l := l.take i) fun x hx => q x (List.mem_of_mem_take hx)
  have h2 := sL_nn (l := l.drop i) fun x hx => q x (List.mem_of_mem_drop hx)
  have h3 := sL_app (h := h) (l.take i) (l.drop i)
  rw [List.take_append_drop] at h3
  omega
end
theorem sumN_sL : ∀ (L : List X), sumN L = sL (·.n) L
  | [] => rfl
  | x :: L => by show x.n + sumN L = _; rw [sumN_sL L]; rfl
theorem rstep_nn {acc : List X} {u : Int} (h : ∀ x ∈ acc, 0 ≤ x.n) : ∀ x ∈ rstep acc (un u), 0 ≤ x.n := by
  intro x hx
  unfold rstep at hx
  split at hx
  · rename_i q
    rcases List.mem_or_eq_of_mem_set hx with hx | rfl
    · exact h x hx
    · have : 0 ≤ (lastX acc).n := by
        rcases List.eq_nil_or_concat acc with rfl | ⟨L, y, rfl⟩
        · simp at q
        · rw [List.concat_eq_append] at h ⊢
          rw [lastX_snoc]
          exact h y (by simp)
      exact Int.le_trans this (Int.le_max_left ..)
  · rcases List.mem_append.1 hx with hx | hx
    · exact h x hx
    · rw [List.mem_singleton] at hx
      subst hx
      show (0 : Int) ≤ 1
      omega
theorem sumN_take {L : List X} {i : Nat} (hi : i < L.length) : sumN (L.take (i + 1)) = sumN (L.take i) + (L.getD (i : Int).toNat default).n := by rw [sumN_sL, sumN_sL, sL_take hi]
theorem sumN_pre {L : List X} (q : ∀ x ∈ L, 0 ≤ x.n) (i : Nat) : 0 ≤ sumN (L.take i) ∧ sumN (L.take i) ≤ sumN L := by rw [sumN_sL, sumN_sL]; exact sL_pre q i
theorem info_tup {g : RF} (h : GOk g) {v : RV} (hv : v ∈ g.vs) : tup [agg (FInf (rInfo g v.s).1), I (rInfo g v.s).2] = tup [agg [val (.string v.s), I v.n, I v.r, I (sumN v.l), I (exH (rCounts g) v.l)], I 0] := by
  have := info_at h hv
  exact congrArg (fun p : Inf × Int => tup [agg (FInf p.1), I p.2]) this
/-! ### the accounts -/
def cN (cs : List Int) (i : Nat) : Int := sumR (fun s => cs.getD s 0) i
def oN (cs : List Int) (i : Nat) : Int := sumR (fun s => if cs.getD s 0 = 1 then 1 else 0) i
def zN (cs : List Int) (i : Nat) : Int := sumR (fun s => if cs.getD s 0 = 0 then 1 else 0) i
theorem oN_bd (cs : List Int) (i : Nat) : 0 ≤ oN cs i ∧ oN cs i ≤ i := ⟨sumR_nn fun _ _ => by split <;> omega, sumR_ub fun _ _ => by split <;> omega⟩
theorem zN_bd (cs : List Int) (i : Nat) : 0 ≤ zN cs i ∧ zN cs i ≤ i := ⟨sumR_nn fun _ _ => by split <;> omega, sumR_ub fun _ _ => by split <;> omega⟩
theorem cN_step (cs : List Int) (i : Nat) : cN cs (i + 1) = cN cs i + cs.getD i 0 := rfl
theorem oN_pos {cs : List Int} {i : Nat} (h : cs.getD i 0 = 1) : oN cs (i + 1) = oN cs i + 1 := by show oN cs i + (if cs.getD i 0 = 1 then 1 else 0) = _; rw [if_pos h]
theorem oN_neg {cs : List Int} {i : Nat} (h : ¬ cs.getD i 0 = 1) : oN cs (i + 1) = oN cs i := by show oN cs i + (if cs.getD i 0 = 1 then 1 else 0) = _; rw [if_neg h]; omega
theorem zN_pos {cs : List Int} {i : Nat} (h : cs.getD i 0 = 0) : zN cs (i + 1) = zN cs i + 1 := by show zN cs i + (if cs.getD i 0 = 0 then 1 else 0) = _; rw [if_pos h]
theorem zN_neg {cs : List Int} {i : Nat} (h : ¬ cs.getD i 0 = 0) : zN cs (i + 1) = zN cs i := by show zN cs i + (if cs.getD i 0 = 0 then 1 else 0) = _; rw [if_neg h]; omega
theorem cnt_k {g : RF} {s : Nat} (hs : s < g.k) : rCnt g (s : Int) = (rCounts g).getD s 0 := by
  unfold rCnt
  rw [if_neg (by omega), Int.toNat_natCast]
theorem cnt_bd {g : RF} (h : GOk g) (s : Nat) : 0 ≤ (rCounts g).getD s 0 ∧ (rCounts g).getD s 0 ≤ 3000000 := by
  rw [(counts_spec h).2 s]
  exact ⟨tot_nn _ _, tot_le h _⟩
theorem cN_bd {g : RF} (h : GOk g) : ∀ i : Nat, 0 ≤ cN (rCounts g) i ∧ cN (rCounts g) i ≤ 3000000 * i
  | 0 => ⟨Int.le_refl _, Int.le_refl _⟩
  | i + 1 => by
    have := cN_bd h i
    have := cnt_bd h i
    rw [cN_step]
    omega
theorem tot_sum {k : Nat} : ∀ {vs : List RV}, (∀ v ∈ vs, VOk k v) → sumR (fun s => tot vs s) k = sL (fun v => sumN v.l) vs
  | [], _ => sumR_zero fun _ _ => rfl
  | v :: vs, h => by
    rw [show (fun s : Nat => tot (v :: vs) (s : Int)) = fun s : Nat => hits v.l s + tot vs s from rfl, sumR_add, sumR_hits (h v List.mem_cons_self).slots, tot_sum fun w hw => h w (List.mem_cons_of_mem _ hw)]
    rfl
theorem acc_total {g : RF} (h : GOk g) : cN (rCounts g) g.k = sL (fun v => sumN v.l) g.vs := by
  rw [← tot_sum h.vol]
  exact sumR_congr fun i _ => (counts_spec h).2 i
theorem ex_sum {cs : List Int} : ∀ (vs : List RV), sumR (fun s => if cs.getD s 0 = 1 then tot vs s else 0) cs.length = sL (fun v => exH cs v.l) vs
  | [] => sumR_zero fun _ _ => by simp [tot]
  | v :: vs => by
    rw [sumR_congr (g := fun s => (if cs.getD s 0 = 1 then hits v.l s else 0) + (if cs.getD s 0 = 1 then tot vs s else 0)) fun i _ => by simp only [tot]; split <;> omega, sumR_add, ex_sum vs]
    rfl
theorem acc_single {g : RF} (h : GOk g) : oN (rCounts g) g.k = sL (fun v => exH (rCounts g) v.l) g.vs := by
  rw [← ex_sum, (counts_spec h).1]
  refine sumR_congr fun i _ => ?_
  split
  · rename_i q; rw [← (counts_spec h).2 i, q]
  · rfl
theorem acc_free {g : RF} (h : GOk g) : zN (rCounts g) g.k = sumN (rFree g) := by
  show _ = sumN (mruns ((za (rCounts g)).map un))
  have := runs_sum (U := za (rCounts g)) (asc_lt _ _)
  rw [this, za_len]
  unfold frN zN
  rw [(counts_spec h).1]
theorem free_nn (g : RF) : ∀ x ∈ rFree g, 0 ≤ x.n := by
  have : ∀ (U : List Int) (acc : List X), (∀ x ∈ acc, 0 ≤ x.n) → ∀ x ∈ (U.map un).foldl rstep acc, 0 ≤ x.n := by
    intro U
    induction U with
    | nil => intro acc h; exact h
    | cons u U ih => intro acc h; exact ih _ (rstep_nn h)
  exact this _ [] fun x hx => by cases hx
theorem sum_bd {g : RF} (h : GOk g) : ∀ v ∈ g.vs, 0 ≤ sumN v.l ∧ 0 ≤ exH (rCounts g) v.l := fun v hv => ⟨((h.vol v hv).ok.sum (Int.le_refl 0)).1 |> fun _ => by rw [← sumR_hits (h.vol v hv).slots]; exact sumR_nn fun _ _ => hits_nn _ _, exH_nn _ _⟩
end Go.Proofs.YtjglgfnhgehpeaaGreat

/- Families: few names; a clone and its end. -/
set_option linter.unusedVariables false
set_option linter.unusedSimpArgs false
namespace Go.Proofs.YtjglgfnhgehpeaaGreat
open Go.RowKit Go.Fw Go.Xt
theorem nodup_le {α : Type} [DecidableEq α] : ∀ {l m : List α}, l.Nodup → (∀ x ∈ l, x ∈ m) → l.length ≤ m.length
  | [], _, _, _ => Nat.zero_le _
  | x :: l, m, hn, hs => by
    obtain ⟨h1, h2⟩ := List.nodup_cons.1 hn
    have hx := hs x List.mem_cons_self
    have := nodup_le (l := l) (m := m.erase x) h2 fun y hy => (List.mem_erase_of_ne (by rintro rfl; exact h1 hy)).2 (hs y (List.mem_cons_of_mem _ hy))
    rw [List.length_erase_of_mem hx] at this
    have := List.length_pos_of_mem hx
    simp only [List.length_cons]
    omega
/-- all names are numbers' -/
def NmOk (g : RF) : Prop := ∀ v ∈ g.vs, ∃ n, v.s = nm n
theorem nm_default : NmOk default := fun v hv => by cases hv
theorem nm_with {g : RF} (h : GOk g) (hn : NmOk g) {w : RV} (hw : ∃ n, w.s = nm n) : NmOk (rWith g w) := fun v hv => by
  rcases List.mem_cons.1 ((with_perm h.srt w).subset hv) with rfl | hv
  · exact hw
  · exact hn v (oth_mem.1 hv).1
theorem nm_apply {g : RF} (h : GOk g) (hn : NmOk g) (t : St6) : NmOk (rApply g t).1 := by
  unfold rApply
  split
  · unfold rCreate
    split
    · exact nm_default
    · split
      · exact nm_default
      · split
        · exact nm_default
        · exact nm_with h hn ⟨_, rfl⟩
  split
  · unfold rClone
    split
    · exact nm_default
    · dsimp only
      split
      · exact nm_default
      · split
        · exact nm_default
        · split
          · exact nm_default
          · exact nm_with h hn ⟨_, rfl⟩
  split
  · unfold rDelete
    cases hl : gl (nm t.v) g.vs with
    | none => exact nm_default
    | some v =>
      dsimp only
      rw [(del_gok h hl).1]
      exact fun w hw => hn w (oth_mem.1 hw).1
  split
  · unfold rUnmap
    cases hl : gl (nm t.v) g.vs with
    | none => exact nm_default
    | some v =>
      dsimp only
      split
      · exact nm_with h hn ⟨_, (gl_mem hl).2⟩
      · exact nm_default
  · unfold rAssign
    cases hl : gl (nm t.v) g.vs with
    | none => exact nm_default
    | some v =>
      dsimp only
      split
      · exact nm_with h hn ⟨_, (gl_mem hl).2⟩
      · exact nm_default
theorem nm_ap {p : Fam × RF} (h : Rel p.1 p.2) (hn : NmOk p.2) (t : St6) : NmOk (ap p t).2 := by
  unfold ap
  split
  · exact nm_apply h.ok hn t
  · exact hn
theorem nm_fold : ∀ {sc : List St6} {p : Fam × RF}, Rel p.1 p.2 → NmOk p.2 → NmOk (sc.foldl ap p).2
  | [], _, _, hn => hn
  | t :: sc, p, h, hn => nm_fold (sc := sc) (ap_rel h t) (nm_ap h hn t)
theorem nm_run {k : Nat} (hk : k ≤ 65536) (sc : List St6) : NmOk (runP k sc).2 := nm_fold (run0_rs hk).rel fun v hv => by cases hv
def L5 : List ByteArray := [nm 0, nm 1, nm 2, nm 3, nm 4]
theorem nm_five {n : Int} (h : nameE (nm n) = true) : nm n ∈ L5 := by
  have h5 : n % 6 ≠ 5 := fun q => by
    unfold nm at h
    rw [if_pos q] at h
    revert h
    decide +kernel
  have h0 : n % 6 = 0 ∨ n % 6 = 1 ∨ n % 6 = 2 ∨ n % 6 = 3 ∨ n % 6 = 4 := by omega
  have e : ∀ m : Int, n % 6 = m → m = m % 6 → nm n = nm m := fun m h1 h2 => by unfold nm; rw [h1, ← h2]
  unfold L5
  rcases h0 with q | q | q | q | q <;> rw [e _ q (by decide)] <;> simp
theorem nm_len {g : RF} (h : GOk g) (hn : NmOk g) : g.vs.length ≤ 5 := by
  have h1 : (g.vs.map (·.s)).Nodup := by
    rw [List.nodup_iff_pairwise_ne, List.pairwise_map]
    exact h.srt.imp fun {a b} q e => by rw [e] at q; exact List.lt_irrefl _ q
  have := nodup_le (m := L5) h1 fun x hx => by
    obtain ⟨v, hv, rfl⟩ := List.mem_map.1 hx
    obtain ⟨n, e⟩ := hn v hv
    have hnm := (h.vol v hv).nm
    rw [e] at hnm ⊢
    exact nm_five hnm
  rw [List.length_map] at this
  exact this
theorem nm_none {g : RF} (h : GOk g) (hn : NmOk g) {s : ByteArray} (hs : L5.all (fun x => decide (x ≠ s)) = true) : gl s g.vs = none := by
  cases hm : gl s g.vs with
  | none => rfl
  | some v =>
    exfalso
    obtain ⟨h1, h2⟩ := gl_mem hm
    obtain ⟨n, e⟩ := hn v h1
    have hnm := (h.vol v h1).nm
    rw [e] at hnm
    have := List.all_eq_true.1 hs _ (nm_five hnm)
    exact (of_decide_eq_true this) (e.symm.trans h2)
/-! ### a clone, and its end -/
def clN : ByteArray := ⟨#[99, 108, 111, 110, 101]⟩
theorem clN_nm : nameE clN = true := by decide +kernel
theorem clN_new : L5.all (fun x => decide (x ≠ clN)) = true := by decide +kernel
section
variable {g : RF} {s o : ByteArray} {v : RV}
abbrev cl1 (g : RF) (v : RV) : RF := rWith g ⟨clN, v.n, 0, v.l⟩
theorem cl_eq (hm : gl s g.vs = some v) (ho : gl clN g.vs = none) (hl : g.vs.length ≤ 31) : rClone g s clN = (cl1 g v, 0) := by
  unfold rClone
  rw [hm]
  dsimp only
  rw [if_neg (by rw [clN_nm]; decide), ho]
  dsimp only
  rw [if_neg (by omega)]
theorem cl_vok (h : GOk g) (hm : gl s g.vs = some v) : VOk g.k ⟨clN, v.n, 0, v.l⟩ := by
  have hv := h.vol v (gl_mem hm).1
  exact vok_name hv clN_nm ⟨Int.le_refl _, by have := hv.n; omega⟩
theorem cl_counts (h : GOk g) (hm : gl s g.vs = some v) (ho : gl clN g.vs = none) (hl : g.vs.length ≤ 31) : (rCounts (cl1 g v)).length = g.k ∧ ∀ t : Nat, (rCounts (cl1 g v)).getD t 0 = hits v.l t + (rCounts g).getD t 0 := by
  have := counts_with h (cl_vok h hm) (by rw [oth_none ho]; exact hl)
  refine ⟨this.1, fun t => ?_⟩
  rw [this.2 t, (counts_spec h).2 t, oth_none ho]
theorem cl_gok (h : GOk g) (hm : gl s g.vs = some v) (ho : gl clN g.vs = none) (hl : g.vs.length ≤ 31) : GOk (cl1 g v) := gok_with h (cl_vok h hm) (by rw [oth_none ho]; exact hl)
theorem cl_le (h : GOk g) (hm : gl s g.vs = some v) (t : Nat) : 0 ≤ hits v.l t ∧ hits v.l t ≤ (rCounts g).getD t 0 := by
  rw [(counts_spec h).2 t]
  exact ⟨hits_nn _ _, tot_mem (gl_mem hm).1 _⟩
theorem cl_ex (h : GOk g) (hm : gl s g.vs = some v) (ho : gl clN g.vs = none) (hl : g.vs.length ≤ 31) : exH (rCounts (cl1 g v)) v.l = 0 := sumR_zero fun i _ => by
  have h1 := (cl_counts h hm ho hl).2 i
  have h2 := cl_le h hm i
  split <;> omega
theorem cl_free (h : GOk g) (hm : gl s g.vs = some v) (ho : gl clN g.vs = none) (hl : g.vs.length ≤ 31) : rFree (cl1 g v) = rFree g := by
  have hc := cl_counts h hm ho hl
  have : za (rCounts (cl1 g v)) = za (rCounts g) := by
    unfold za
    rw [hc.1, (counts_spec h).1]
    refine congrArg _ (funext fun i => ?_)
    have h1 := hc.2 i
    have h2 := cl_le h hm i
    rw [decide_eq_decide]
    omega
  unfold rFree
  rw [this]
theorem cl_gl (h : GOk g) : gl clN (cl1 g v).vs = some ⟨clN, v.n, 0, v.l⟩ := by
  show gl clN (rWithL g.vs _) = _
  rw [gl_with h, if_pos rfl]
theorem cl_old (h : GOk g) (hm : gl s g.vs = some v) (ho : gl clN g.vs = none) : v ∈ (cl1 g v).vs := mem_with h (fun e => (at_none ho).2 v (gl_mem hm).1 e) (gl_mem hm).1
theorem asc_none {N : Nat} {p : Nat → Bool} (h : ∀ i, p i = false) : asc N p = [] := List.eq_nil_iff_forall_not_mem.2 fun u hu => by
  have := (asc_mem.1 hu).2.2
  rw [h] at this
  cases this
theorem cl_del (h : GOk g) (hm : gl s g.vs = some v) (ho : gl clN g.vs = none) (hl : g.vs.length ≤ 31) : rDelete (cl1 g v) clN = (g, [], 0) := by
  have hy := cl_gok h hm ho hl
  have e : rDel (cl1 g v) (rAt (cl1 g v).vs clN).toNat = g := by
    rw [(del_gok hy (cl_gl h)).1]
    show RF.mk g.k (oth clN (rWithL g.vs _)) = g
    have := oth_with h ⟨clN, v.n, 0, v.l⟩
    rw [this, oth_none ho]
  unfold rDelete
  rw [cl_gl h]
  dsimp only
  rw [e]
  have hf : rFreed (cl1 g v) g = [] := by
    unfold rFreed fz
    rw [asc_none fun i => by
      have h1 := (cl_counts h hm ho hl).2 i
      have h2 := cl_le h hm i
      rw [Bool.and_eq_false_iff, decide_eq_false_iff_not, decide_eq_false_iff_not]
      omega]
    rfl
  rw [hf]
theorem cl_i1 (h : GOk g) (hm : gl s g.vs = some v) (ho : gl clN g.vs = none) (hl : g.vs.length ≤ 31) : tup [agg (FInf (rInfo (cl1 g v) s).1), I (rInfo (cl1 g v) s).2] = tup [agg [val (.string s), I v.n, I v.r, I (sumN v.l), I 0], I 0] := by
  have := info_tup (cl_gok h hm ho hl) (cl_old h hm ho)
  rw [(gl_mem hm).2, cl_ex h hm ho hl] at this
  exact this
theorem cl_i2 (h : GOk g) (hm : gl s g.vs = some v) (ho : gl clN g.vs = none) (hl : g.vs.length ≤ 31) : tup [agg (FInf (rInfo (cl1 g v) clN).1), I (rInfo (cl1 g v) clN).2] = tup [agg [val (.string clN), I v.n, I 0, I (sumN v.l), I 0], I 0] := by
  have := info_tup (cl_gok h hm ho hl) (gl_mem (cl_gl h)).1
  have e := cl_ex h hm ho hl
  rw [show exH (rCounts (cl1 g v)) (⟨clN, v.n, 0, v.l⟩ : RV).l = 0 from e] at this
  exact this
theorem cl_i0 (h : GOk g) (hm : gl s g.vs = some v) : tup [agg (FInf (rInfo g s).1), I (rInfo g s).2] = tup [agg [val (.string s), I v.n, I v.r, I (sumN v.l), I (exH (rCounts g) v.l)], I 0] := by
  have := info_tup h (gl_mem hm).1
  rwa [(gl_mem hm).2] at this
theorem cl_fam {f : Fam} (hr : Rel f g) (hm : gl s g.vs = some v) (ho : gl clN g.vs = none) (hl : g.vs.length ≤ 31) : (fClone f s clN).2 = 0 ∧ Rel (fClone f s clN).1 (cl1 g v) := by
  have := rel_clone hr s clN
  rw [cl_eq hm ho hl] at this
  exact ⟨this.1, this.2 rfl⟩
theorem cl_back {f : Fam} (hr : GOk g) (hx : Rel f (cl1 g v)) (hm : gl s g.vs = some v) (ho : gl clN g.vs = none) (hl : g.vs.length ≤ 31) : tup [eF (fDelete f clN).1, sl 3 FX (fDelete f clN).2.1, I (fDelete f clN).2.2] = tup [eF (fDelete f clN).1, sl 3 FX [], I 0] ∧ Rel (fDelete f clN).1 g := by
  have := rel_delete hx clN
  rw [cl_del hr hm ho hl] at this
  refine ⟨?_, this.2.2 rfl⟩
  rw [this.1, this.2.1]
theorem at_no (h : rAt g.vs s < 0) : gl s g.vs = none := by
  cases hm : gl s g.vs with
  | none => rfl
  | some v => have := at_ge.2 ⟨v, hm⟩; omega
theorem at_yes (h : ¬ rAt g.vs s < 0) : ∃ v, gl s g.vs = some v := at_ge.1 (by omega)
theorem cl_none {f : Fam} (hr : Rel f g) (hm : gl s g.vs = none) : (fClone f s o).2 = 9 := by
  rw [(rel_clone hr s o).1]
  unfold rClone
  rw [hm]
end
end Go.Proofs.YtjglgfnhgehpeaaGreat

/- The law of families: a clone and its end. -/
set_option linter.unusedVariables false
set_option linter.unusedSimpArgs false
set_option maxRecDepth 4000
namespace Go.Proofs.YtjglgfnhgehpeaaGreat
open Go.RowKit Go.Fw Go.Xt
theorem c_w36_FamilyClones {m : Int} {sc : List St6} {w : Int} (hm : 0 ≤ m ∧ m ≤ 255) (ht : ∀ t ∈ sc, t.U8) (hw : 0 ≤ w ∧ w ≤ 255) : PureC Tryz.prog 7 [val (.int .u8 m), sl 6 FS6 sc, val (.int .u8 w)] (val (.bool true)) := by
  obtain ⟨p, hp⟩ : ∃ p, runP (m % 50).toNat sc = p := ⟨_, rfl⟩
  have hrs : RS p := hp ▸ run_rs (by omega) ht
  have hb : sc.length ≤ 25 → PureC Tryz.prog 23 [val (.int .u8 m), sl 6 FS6 sc] (tup [eF p.1, eG p.2, val (.bool true)]) := fun h => hp ▸ c_w36_build hm (by omega) ht
  have hnm : NmOk p.2 := hp ▸ nm_run (by omega) sc
  obtain ⟨f, g⟩ := p
  have hr : Rel f g := hrs.rel
  have hsm : Sm g := hrs.sm
  have hgn := hr.ok.num
  have hgk := hr.ok.k
  refine PureC.of_wp Tryz.func7 (by kernel_rfl) rfl Tryz.ntmps7 (le_ rfl) (fun w0 M0 => ?_)
  refine WP.seq ?_
  refine WP.region ?_
  refine WL.op (asg (oc _)) (by decide) ?_
  refine WL.nl (.thn ?_)
  refine WP.seq ?_
  refine WP.seq ?_
  refine WP.region ?_
  refine WL.op (call c_w36_awake .n) (by decide) ?_
  refine WL.op (not_ (ot rfl)) (by decide) ?_
  refine WL.nl (.thn ?_)
  refine WP.condF rfl ?_
  refine WP.sk (.thn ?_)
  refine WP.seq ?_
  refine WP.seq ?_
  refine WP.region ?_
  refine WL.op (mv (ot rfl)) (by decide) ?_
  refine WL.op (len_ us_s_tegularef36_Step (ot rfl)) (by decide) ?_
  refine WL.op (gtr (ot rfl) (oc _)) (by decide) ?_
  refine WL.nl (.thn ?_)
  refine WP.cond rfl (fun hc => ?_) (fun hc => ?_)
  · skip
    refine WP.seq ?_
    refine WP.region ?_
    refine WL.op (asg (oc _)) (by decide) ?_
    refine WL.nl (.thn ?_)
    exact WP.rt (.rthn (.r1 rfl rfl (imp _)))
  · skip
    have hc2 : sc.length ≤ 20 := by have := of_decide_eq_false hc; omega
    refine WP.sk (.thn ?_)
    refine WP.seq ?_
    refine WP.region ?_
    refine WL.op (mv (ot rfl)) (by decide) ?_
    refine WL.op (mv (ot rfl)) (by decide) ?_
    refine WL.op (call (hb (by omega)) (.c (ot rfl) (.c (ot rfl) .n))) (by decide) ?_
    refine WL.op (mv (ot rfl)) (by decide) ?_
    refine WL.op (ex (ot rfl) rfl) (by decide) ?_
    refine WL.op (ex (ot rfl) rfl) (by decide) ?_
    refine WL.op (ex (ot rfl) rfl) (by decide) ?_
    refine WL.alloc zr_family_Family rfl (by decide) fun b7 => ?_
    refine WL.alloc zr_ef36_Family rfl (by decide) fun b8 => ?_
    refine WL.store 1 rfl (ot rfl) (ot rfl) (.agg _) sz_family_Family rfl (le_ rfl) ?_
    refine WL.store 0 rfl (ot rfl) (ot rfl) (.agg _) sz_ef36_Family rfl (le_ rfl) ?_
    refine WL.op (asg (ot rfl)) (by decide) ?_
    refine WL.nl (.thn ?_)
    refine WP.seq ?_
    refine WP.seq ?_
    refine WP.region ?_
    refine WL.op (mv (ot rfl)) (by decide) ?_
    refine WL.op (not_ (ot rfl)) (by decide) ?_
    refine WL.nl (.thn ?_)
    refine WP.condF rfl ?_
    refine WP.sk (.thn ?_)
    refine WP.seq ?_
    refine WP.region ?_
    refine WL.op (mv (ot rfl)) (by decide) ?_
    refine WL.op (call (c_r36_Names hw) (.c (ot rfl) .n)) (by decide) ?_
    refine WL.op (asg (ot rfl)) (by decide) ?_
    refine WL.nl (.thn ?_)
    refine WP.seq ?_
    refine WP.region ?_
    refine WL.op (lbs 1 rfl ag_family_Family (ot rfl) (le_ rfl)) (by decide) ?_
    refine WL.op (mv (ot rfl)) (by decide) ?_
    refine WL.op (call (c_family_Family_Clone (s := nm w) (o := clN) (by decide) hr.fw) (.c (ot rfl) (.c (ot rfl) (.c (oc _) .n)))) (by decide) ?_
    refine WL.op (mv (ot rfl)) (by decide) ?_
    refine WL.op (ex (ot rfl) rfl) (by decide) ?_
    refine WL.op (ex (ot rfl) rfl) (by decide) ?_
    refine WL.alloc zr_family_Family rfl (by decide) fun b11 => ?_
    refine WL.store 0 rfl (ot rfl) (ot rfl) (.agg _) sz_family_Family rfl (le_ rfl) ?_
    refine WL.op (asg (ot rfl)) (by decide) ?_
    refine WL.nl (.thn ?_)
    refine WP.seq ?_
    refine WP.seq ?_
    refine WP.region ?_
    refine WL.op (lbs 1 rfl ag_ef36_Family (ot rfl) (le_ rfl)) (by decide) ?_
    refine WL.op (mv (ot rfl)) (by decide) ?_
    refine WL.op (call (c_r36_Family_At (g := g) (by omega)) (.c (ot rfl) (.c (ot rfl) .n))) (by decide) ?_
    refine WL.op (lss (ot rfl) (oc _)) (by decide) ?_
    refine WL.nl (.thn ?_)
    refine WP.cond rfl (fun hc => ?_) (fun hc => ?_)
    · skip
      have hn : gl (nm w) g.vs = none := at_no (of_decide_eq_true hc)
      refine WP.seq ?_
      refine WP.region ?_
      refine WL.op (mv (ot rfl)) (by decide) ?_
      refine WL.op (OpG.weak (R' := val (.bool true)) (eql  (ot rfl) (oc _)) (imp_eq (congrArg (fun b => val (.bool b)) (decide_eq_true (cl_none hr hn))))) (by decide) ?_
      refine WL.op (asg (ot rfl)) (by decide) ?_
      refine WL.nl (.thn ?_)
      exact WP.rt (.rthn (.r1 rfl rfl (imp _)))
    · skip
      obtain ⟨v, hm⟩ := at_yes (of_decide_eq_false hc)
      have hl : g.vs.length ≤ 31 := by have := nm_len hr.ok hnm; omega
      have ho := nm_none hr.ok hnm clN_new
      have hx := cl_fam hr hm ho hl
      have hb := cl_back hr.ok hx.2 hm ho hl
      have hf1 := free_len hx.2.ok
      have hf2 := free_len hr.ok
      refine WP.sk (.thn ?_)
      refine WP.seq ?_
      refine WP.region ?_
      refine WL.op (lbs 0 rfl ag_family_Family (ot rfl) (le_ rfl)) (by decide) ?_
      refine WL.op (mv (ot rfl)) (by decide) ?_
      refine WL.op (OpG.weak (R' := tup [agg [val (.string (nm w)), I v.n, I v.r, I (sumN v.l), I 0], I 0]) (call (cr_Info hx.2)  (.c (ot rfl) (.c (ot rfl) .n))) (imp_eq (cl_i1 hr.ok hm ho hl))) (by decide) ?_
      refine WL.op (mv (ot rfl)) (by decide) ?_
      refine WL.op (ex (ot rfl) rfl) (by decide) ?_
      refine WL.op (ex (ot rfl) rfl) (by decide) ?_
      refine WL.alloc zr_VolumeInfo rfl (by decide) fun b13 => ?_
      refine WL.store 0 rfl (ot rfl) (ot rfl) (.agg _) sz_VolumeInfo rfl (le_ rfl) ?_
      refine WL.op (asg (ot rfl)) (by decide) ?_
      refine WL.nl (.thn ?_)
      refine WP.seq ?_
      refine WP.region ?_
      refine WL.op (lbs 1 rfl ag_family_Family (ot rfl) (le_ rfl)) (by decide) ?_
      refine WL.op (OpG.weak (R' := tup [agg [val (.string clN), I v.n, I 0, I (sumN v.l), I 0], I 0]) (call (cr_Info hx.2)  (.c (ot rfl) (.c (oc _) .n))) (imp_eq (cl_i2 hr.ok hm ho hl))) (by decide) ?_
      refine WL.op (mv (ot rfl)) (by decide) ?_
      refine WL.op (ex (ot rfl) rfl) (by decide) ?_
      refine WL.op (ex (ot rfl) rfl) (by decide) ?_
      refine WL.alloc zr_VolumeInfo rfl (by decide) fun b15 => ?_
      refine WL.store 0 rfl (ot rfl) (ot rfl) (.agg _) sz_VolumeInfo rfl (le_ rfl) ?_
      refine WL.op (asg (ot rfl)) (by decide) ?_
      refine WL.nl (.thn ?_)
      refine WP.seq ?_
      refine WP.region ?_
      refine WL.op (lbs 2 rfl ag_family_Family (ot rfl) (le_ rfl)) (by decide) ?_
      refine WL.op (OpG.weak (R' := tup [eF (fDelete (fClone f (nm w) clN).1 clN).1, sl 3 FX [], I 0]) (call (c_family_Family_Delete (s := clN) hx.2.fw) (.c (ot rfl) (.c (oc _) .n))) (imp_eq hb.1)) (by decide) ?_
      refine WL.op (mv (ot rfl)) (by decide) ?_
      refine WL.op (ex (ot rfl) rfl) (by decide) ?_
      refine WL.op (ex (ot rfl) rfl) (by decide) ?_
      refine WL.op (ex (ot rfl) rfl) (by decide) ?_
      refine WL.alloc zr_family_Family rfl (by decide) fun b17 => ?_
      refine WL.store 0 rfl (ot rfl) (ot rfl) (.agg _) sz_family_Family rfl (le_ rfl) ?_
      refine WL.op (asg (ot rfl)) (by decide) ?_
      refine WL.op (asg (ot rfl)) (by decide) ?_
      refine WL.nl (.thn ?_)
      refine WP.seq ?_
      refine WP.region ?_
      refine WL.op (lbs 4 rfl ag_ef36_Family (ot rfl) (le_ rfl)) (by decide) ?_
      refine WL.op (mv (ot rfl)) (by decide) ?_
      refine WL.op (OpG.weak (R' := tup [agg [val (.string (nm w)), I v.n, I v.r, I (sumN v.l), I (exH (rCounts g) v.l)], I 0]) (call (c_r36_Family_Info hr.ok)  (.c (ot rfl) (.c (ot rfl) .n))) (imp_eq (cl_i0 hr.ok hm))) (by decide) ?_
      refine WL.op (mv (ot rfl)) (by decide) ?_
      refine WL.op (ex (ot rfl) rfl) (by decide) ?_
      refine WL.op (ex (ot rfl) rfl) (by decide) ?_
      refine WL.alloc zr_VolumeInfo rfl (by decide) fun b20 => ?_
      refine WL.store 0 rfl (ot rfl) (ot rfl) (.agg _) sz_VolumeInfo rfl (le_ rfl) ?_
      refine WL.op (asg (ot rfl)) (by decide) ?_
      refine WL.nl (.thn ?_)
      refine WP.seq ?_
      refine WP.draws ?_
      refine RG.op (mv (ot rfl)) ?_
      refine RG.op (OpG.weak (R' := val (.bool true)) (eql  (ot rfl) (oc _)) (imp_eq (congrArg (fun b => val (.bool b)) (decide_eq_true hx.1)))) ?_
      refine RG.op (mv (ot rfl)) ?_
      refine RG.gd rfl rfl (Tells.v _ _) (fun hg => mv (ot rfl)) ?_
      refine RG.gd rfl rfl (Tells.v _ _) (fun hg => OpG.weak (R' := val (.bool true)) (eql  (og rfl hg) (oc _)) (imp_eq (congrArg (fun b => val (.bool b)) (decide_eq_true rfl)))) ?_
      refine RG.op (and_ (ot rfl) (ot rfl)) ?_
      refine RG.op (mv (ot rfl)) ?_
      refine RG.gd rfl rfl (Tells.v _ _) (fun hg => mv (ot rfl)) ?_
      refine RG.gd rfl rfl (Tells.v _ _) (fun hg => OpG.weak (R' := val (.bool true)) (eql  (og rfl hg) (oc _)) (imp_eq (congrArg (fun b => val (.bool b)) (decide_eq_true rfl)))) ?_
      refine RG.op (and_ (ot rfl) (ot rfl)) ?_
      refine RG.op (mv (ot rfl)) ?_
      refine RG.gd rfl rfl (Tells.v _ _) (fun hg => mv (ot rfl)) ?_
      refine RG.gd rfl rfl (Tells.v _ _) (fun hg => OpG.weak (R' := val (.bool true)) (eql  (og rfl hg) (oc _)) (imp_eq (congrArg (fun b => val (.bool b)) (decide_eq_true rfl)))) ?_
      refine RG.op (and_ (ot rfl) (ot rfl)) ?_
      refine RG.op (mv (ot rfl)) ?_
      refine RG.gd rfl rfl (Tells.v _ _) (fun hg => fv fo_VolumeInfo_4 (ot rfl)) ?_
      refine RG.gd rfl rfl (Tells.v _ _) (fun hg => lb 3 rfl sc_int (og rfl hg) rfl) ?_
      refine RG.gd rfl rfl (Tells.v _ _) (fun hg => OpG.weak (R' := val (.bool true)) (eql  (og rfl hg) (oc _)) (imp_eq (congrArg (fun b => val (.bool b)) (decide_eq_true rfl)))) ?_
      refine RG.op (and_ (ot rfl) (ot rfl)) ?_
      refine RG.op (mv (ot rfl)) ?_
      refine RG.gd rfl rfl (Tells.v _ _) (fun hg => lbs 2 rfl ag_VolumeInfo (ot rfl) (le_ rfl)) ?_
      refine RG.gd rfl rfl (Tells.v _ _) (fun hg => fv fo_VolumeInfo_1 (ot rfl)) ?_
      refine RG.gd rfl rfl (Tells.v _ _) (fun hg => lb 0 rfl sc_int (og rfl hg) rfl) ?_
      refine RG.gd rfl rfl (Tells.v _ _) (fun hg => fv fo_VolumeInfo_3 (ot rfl)) ?_
      refine RG.gd rfl rfl (Tells.v _ _) (fun hg => lb 0 rfl sc_int (og rfl hg) rfl) ?_
      refine RG.gd rfl rfl (Tells.v _ _) (fun hg => bld zr_VolumeInfo rfl ps_VolumeInfo (.c (oc _) (.leaf (.val rfl)) pl_VolumeInfo_0 rfl (le_ rfl) (.c (og rfl hg) (.leaf (.val rfl)) pl_VolumeInfo_1 rfl (le_ rfl) (.c (og rfl hg) (.leaf (.val rfl)) pl_VolumeInfo_3 rfl (le_ rfl) .n)))) ?_
      refine RG.gd rfl rfl (Tells.v _ _) (fun hg => OpG.weak (R' := val (.bool true)) (eqp (us := [.s clN, .i v.n, .i 0, .i (sumN v.l), .i 0]) (cs := [.s clN, .i v.n, .i 0, .i (sumN v.l), .i 0]) pF_VolumeInfo rfl rfl  (og rfl hg) (og rfl hg)) (imp_eq (congrArg (fun b => val (.bool b)) (decide_eq_true rfl)))) ?_
      refine RG.op (and_ (ot rfl) (ot rfl)) ?_
      refine RG.op (mv (ot rfl)) ?_
      refine RG.gd rfl rfl (Tells.v _ _) (fun hg => fv fo_VolumeInfo_3 (ot rfl)) ?_
      refine RG.gd rfl rfl (Tells.v _ _) (fun hg => lb 3 rfl sc_int (og rfl hg) rfl) ?_
      refine RG.gd rfl rfl (Tells.v _ _) (fun hg => fv fo_VolumeInfo_3 (ot rfl)) ?_
      refine RG.gd rfl rfl (Tells.v _ _) (fun hg => lb 0 rfl sc_int (og rfl hg) rfl) ?_
      refine RG.gd rfl rfl (Tells.v _ _) (fun hg => OpG.weak (R' := val (.bool true)) (eql  (og rfl hg) (og rfl hg)) (imp_eq (congrArg (fun b => val (.bool b)) (decide_eq_true rfl)))) ?_
      refine RG.op (and_ (ot rfl) (ot rfl)) ?_
      refine RG.op (mv (ot rfl)) ?_
      refine RG.gd rfl rfl (Tells.v _ _) (fun hg => lbs 4 rfl ag_family_Family (ot rfl) (le_ rfl)) ?_
      refine RG.gd rfl rfl (Tells.v _ _) (fun hg => call (cr_Free hx.2) (.c (og rfl hg) .n)) ?_
      refine RG.gd rfl rfl (Tells.v _ _) (fun hg => lbs 6 rfl ag_family_Family (ot rfl) (le_ rfl)) ?_
      refine RG.gd rfl rfl (Tells.v _ _) (fun hg => call (cr_Free hr) (.c (og rfl hg) .n)) ?_
      refine RG.gd rfl rfl (Tells.v _ _) (fun hg => OpG.weak (R' := val (.bool true)) (call (c_r32_Same (rFree (cl1 g v)) (rFree g) (by omega) (by omega)) (.c  (og rfl hg) (.c (og rfl hg) .n))) (imp_eq (congrArg (fun b => val (.bool b)) (decide_eq_true (cl_free hr.ok hm ho hl))))) ?_
      refine RG.op (and_ (ot rfl) (ot rfl)) ?_
      refine RG.op (mv (ot rfl)) ?_
      refine RG.gd rfl rfl (Tells.v _ _) (fun hg => mv (ot rfl)) ?_
      refine RG.gd rfl rfl (Tells.v _ _) (fun hg => len_ us_s_api_Extent (og rfl hg)) ?_
      refine RG.gd rfl rfl (Tells.v _ _) (fun hg => OpG.weak (R' := val (.bool true)) (eql  (og rfl hg) (oc _)) (imp_eq (congrArg (fun b => val (.bool b)) (decide_eq_true rfl)))) ?_
      refine RG.op (and_ (ot rfl) (ot rfl)) ?_
      refine RG.op (mv (ot rfl)) ?_
      refine RG.gd rfl rfl (Tells.v _ _) (fun hg => lbs 1 rfl ag_family_Family (ot rfl) (le_ rfl)) ?_
      refine RG.gd rfl rfl (Tells.v _ _) (fun hg => lbs 5 rfl ag_ef36_Family (ot rfl) (le_ rfl)) ?_
      refine RG.gd rfl rfl (Tells.v _ _) (fun hg => call (c_w36_same hb.2) (.c (og rfl hg) (.c (og rfl hg) .n))) ?_
      refine RG.op (and_ (ot rfl) (ot rfl)) ?_
      refine RG.op (asg (ot rfl)) ?_
      refine RG.fin HM (by kernel_rfl) ?_
      show WL _ _ _ _ _ _ _ _ _
      refine WL.nl (.thn ?_)
      exact WP.rt (.r1 rfl rfl (imp _))
end Go.Proofs.YtjglgfnhgehpeaaGreat

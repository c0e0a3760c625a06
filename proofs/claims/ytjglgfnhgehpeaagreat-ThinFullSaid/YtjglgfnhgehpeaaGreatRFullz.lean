/- ThinFull: the row. -/
import Derived.Test.YtjglgfnhgehpeaaGreatRows
import Derived.Test.YtjglgfnhgehpeaaGreatYl
import Derived.Test.YtjglgfnhgehpeaaGreatYy
import Derived.Test.YtjglgfnhgehpeaaGreatYC
namespace Go.Proofs.YtjglgfnhgehpeaaGreat.thinFull
open Go.ChangeShapes Go.WideShapes Go.ChangeAt Go.RowKit Go.Fw
set_option linter.unusedVariables false
theorem own : ownKnob Tryz.prog.godebug = none := by kernel_rfl
theorem laid : laidOutB Tryz.prog = true := by kernel_rfl
theorem undB : Tryz.prog.underlying 4 = some .bool := by kernel_rfl
theorem und_u8 : Tryz.prog.underlying 5 = some (.int .u8) := by kernel_rfl
theorem sk1 : skFields Tryz.prog 50 ksT = true := by kernel_rfl
theorem und1 : Tryz.prog.underlying 42 = some (.slice 50) := by kernel_rfl
theorem par : Tryz.f16.params = #[5, 42, 5] := by kernel_rfl
theorem read : ∀ t ∈ [5, 42, 5], Tryz.prog.readableRec t = true ∧ t < Tryz.prog.types.size := by
  intro t ht
  rcases List.mem_cons.1 ht with rfl | ht
  · exact ⟨by kernel_rfl, of_decide_eq_true (by kernel_rfl)⟩
  rcases List.mem_cons.1 ht with rfl | ht
  · exact ⟨by kernel_rfl, of_decide_eq_true (by kernel_rfl)⟩
  rcases List.mem_cons.1 ht with rfl | ht
  · exact ⟨by kernel_rfl, of_decide_eq_true (by kernel_rfl)⟩
  cases ht
set_option maxRecDepth 100000 in
theorem lifted (os : Os) (started : os.Started) (H : Type) (enc : TypeId × Value → H) :
    ReturnsInHanded {} Tryz.checked os 16 .any (Rows.thinFullSpec.pre6 enc Tryz.prog Tryz.f16 Rows.thinFullRow.domain false) (Rows.thinFullSpec.post enc Tryz.prog Tryz.f16 false true false false) := by
  refine returnsInHanded_of_change (C := Tryz.checked) own started (by kernel_rfl) Tryz.func16
    (ChangeSpec.witness6 (enc := enc) (C := Tryz.checked) false ⟨#[], #[.int .u8 0, .slice none 0 0, .int .u8 0], []⟩ 8 (by kernel_rfl) (by kernel_rfl) (by kernel_rfl) (by kernel_rfl)) ?_
  intro W base args ds gs before hval0 hW hcnd _
  have hval : ∀ (j : Nat) t v, Tryz.f16.params[j]? = some t → args[j]? = some v → Value.okWide Tryz.prog W .any base t v := hval0
  have hW' := hW
  obtain ⟨p, q, hA0, hV, rfl, hfz, hnd⟩ := hW
  have hA : DataW.TrodAll enc Tryz.prog W 0 (fun _ => true) true Tryz.f16.params.toList args.toList ds p := hA0
  rw [par] at hA hval
  obtain ⟨rfl, rfl⟩ := trodVars_none hV
  have hA1 := hA
  obtain ⟨v0, vs0, d0, ds0, p0, q0, hargs, rfl, rfl, h0, r0⟩ := trodAll_cons hA
  obtain ⟨v1, vs1, d1, ds1, p1, q1, rfl, rfl, rfl, h1, r1⟩ := trodAll_cons r0
  obtain ⟨v2, vs2, d2, ds2, p2, q2, rfl, rfl, rfl, h2, r2⟩ := trodAll_cons r1
  obtain ⟨rfl, rfl, rfl⟩ := trodAll_nil r2
  obtain rfl : args = #[v0, v1, v2] := by cases args; simp_all
  obtain ⟨x0, rfl, rfl, rfl, w0⟩ := open_int und_u8 (hval 0 _ v0 rfl rfl) h0
  obtain ⟨a1, len1, cap1, rfl⟩ := okWide_slice und1 (hval 1 _ v1 rfl rfl)
  obtain ⟨xs1, hU1, hl1, hs1⟩ := open_sl encT St6.U8 decT und1 sk1 (by decide) h1
  obtain ⟨x2, rfl, rfl, rfl, w2⟩ := open_int und_u8 (hval 2 _ v2 rfl rfl) h2
  have hlt : ∀ x ∈ (([] : List MemPlace) ++ (p1 ++ (([] : List MemPlace) ++ ([] : List MemPlace)))), x.block < W.heap.size := fun x hx => hW'.lt x (by rw [List.append_nil]; exact hx)
  refine ((c_w37_ThinFull (u8_bounds w0) hU1 (u8_bounds w2)).2 W (fun _ => False) [.int .u8 x0, .slice a1 len1 cap1, .int .u8 x2] (fun _ h => h.elim) ⟨rfl, hs1, rfl, trivial⟩).mono fun e W' ⟨v, he, hv, hb⟩ => ?_
  have hv : v = .bool true := hv
  subst hv
  subst he
  have hold : ∀ x ∈ (([] : List MemPlace) ++ (p1 ++ (([] : List MemPlace) ++ ([] : List MemPlace)))), (fun b => decide (b < W.heap.size)) x.block = true := fun x hx => decide_eq_true (hlt x hx)
  exact ⟨_, rfl, _, _, _, [], (([] : List MemPlace) ++ (p1 ++ (([] : List MemPlace) ++ ([] : List MemPlace)))), [], hW', trodAll_cons_mk (shut_bool undB _) trodAll_mk0,
    trodAll_stays laid read hA1 (fun x hx => hb.same (hlt x hx)) hold, rfl, hb.frame _, fun h => by cases h⟩
theorem over : Rows.thinFullRow.holds Tryz.pinned (OpenSpec.ofChange Rows.thinFullSpec) :=
  OpenClaim.holds_of_wide 16 Tryz.f16 rfl rfl rfl rfl rfl rfl rfl ⟨rfl, rfl, rfl, rfl, rfl⟩ rfl rfl rfl rfl rfl (by kernel_rfl) Tryz.func16 (by kernel_rfl)
    (of_decide_eq_true (by kernel_rfl)) (by unfold Func.isWrapper; first | (rw [if_pos (by decide +kernel)]; kernel_rfl) | (rw [if_neg (by decide +kernel)]; exact ⟨rfl, rfl⟩))
    (fun os started H enc _ => lifted os started H enc)
theorem proved : Rows.ThinFullSaid := over
end Go.Proofs.YtjglgfnhgehpeaaGreat.thinFull

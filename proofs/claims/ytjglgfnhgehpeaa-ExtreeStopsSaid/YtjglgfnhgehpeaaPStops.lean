/- ExtreeStops: the row. -/
import Derived.Test.YtjglgfnhgehpeaaRows
import Derived.Test.YtjglgfnhgehpeaaRowEnc
import Derived.Test.YtjglgfnhgehpeaaLawH
namespace Go.Proofs.Ytjglgfnhgehpeaa.extreeStops
open Go.ChangeShapes Go.WideShapes Go.ChangeAt Go.RowKit Go.Fw
set_option linter.unusedVariables false
theorem own : ownKnob Try.prog.godebug = none := by kernel_rfl
theorem laid : laidOutB Try.prog = true := by kernel_rfl
theorem undB : Try.prog.underlying 4 = some .bool := by kernel_rfl
theorem und_u8 : Try.prog.underlying 5 = some (.int .u8) := by kernel_rfl
theorem sk0 : skFields Try.prog 29 ksS = true := by kernel_rfl
theorem und0 : Try.prog.underlying 22 = some (.slice 29) := by kernel_rfl
theorem par : Try.f6.params = #[22, 5] := by kernel_rfl
theorem read : ∀ t ∈ [22, 5], Try.prog.readableRec t = true ∧ t < Try.prog.types.size := by
  intro t ht
  rcases List.mem_cons.1 ht with rfl | ht
  · exact ⟨by kernel_rfl, of_decide_eq_true (by kernel_rfl)⟩
  rcases List.mem_cons.1 ht with rfl | ht
  · exact ⟨by kernel_rfl, of_decide_eq_true (by kernel_rfl)⟩
  cases ht
set_option maxRecDepth 100000 in
theorem lifted (os : Os) (started : os.Started) (H : Type) (enc : TypeId × Value → H) :
    ReturnsInHanded {} Try.checked os 6 .any (Rows.extreeStopsSpec.pre6 enc Try.prog Try.f6 Rows.extreeStopsRow.domain false) (Rows.extreeStopsSpec.post enc Try.prog Try.f6 false true false false) := by
  refine returnsInHanded_of_change (C := Try.checked) own started (by kernel_rfl) Try.func6
    (ChangeSpec.witness6 (enc := enc) (C := Try.checked) false ⟨#[], #[.slice none 0 0, .int .u8 0], []⟩ 8 (by kernel_rfl) (by kernel_rfl) (by kernel_rfl) (by kernel_rfl)) ?_
  intro W base args ds gs before hval0 hW hcnd _
  have hval : ∀ (j : Nat) t v, Try.f6.params[j]? = some t → args[j]? = some v → Value.okWide Try.prog W .any base t v := hval0
  have hW' := hW
  obtain ⟨p, q, hA0, hV, rfl, hfz, hnd⟩ := hW
  have hA : DataW.TrodAll enc Try.prog W 0 (fun _ => true) true Try.f6.params.toList args.toList ds p := hA0
  rw [par] at hA hval
  obtain ⟨rfl, rfl⟩ := trodVars_none hV
  have hA1 := hA
  obtain ⟨v0, vs0, d0, ds0, p0, q0, hargs, rfl, rfl, h0, r0⟩ := trodAll_cons hA
  obtain ⟨v1, vs1, d1, ds1, p1, q1, rfl, rfl, rfl, h1, r1⟩ := trodAll_cons r0
  obtain ⟨rfl, rfl, rfl⟩ := trodAll_nil r1
  obtain rfl : args = #[v0, v1] := by cases args; simp_all
  obtain ⟨a0, len0, cap0, rfl⟩ := okWide_slice und0 (hval 0 _ v0 rfl rfl)
  obtain ⟨xs0, hU0, hl0, hs0⟩ := open_sl encS U8 decS und0 sk0 (by decide) h0
  obtain ⟨x1, rfl, rfl, rfl, w1⟩ := open_int und_u8 (hval 1 _ v1 rfl rfl) h1
  have hlt : ∀ x ∈ (p0 ++ (([] : List MemPlace) ++ ([] : List MemPlace))), x.block < W.heap.size := fun x hx => hW'.lt x (by rw [List.append_nil]; exact hx)
  refine ((c_w33_ExtreeStops hU0 (u8_bounds w1)).2 W (fun _ => False) [.slice a0 len0 cap0, .int .u8 x1] (fun _ h => h.elim) ⟨hs0, rfl, trivial⟩).mono fun e W' ⟨v, he, hv, hb⟩ => ?_
  have hv : v = .bool true := hv
  subst hv
  subst he
  have hold : ∀ x ∈ (p0 ++ (([] : List MemPlace) ++ ([] : List MemPlace))), (fun b => decide (b < W.heap.size)) x.block = true := fun x hx => decide_eq_true (hlt x hx)
  exact ⟨_, rfl, _, _, _, [], (p0 ++ (([] : List MemPlace) ++ ([] : List MemPlace))), [], hW', trodAll_cons_mk (shut_bool undB _) trodAll_mk0,
    trodAll_stays laid read hA1 (fun x hx => hb.same (hlt x hx)) hold, rfl, hb.frame _, fun h => by cases h⟩
theorem over : Rows.extreeStopsRow.holds Try.pinned (OpenSpec.ofChange Rows.extreeStopsSpec) :=
  OpenClaim.holds_of_wide 6 Try.f6 rfl rfl rfl rfl rfl rfl rfl ⟨rfl, rfl, rfl, rfl, rfl⟩ rfl rfl rfl rfl rfl (by kernel_rfl) Try.func6 (by kernel_rfl)
    (of_decide_eq_true (by kernel_rfl)) (by unfold Func.isWrapper; first | (rw [if_pos (by decide +kernel)]; kernel_rfl) | (rw [if_neg (by decide +kernel)]; exact ⟨rfl, rfl⟩))
    (fun os started H enc _ => lifted os started H enc)
theorem proved : Rows.ExtreeStopsSaid := over
end Go.Proofs.Ytjglgfnhgehpeaa.extreeStops

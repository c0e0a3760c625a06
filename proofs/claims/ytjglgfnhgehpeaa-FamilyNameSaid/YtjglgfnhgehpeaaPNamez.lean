/- FamilyName: the row. -/
import Derived.Test.YtjglgfnhgehpeaaRows
import Derived.Test.YtjglgfnhgehpeaaZn
import Derived.Test.YtjglgfnhgehpeaaZs
import Derived.ChangeMaps5
namespace Go.Proofs.Ytjglgfnhgehpeaa.familyName
open Go.ChangeShapes Go.WideShapes Go.ChangeAt Go.RowKit Go.Fw
set_option linter.unusedVariables false
open Go.ChangeMaps (open_string)
theorem undS : Try.prog.underlying 9 = some .string := by kernel_rfl
theorem own : ownKnob Try.prog.godebug = none := by kernel_rfl
theorem laid : laidOutB Try.prog = true := by kernel_rfl
theorem undB : Try.prog.underlying 4 = some .bool := by kernel_rfl
theorem par : Try.f11.params = #[9] := by kernel_rfl
theorem read : ∀ t ∈ [9], Try.prog.readableRec t = true ∧ t < Try.prog.types.size := by
  intro t ht
  rcases List.mem_cons.1 ht with rfl | ht
  · exact ⟨by kernel_rfl, of_decide_eq_true (by kernel_rfl)⟩
  cases ht
set_option maxRecDepth 100000 in
theorem lifted (os : Os) (started : os.Started) (H : Type) (enc : TypeId × Value → H) :
    ReturnsInHanded {} Try.checked os 11 .any (Rows.familyNameSpec.pre6 enc Try.prog Try.f11 Rows.familyNameRow.domain false) (Rows.familyNameSpec.post enc Try.prog Try.f11 false true false false) := by
  refine returnsInHanded_of_change (C := Try.checked) own started (by kernel_rfl) Try.func11
    (ChangeSpec.witness6 (enc := enc) (C := Try.checked) false ⟨#[], #[.string ⟨#[]⟩], []⟩ 8 (by kernel_rfl) (by kernel_rfl) (by kernel_rfl) (by kernel_rfl)) ?_
  intro W base args ds gs before hval0 hW hcnd _
  have hval : ∀ (j : Nat) t v, Try.f11.params[j]? = some t → args[j]? = some v → Value.okWide Try.prog W .any base t v := hval0
  have hW' := hW
  obtain ⟨p, q, hA0, hV, rfl, hfz, hnd⟩ := hW
  have hA : DataW.TrodAll enc Try.prog W 0 (fun _ => true) true Try.f11.params.toList args.toList ds p := hA0
  rw [par] at hA hval
  obtain ⟨rfl, rfl⟩ := trodVars_none hV
  have hA1 := hA
  obtain ⟨v0, vs0, d0, ds0, p0, q0, hargs, rfl, rfl, h0, r0⟩ := trodAll_cons hA
  obtain ⟨rfl, rfl, rfl⟩ := trodAll_nil r0
  obtain rfl : args = #[v0] := by cases args; simp_all
  obtain ⟨x0, rfl, rfl, rfl, w0⟩ := open_string undS (hval 0 _ v0 rfl rfl) h0
  have hlt : ∀ x ∈ (([] : List MemPlace) ++ ([] : List MemPlace)), x.block < W.heap.size := fun x hx => hW'.lt x (by rw [List.append_nil]; exact hx)
  refine ((c_w36_FamilyName (by have := w0; simp only [maxLen] at this; omega)).2 W (fun _ => False) [.string x0] (fun _ h => h.elim) ⟨rfl, trivial⟩).mono fun e W' ⟨v, he, hv, hb⟩ => ?_
  have hv : v = .bool true := hv
  subst hv
  subst he
  have hold : ∀ x ∈ (([] : List MemPlace) ++ ([] : List MemPlace)), (fun b => decide (b < W.heap.size)) x.block = true := fun x hx => decide_eq_true (hlt x hx)
  exact ⟨_, rfl, _, _, _, [], (([] : List MemPlace) ++ ([] : List MemPlace)), [], hW', trodAll_cons_mk (shut_bool undB _) trodAll_mk0,
    trodAll_stays laid read hA1 (fun x hx => hb.same (hlt x hx)) hold, rfl, hb.frame _, fun h => by cases h⟩
theorem over : Rows.familyNameRow.holds Try.pinned (OpenSpec.ofChange Rows.familyNameSpec) :=
  OpenClaim.holds_of_wide 11 Try.f11 rfl rfl rfl rfl rfl rfl rfl ⟨rfl, rfl, rfl, rfl, rfl⟩ rfl rfl rfl rfl rfl (by kernel_rfl) Try.func11 (by kernel_rfl)
    (of_decide_eq_true (by kernel_rfl)) (by unfold Func.isWrapper; first | (rw [if_pos (by decide +kernel)]; kernel_rfl) | (rw [if_neg (by decide +kernel)]; exact ⟨rfl, rfl⟩))
    (fun os started H enc _ => lifted os started H enc)
theorem proved : Rows.FamilyNameSaid := over
end Go.Proofs.Ytjglgfnhgehpeaa.familyName

/- ExtreeBalanced: the row. -/
import Derived.Test.YtjglgfnhgehpeaaRows
import Derived.Test.YtjglgfnhgehpeaaLawB
import Derived.Test.YtjglgfnhgehpeaaRow
namespace Go.Proofs.Ytjglgfnhgehpeaa.extreeBalanced
open Go.ChangeShapes Go.WideShapes Go.ChangeAt Go.RowKit Go.Fw
set_option linter.unusedVariables false
theorem own : ownKnob Try.prog.godebug = none := by kernel_rfl
def encS (x : Sp) : List Value := [.bool x.c, .int .u8 x.a, .int .u8 x.n, .int .u8 x.s]
abbrev ks : List (Option IntKind) := [none, some .u8, some .u8, some .u8]
theorem u8_bounds {n : Int} (h : (Lit.int .u8 n).wf = true) : 0 ≤ n ∧ n ≤ 255 := by
  have h := Bool.and_eq_true_iff.1 h
  exact ⟨of_decide_eq_true h.1, of_decide_eq_true h.2⟩
theorem dec (cs : List Value) (h : SkAll ks cs) : ∃ x, U8 x ∧ cs = encS x := by
  match cs, h with
  | [c0, c1, c2, c3], ⟨⟨b, h0⟩, ⟨n1, h1, w1⟩, ⟨n2, h2, w2⟩, ⟨n3, h3, w3⟩, _⟩ =>
    subst h0; subst h1; subst h2; subst h3
    exact ⟨⟨b, n1, n2, n3⟩, ⟨(u8_bounds w1).1, (u8_bounds w1).2, (u8_bounds w2).1, (u8_bounds w2).2, (u8_bounds w3).1, (u8_bounds w3).2⟩, rfl⟩
theorem sk : skFields Try.prog 29 ks = true := by kernel_rfl
theorem und : Try.prog.underlying 22 = some (.slice 29) := by kernel_rfl
theorem und8 : Try.prog.underlying 5 = some (.int .u8) := by kernel_rfl
theorem undB : Try.prog.underlying 4 = some .bool := by kernel_rfl
theorem laid : laidOutB Try.prog = true := by kernel_rfl
theorem par : Try.f3.params = #[22, 5] := by kernel_rfl
theorem read : ∀ t ∈ [22, 5], Try.prog.readableRec t = true ∧ t < Try.prog.types.size := by
  intro t ht
  rcases List.mem_cons.1 ht with rfl | ht
  · exact ⟨by kernel_rfl, of_decide_eq_true (by kernel_rfl)⟩
  · rcases List.mem_cons.1 ht with rfl | ht
    · exact ⟨by kernel_rfl, of_decide_eq_true (by kernel_rfl)⟩
    · cases ht
set_option maxRecDepth 100000 in
theorem lifted (os : Os) (started : os.Started) (H : Type) (enc : TypeId × Value → H) :
    ReturnsInHanded {} Try.checked os 3 .any (Rows.extreeBalancedSpec.pre6 enc Try.prog Try.f3 Rows.extreeBalancedRow.domain false) (Rows.extreeBalancedSpec.post enc Try.prog Try.f3 false true false false) := by
  refine returnsInHanded_of_change (C := Try.checked) own started (by kernel_rfl) Try.func3
    (ChangeSpec.witness6 (enc := enc) (C := Try.checked) false ⟨#[], #[.slice none 0 0, .int .u8 0], []⟩ 8 (by kernel_rfl) (by kernel_rfl) (by kernel_rfl) (by kernel_rfl)) ?_
  intro W base args ds gs before hval0 hW hcnd _
  have hval : ∀ (j : Nat) t v, Try.f3.params[j]? = some t → args[j]? = some v → Value.okWide Try.prog W .any base t v := hval0
  have hW' := hW
  obtain ⟨p, q, hA0, hV, rfl, hfz, hnd⟩ := hW
  have hA : DataW.TrodAll enc Try.prog W 0 (fun _ => true) true Try.f3.params.toList args.toList ds p := hA0
  rw [par] at hA hval
  obtain ⟨rfl, rfl⟩ := trodVars_none hV
  have hA1 := hA
  obtain ⟨v0, vs0, d0, ds0, p0, q0, hargs, rfl, rfl, h0, r0⟩ := trodAll_cons hA
  obtain ⟨v1, vs1, d1, ds1, p1, q1, rfl, rfl, rfl, h1, r1⟩ := trodAll_cons r0
  obtain ⟨rfl, rfl, rfl⟩ := trodAll_nil r1
  obtain rfl : args = #[v0, v1] := by cases args; simp_all
  obtain ⟨a0, len, cap, rfl⟩ := okWide_slice und (hval 0 _ v0 rfl rfl)
  obtain ⟨sp, rfl, rfl, rfl, w1⟩ := open_int und8 (hval 1 _ v1 rfl rfl) h1
  obtain ⟨xs, hU, _, hs⟩ := open_sl encS U8 dec und sk (by decide) h0
  have hlt : ∀ x ∈ (p0 ++ ([] ++ [])), x.block < W.heap.size := fun x hx => by simpa using hW'.lt x (by simpa using hx)
  refine ((c_w33_ExtreeBalanced hU (u8_bounds w1)).2 W (fun _ => False) [.slice a0 len cap, .int .u8 sp] (fun _ h => h.elim) ⟨hs, rfl, trivial⟩).mono fun e W' ⟨v, he, hv, hb⟩ => ?_
  have hv : v = .bool true := hv
  subst hv
  subst he
  have hold : ∀ x ∈ (p0 ++ ([] ++ [])), (fun b => decide (b < W.heap.size)) x.block = true := fun x hx => by simpa using hlt x hx
  exact ⟨_, rfl, _, _, _, [], p0 ++ ([] ++ []), [], hW', trodAll_cons_mk (shut_bool undB _) trodAll_mk0,
    trodAll_stays laid read hA1 (fun x hx => hb.same (hlt x hx)) hold, rfl, hb.frame _, fun h => by cases h⟩
theorem over : Rows.extreeBalancedRow.holds Try.pinned (OpenSpec.ofChange Rows.extreeBalancedSpec) :=
  OpenClaim.holds_of_wide 3 Try.f3 rfl rfl rfl rfl rfl rfl rfl ⟨rfl, rfl, rfl, rfl, rfl⟩ rfl rfl rfl rfl rfl (by kernel_rfl) Try.func3 (by kernel_rfl)
    (of_decide_eq_true (by kernel_rfl)) (by unfold Func.isWrapper; first | (rw [if_pos (by decide +kernel)]; kernel_rfl) | (rw [if_neg (by decide +kernel)]; exact ⟨rfl, rfl⟩))
    (fun os started H enc _ => lifted os started H enc)
theorem proved : Rows.ExtreeBalancedSaid := over
end Go.Proofs.Ytjglgfnhgehpeaa.extreeBalanced

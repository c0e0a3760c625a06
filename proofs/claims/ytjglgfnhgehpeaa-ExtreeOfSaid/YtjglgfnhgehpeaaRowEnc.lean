/- How this set's arguments lie in memory. -/
import Derived.Test.YtjglgfnhgehpeaaLawB
import Derived.Test.YtjglgfnhgehpeaaRow
namespace Go.Proofs.Ytjglgfnhgehpeaa
open Go.ChangeShapes Go.WideShapes Go.ChangeAt Go.RowKit Go.Fw Go.Xt
theorem u8_bounds {n : Int} (h : (Lit.int .u8 n).wf = true) : 0 ≤ n ∧ n ≤ 255 := by
  have h := Bool.and_eq_true_iff.1 h
  exact ⟨of_decide_eq_true h.1, of_decide_eq_true h.2⟩
theorem u16_bounds {n : Int} (h : (Lit.int .u16 n).wf = true) : 0 ≤ n ∧ n ≤ 65535 := by
  have h := Bool.and_eq_true_iff.1 h
  exact ⟨of_decide_eq_true h.1, of_decide_eq_true h.2⟩
theorem i64_bounds {n : Int} (h : (Lit.int .i64 n).wf = true) : -9223372036854775808 ≤ n ∧ n ≤ 9223372036854775807 := by
  have h := Bool.and_eq_true_iff.1 h
  exact ⟨of_decide_eq_true h.1, of_decide_eq_true h.2⟩
def encS (x : Sp) : List Value := [.bool x.c, .int .u8 x.a, .int .u8 x.n, .int .u8 x.s]
abbrev ksS : List (Option IntKind) := [none, some .u8, some .u8, some .u8]
theorem decS (cs : List Value) (h : SkAll ksS cs) : ∃ x, U8 x ∧ cs = encS x := by
  match cs, h with
  | [c0, c1, c2, c3], ⟨⟨b, h0⟩, ⟨n1, h1, w1⟩, ⟨n2, h2, w2⟩, ⟨n3, h3, w3⟩, _⟩ =>
    subst h0; subst h1; subst h2; subst h3
    exact ⟨⟨b, n1, n2, n3⟩, ⟨(u8_bounds w1).1, (u8_bounds w1).2, (u8_bounds w2).1, (u8_bounds w2).2, (u8_bounds w3).1, (u8_bounds w3).2⟩, rfl⟩
def encX (x : X) : List Value := [.int .i64 x.a, .int .i64 x.n, .int .i64 x.s]
def I6 (x : X) : Prop := (-9223372036854775808 ≤ x.a ∧ x.a ≤ 9223372036854775807) ∧ (-9223372036854775808 ≤ x.n ∧ x.n ≤ 9223372036854775807) ∧ (-9223372036854775808 ≤ x.s ∧ x.s ≤ 9223372036854775807)
abbrev ksX : List (Option IntKind) := [some .i64, some .i64, some .i64]
theorem sk3 {k1 k2 k3 : Option IntKind} : ∀ {cs : List Value}, SkAll [k1, k2, k3] cs → ∃ c1 c2 c3, cs = [c1, c2, c3] ∧ skOk k1 c1 ∧ skOk k2 c2 ∧ skOk k3 c3
  | [c1, c2, c3], h => ⟨c1, c2, c3, rfl, h.1, h.2.1, h.2.2.1⟩
theorem decX (cs : List Value) (h : SkAll ksX cs) : ∃ x, I6 x ∧ cs = encX x := by
  obtain ⟨c1, c2, c3, e, ⟨n1, h1, w1⟩, ⟨n2, h2, w2⟩, ⟨n3, h3, w3⟩⟩ := sk3 h
  subst h1; subst h2; subst h3
  exact ⟨⟨n1, n2, n3⟩, ⟨i64_bounds w1, i64_bounds w2, i64_bounds w3⟩, e⟩
end Go.Proofs.Ytjglgfnhgehpeaa

/- The bounds of balanced trees; the example of the document. No program in sight. -/
import Derived.Test.YtjglgfnhgehpeaaPut
namespace Go.Xt
open Tr
theorem count_nn (t : Tr) : 0 ≤ t.count := by have := count_eq t; omega
theorem mul_lem {A B m : Int} (hA : 1 ≤ A) (hB : 1 ≤ B) (h : (m ≤ A * A ∧ m + m ≤ B * B) ∨ (m + m ≤ A * A ∧ m ≤ B * B)) (hm : 0 ≤ m) : 4 * m ≤ (A + B) * (A + B) := by
  have e : (A + B) * (A + B) = A * A + A * B + (A * B + B * B) := by rw [Int.add_mul, Int.mul_add, Int.mul_add, Int.mul_comm B A]
  rw [e]
  rcases Int.le_total A B with h1 | h1
  · have h2 : A * A ≤ A * B := Int.mul_le_mul_of_nonneg_left h1 (by omega)
    omega
  · have h2 : B * B ≤ A * B := Int.mul_le_mul_of_nonneg_right h1 (by omega)
    omega
theorem avl : ∀ t : Tr, t.Bal → (2 : Int) ^ t.depth.toNat ≤ (t.count + 1) * (t.count + 1)
  | .nil, _ => by simp [depth, count]
  | .node l x r, ⟨hl, hr, h1, h2⟩ => by
    have il := avl l hl
    have ir := avl r hr
    have nl := count_nn l
    have nr := count_nn r
    have dl := depth_nn l
    have dr := depth_nn r
    have e : (Tr.node l x r).count + 1 = (l.count + 1) + (r.count + 1) := by simp only [count]; omega
    rw [e]
    have pos : ∀ n : Nat, (0 : Int) < 2 ^ n := fun n => Int.pow_pos (by omega)
    by_cases q : l.depth = r.depth
    · have ed : (Tr.node l x r).depth.toNat = l.depth.toNat + 1 := by simp only [depth]; omega
      rw [ed, Int.pow_succ]
      rw [← q] at ir
      have e2 : ∀ A B : Int, (A + B) * (A + B) = A * A + A * B + (A * B + B * B) := fun A B => by rw [Int.add_mul, Int.mul_add, Int.mul_add, Int.mul_comm B A]
      rw [e2]
      have := Int.mul_nonneg (show 0 ≤ l.count + 1 by omega) (show 0 ≤ r.count + 1 by omega)
      omega
    · by_cases q2 : l.depth = r.depth + 1
      · have ed : (Tr.node l x r).depth.toNat = r.depth.toNat + 2 := by simp only [depth]; omega
        have e3 : l.depth.toNat = r.depth.toNat + 1 := by omega
        rw [e3, Int.pow_succ] at il
        rw [ed, Int.pow_add]
        have := mul_lem (A := l.count + 1) (B := r.count + 1) (m := 2 ^ r.depth.toNat) (by omega) (by omega) (.inr ⟨by omega, ir⟩) (by have := pos r.depth.toNat; omega)
        omega
      · have ed : (Tr.node l x r).depth.toNat = l.depth.toNat + 2 := by simp only [depth]; omega
        have e3 : r.depth.toNat = l.depth.toNat + 1 := by omega
        rw [e3, Int.pow_succ] at ir
        rw [ed, Int.pow_add]
        have := mul_lem (A := l.count + 1) (B := r.count + 1) (m := 2 ^ l.depth.toNat) (by omega) (by omega) (.inl ⟨il, by omega⟩) (by have := pos l.depth.toNat; omega)
        omega
theorem depth_zero {t : Tr} : t.count = 0 ↔ t.depth = 0 := by
  cases t with
  | nil => simp [depth, count]
  | node l x r =>
    have := count_nn l; have := count_nn r; have := depth_nn l; have := depth_nn r
    simp only [depth, count]; omega
/-- what 'balanced' asks -/
theorem bal_facts {t : Tr} (h : Wt t) : 0 ≤ t.depth ∧ t.depth < 60 ∧ (t.count = 0 ↔ t.depth = 0) ∧ (2 : Int) ^ t.depth.toNat ≤ (t.count + 1) * (t.count + 1) ∧ 0 ≤ t.count ∧ t.count ≤ 70000 ∧ (t.count + 1) * (t.count + 1) ≤ 4900140001 ∧ 0 ≤ (t.count + 1) * (t.count + 1) ∧ (0 : Int) < 2 ^ t.depth.toNat := by
  have h1 := (h.2.1.bd (Int.le_refl 0)).tr
  have h2 := avl t h.1
  have h3 : (t.count + 1) * (t.count + 1) ≤ 70001 * 70001 := Int.mul_le_mul (by omega) (by omega) (by omega) (by omega)
  have h4 : 0 ≤ (t.count + 1) * (t.count + 1) := Int.mul_nonneg (by omega) (by omega)
  have h5 : (0 : Int) < 2 ^ t.depth.toNat := Int.pow_pos (by omega)
  refine ⟨h1.1, ?_, depth_zero, h2, h1.2.2.1, h1.2.2.2.1, by omega, h4, h5⟩
  apply Classical.byContradiction
  intro h6
  have h7 : (2 : Int) ^ 60 ≤ 2 ^ t.depth.toNat := by
    have e : t.depth.toNat = 60 + (t.depth.toNat - 60) := by omega
    rw [e, Int.pow_add]
    have : (0 : Int) < 2 ^ (t.depth.toNat - 60) := Int.pow_pos (by omega)
    rw [show (2 : Int) ^ 60 = 1152921504606846976 from by decide]; omega
  have : (2 : Int) ^ 60 = 1152921504606846976 := by decide
  omega
/-- the example -/
def ex1 : Tr := (put .nil ⟨0, 4, 10⟩).1
def ex2 : Tr := (put ex1 ⟨4, 2, 14⟩).1
def ex3 : Tr × Tr := cut ex2 2 2
theorem wt_nil : Wt .nil := ⟨trivial, trivial, trivial⟩
theorem ex1_wt : Wt ex1 := (put_spec wt_nil (x := ⟨0, 4, 10⟩) (by decide) (by unfold Vx; decide)).1
theorem ex2_wt : Wt ex2 := (put_spec ex1_wt (x := ⟨4, 2, 14⟩) (by decide) (by unfold Vx; decide)).1
theorem ex2_list : ex2.list = [⟨0, 6, 10⟩] := by
  refine nf_unique _ _ 0 0 ex2_wt.2.1 (by decide) ex2_wt.2.2 trivial fun b => ?_
  have h1 := (put_spec wt_nil (x := ⟨0, 4, 10⟩) (by decide) (by unfold Vx; decide)).2.2.1 b
  have h2 := (put_spec ex1_wt (x := ⟨4, 2, 14⟩) (by decide) (by unfold Vx; decide)).2.2.1 b
  show sem (put ex1 ⟨4, 2, 14⟩).1.list b = _
  rw [h2]
  show (if _ then _ else sem (put .nil ⟨0, 4, 10⟩).1.list b) = _
  rw [h1]
  simp only [sem, Tr.list]
  by_cases q : 4 ≤ b ∧ b < 4 + 2
  · rw [if_pos q, if_pos (by omega), Option.some.injEq]; omega
  · rw [if_neg q]
    by_cases q2 : 0 ≤ b ∧ b < 0 + 4
    · rw [if_pos q2, if_pos (by omega)]
    · rw [if_neg q2, if_neg (by omega)]
theorem ex3_wt : Wt ex3.1 := (cut_spec ex2_wt (a := 2) (n := 2) (by decide) (by decide)).1
theorem ex3_list : ex3.1.list = [⟨0, 2, 10⟩, ⟨4, 2, 14⟩] := by
  refine nf_unique _ _ 0 0 ex3_wt.2.1 (by decide) ex3_wt.2.2 ⟨by decide, trivial⟩ fun b => ?_
  have h1 := (cut_spec ex2_wt (a := 2) (n := 2) (by decide) (by decide)).2.2 b
  show sem (cut ex2 2 2).1.list b = _
  rw [h1, ex2_list]
  simp only [sem]
  by_cases q : 2 ≤ b ∧ b < 2 + 2
  · rw [if_pos q, if_neg (by omega), if_neg (by omega)]
  · rw [if_neg q]
    by_cases q2 : 0 ≤ b ∧ b < 2
    · rw [if_pos (by omega), if_pos (by omega)]
    · rw [if_neg (by omega : ¬ (0 ≤ b ∧ b < 0 + 2))]
      by_cases q3 : 4 ≤ b ∧ b < 6
      · rw [if_pos (by omega), if_pos (by omega), Option.some.injEq]; omega
      · rw [if_neg (by omega), if_neg (by omega)]
theorem ex3_mid : ex3.2.list = [⟨2, 2, 12⟩] := by
  have h := (cut_spec ex2_wt (a := 2) (n := 2) (by decide) (by decide)).2.1
  rw [ex2_list] at h
  exact h
theorem ex2_count : ex2.count = 1 := by rw [count_eq, ex2_list]; rfl
theorem ex2_depth : ex2.depth = 1 := by
  have h := ex2_count
  have h1 := depth_le ex2
  have h2 := depth_nn ex2
  have h3 := depth_zero (t := ex2)
  omega
theorem ex3_count : ex3.1.count = 2 := by rw [count_eq, ex3_list]; rfl
end Go.Xt

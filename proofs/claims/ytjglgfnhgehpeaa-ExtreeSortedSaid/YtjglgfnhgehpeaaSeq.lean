/- Single blocks with gaps. No program in sight. -/
import Derived.Test.YtjglgfnhgehpeaaBal
namespace Go.Xt
open Tr
def seqL : Nat → Nat → List X
  | _, 0 => []
  | s, m + 1 => ⟨2 * (s : Int), 1, 7⟩ :: seqL (s + 1) m
theorem seqL_mem : ∀ {m s : Nat} {z : X}, z ∈ seqL s m → ∃ j : Nat, s ≤ j ∧ j < s + m ∧ z = ⟨2 * (j : Int), 1, 7⟩
  | m + 1, s, z, h => by
    rcases List.mem_cons.1 h with rfl | h
    · exact ⟨s, Nat.le_refl _, by omega, rfl⟩
    · obtain ⟨j, h1, h2, h3⟩ := seqL_mem h
      exact ⟨j, by omega, by omega, h3⟩
theorem seqL_ok : ∀ {m s : Nat} {lo : Int}, lo ≤ 2 * (s : Int) → s + m ≤ 400 → Ok lo (seqL s m)
  | 0, _, _, _, _ => trivial
  | m + 1, s, lo, h1, h2 => ⟨h1, by simp only []; omega, by simp only []; omega, by simp only []; omega, by simp only []; omega, seqL_ok (by simp only []; omega) (by omega)⟩
theorem seqL_nf : ∀ {m s : Nat}, Nf (seqL s m)
  | 0, _ => trivial
  | 1, _ => trivial
  | m + 2, s => ⟨fun h => by unfold Fol at h; simp only [] at h; omega, seqL_nf (m := m + 1)⟩
theorem seqL_sem : ∀ {m s : Nat} (b : Int), sem (seqL s m) b = if 2 * (s : Int) ≤ b ∧ b < 2 * ((s : Int) + m) ∧ b % 2 = 0 then some 7 else none
  | 0, s, b => by simp only [seqL, sem]; rw [if_neg (by omega)]
  | m + 1, s, b => by
    simp only [seqL, sem]
    rw [seqL_sem]
    by_cases q : 2 * (s : Int) ≤ b ∧ b < 2 * (s : Int) + 1
    · rw [if_pos q, if_pos (by omega), Option.some.injEq]; omega
    · rw [if_neg q]
      by_cases q2 : 2 * ((s + 1 : Nat) : Int) ≤ b ∧ b < 2 * (((s + 1 : Nat) : Int) + m) ∧ b % 2 = 0
      · rw [if_pos q2, if_pos (by omega)]
      · rw [if_neg q2, if_neg (by omega)]
theorem seqL_len : ∀ {m s : Nat}, (seqL s m).length = m
  | 0, _ => rfl
  | m + 1, s => by simp [seqL, seqL_len]
theorem seqL_sum : ∀ {m s : Nat}, sumN (seqL s m) = m
  | 0, _ => rfl
  | m + 1, s => by simp only [seqL, sumN, seqL_sum]; omega
/-- one more ahead, one more behind -/
theorem seq_put {t : Tr} (h : Wt t) {s m c : Nat} (hl : t.list = seqL s m) (hs : s + m ≤ 300) (hc : c + 1 = s ∨ c = s + m) :
    Wt (put t ⟨2 * (c : Int), 1, 7⟩).1 ∧ (put t ⟨2 * (c : Int), 1, 7⟩).1.list = seqL (min c s) (m + 1) ∧ (put t ⟨2 * (c : Int), 1, 7⟩).2.list = [] := by
  obtain ⟨p1, p2, p3, _⟩ := put_spec h (x := ⟨2 * (c : Int), 1, 7⟩) (by simp only []; omega) (by unfold Vx; simp only []; omega)
  refine ⟨p1, ?_, ?_⟩
  · refine nf_unique _ _ 0 0 p1.2.1 (seqL_ok (by omega) (by omega)) p1.2.2 seqL_nf fun b => ?_
    rw [p3, hl, seqL_sem, seqL_sem]
    simp only []
    by_cases q : 2 * (c : Int) ≤ b ∧ b < 2 * (c : Int) + 1
    · rw [if_pos q, if_pos (by omega), Option.some.injEq]; omega
    · rw [if_neg q]
      by_cases q2 : 2 * (s : Int) ≤ b ∧ b < 2 * ((s : Int) + m) ∧ b % 2 = 0
      · rw [if_pos q2, if_pos (by omega)]
      · rw [if_neg q2, if_neg (by omega)]
  · rw [p2, hl]
    refine parts_nil fun z hz => ?_
    obtain ⟨j, h1, h2, rfl⟩ := seqL_mem hz
    simp only []
    omega
/-- the tree after so many of k -/
def SeqT (down : Bool) (k i : Nat) (t : Tr) : Prop := Wt t ∧ t.list = seqL (if down then k - i else 0) i
theorem SeqT.count {down : Bool} {k i : Nat} {t : Tr} (h : SeqT down k i t) : t.count = i ∧ t.blocks = i := by
  rw [count_eq, blocks_eq, h.2, seqL_len, seqL_sum]; exact ⟨rfl, rfl⟩
theorem SeqT.put {down : Bool} {k i : Nat} {t : Tr} (h : SeqT down k i t) (hi : i < k) (hk : k ≤ 300) {a : Int} (ha : a = if down then 2 * ((k : Int) - 1 - i) else 2 * (i : Int)) :
    SeqT down k (i + 1) (Xt.put t ⟨a, 1, 7⟩).1 ∧ (Xt.put t ⟨a, 1, 7⟩).2.list = [] := by
  subst ha
  cases down with
  | true =>
    have e : (if true = true then 2 * ((k : Int) - 1 - i) else 2 * (i : Int)) = 2 * ((k - 1 - i : Nat) : Int) := by rw [if_pos rfl]; omega
    rw [e]
    obtain ⟨h1, h2, h3⟩ := seq_put h.1 (s := k - i) (m := i) (c := k - 1 - i) h.2 (by omega) (by omega)
    exact ⟨⟨h1, by rw [h2, show min (k - 1 - i) (k - i) = k - (i + 1) from by omega]; rfl⟩, h3⟩
  | false =>
    have e : (if false = true then 2 * ((k : Int) - 1 - i) else 2 * (i : Int)) = 2 * (i : Int) := by rw [if_neg (by decide)]
    rw [e]
    obtain ⟨h1, h2, h3⟩ := seq_put h.1 (s := 0) (m := i) (c := i) h.2 (by omega) (by omega)
    exact ⟨⟨h1, by rw [h2, show min i 0 = 0 from by omega]; rfl⟩, h3⟩
end Go.Xt

/- The specification's Put and Cut, plainly, and the trees'. -/
import Derived.Test.YtjglgfnhgehpeaaJn
namespace Go.Xt
def rput (L : List X) (x : X) : List X := Jn (parts L 0 x.a ++ [x] ++ parts L (x.a + x.n) 65536)
def rcut (L : List X) (a n : Int) : List X := Jn (parts L 0 a ++ parts L (a + n) 65536)
theorem parts_le {f t : Int} {L : List X} : ∀ z ∈ parts L f t, z.a + z.n ≤ t := fun z hz => (parts_end z hz).1
theorem ok_rput {L : List X} {x : X} (h : Ok 0 L) (h0 : 0 ≤ x.a) (hx : Vx x) : Ok 0 (parts L 0 x.a ++ [x] ++ parts L (x.a + x.n) 65536) := by
  have h1 : Ok 0 (parts L 0 x.a ++ [x]) := ok_snoc hx (ok_parts h (by omega)) (fun z hz => parts_le z hz) h0
  refine ok_app (c := x.a + x.n) h1 (ok_parts h (by omega)) (fun z hz => ?_) (by have := hx.1; omega)
  rcases List.mem_append.1 hz with hz | hz
  · have := parts_le z hz; have := hx.1; omega
  · rw [List.mem_singleton.1 hz]; exact Int.le_refl _
theorem ok_rcut {L : List X} {a n : Int} (h : Ok 0 L) (h0 : 0 ≤ a) (hn : 0 ≤ n) : Ok 0 (parts L 0 a ++ parts L (a + n) 65536) :=
  ok_app (c := a) (ok_parts h (by omega)) (ok_parts h (by omega)) (fun z hz => parts_le z hz) h0
theorem put_ref {t : Tr} {x : X} (h : Wt t) (h0 : 0 ≤ x.a) (hx : Vx x) : (put t x).1.list = rput t.list x ∧ (put t x).2.list = Jn (parts t.list x.a (x.a + x.n)) := by
  have hx1 := hx.1
  obtain ⟨w, hm, hs, _⟩ := put_spec h h0 hx
  obtain ⟨j1, j2, j3⟩ := jn_spec (ok_rput h.2.1 h0 hx)
  refine ⟨nf_unique _ _ 0 0 w.2.1 j1 w.2.2 j2 fun b => ?_, ?_⟩
  · unfold rput
    rw [hs, j3, sem_append, sem_append, sem_parts, sem_parts]
    simp only [sem]
    by_cases q : x.a ≤ b ∧ b < x.a + x.n
    · rw [if_pos q, if_neg (by omega), if_pos q]; rfl
    · rw [if_neg q, if_neg q]
      by_cases q1 : 0 ≤ b ∧ b < x.a
      · rw [if_pos q1, if_neg (by omega)]; cases sem t.list b <;> rfl
      · rw [if_neg q1]
        by_cases q2 : x.a + x.n ≤ b ∧ b < 65536
        · rw [if_pos q2]; rfl
        · rw [if_neg q2]
          by_cases q3 : b < 0
          · rw [sem_lt h.2.1 q3]; rfl
          · rw [sem_ge h.2.1 (by omega)]; rfl
  · rw [hm, jn_nf (ok_parts h.2.1 (lo' := 0) (by omega)) (nf_parts h.2.1 h.2.2)]
theorem cut_ref {t : Tr} {a n : Int} (h : Wt t) (h0 : 0 ≤ a) (hn : 1 ≤ n) : (cut t a n).1.list = rcut t.list a n ∧ (cut t a n).2.list = Jn (parts t.list a (a + n)) := by
  obtain ⟨w, hm, hs⟩ := cut_spec h h0 hn
  obtain ⟨j1, j2, j3⟩ := jn_spec (ok_rcut h.2.1 h0 (by omega : 0 ≤ n))
  refine ⟨nf_unique _ _ 0 0 w.2.1 j1 w.2.2 j2 fun b => ?_, ?_⟩
  · unfold rcut
    rw [hs, j3, sem_append, sem_parts, sem_parts]
    by_cases q : a ≤ b ∧ b < a + n
    · rw [if_pos q, if_neg (by omega), if_neg (by omega)]; rfl
    · rw [if_neg q]
      by_cases q1 : 0 ≤ b ∧ b < a
      · rw [if_pos q1, if_neg (by omega)]; cases sem t.list b <;> rfl
      · rw [if_neg q1]
        by_cases q2 : a + n ≤ b ∧ b < 65536
        · rw [if_pos q2]; rfl
        · rw [if_neg q2]
          by_cases q3 : b < 0
          · rw [sem_lt h.2.1 q3]; rfl
          · rw [sem_ge h.2.1 (by omega)]; rfl
  · rw [hm, jn_nf (ok_parts h.2.1 (lo' := 0) (by omega)) (nf_parts h.2.1 h.2.2)]
end Go.Xt

/- The normal form, plainly. -/
import Derived.Test.YtjglgfnhgehpeaaPut
namespace Go.Xt
theorem push_snoc (A : List X) (y x : X) : push (A ++ [y]) x = if Fol y x then A ++ [⟨y.a, y.n + x.n, y.s⟩] else A ++ [y] ++ [x] := by
  unfold push
  rw [List.getLast?_append]
  simp only [List.getLast?_singleton, Option.some_or]
  rw [List.dropLast_concat]
theorem push_spec {L : List X} {x : X} {lo : Int} (ho : Ok lo L) (hn : Nf L) (he : ∀ z ∈ L, z.a + z.n ≤ x.a) (hx : Vx x) (hl : lo ≤ x.a) :
    Ok lo (push L x) ∧ Nf (push L x) ∧ (∀ b, sem (push L x) b = sem (L ++ [x]) b) ∧ (∀ z ∈ push L x, z.a + z.n ≤ x.a + x.n) := by
  rcases List.eq_nil_or_concat L with rfl | ⟨A, y, rfl⟩
  · exact ⟨⟨hl, hx.1, hx.2.1, hx.2.2.1, hx.2.2.2, trivial⟩, trivial, fun _ => rfl, fun z hz => by rw [List.mem_singleton.1 hz]; exact Int.le_refl _⟩
  · rw [List.concat_eq_append] at *
    rw [push_snoc]
    have hv := ho.starts y (by simp)
    have hs := ok_snoc hx ho he hl
    split
    · rename_i hf
      unfold Fol at hf
      unfold Vx at hx
      refine ⟨ok_glue (x := y) (y := ⟨y.a, y.n + x.n, y.s⟩) (B := []) rfl ⟨Int.le_refl _, by simp only []; omega, by simp only []; omega, by simp only []; omega, by simp only []; omega, trivial⟩ ho, nf_glue (x := y) (y := ⟨y.a, y.n + x.n, y.s⟩) (B := []) rfl rfl trivial hn, fun b => ?_, fun z hz => ?_⟩
      · rw [List.append_assoc, sem_append, sem_append]
        congr 1
        simp only [sem, List.cons_append, List.nil_append]
        by_cases q1 : y.a ≤ b ∧ b < y.a + y.n
        · rw [if_pos q1, if_pos (by omega)]
        · rw [if_neg q1]
          by_cases q2 : x.a ≤ b ∧ b < x.a + x.n
          · rw [if_pos q2, if_pos (by omega), Option.some.injEq]; omega
          · rw [if_neg q2, if_neg (by omega)]
      · rcases List.mem_append.1 hz with hz | hz
        · have := he z (List.mem_append_left _ hz); omega
        · rw [List.mem_singleton.1 hz]; simp only []; omega
    · rename_i hf
      refine ⟨hs, ?_, fun _ => rfl, fun z hz => ?_⟩
      · rw [List.append_assoc]
        exact nf_glue (x := y) (y := y) (B := [x]) rfl rfl ⟨hf, trivial⟩ hn
      · rcases List.mem_append.1 hz with hz | hz
        · have := he z hz; have := hx.1; omega
        · rw [List.mem_singleton.1 hz]; exact Int.le_refl _
theorem fold_spec : ∀ {L acc : List X} {lo c : Int}, Ok c L → Ok lo acc → Nf acc → (∀ z ∈ acc, z.a + z.n ≤ c) → lo ≤ c → Ok lo (L.foldl push acc) ∧ Nf (L.foldl push acc) ∧ ∀ b, sem (L.foldl push acc) b = sem (acc ++ L) b
  | [], acc, lo, c, _, h2, h3, _, _ => ⟨h2, h3, fun b => by simp⟩
  | x :: L, acc, lo, c, ⟨h1, h2, h3, h4, h5, h6⟩, k2, k3, k4, k5 => by
    have hx : Vx x := ⟨h2, h3, h4, h5⟩
    obtain ⟨p1, p2, p3, p4⟩ := push_spec k2 k3 (fun z hz => by have := k4 z hz; omega) hx (by omega)
    obtain ⟨q1, q2, q3⟩ := fold_spec (L := L) (acc := push acc x) (lo := lo) (c := x.a + x.n) h6 p1 p2 p4 (by omega)
    refine ⟨q1, q2, fun b => ?_⟩
    show sem (L.foldl push (push acc x)) b = _
    rw [q3, sem_append, p3, ← sem_append, List.append_assoc]; rfl
theorem jn_spec {L : List X} {lo : Int} (h : Ok lo L) : Ok lo (Jn L) ∧ Nf (Jn L) ∧ ∀ b, sem (Jn L) b = sem L b := by
  obtain ⟨h1, h2, h3⟩ := fold_spec (L := L) (acc := []) (lo := lo) (c := lo) h trivial trivial (fun _ h => by cases h) (Int.le_refl _)
  exact ⟨h1, h2, fun b => by rw [Jn, h3]; rfl⟩
/-- a list in normal form is its own -/
theorem jn_nf {L : List X} {lo : Int} (h : Ok lo L) (hn : Nf L) : Jn L = L := by
  obtain ⟨h1, h2, h3⟩ := jn_spec h
  exact nf_unique _ _ lo lo h1 h h2 hn h3
end Go.Xt

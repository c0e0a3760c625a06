/- Putting and cutting, plainly. -/
import Derived.Test.YtjglgfnhgehpeaaPlain
namespace Go.Xt
open Tr
instance : Inhabited X := ⟨⟨0, 0, 0⟩⟩
instance decOk : ∀ (lo : Int) (L : List X), Decidable (Ok lo L)
  | _, [] => isTrue trivial
  | lo, x :: L => by unfold Ok; have := decOk (x.a + x.n) L; infer_instance
/-- a valid extent -/
def Vx (x : X) : Prop := 1 ≤ x.n ∧ 0 ≤ x.s ∧ x.a + x.n ≤ 65536 ∧ x.s + x.n ≤ 65536
theorem ok_snoc {x : X} (hx : Vx x) : ∀ {A : List X} {lo : Int}, Ok lo A → (∀ z ∈ A, z.a + z.n ≤ x.a) → lo ≤ x.a → Ok lo (A ++ [x])
  | [], lo, _, _, h => ⟨h, hx.1, hx.2.1, hx.2.2.1, hx.2.2.2, trivial⟩
  | z :: A, lo, h, he, _ => by
    obtain ⟨h1, h2, h3, h4, h5, h6⟩ := h
    exact ⟨h1, h2, h3, h4, h5, ok_snoc hx h6 (fun w hw => he w (List.mem_cons_of_mem _ hw)) (he z List.mem_cons_self)⟩
theorem ok_glue {x y : X} {B : List X} (hy : y.a = x.a) (hB : Ok x.a (y :: B)) : ∀ {A : List X} {lo : Int}, Ok lo (A ++ [x]) → Ok lo (A ++ y :: B)
  | [], lo, h => hB.lower h.1 |> fun h' => ⟨by have := h.1; have := hB.1; omega, h'.2⟩
  | z :: A, lo, h => by
    obtain ⟨h1, h2, h3, h4, h5, h6⟩ := h
    exact ⟨h1, h2, h3, h4, h5, ok_glue hy hB h6⟩
theorem ok_app : ∀ {A B : List X} {lo c : Int}, Ok lo A → Ok c B → (∀ z ∈ A, z.a + z.n ≤ c) → lo ≤ c → Ok lo (A ++ B)
  | [], B, lo, c, _, hB, _, h => hB.lower h
  | z :: A, B, lo, c, h, hB, he, _ => by
    obtain ⟨h1, h2, h3, h4, h5, h6⟩ := h
    exact ⟨h1, h2, h3, h4, h5, ok_app h6 hB (fun w hw => he w (List.mem_cons_of_mem _ hw)) (he z List.mem_cons_self)⟩
theorem nf_glue {x y : X} {B : List X} (ha : y.a = x.a) (hs : y.s = x.s) (hB : Nf (y :: B)) : ∀ {A : List X}, Nf (A ++ [x]) → Nf (A ++ y :: B)
  | [], _ => hB
  | [z], h => ⟨fun hf => h.1 (by unfold Fol at *; omega), hB⟩
  | z :: z' :: A, h => ⟨h.1, nf_glue ha hs hB (A := z' :: A) h.2⟩
theorem nf_app : ∀ {A B : List X}, Nf A → Nf B → (∀ x ∈ A, ∀ y ∈ B, ¬ Fol x y) → Nf (A ++ B)
  | [], B, _, hB, _ => hB
  | [z], [], _, _, _ => trivial
  | [z], y :: B, _, hB, h => ⟨h z (by simp) y (by simp), hB⟩
  | z :: z' :: A, B, hA, hB, h => ⟨hA.1, nf_app (A := z' :: A) hA.2 hB fun x hx y hy => h x (List.mem_cons_of_mem _ hx) y hy⟩
def glueL (a : Tr) (x : X) : X × Tr := match a with
  | .nil => (x, .nil)
  | .node l y r => if Fol (last l y r).1 x then (⟨(last l y r).1.a, (last l y r).1.n + x.n, (last l y r).1.s⟩, (last l y r).2) else (x, .node l y r)
def glueR (x : X) (b : Tr) : X × Tr := match b with
  | .nil => (x, .nil)
  | .node l y r => if Fol x (first l y r).1 then (⟨x.a, x.n + (first l y r).1.n, x.s⟩, (first l y r).2) else (x, .node l y r)
theorem glueL_spec {a : Tr} {x : X} (hb : a.Bal) (ho : Ok 0 a.list) (hn : Nf a.list) (he : ∀ z ∈ a.list, z.a + z.n ≤ x.a) (hx : Vx x) (h0 : 0 ≤ x.a) :
    (glueL a x).2.Bal ∧ Ok 0 ((glueL a x).2.list ++ [(glueL a x).1]) ∧ Nf ((glueL a x).2.list ++ [(glueL a x).1]) ∧ (glueL a x).1.a + (glueL a x).1.n = x.a + x.n ∧ (glueL a x).1.s + (glueL a x).1.n = x.s + x.n ∧ ∀ b, sem ((glueL a x).2.list ++ [(glueL a x).1]) b = sem (a.list ++ [x]) b := by
  have hs := ok_snoc hx ho he h0
  cases a with
  | nil => exact ⟨trivial, hs, trivial, rfl, rfl, fun _ => rfl⟩
  | node l y r =>
    obtain ⟨h1, h2⟩ := last_spec r l y hb
    simp only [glueL]
    rw [← h1] at ho hn hs he
    have hv := ho.starts (last l y r).1 (by simp)
    split
    · rename_i hf
      unfold Fol at hf
      unfold Vx at hx
      refine ⟨h2, ok_glue (x := (last l y r).1) (y := ⟨(last l y r).1.a, (last l y r).1.n + x.n, (last l y r).1.s⟩) (B := []) rfl ⟨Int.le_refl _, by simp only []; omega, by simp only []; omega, by simp only []; omega, by simp only []; omega, trivial⟩ ho, nf_glue (x := (last l y r).1) (y := ⟨(last l y r).1.a, (last l y r).1.n + x.n, (last l y r).1.s⟩) (B := []) rfl rfl trivial hn, by simp only []; omega, by simp only []; omega, fun b => ?_⟩
      rw [← h1, List.append_assoc, sem_append, sem_append]
      congr 1
      simp only [sem, List.cons_append, List.nil_append]
      by_cases q1 : (last l y r).1.a ≤ b ∧ b < (last l y r).1.a + (last l y r).1.n
      · rw [if_pos q1, if_pos (by omega)]
      · rw [if_neg q1]
        by_cases q2 : x.a ≤ b ∧ b < x.a + x.n
        · rw [if_pos q2, if_pos (by omega), Option.some.injEq]; omega
        · rw [if_neg q2, if_neg (by omega)]
    · rename_i hf
      rw [← h1]
      refine ⟨hb, hs, ?_, rfl, rfl, fun _ => rfl⟩
      rw [List.append_assoc]
      exact nf_glue (y := (last l y r).1) (B := [x]) rfl rfl ⟨hf, trivial⟩ hn
theorem glueR_spec {b : Tr} {x : X} (hb : b.Bal) (ho : Ok (x.a + x.n) b.list) (hn : Nf b.list) (hx : Vx x) :
    (glueR x b).2.Bal ∧ Ok x.a ((glueR x b).1 :: (glueR x b).2.list) ∧ Nf ((glueR x b).1 :: (glueR x b).2.list) ∧ (glueR x b).1.a = x.a ∧ (glueR x b).1.s = x.s ∧ ∀ c, sem ((glueR x b).1 :: (glueR x b).2.list) c = sem (x :: b.list) c := by
  obtain ⟨x1, x2, x3, x4⟩ := hx
  cases b with
  | nil => exact ⟨trivial, ⟨Int.le_refl _, x1, x2, x3, x4, trivial⟩, trivial, rfl, rfl, fun _ => rfl⟩
  | node l y r =>
    obtain ⟨h1, h2⟩ := first_spec l y r hb
    simp only [glueR]
    have ho' := ho
    rw [← h1] at ho' hn
    obtain ⟨g1, g2, g3, g4, g5, g6⟩ := ho'
    split
    · rename_i hf
      unfold Fol at hf
      refine ⟨h2, ⟨Int.le_refl _, by simp only []; omega, by simp only []; omega, by simp only []; omega, by simp only []; omega, g6.lower (by simp only []; omega)⟩, ?_, rfl, rfl, fun c => ?_⟩
      · cases hl : (first l y r).2.list with
        | nil => trivial
        | cons z L =>
          rw [hl] at hn
          exact ⟨fun q => hn.1 (by unfold Fol at *; simp only [] at q; omega), hn.2⟩
      · rw [← h1]
        simp only [sem]
        by_cases q1 : x.a ≤ c ∧ c < x.a + x.n
        · rw [if_pos q1, if_pos (by omega)]
        · rw [if_neg q1]
          by_cases q2 : (first l y r).1.a ≤ c ∧ c < (first l y r).1.a + (first l y r).1.n
          · rw [if_pos q2, if_pos (by omega), Option.some.injEq]; omega
          · rw [if_neg q2, if_neg (by omega)]
    · rename_i hf
      refine ⟨hb, ⟨Int.le_refl _, x1, x2, x3, x4, ho⟩, ?_, rfl, rfl, fun _ => rfl⟩
      rw [← h1]
      exact ⟨hf, hn⟩
/-- what every tree is -/
def Wt (t : Tr) : Prop := t.Bal ∧ Ok 0 t.list ∧ Nf t.list
def put (t : Tr) (x : X) : Tr × Tr :=
  (join (glueL (split t x.a).1 x).2 (glueR (glueL (split t x.a).1 x).1 (split (split t x.a).2 (x.a + x.n)).2).1 (glueR (glueL (split t x.a).1 x).1 (split (split t x.a).2 (x.a + x.n)).2).2, (split (split t x.a).2 (x.a + x.n)).1)
def cut (t : Tr) (a n : Int) : Tr × Tr := (concat (split t a).1 (split (split t a).2 (a + n)).2, (split (split t a).2 (a + n)).1)
theorem split_facts {t : Tr} (h : Wt t) {a n : Int} (ha : 0 ≤ a) (hn : 0 ≤ n) :
    Wt (split t a).1 ∧ Wt (split t a).2 ∧ Wt (split (split t a).2 (a + n)).1 ∧ Wt (split (split t a).2 (a + n)).2 ∧ (∀ z ∈ (split t a).1.list, z.a + z.n ≤ a) ∧ Ok (a + n) (split (split t a).2 (a + n)).2.list ∧
      (∀ b, sem (split t a).1.list b = if 0 ≤ b ∧ b < a then sem t.list b else none) ∧ (∀ b, sem (split (split t a).2 (a + n)).2.list b = if a + n ≤ b then sem t.list b else none) ∧ (split (split t a).2 (a + n)).1.list = parts t.list a (a + n) := by
  obtain ⟨hb, ho, hf⟩ := h
  obtain ⟨s1, s2, s3, s4⟩ := split_spec t a hb ho
  have w1 : Wt (split t a).1 := ⟨s3, by rw [s1]; exact ok_parts ho (by omega), by rw [s1]; exact nf_parts ho hf⟩
  have w2 : Wt (split t a).2 := ⟨s4, by rw [s2]; exact ok_parts ho (by omega), by rw [s2]; exact nf_parts ho hf⟩
  obtain ⟨_, o2, f2⟩ := w2
  obtain ⟨r1, r2, r3, r4⟩ := split_spec (split t a).2 (a + n) s4 o2
  have w3 : Wt (split (split t a).2 (a + n)).1 := ⟨r3, by rw [r1]; exact ok_parts o2 (by omega), by rw [r1]; exact nf_parts o2 f2⟩
  have w4 : Wt (split (split t a).2 (a + n)).2 := ⟨r4, by rw [r2]; exact ok_parts o2 (by omega), by rw [r2]; exact nf_parts o2 f2⟩
  refine ⟨w1, ⟨s4, o2, f2⟩, w3, w4, fun z hz => ?_, ?_, fun b => ?_, fun b => ?_, ?_⟩
  · rw [s1] at hz; exact (parts_end z hz).1
  · rw [r2]; exact ok_parts o2 (by omega)
  · rw [s1, sem_parts]
  · rw [r2, sem_parts, s2, sem_parts]
    by_cases q : a + n ≤ b
    · rw [if_pos q]
      by_cases q2 : b < 65536
      · rw [if_pos ⟨q, q2⟩, if_pos ⟨by omega, q2⟩]
      · rw [if_neg (by omega), sem_ge ho (by omega)]
    · rw [if_neg q, if_neg (by omega)]
  · refine nf_unique _ _ 0 0 w3.2.1 (ok_parts ho (by omega)) w3.2.2 (nf_parts ho hf) fun b => ?_
    rw [r1, sem_parts, s2, sem_parts, sem_parts]
    by_cases q : a ≤ b ∧ b < a + n
    · rw [if_pos q, if_pos (by omega)]
      by_cases q2 : b < 65536
      · rw [if_pos (by omega)]
      · rw [if_neg (by omega), sem_ge ho (by omega)]
    · rw [if_neg q]
      by_cases q2 : 0 ≤ b ∧ b < a + n
      · rw [if_pos q2, if_neg (by omega)]
      · rw [if_neg q2]
theorem put_spec {t : Tr} {x : X} (h : Wt t) (h0 : 0 ≤ x.a) (hx : Vx x) :
    Wt (put t x).1 ∧ (put t x).2.list = parts t.list x.a (x.a + x.n) ∧ (∀ b, sem (put t x).1.list b = if x.a ≤ b ∧ b < x.a + x.n then some (x.s + b - x.a) else sem t.list b) ∧
      (put t x).1.list = (glueL (split t x.a).1 x).2.list ++ (glueR (glueL (split t x.a).1 x).1 (split (split t x.a).2 (x.a + x.n)).2).1 :: (glueR (glueL (split t x.a).1 x).1 (split (split t x.a).2 (x.a + x.n)).2).2.list ∧
      (glueL (split t x.a).1 x).2.Bal ∧ (glueR (glueL (split t x.a).1 x).1 (split (split t x.a).2 (x.a + x.n)).2).2.Bal ∧ Vx (glueL (split t x.a).1 x).1 := by
  have hx1 := hx.1
  obtain ⟨w1, w2, w3, w4, he, ho4, m1, m4, l3⟩ := split_facts h (a := x.a) (n := x.n) h0 (by omega)
  obtain ⟨g1, g2, g3, g4, g5, g6⟩ := glueL_spec w1.1 w1.2.1 w1.2.2 he hx h0
  have hv := g2.starts _ (List.mem_append_right _ (List.mem_singleton.2 rfl))
  have hv' : Vx (glueL (split t x.a).1 x).1 := ⟨hv.2.1, hv.2.2.1, hv.2.2.2.1, hv.2.2.2.2⟩
  obtain ⟨k1, k2, k3, k4, k5, k6⟩ := glueR_spec (x := (glueL (split t x.a).1 x).1) w4.1 (by rw [g4]; exact ho4) w4.2.2 hv'
  have hl : (put t x).1.list = (glueL (split t x.a).1 x).2.list ++ (glueR (glueL (split t x.a).1 x).1 (split (split t x.a).2 (x.a + x.n)).2).1 :: (glueR (glueL (split t x.a).1 x).1 (split (split t x.a).2 (x.a + x.n)).2).2.list := join_list g1 k1
  refine ⟨⟨join_bal g1 k1, by rw [hl]; exact ok_glue k4 k2 g2, by rw [hl]; exact nf_glue k4 k5 k3 g3⟩, l3, fun b => ?_, hl, g1, k1, hv'⟩
  rw [hl, sem_append, k6, show ∀ L : List X, (glueL (split t x.a).1 x).1 :: L = [(glueL (split t x.a).1 x).1] ++ L from fun _ => rfl, sem_append, ← Option.or_assoc, ← sem_append, g6, sem_append, m1, m4]
  simp only [sem]
  by_cases q : x.a ≤ b ∧ b < x.a + x.n
  · rw [if_pos q, if_neg (by omega), if_pos q]; rfl
  · rw [if_neg q, if_neg q]
    by_cases q1 : 0 ≤ b ∧ b < x.a
    · rw [if_pos q1, if_neg (by omega)]; cases sem t.list b <;> rfl
    · rw [if_neg q1]
      by_cases q2 : x.a + x.n ≤ b
      · rw [if_pos q2]; rfl
      · rw [if_neg q2, sem_lt h.2.1 (by omega)]; rfl
theorem cut_spec {t : Tr} {a n : Int} (h : Wt t) (h0 : 0 ≤ a) (hn : 1 ≤ n) :
    Wt (cut t a n).1 ∧ (cut t a n).2.list = parts t.list a (a + n) ∧ (∀ b, sem (cut t a n).1.list b = if a ≤ b ∧ b < a + n then none else sem t.list b) := by
  obtain ⟨w1, w2, w3, w4, he, ho4, m1, m4, l3⟩ := split_facts h (a := a) (n := n) h0 (by omega)
  obtain ⟨c1, c2⟩ := concat_spec w1.1 w4.1
  have hl : (cut t a n).1.list = (split t a).1.list ++ (split (split t a).2 (a + n)).2.list := c1
  refine ⟨⟨c2, by rw [hl]; exact ok_app w1.2.1 (ho4.lower (by omega)) he h0, by
    rw [hl]
    refine nf_app w1.2.2 w4.2.2 fun x hx y hy hf => ?_
    have h1 := he x hx
    have h2 := (ho4.starts y hy).1
    unfold Fol at hf
    omega⟩, l3, fun b => ?_⟩
  rw [hl, sem_append, m1, m4]
  by_cases q : a ≤ b ∧ b < a + n
  · rw [if_pos q, if_neg (by omega), if_neg (by omega)]; rfl
  · rw [if_neg q]
    by_cases q1 : 0 ≤ b ∧ b < a
    · rw [if_pos q1, if_neg (by omega)]; cases sem t.list b <;> rfl
    · rw [if_neg q1]
      by_cases q2 : a + n ≤ b
      · rw [if_pos q2]; rfl
      · rw [if_neg q2, sem_lt h.2.1 (by omega)]; rfl
end Go.Xt

/- Parts: Put, Jn, RefP, Lay, Tree, Sp. -/
import Derived.Test.YtjglgfnhgehpeaaGreatZg
import Derived.Test.YtjglgfnhgehpeaaGreatProg
/- Putting and cutting, plainly. -/
namespace Go.Xt
open Tr
instance : Inhabited X := ⟨⟨0, 0, 0⟩⟩
instance decOk : ∀ (lo : Int) (L : List X), Decidable (Ok lo L)
  | _, [] => isTrue trivial
  | lo, x :: L => by unfold Ok; have := decOk (x.a + x.n) L; infer_instance
/-- a valid extent -/
def Vx (x : X) : Prop := 1 ≤ x.n ∧ 0 ≤ x.s ∧ x.a + x.n ≤ 65536 ∧ x.s + x.n ≤ 65536
theorem ok_snoc {x : X} (hx : Vx x) : ∀ {A : List X} {lo : Int}, Ok lo A → (∀ z ∈ A, z.a + z.n ≤ x.a) → lo ≤ x.a → Ok lo (A ++ [x])
  | [], lo, _, _, h => ⟨h, hx.1, hx.2.1, hx.2.2.1, hx.2.2.2, trivial⟩
  | z :: A, lo, h, he, _ => by
    obtain ⟨h1, h2, h3, h4, h5, h6⟩ := h
    exact ⟨h1, h2, h3, h4, h5, ok_snoc hx h6 (fun w hw => he w (List.mem_cons_of_mem _ hw)) (he z List.mem_cons_self)⟩
theorem ok_glue {x y : X} {B : List X} (hy : y.a = x.a) (hB : Ok x.a (y :: B)) : ∀ {A : List X} {lo : Int}, Ok lo (A ++ [x]) → Ok lo (A ++ y :: B)
  | [], lo, h => hB.lower h.1 |> fun h' => ⟨by have := h.1; have := hB.1; omega, h'.2⟩
  | z :: A, lo, h => by
    obtain ⟨h1, h2, h3, h4, h5, h6⟩ := h
    exact ⟨h1, h2, h3, h4, h5, ok_glue hy hB h6⟩
theorem ok_app : ∀ {A B : List X} {lo c : Int}, Ok lo A → Ok c B → (∀ z ∈ A, z.a + z.n ≤ c) → lo ≤ c → Ok lo (A ++ B)
  | [], B, lo, c, _, hB, _, h => hB.lower h
  | z :: A, B, lo, c, h, hB, he, _ => by
    obtain ⟨h1, h2, h3, h4, h5, h6⟩ := h
    exact ⟨h1, h2, h3, h4, h5, ok_app h6 hB (fun w hw => he w (List.mem_cons_of_mem _ hw)) (he z List.mem_cons_self)⟩
theorem nf_glue {x y : X} {B : List X} (ha : y.a = x.a) (hs : y.s = x.s) (hB : Nf (y :: B)) : ∀ {A : List X}, Nf (A ++ [x]) → Nf (A ++ y :: B)
  | [], _ => hB
  | [z], h => ⟨fun hf => h.1 (by unfold Fol at *; omega), hB⟩
  | z :: z' :: A, h => ⟨h.1, nf_glue ha hs hB (A := z' :: A) h.2⟩
theorem nf_app : ∀ {A B : List X}, Nf A → Nf B → (∀ x ∈ A, ∀ y ∈ B, ¬ Fol x y) → Nf (A ++ B)
  | [], B, _, hB, _ => hB
  | [z], [], _, _, _ => trivial
  | [z], y :: B, _, hB, h => ⟨h z (by simp) y (by simp), hB⟩
  | z :: z' :: A, B, hA, hB, h => ⟨hA.1, nf_app (A := z' :: A) hA.2 hB fun x hx y hy => h x (List.mem_cons_of_mem _ hx) y hy⟩
def glueL (a : Tr) (x : X) : X × Tr := match a with
  | .nil => (x, .nil)
  | .node l y r => if Fol (last l y r).1 x then (⟨(last l y r).1.a, (last l y r).1.n + x.n, (last l y r).1.s⟩, (last l y r).2) else (x, .node l y r)
def glueR (x : X) (b : Tr) : X × Tr := match b with
  | .nil => (x, .nil)
  | .node l y r => if Fol x (first l y r).1 then (⟨x.a, x.n + (first l y r).1.n, x.s⟩, (first l y r).2) else (x, .node l y r)
theorem glueL_spec {a : Tr} {x : X} (hb : a.Bal) (ho : Ok 0 a.list) (hn : Nf a.list) (he : ∀ z ∈ a.list, z.a + z.n ≤ x.a) (hx : Vx x) (h0 : 0 ≤ x.a) :
    (glueL a x).2.Bal ∧ Ok 0 ((glueL a x).2.list ++ [(glueL a x).1]) ∧ Nf ((glueL a x).2.list ++ [(glueL a x).1]) ∧ (glueL a x).1.a + (glueL a x).1.n = x.a + x.n ∧ (glueL a x).1.s + (glueL a x).1.n = x.s + x.n ∧ ∀ b, sem ((glueL a x).2.list ++ [(glueL a x).1]) b = sem (a.list ++ [x]) b := by
  have hs := ok_snoc hx ho he h0
  cases a with
  | nil => exact ⟨trivial, hs, trivial, rfl, rfl, fun _ => rfl⟩
  | node l y r =>
    obtain ⟨h1, h2⟩ := last_spec r l y hb
    simp only [glueL]
    rw [← h1] at ho hn hs he
    have hv := ho.starts (last l y r).1 (by simp)
    split
    · rename_i hf
      unfold Fol at hf
      unfold Vx at hx
      refine ⟨h2, ok_glue (x := (last l y r).1) (y := ⟨(last l y r).1.a, (last l y r).1.n + x.n, (last l y r).1.s⟩) (B := []) rfl ⟨Int.le_refl _, by simp only []; omega, by simp only []; omega, by simp only []; omega, by simp only []; omega, trivial⟩ ho, nf_glue (x := (last l y r).1) (y := ⟨(last l y r).1.a, (last l y r).1.n + x.n, (last l y r).1.s⟩) (B := []) rfl rfl trivial hn, by simp only []; omega, by simp only []; omega, fun b => ?_⟩
      rw [← h1, List.append_assoc, sem_append, sem_append]
      congr 1
      simp only [sem, List.cons_append, List.nil_append]
      by_cases q1 : (last l y r).1.a ≤ b ∧ b < (last l y r).1.a + (last l y r).1.n
      · rw [if_pos q1, if_pos (by omega)]
      · rw [if_neg q1]
        by_cases q2 : x.a ≤ b ∧ b < x.a + x.n
        · rw [if_pos q2, if_pos (by omega), Option.some.injEq]; omega
        · rw [if_neg q2, if_neg (by omega)]
    · rename_i hf
      rw [← h1]
      refine ⟨hb, hs, ?_, rfl, rfl, fun _ => rfl⟩
      rw [List.append_assoc]
      exact nf_glue (y := (last l y r).1) (B := [x]) rfl rfl ⟨hf, trivial⟩ hn
theorem glueR_spec {b : Tr} {x : X} (hb : b.Bal) (ho : Ok (x.a + x.n) b.list) (hn : Nf b.list) (hx : Vx x) :
    (glueR x b).2.Bal ∧ Ok x.a ((glueR x b).1 :: (glueR x b).2.list) ∧ Nf ((glueR x b).1 :: (glueR x b).2.list) ∧ (glueR x b).1.a = x.a ∧ (glueR x b).1.s = x.s ∧ ∀ c, sem ((glueR x b).1 :: (glueR x b).2.list) c = sem (x :: b.list) c := by
  obtain ⟨x1, x2, x3, x4⟩ := hx
  cases b with
  | nil => exact ⟨trivial, ⟨Int.le_refl _, x1, x2, x3, x4, trivial⟩, trivial, rfl, rfl, fun _ => rfl⟩
  | node l y r =>
    obtain ⟨h1, h2⟩ := first_spec l y r hb
    simp only [glueR]
    have ho' := ho
    rw [← h1] at ho' hn
    obtain ⟨g1, g2, g3, g4, g5, g6⟩ := ho'
    split
    · rename_i hf
      unfold Fol at hf
      refine ⟨h2, ⟨Int.le_refl _, by simp only []; omega, by simp only []; omega, by simp only []; omega, by simp only []; omega, g6.lower (by simp only []; omega)⟩, ?_, rfl, rfl, fun c => ?_⟩
      · cases hl : (first l y r).2.list with
        | nil => trivial
        | cons z L =>
          rw [hl] at hn
          exact ⟨fun q => hn.1 (by unfold Fol at *; simp only [] at q; omega), hn.2⟩
      · rw [← h1]
        simp only [sem]
        by_cases q1 : x.a ≤ c ∧ c < x.a + x.n
        · rw [if_pos q1, if_pos (by omega)]
        · rw [if_neg q1]
          by_cases q2 : (first l y r).1.a ≤ c ∧ c < (first l y r).1.a + (first l y r).1.n
          · rw [if_pos q2, if_pos (by omega), Option.some.injEq]; omega
          · rw [if_neg q2, if_neg (by omega)]
    · rename_i hf
      refine ⟨hb, ⟨Int.le_refl _, x1, x2, x3, x4, ho⟩, ?_, rfl, rfl, fun _ => rfl⟩
      rw [← h1]
      exact ⟨hf, hn⟩
/-- what every tree is -/
def Wt (t : Tr) : Prop := t.Bal ∧ Ok 0 t.list ∧ Nf t.list
def put (t : Tr) (x : X) : Tr × Tr :=
  (join (glueL (split t x.a).1 x).2 (glueR (glueL (split t x.a).1 x).1 (split (split t x.a).2 (x.a + x.n)).2).1 (glueR (glueL (split t x.a).1 x).1 (split (split t x.a).2 (x.a + x.n)).2).2, (split (split t x.a).2 (x.a + x.n)).1)
def cut (t : Tr) (a n : Int) : Tr × Tr := (concat (split t a).1 (split (split t a).2 (a + n)).2, (split (split t a).2 (a + n)).1)
theorem split_facts {t : Tr} (h : Wt t) {a n : Int} (ha : 0 ≤ a) (hn : 0 ≤ n) :
    Wt (split t a).1 ∧ Wt (split t a).2 ∧ Wt (split (split t a).2 (a + n)).1 ∧ Wt (split (split t a).2 (a + n)).2 ∧ (∀ z ∈ (split t a).1.list, z.a + z.n ≤ a) ∧ Ok (a + n) (split (split t a).2 (a + n)).2.list ∧
      (∀ b, sem (split t a).1.list b = if 0 ≤ b ∧ b < a then sem t.list b else none) ∧ (∀ b, sem (split (split t a).2 (a + n)).2.list b = if a + n ≤ b then sem t.list b else none) ∧ (split (split t a).2 (a + n)).1.list = parts t.list a (a + n) := by
  obtain ⟨hb, ho, hf⟩ := h
  obtain ⟨s1, s2, s3, s4⟩ := split_spec t a hb ho
  have w1 : Wt (split t a).1 := ⟨s3, by rw [s1]; exact ok_parts ho (by omega), by rw [s1]; exact nf_parts ho hf⟩
  have w2 : Wt (split t a).2 := ⟨s4, by rw [s2]; exact ok_parts ho (by omega), by rw [s2]; exact nf_parts ho hf⟩
  obtain ⟨_, o2, f2⟩ := w2
  obtain ⟨r1, r2, r3, r4⟩ := split_spec (split t a).2 (a + n) s4 o2
  have w3 : Wt (split (split t a).2 (a + n)).1 := ⟨r3, by rw [r1]; exact ok_parts o2 (by omega), by rw [r1]; exact nf_parts o2 f2⟩
  have w4 : Wt (split (split t a).2 (a + n)).2 := ⟨r4, by rw [r2]; exact ok_parts o2 (by omega), by rw [r2]; exact nf_parts o2 f2⟩
  refine ⟨w1, ⟨s4, o2, f2⟩, w3, w4, fun z hz => ?_, ?_, fun b => ?_, fun b => ?_, ?_⟩
  · rw [s1] at hz; exact (parts_end z hz).1
  · rw [r2]; exact ok_parts o2 (by omega)
  · rw [s1, sem_parts]
  · rw [r2, sem_parts, s2, sem_parts]
    by_cases q : a + n ≤ b
    · rw [if_pos q]
      by_cases q2 : b < 65536
      · rw [if_pos ⟨q, q2⟩, if_pos ⟨by omega, q2⟩]
      · rw [if_neg (by omega), sem_ge ho (by omega)]
    · rw [if_neg q, if_neg (by omega)]
  · refine nf_unique _ _ 0 0 w3.2.1 (ok_parts ho (by omega)) w3.2.2 (nf_parts ho hf) fun b => ?_
    rw [r1, sem_parts, s2, sem_parts, sem_parts]
    by_cases q : a ≤ b ∧ b < a + n
    · rw [if_pos q, if_pos (by omega)]
      by_cases q2 : b < 65536
      · rw [if_pos (by omega)]
      · rw [if_neg (by omega), sem_ge ho (by omega)]
    · rw [if_neg q]
      by_cases q2 : 0 ≤ b ∧ b < a + n
      · rw [if_pos q2, if_neg (by omega)]
      · rw [if_neg q2]
theorem put_spec {t : Tr} {x : X} (h : Wt t) (h0 : 0 ≤ x.a) (hx : Vx x) :
    Wt (put t x).1 ∧ (put t x).2.list = parts t.list x.a (x.a + x.n) ∧ (∀ b, sem (put t x).1.list b = if x.a ≤ b ∧ b < x.a + x.n then some (x.s + b - x.a) else sem t.list b) ∧
      (put t x).1.list = (glueL (split t x.a).1 x).2.list ++ (glueR (glueL (split t x.a).1 x).1 (split (split t x.a).2 (x.a + x.n)).2).1 :: (glueR (glueL (split t x.a).1 x).1 (split (split t x.a).2 (x.a + x.n)).2).2.list ∧
      (glueL (split t x.a).1 x).2.Bal ∧ (glueR (glueL (split t x.a).1 x).1 (split (split t x.a).2 (x.a + x.n)).2).2.Bal ∧ Vx (glueL (split t x.a).1 x).1 := by
  have hx1 := hx.1
  obtain ⟨w1, w2, w3, w4, he, ho4, m1, m4, l3⟩ := split_facts h (a := x.a) (n := x.n) h0 (by omega)
  obtain ⟨g1, g2, g3, g4, g5, g6⟩ := glueL_spec w1.1 w1.2.1 w1.2.2 he hx h0
  have hv := g2.starts _ (List.mem_append_right _ (List.mem_singleton.2 rfl))
  have hv' : Vx (glueL (split t x.a).1 x).1 := ⟨hv.2.1, hv.2.2.1, hv.2.2.2.1, hv.2.2.2.2⟩
  obtain ⟨k1, k2, k3, k4, k5, k6⟩ := glueR_spec (x := (glueL (split t x.a).1 x).1) w4.1 (by rw [g4]; exact ho4) w4.2.2 hv'
  have hl : (put t x).1.list = (glueL (split t x.a).1 x).2.list ++ (glueR (glueL (split t x.a).1 x).1 (split (split t x.a).2 (x.a + x.n)).2).1 :: (glueR (glueL (split t x.a).1 x).1 (split (split t x.a).2 (x.a + x.n)).2).2.list := join_list g1 k1
  refine ⟨⟨join_bal g1 k1, by rw [hl]; exact ok_glue k4 k2 g2, by rw [hl]; exact nf_glue k4 k5 k3 g3⟩, l3, fun b => ?_, hl, g1, k1, hv'⟩
  rw [hl, sem_append, k6, show ∀ L : List X, (glueL (split t x.a).1 x).1 :: L = [(glueL (split t x.a).1 x).1] ++ L from fun _ => rfl, sem_append, ← Option.or_assoc, ← sem_append, g6, sem_append, m1, m4]
  simp only [sem]
  by_cases q : x.a ≤ b ∧ b < x.a + x.n
  · rw [if_pos q, if_neg (by omega), if_pos q]; rfl
  · rw [if_neg q, if_neg q]
    by_cases q1 : 0 ≤ b ∧ b < x.a
    · rw [if_pos q1, if_neg (by omega)]; cases sem t.list b <;> rfl
    · rw [if_neg q1]
      by_cases q2 : x.a + x.n ≤ b
      · rw [if_pos q2]; rfl
      · rw [if_neg q2, sem_lt h.2.1 (by omega)]; rfl
theorem cut_spec {t : Tr} {a n : Int} (h : Wt t) (h0 : 0 ≤ a) (hn : 1 ≤ n) :
    Wt (cut t a n).1 ∧ (cut t a n).2.list = parts t.list a (a + n) ∧ (∀ b, sem (cut t a n).1.list b = if a ≤ b ∧ b < a + n then none else sem t.list b) := by
  obtain ⟨w1, w2, w3, w4, he, ho4, m1, m4, l3⟩ := split_facts h (a := a) (n := n) h0 (by omega)
  obtain ⟨c1, c2⟩ := concat_spec w1.1 w4.1
  have hl : (cut t a n).1.list = (split t a).1.list ++ (split (split t a).2 (a + n)).2.list := c1
  refine ⟨⟨c2, by rw [hl]; exact ok_app w1.2.1 (ho4.lower (by omega)) he h0, by
    rw [hl]
    refine nf_app w1.2.2 w4.2.2 fun x hx y hy hf => ?_
    have h1 := he x hx
    have h2 := (ho4.starts y hy).1
    unfold Fol at hf
    omega⟩, l3, fun b => ?_⟩
  rw [hl, sem_append, m1, m4]
  by_cases q : a ≤ b ∧ b < a + n
  · rw [if_pos q, if_neg (by omega), if_neg (by omega)]; rfl
  · rw [if_neg q]
    by_cases q1 : 0 ≤ b ∧ b < a
    · rw [if_pos q1, if_neg (by omega)]; cases sem t.list b <;> rfl
    · rw [if_neg q1]
      by_cases q2 : a + n ≤ b
      · rw [if_pos q2]; rfl
      · rw [if_neg q2, sem_lt h.2.1 (by omega)]; rfl
end Go.Xt

/- The normal form, plainly. -/
namespace Go.Xt
theorem push_snoc (A : List X) (y x : X) : push (A ++ [y]) x = if Fol y x then A ++ [⟨y.a, y.n + x.n, y.s⟩] else A ++ [y] ++ [x] := by
  unfold push
  rw [List.getLast?_append]
  simp only [List.getLast?_singleton, Option.some_or]
  rw [List.dropLast_concat]
theorem push_spec {L : List X} {x : X} {lo : Int} (ho : Ok lo L) (hn : Nf L) (he : ∀ z ∈ L, z.a + z.n ≤ x.a) (hx : Vx x) (hl : lo ≤ x.a) :
    Ok lo (push L x) ∧ Nf (push L x) ∧ (∀ b, sem (push L x) b = sem (L ++ [x]) b) ∧ (∀ z ∈ push L x, z.a + z.n ≤ x.a + x.n) := by
  rcases List.eq_nil_or_concat L with rfl | ⟨A, y, rfl⟩
  · exact ⟨⟨hl, hx.1, hx.2.1, hx.2.2.1, hx.2.2.2, trivial⟩, trivial, fun _ => rfl, fun z hz => by rw [List.mem_singleton.1 hz]; exact Int.le_refl _⟩
  · rw [List.concat_eq_append] at *
    rw [push_snoc]
    have hv := ho.starts y (by simp)
    have hs := ok_snoc hx ho he hl
    split
    · rename_i hf
      unfold Fol at hf
      unfold Vx at hx
      refine ⟨ok_glue (x := y) (y := ⟨y.a, y.n + x.n, y.s⟩) (B := []) rfl ⟨Int.le_refl _, by simp only []; omega, by simp only []; omega, by simp only []; omega, by simp only []; omega, trivial⟩ ho, nf_glue (x := y) (y := ⟨y.a, y.n + x.n, y.s⟩) (B := []) rfl rfl trivial hn, fun b => ?_, fun z hz => ?_⟩
      · rw [List.append_assoc, sem_append, sem_append]
        congr 1
        simp only [sem, List.cons_append, List.nil_append]
        by_cases q1 : y.a ≤ b ∧ b < y.a + y.n
        · rw [if_pos q1, if_pos (by omega)]
        · rw [if_neg q1]
          by_cases q2 : x.a ≤ b ∧ b < x.a + x.n
          · rw [if_pos q2, if_pos (by omega), Option.some.injEq]; omega
          · rw [if_neg q2, if_neg (by omega)]
      · rcases List.mem_append.1 hz with hz | hz
        · have := he z (List.mem_append_left _ hz); omega
        · rw [List.mem_singleton.1 hz]; simp only []; omega
    · rename_i hf
      refine ⟨hs, ?_, fun _ => rfl, fun z hz => ?_⟩
      · rw [List.append_assoc]
        exact nf_glue (x := y) (y := y) (B := [x]) rfl rfl ⟨hf, trivial⟩ hn
      · rcases List.mem_append.1 hz with hz | hz
        · have := he z hz; have := hx.1; omega
        · rw [List.mem_singleton.1 hz]; exact Int.le_refl _
theorem fold_spec : ∀ {L acc : List X} {lo c : Int}, Ok c L → Ok lo acc → Nf acc → (∀ z ∈ acc, z.a + z.n ≤ c) → lo ≤ c → Ok lo (L.foldl push acc) ∧ Nf (L.foldl push acc) ∧ ∀ b, sem (L.foldl push acc) b = sem (acc ++ L) b
  | [], acc, lo, c, _, h2, h3, _, _ => ⟨h2, h3, fun b => by simp⟩
  | x :: L, acc, lo, c, ⟨h1, h2, h3, h4, h5, h6⟩, k2, k3, k4, k5 => by
    have hx : Vx x := ⟨h2, h3, h4, h5⟩
    obtain ⟨p1, p2, p3, p4⟩ := push_spec k2 k3 (fun z hz => by have := k4 z hz; omega) hx (by omega)
    obtain ⟨q1, q2, q3⟩ := fold_spec (L := L) (acc := push acc x) (lo := lo) (c := x.a + x.n) h6 p1 p2 p4 (by omega)
    refine ⟨q1, q2, fun b => ?_⟩
    show sem (L.foldl push (push acc x)) b = _
    rw [q3, sem_append, p3, ← sem_append, List.append_assoc]; rfl
theorem jn_spec {L : List X} {lo : Int} (h : Ok lo L) : Ok lo (Jn L) ∧ Nf (Jn L) ∧ ∀ b, sem (Jn L) b = sem L b := by
  obtain ⟨h1, h2, h3⟩ := fold_spec (L := L) (acc := []) (lo := lo) (c := lo) h trivial trivial (fun _ h => by cases h) (Int.le_refl _)
  exact ⟨h1, h2, fun b => by rw [Jn, h3]; rfl⟩
/-- a list in normal form is its own -/
theorem jn_nf {L : List X} {lo : Int} (h : Ok lo L) (hn : Nf L) : Jn L = L := by
  obtain ⟨h1, h2, h3⟩ := jn_spec h
  exact nf_unique _ _ lo lo h1 h h2 hn h3
end Go.Xt

/- The specification's Put and Cut, plainly, and the trees'. -/
namespace Go.Xt
def rput (L : List X) (x : X) : List X := Jn (parts L 0 x.a ++ [x] ++ parts L (x.a + x.n) 65536)
def rcut (L : List X) (a n : Int) : List X := Jn (parts L 0 a ++ parts L (a + n) 65536)
theorem parts_le {f t : Int} {L : List X} : ∀ z ∈ parts L f t, z.a + z.n ≤ t := fun z hz => (parts_end z hz).1
theorem ok_rput {L : List X} {x : X} (h : Ok 0 L) (h0 : 0 ≤ x.a) (hx : Vx x) : Ok 0 (parts L 0 x.a ++ [x] ++ parts L (x.a + x.n) 65536) := by
  have h1 : Ok 0 (parts L 0 x.a ++ [x]) := ok_snoc hx (ok_parts h (by omega)) (fun z hz => parts_le z hz) h0
  refine ok_app (c := x.a + x.n) h1 (ok_parts h (by omega)) (fun z hz => ?_) (by have := hx.1; omega)
  rcases List.mem_append.1 hz with hz | hz
  · have := parts_le z hz; have := hx.1; omega
  · rw [List.mem_singleton.1 hz]; exact Int.le_refl _
theorem ok_rcut {L : List X} {a n : Int} (h : Ok 0 L) (h0 : 0 ≤ a) (hn : 0 ≤ n) : Ok 0 (parts L 0 a ++ parts L (a + n) 65536) :=
  ok_app (c := a) (ok_parts h (by omega)) (ok_parts h (by omega)) (fun z hz => parts_le z hz) h0
theorem put_ref {t : Tr} {x : X} (h : Wt t) (h0 : 0 ≤ x.a) (hx : Vx x) : (put t x).1.list = rput t.list x ∧ (put t x).2.list = Jn (parts t.list x.a (x.a + x.n)) := by
  have hx1 := hx.1
  obtain ⟨w, hm, hs, _⟩ := put_spec h h0 hx
  obtain ⟨j1, j2, j3⟩ := jn_spec (ok_rput h.2.1 h0 hx)
  refine ⟨nf_unique _ _ 0 0 w.2.1 j1 w.2.2 j2 fun b => ?_, ?_⟩
  · unfold rput
    rw [hs, j3, sem_append, sem_append, sem_parts, sem_parts]
    simp only [sem]
    by_cases q : x.a ≤ b ∧ b < x.a + x.n
    · rw [if_pos q, if_neg (by omega), if_pos q]; rfl
    · rw [if_neg q, if_neg q]
      by_cases q1 : 0 ≤ b ∧ b < x.a
      · rw [if_pos q1, if_neg (by omega)]; cases sem t.list b <;> rfl
      · rw [if_neg q1]
        by_cases q2 : x.a + x.n ≤ b ∧ b < 65536
        · rw [if_pos q2]; rfl
        · rw [if_neg q2]
          by_cases q3 : b < 0
          · rw [sem_lt h.2.1 q3]; rfl
          · rw [sem_ge h.2.1 (by omega)]; rfl
  · rw [hm, jn_nf (ok_parts h.2.1 (lo' := 0) (by omega)) (nf_parts h.2.1 h.2.2)]
theorem cut_ref {t : Tr} {a n : Int} (h : Wt t) (h0 : 0 ≤ a) (hn : 1 ≤ n) : (cut t a n).1.list = rcut t.list a n ∧ (cut t a n).2.list = Jn (parts t.list a (a + n)) := by
  obtain ⟨w, hm, hs⟩ := cut_spec h h0 hn
  obtain ⟨j1, j2, j3⟩ := jn_spec (ok_rcut h.2.1 h0 (by omega : 0 ≤ n))
  refine ⟨nf_unique _ _ 0 0 w.2.1 j1 w.2.2 j2 fun b => ?_, ?_⟩
  · unfold rcut
    rw [hs, j3, sem_append, sem_parts, sem_parts]
    by_cases q : a ≤ b ∧ b < a + n
    · rw [if_pos q, if_neg (by omega), if_neg (by omega)]; rfl
    · rw [if_neg q]
      by_cases q1 : 0 ≤ b ∧ b < a
      · rw [if_pos q1, if_neg (by omega)]; cases sem t.list b <;> rfl
      · rw [if_neg q1]
        by_cases q2 : a + n ≤ b ∧ b < 65536
        · rw [if_pos q2]; rfl
        · rw [if_neg q2]
          by_cases q3 : b < 0
          · rw [sem_lt h.2.1 q3]; rfl
          · rw [sem_ge h.2.1 (by omega)]; rfl
  · rw [hm, jn_nf (ok_parts h.2.1 (lo' := 0) (by omega)) (nf_parts h.2.1 h.2.2)]
end Go.Xt

/- Sizes and places of this program's types, each asked of the kernel. -/
namespace Go.Proofs.YtjglgfnhgehpeaaGreat
open Go.Fw
theorem ag_Extent : aggs Tryz.prog 65 = some 3 := by kernel_rfl
theorem ag_Tree : aggs Tryz.prog 112 = some 1 := by kernel_rfl
theorem ag_VolumeInfo : aggs Tryz.prog 34 = some 5 := by kernel_rfl
theorem ag_family_Family : aggs Tryz.prog 28 = some 2 := by kernel_rfl
theorem ag_family_volume : aggs Tryz.prog 114 = some 3 := by kernel_rfl
theorem ag_refcount_Counts : aggs Tryz.prog 25 = some 1 := by kernel_rfl
theorem ei_s_api_Extent : elemInfo Tryz.prog 51 = some (65, 3, 24, 3) := by kernel_rfl
theorem ei_s_bool : elemInfo Tryz.prog 151 = some (4, 1, 1, 1) := by kernel_rfl
theorem ei_s_int : elemInfo Tryz.prog 23 = some (3, 1, 8, 1) := by kernel_rfl
theorem el_s_api_Extent : elemSz Tryz.prog 51 = some 3 := by kernel_rfl
theorem el_s_bool : elemSz Tryz.prog 151 = some 1 := by kernel_rfl
theorem el_s_int : elemSz Tryz.prog 23 = some 1 := by kernel_rfl
theorem el_s_uint8 : elemSz Tryz.prog 38 = some 1 := by kernel_rfl
theorem fo_Extent_0 : fieldOff Tryz.prog 65 0 = some 0 := by kernel_rfl
theorem fo_Extent_1 : fieldOff Tryz.prog 65 1 = some 1 := by kernel_rfl
theorem fo_Extent_2 : fieldOff Tryz.prog 65 2 = some 2 := by kernel_rfl
theorem fo_Tree_0 : fieldOff Tryz.prog 112 0 = some 0 := by kernel_rfl
theorem fo_VolumeInfo_4 : fieldOff Tryz.prog 34 4 = some 4 := by kernel_rfl
theorem fo_family_Family_0 : fieldOff Tryz.prog 28 0 = some 0 := by kernel_rfl
theorem fo_family_Family_1 : fieldOff Tryz.prog 28 1 = some 1 := by kernel_rfl
theorem fo_family_size_0 : fieldOff Tryz.prog 109 0 = some 0 := by kernel_rfl
theorem fo_family_size_1 : fieldOff Tryz.prog 109 1 = some 1 := by kernel_rfl
theorem fo_family_volume_0 : fieldOff Tryz.prog 114 0 = some 0 := by kernel_rfl
theorem fo_family_volume_1 : fieldOff Tryz.prog 114 1 = some 2 := by kernel_rfl
theorem fo_node_0 : fieldOff Tryz.prog 169 0 = some 0 := by kernel_rfl
theorem fo_node_1 : fieldOff Tryz.prog 169 1 = some 3 := by kernel_rfl
theorem fo_node_2 : fieldOff Tryz.prog 169 2 = some 4 := by kernel_rfl
theorem fo_node_3 : fieldOff Tryz.prog 169 3 = some 5 := by kernel_rfl
theorem fo_node_4 : fieldOff Tryz.prog 169 4 = some 6 := by kernel_rfl
theorem fo_node_5 : fieldOff Tryz.prog 169 5 = some 7 := by kernel_rfl
theorem fo_refcount_Counts_0 : fieldOff Tryz.prog 25 0 = some 0 := by kernel_rfl
theorem iF_Extent : intFields Tryz.prog 65 3 = true := by kernel_rfl
theorem pl_Extent_0 : place Tryz.prog 65 0 = some (0, 1) := by kernel_rfl
theorem pl_Extent_1 : place Tryz.prog 65 1 = some (1, 1) := by kernel_rfl
theorem pl_Extent_2 : place Tryz.prog 65 2 = some (2, 1) := by kernel_rfl
theorem pl_Tree_0 : place Tryz.prog 112 0 = some (0, 1) := by kernel_rfl
theorem pl_VolumeInfo_0 : place Tryz.prog 34 0 = some (0, 1) := by kernel_rfl
theorem pl_VolumeInfo_1 : place Tryz.prog 34 1 = some (1, 1) := by kernel_rfl
theorem pl_VolumeInfo_2 : place Tryz.prog 34 2 = some (2, 1) := by kernel_rfl
theorem pl_VolumeInfo_3 : place Tryz.prog 34 3 = some (3, 1) := by kernel_rfl
theorem pl_VolumeInfo_4 : place Tryz.prog 34 4 = some (4, 1) := by kernel_rfl
theorem pl_family_Family_0 : place Tryz.prog 28 0 = some (0, 1) := by kernel_rfl
theorem pl_family_Family_1 : place Tryz.prog 28 1 = some (1, 1) := by kernel_rfl
theorem pl_family_size_0 : place Tryz.prog 109 0 = some (0, 1) := by kernel_rfl
theorem pl_family_size_1 : place Tryz.prog 109 1 = some (1, 1) := by kernel_rfl
theorem pl_family_volume_0 : place Tryz.prog 114 0 = some (0, 2) := by kernel_rfl
theorem pl_node_0 : place Tryz.prog 169 0 = some (0, 3) := by kernel_rfl
theorem pl_node_1 : place Tryz.prog 169 1 = some (3, 1) := by kernel_rfl
theorem pl_node_2 : place Tryz.prog 169 2 = some (4, 1) := by kernel_rfl
theorem pl_node_3 : place Tryz.prog 169 3 = some (5, 1) := by kernel_rfl
theorem pl_node_4 : place Tryz.prog 169 4 = some (6, 1) := by kernel_rfl
theorem pl_node_5 : place Tryz.prog 169 5 = some (7, 1) := by kernel_rfl
theorem pl_refcount_Counts_0 : place Tryz.prog 25 0 = some (0, 1) := by kernel_rfl
theorem ps_Extent : (placesOf Tryz.prog 65).isSome = true := by kernel_rfl
theorem ps_Tree : (placesOf Tryz.prog 112).isSome = true := by kernel_rfl
theorem ps_VolumeInfo : (placesOf Tryz.prog 34).isSome = true := by kernel_rfl
theorem ps_family_Family : (placesOf Tryz.prog 28).isSome = true := by kernel_rfl
theorem ps_family_size : (placesOf Tryz.prog 109).isSome = true := by kernel_rfl
theorem ps_family_volume : (placesOf Tryz.prog 114).isSome = true := by kernel_rfl
theorem ps_node : (placesOf Tryz.prog 169).isSome = true := by kernel_rfl
theorem ps_refcount_Counts : (placesOf Tryz.prog 25).isSome = true := by kernel_rfl
theorem pt_p_extree_node : Tryz.prog.underlying 110 = some (.pointer (Tryz.prog.pointee 110)) := by kernel_rfl
theorem sc_bool : scal Tryz.prog 4 = true := by kernel_rfl
theorem sc_int : scal Tryz.prog 3 = true := by kernel_rfl
theorem sc_m_string_family_volume : scal Tryz.prog 26 = true := by kernel_rfl
theorem sc_p_extree_node : scal Tryz.prog 110 = true := by kernel_rfl
theorem sc_s_api_Extent : scal Tryz.prog 51 = true := by kernel_rfl
theorem sc_s_int : scal Tryz.prog 23 = true := by kernel_rfl
theorem sc_uint8 : scal Tryz.prog 5 = true := by kernel_rfl
theorem sz_Extent : sizeT Tryz.prog 65 = some 3 := by kernel_rfl
theorem sz_Tree : sizeT Tryz.prog 112 = some 1 := by kernel_rfl
theorem sz_VolumeInfo : sizeT Tryz.prog 34 = some 5 := by kernel_rfl
theorem sz_bool : sizeT Tryz.prog 4 = some 1 := by kernel_rfl
theorem sz_family_Family : sizeT Tryz.prog 28 = some 2 := by kernel_rfl
theorem sz_family_volume : sizeT Tryz.prog 114 = some 3 := by kernel_rfl
theorem sz_int : sizeT Tryz.prog 3 = some 1 := by kernel_rfl
theorem sz_refcount_Counts : sizeT Tryz.prog 25 = some 1 := by kernel_rfl
theorem sz_s_api_Extent : sizeT Tryz.prog 51 = some 1 := by kernel_rfl
theorem um_m_string_family_volume : Tryz.prog.underlying 26 = some (.map 9 114) := by kernel_rfl
-- UNKNOWN um_vols
-- UNKNOWN un_pr
-- UNKNOWN un_rn
theorem un_string : Tryz.prog.underlying 9 = some (.string) := by kernel_rfl
theorem un_uint8 : Tryz.prog.underlying 5 = some (.int .u8) := by kernel_rfl
theorem us_s_api_Extent : Tryz.prog.underlying 51 = some (.slice 65) := by kernel_rfl
theorem us_s_int : Tryz.prog.underlying 23 = some (.slice 3) := by kernel_rfl
theorem us_s_uint8 : Tryz.prog.underlying 38 = some (.slice 5) := by kernel_rfl
theorem zg_family_volume : zagg Tryz.prog 114 = some [.int .i64 0, .int .i64 0, .pointer none] := by kernel_rfl
theorem zr_Extent : zeros Tryz.prog 65 = some [.int .i64 0, .int .i64 0, .int .i64 0] := by kernel_rfl
theorem zr_Tree : zeros Tryz.prog 112 = some [.pointer none] := by kernel_rfl
theorem zr_VolumeInfo : zeros Tryz.prog 34 = some [.string ByteArray.empty, .int .i64 0, .int .i64 0, .int .i64 0, .int .i64 0] := by kernel_rfl
theorem zr_bool : zeros Tryz.prog 4 = some [.bool false] := by kernel_rfl
theorem zr_family_Family : zeros Tryz.prog 28 = some [.slice none 0 0, .map none] := by kernel_rfl
theorem zr_family_size : zeros Tryz.prog 109 = some [.int .i64 0, .int .i64 0] := by kernel_rfl
theorem zr_family_volume : zeros Tryz.prog 114 = some [.int .i64 0, .int .i64 0, .pointer none] := by kernel_rfl
theorem zr_int : zeros Tryz.prog 3 = some [.int .i64 0] := by kernel_rfl
theorem zr_node : zeros Tryz.prog 169 = some [.int .i64 0, .int .i64 0, .int .i64 0, .pointer none, .pointer none, .int .i64 0, .int .i64 0, .int .i64 0] := by kernel_rfl
theorem zr_refcount_Counts : zeros Tryz.prog 25 = some [.slice none 0 0] := by kernel_rfl
theorem zr_s_api_Extent : zeros Tryz.prog 51 = some [.slice none 0 0] := by kernel_rfl
theorem HM : Tryz.prog.follows .mixedOrders = true := by kernel_rfl
end Go.Proofs.YtjglgfnhgehpeaaGreat

/- What the functions of the persistent trees compute. -/
set_option linter.unusedVariables false
set_option linter.unusedSimpArgs false
set_option maxRecDepth 4000
namespace Go.Proofs.YtjglgfnhgehpeaaGreat
open Go.RowKit Go.Fw Go.Xt

abbrev I (n : Int) : Rp := val (.int .i64 n)
def tree : Tr → Rp
  | .nil => val (.pointer none)
  | .node l x r => at_ [I x.a, I x.n, I x.s, tree l, tree r, I (1 + max l.depth r.depth), I (1 + l.count + r.count), I (x.n + l.blocks + r.blocks)]
theorem leaf_tree : ∀ t : Tr, Leaf (tree t)
  | .nil => .val rfl
  | .node _ _ _ => .at_ _
def ext (x : X) : Rp := agg [I x.a, I x.n, I x.s]

theorem c_n_deep_nil : PureC Tryz.prog 157 [tree .nil] (I (Tr.depth .nil)) := by
  refine PureC.of_wp Tryz.func157 (by kernel_rfl) rfl Tryz.ntmps157 (le_ rfl) (fun w0 M0 => ?_)
  refine WP.seq ?_
  refine WP.region ?_
  refine WL.op (asg (oc _)) (by decide) ?_
  refine WL.nl (.thn ?_)
  refine WP.seq ?_
  refine WP.seq ?_
  refine WP.region ?_
  refine WL.op (mv (ot rfl)) (by decide) ?_
  refine WL.op (isnil pt_p_extree_node (ot rfl)) (by decide) ?_
  refine WL.nl (.thn ?_)
  refine WP.condT rfl ?_
  refine WP.seq ?_
  refine WP.region ?_
  refine WL.op (asg (oc _)) (by decide) ?_
  refine WL.nl (.thn ?_)
  exact WP.rt (.rthn (.r1 rfl rfl (imp _)))
theorem c_n_deep_node (l r : Tr) (x : X) : PureC Tryz.prog 157 [tree (.node l x r)] (I (Tr.depth (.node l x r))) := by
  refine PureC.of_wp Tryz.func157 (by kernel_rfl) rfl Tryz.ntmps157 (le_ rfl) (fun w0 M0 => ?_)
  refine WP.seq ?_
  refine WP.region ?_
  refine WL.op (asg (oc _)) (by decide) ?_
  refine WL.nl (.thn ?_)
  refine WP.seq ?_
  refine WP.seq ?_
  refine WP.region ?_
  refine WL.op (mv (ot rfl)) (by decide) ?_
  refine WL.op (notnil pt_p_extree_node (ot rfl)) (by decide) ?_
  refine WL.nl (.thn ?_)
  refine WP.condF rfl ?_
  refine WP.sk (.thn ?_)
  refine WP.seq ?_
  refine WP.region ?_
  refine WL.op (mv (ot rfl)) (by decide) ?_
  refine WL.op (nc (ot rfl)) (by decide) ?_
  refine WL.op (fa fo_node_3 (ot rfl)) (by decide) ?_
  refine WL.op (ld sc_int (ot rfl)) (by decide) ?_
  refine WL.op (asg (ot rfl)) (by decide) ?_
  refine WL.nl (.thn ?_)
  exact WP.rt (.r1 rfl rfl (imp _))
theorem c_n_deep : ∀ {t : Tr}, PureC Tryz.prog 157 [tree t] (I t.depth)
  | .nil => c_n_deep_nil
  | .node l x r => c_n_deep_node l r x
theorem c_n_size_nil : PureC Tryz.prog 176 [tree .nil] (I (Tr.count .nil)) := by
  refine PureC.of_wp Tryz.func176 (by kernel_rfl) rfl Tryz.ntmps176 (le_ rfl) (fun w0 M0 => ?_)
  refine WP.seq ?_
  refine WP.region ?_
  refine WL.op (asg (oc _)) (by decide) ?_
  refine WL.nl (.thn ?_)
  refine WP.seq ?_
  refine WP.seq ?_
  refine WP.region ?_
  refine WL.op (mv (ot rfl)) (by decide) ?_
  refine WL.op (isnil pt_p_extree_node (ot rfl)) (by decide) ?_
  refine WL.nl (.thn ?_)
  refine WP.condT rfl ?_
  refine WP.seq ?_
  refine WP.region ?_
  refine WL.op (asg (oc _)) (by decide) ?_
  refine WL.nl (.thn ?_)
  exact WP.rt (.rthn (.r1 rfl rfl (imp _)))
theorem c_n_size_node (l r : Tr) (x : X) : PureC Tryz.prog 176 [tree (.node l x r)] (I (Tr.count (.node l x r))) := by
  refine PureC.of_wp Tryz.func176 (by kernel_rfl) rfl Tryz.ntmps176 (le_ rfl) (fun w0 M0 => ?_)
  refine WP.seq ?_
  refine WP.region ?_
  refine WL.op (asg (oc _)) (by decide) ?_
  refine WL.nl (.thn ?_)
  refine WP.seq ?_
  refine WP.seq ?_
  refine WP.region ?_
  refine WL.op (mv (ot rfl)) (by decide) ?_
  refine WL.op (notnil pt_p_extree_node (ot rfl)) (by decide) ?_
  refine WL.nl (.thn ?_)
  refine WP.condF rfl ?_
  refine WP.sk (.thn ?_)
  refine WP.seq ?_
  refine WP.region ?_
  refine WL.op (mv (ot rfl)) (by decide) ?_
  refine WL.op (nc (ot rfl)) (by decide) ?_
  refine WL.op (fa fo_node_4 (ot rfl)) (by decide) ?_
  refine WL.op (ld sc_int (ot rfl)) (by decide) ?_
  refine WL.op (asg (ot rfl)) (by decide) ?_
  refine WL.nl (.thn ?_)
  exact WP.rt (.r1 rfl rfl (imp _))
theorem c_n_size : ∀ {t : Tr}, PureC Tryz.prog 176 [tree t] (I t.count)
  | .nil => c_n_size_nil
  | .node l x r => c_n_size_node l r x
theorem c_n_mapped_nil : PureC Tryz.prog 103 [tree .nil] (I (Tr.blocks .nil)) := by
  refine PureC.of_wp Tryz.func103 (by kernel_rfl) rfl Tryz.ntmps103 (le_ rfl) (fun w0 M0 => ?_)
  refine WP.seq ?_
  refine WP.region ?_
  refine WL.op (asg (oc _)) (by decide) ?_
  refine WL.nl (.thn ?_)
  refine WP.seq ?_
  refine WP.seq ?_
  refine WP.region ?_
  refine WL.op (mv (ot rfl)) (by decide) ?_
  refine WL.op (isnil pt_p_extree_node (ot rfl)) (by decide) ?_
  refine WL.nl (.thn ?_)
  refine WP.condT rfl ?_
  refine WP.seq ?_
  refine WP.region ?_
  refine WL.op (asg (oc _)) (by decide) ?_
  refine WL.nl (.thn ?_)
  exact WP.rt (.rthn (.r1 rfl rfl (imp _)))
theorem c_n_mapped_node (l r : Tr) (x : X) : PureC Tryz.prog 103 [tree (.node l x r)] (I (Tr.blocks (.node l x r))) := by
  refine PureC.of_wp Tryz.func103 (by kernel_rfl) rfl Tryz.ntmps103 (le_ rfl) (fun w0 M0 => ?_)
  refine WP.seq ?_
  refine WP.region ?_
  refine WL.op (asg (oc _)) (by decide) ?_
  refine WL.nl (.thn ?_)
  refine WP.seq ?_
  refine WP.seq ?_
  refine WP.region ?_
  refine WL.op (mv (ot rfl)) (by decide) ?_
  refine WL.op (notnil pt_p_extree_node (ot rfl)) (by decide) ?_
  refine WL.nl (.thn ?_)
  refine WP.condF rfl ?_
  refine WP.sk (.thn ?_)
  refine WP.seq ?_
  refine WP.region ?_
  refine WL.op (mv (ot rfl)) (by decide) ?_
  refine WL.op (nc (ot rfl)) (by decide) ?_
  refine WL.op (fa fo_node_5 (ot rfl)) (by decide) ?_
  refine WL.op (ld sc_int (ot rfl)) (by decide) ?_
  refine WL.op (asg (ot rfl)) (by decide) ?_
  refine WL.nl (.thn ?_)
  exact WP.rt (.r1 rfl rfl (imp _))
theorem c_n_mapped : ∀ {t : Tr}, PureC Tryz.prog 103 [tree t] (I t.blocks)
  | .nil => c_n_mapped_nil
  | .node l x r => c_n_mapped_node l r x
theorem c_x_build {l r : Tr} {a n s : Int} (h : Sz l ∧ Sz r ∧ 0 ≤ n ∧ n ≤ 1000000) : PureC Tryz.prog 159 [tree l, agg [I a, I n, I s], tree r] (tree (.node l ⟨a, n, s⟩ r)) := by
  unfold Sz at h
  refine PureC.of_wp Tryz.func159 (by kernel_rfl) rfl Tryz.ntmps159 (le_ rfl) (fun w0 M0 => ?_)
  refine WP.seq ?_
  refine WP.region ?_
  refine WL.box (ot rfl) (.agg _) (by decide) fun b4 => ?_
  refine WL.op (asg (oc _)) (by decide) ?_
  refine WL.nl (.thn ?_)
  refine WP.seq ?_
  refine WP.draws ?_
  refine RG.op (lbs 0 rfl ag_Extent (ot rfl) (le_ rfl)) ?_
  refine RG.op (mv (ot rfl)) ?_
  refine RG.op (mv (ot rfl)) ?_
  refine RG.op (mv (ot rfl)) ?_
  refine RG.op (call c_n_deep (.c (ot rfl) .n)) ?_
  refine RG.op (mv (ot rfl)) ?_
  refine RG.op (call c_n_deep (.c (ot rfl) .n)) ?_
  refine RG.op (mx_ (ot rfl) (ot rfl)) ?_
  refine RG.op (add (oc _) (ot rfl) (by omega)) ?_
  refine RG.op (mv (ot rfl)) ?_
  refine RG.op (call c_n_size (.c (ot rfl) .n)) ?_
  refine RG.op (add (oc _) (ot rfl) (by omega)) ?_
  refine RG.op (mv (ot rfl)) ?_
  refine RG.op (call c_n_size (.c (ot rfl) .n)) ?_
  refine RG.op (add (ot rfl) (ot rfl) (by omega)) ?_
  refine RG.op (fv fo_Extent_1 (ot rfl)) ?_
  refine RG.op (lb 0 rfl sc_int (ot rfl) rfl) ?_
  refine RG.op (mv (ot rfl)) ?_
  refine RG.op (call c_n_mapped (.c (ot rfl) .n)) ?_
  refine RG.op (add (ot rfl) (ot rfl) (by omega)) ?_
  refine RG.op (mv (ot rfl)) ?_
  refine RG.op (call c_n_mapped (.c (ot rfl) .n)) ?_
  refine RG.op (add (ot rfl) (ot rfl) (by omega)) ?_
  refine RG.op (bld zr_node rfl ps_node (.c (ot rfl) (.agg _) pl_node_0 rfl (le_ rfl) (.c (ot rfl) (.leaf (leaf_tree _)) pl_node_1 rfl (le_ rfl) (.c (ot rfl) (.leaf (leaf_tree _)) pl_node_2 rfl (le_ rfl) (.c (ot rfl) (.leaf (.val rfl)) pl_node_3 rfl (le_ rfl) (.c (ot rfl) (.leaf (.val rfl)) pl_node_4 rfl (le_ rfl) (.c (ot rfl) (.leaf (.val rfl)) pl_node_5 rfl (le_ rfl) .n))))))) ?_
  refine RG.op (boxi (ot rfl) (.agg _)) ?_
  refine RG.op (asg (ot rfl)) ?_
  refine RG.fin HM (by kernel_rfl) ?_
  show WL _ _ _ _ _ _ _ _ _
  refine WL.nl (.thn ?_)
  exact WP.rt (.r1 rfl rfl (imp_eq rfl))
theorem c_x_balance {l r : Tr} {a n s : Int} (h : Bd (l.list ++ ⟨a, n, s⟩ :: r.list)) : PureC Tryz.prog 158 [tree l, agg [I a, I n, I s], tree r] (tree (bal l ⟨a, n, s⟩ r)) := by
  obtain ⟨hl, hx, hr⟩ := h.mid
  have hx : 0 ≤ n ∧ n ≤ 65536 := hx
  have kl := hl.tr
  have kr := hr.tr
  refine PureC.of_wp Tryz.func158 (by kernel_rfl) rfl Tryz.ntmps158 (le_ rfl) (fun w0 M0 => ?_)
  refine WP.seq ?_
  refine WP.region ?_
  refine WL.box (ot rfl) (.agg _) (by decide) fun b4 => ?_
  refine WL.op (asg (oc _)) (by decide) ?_
  refine WL.nl (.thn ?_)
  refine WP.seq ?_
  refine WP.block ?_
  refine WP.seq ?_
  refine WP.region ?_
  refine WL.op (mv (ot rfl)) (by decide) ?_
  refine WL.op (call c_n_deep (.c (ot rfl) .n)) (by decide) ?_
  refine WL.op (mv (ot rfl)) (by decide) ?_
  refine WL.op (call c_n_deep (.c (ot rfl) .n)) (by decide) ?_
  refine WL.op (add (ot rfl) (oc _) (by omega)) (by decide) ?_
  refine WL.op (gtr (ot rfl) (ot rfl)) (by decide) ?_
  refine WL.op (asg (ot rfl)) (by decide) ?_
  refine WL.nl (.thn ?_)
  refine WP.cond rfl (fun hc => ?_) (fun hc => ?_)
  · skip
    have h1 := of_decide_eq_true hc
    obtain ⟨ll, lx, lr, rfl⟩ := depth_pos_iff l (by omega)
    obtain ⟨hll, hlx, hlr⟩ := hl.node
    have kll := hll.tr
    have klr := hlr.tr
    refine WP.seq ?_
    refine WP.seq ?_
    refine WP.draws ?_
    refine RG.op (mv (ot rfl)) ?_
    refine RG.op (nc (ot rfl)) ?_
    refine RG.op (fa fo_node_1 (ot rfl)) ?_
    refine RG.op (ld sc_p_extree_node (ot rfl)) ?_
    refine RG.op (call c_n_deep (.c (ot rfl) .n)) ?_
    refine RG.op (mv (ot rfl)) ?_
    refine RG.op (nc (ot rfl)) ?_
    refine RG.op (fa fo_node_2 (ot rfl)) ?_
    refine RG.op (ld sc_p_extree_node (ot rfl)) ?_
    refine RG.op (call c_n_deep (.c (ot rfl) .n)) ?_
    refine RG.op (geq (ot rfl) (ot rfl)) ?_
    refine RG.fin HM (by kernel_rfl) ?_
    show WL _ _ _ _ _ _ _ _ _
    refine WL.nl (.thn ?_)
    refine WP.cond rfl (fun hc => ?_) (fun hc => ?_)
    · skip
      have h2 := of_decide_eq_true hc
      refine WP.seq ?_
      refine WP.draws ?_
      refine RG.op (mv (ot rfl)) ?_
      refine RG.op (nc (ot rfl)) ?_
      refine RG.op (fa fo_node_1 (ot rfl)) ?_
      refine RG.op (ld sc_p_extree_node (ot rfl)) ?_
      refine RG.op (mv (ot rfl)) ?_
      refine RG.op (nc (ot rfl)) ?_
      refine RG.op (fa fo_node_0 (ot rfl)) ?_
      refine RG.op (ls ag_Extent (ot rfl) (le_ rfl)) ?_
      refine RG.op (mv (ot rfl)) ?_
      refine RG.op (nc (ot rfl)) ?_
      refine RG.op (fa fo_node_2 (ot rfl)) ?_
      refine RG.op (ld sc_p_extree_node (ot rfl)) ?_
      refine RG.op (lbs 0 rfl ag_Extent (ot rfl) (le_ rfl)) ?_
      refine RG.op (mv (ot rfl)) ?_
      refine RG.op (call (c_x_build (by simp only [Sz, Tr.depth, Tr.count, Tr.blocks]; omega)) (.c (ot rfl) (.c (ot rfl) (.c (ot rfl) .n)))) ?_
      refine RG.op (call (c_x_build (by simp only [Sz, Tr.depth, Tr.count, Tr.blocks]; omega)) (.c (ot rfl) (.c (ot rfl) (.c (ot rfl) .n)))) ?_
      refine RG.op (asg (ot rfl)) ?_
      refine RG.fin HM (by kernel_rfl) ?_
      show WL _ _ _ _ _ _ _ _ _
      refine WL.nl (.thn ?_)
      exact WP.rt (.rthn (.rblk (.rthn (.r1 rfl rfl (imp_eq (congrArg tree (by simp only [bal]; rw [if_pos h1, if_pos h2])))))))
    · skip
      have h2 := of_decide_eq_false hc
      obtain ⟨ml, mx, mr, rfl⟩ := depth_pos_iff lr (by omega)
      obtain ⟨hml, hmx, hmr⟩ := hlr.node
      have kml := hml.tr
      have kmr := hmr.tr
      refine WP.sk (.thn ?_)
      refine WP.seq ?_
      refine WP.region ?_
      refine WL.op (mv (ot rfl)) (by decide) ?_
      refine WL.op (nc (ot rfl)) (by decide) ?_
      refine WL.op (fa fo_node_2 (ot rfl)) (by decide) ?_
      refine WL.op (ld sc_p_extree_node (ot rfl)) (by decide) ?_
      refine WL.op (asg (ot rfl)) (by decide) ?_
      refine WL.nl (.thn ?_)
      refine WP.seq ?_
      refine WP.draws ?_
      refine RG.op (mv (ot rfl)) ?_
      refine RG.op (nc (ot rfl)) ?_
      refine RG.op (fa fo_node_1 (ot rfl)) ?_
      refine RG.op (ld sc_p_extree_node (ot rfl)) ?_
      refine RG.op (mv (ot rfl)) ?_
      refine RG.op (nc (ot rfl)) ?_
      refine RG.op (fa fo_node_0 (ot rfl)) ?_
      refine RG.op (ls ag_Extent (ot rfl) (le_ rfl)) ?_
      refine RG.op (mv (ot rfl)) ?_
      refine RG.op (nc (ot rfl)) ?_
      refine RG.op (fa fo_node_1 (ot rfl)) ?_
      refine RG.op (ld sc_p_extree_node (ot rfl)) ?_
      refine RG.op (call (c_x_build (by simp only [Sz, Tr.depth, Tr.count, Tr.blocks]; omega)) (.c (ot rfl) (.c (ot rfl) (.c (ot rfl) .n)))) ?_
      refine RG.op (mv (ot rfl)) ?_
      refine RG.op (nc (ot rfl)) ?_
      refine RG.op (fa fo_node_0 (ot rfl)) ?_
      refine RG.op (ls ag_Extent (ot rfl) (le_ rfl)) ?_
      refine RG.op (mv (ot rfl)) ?_
      refine RG.op (nc (ot rfl)) ?_
      refine RG.op (fa fo_node_2 (ot rfl)) ?_
      refine RG.op (ld sc_p_extree_node (ot rfl)) ?_
      refine RG.op (lbs 0 rfl ag_Extent (ot rfl) (le_ rfl)) ?_
      refine RG.op (mv (ot rfl)) ?_
      refine RG.op (call (c_x_build (by simp only [Sz, Tr.depth, Tr.count, Tr.blocks]; omega)) (.c (ot rfl) (.c (ot rfl) (.c (ot rfl) .n)))) ?_
      refine RG.op (call (c_x_build (by simp only [Sz, Tr.depth, Tr.count, Tr.blocks]; omega)) (.c (ot rfl) (.c (ot rfl) (.c (ot rfl) .n)))) ?_
      refine RG.op (asg (ot rfl)) ?_
      refine RG.fin HM (by kernel_rfl) ?_
      show WL _ _ _ _ _ _ _ _ _
      refine WL.nl (.thn ?_)
      exact WP.rt (.rblk (.rthn (.r1 rfl rfl (imp_eq (congrArg tree (by simp only [bal]; rw [if_pos h1, if_neg (by omega)]))))))
  · skip
    have h0 := of_decide_eq_false hc
    refine WP.seq ?_
    refine WP.region ?_
    refine WL.op (mv (ot rfl)) (by decide) ?_
    refine WL.op (call c_n_deep (.c (ot rfl) .n)) (by decide) ?_
    refine WL.op (mv (ot rfl)) (by decide) ?_
    refine WL.op (call c_n_deep (.c (ot rfl) .n)) (by decide) ?_
    refine WL.op (add (ot rfl) (oc _) (by omega)) (by decide) ?_
    refine WL.op (gtr (ot rfl) (ot rfl)) (by decide) ?_
    refine WL.op (asg (ot rfl)) (by decide) ?_
    refine WL.nl (.thn ?_)
    refine WP.cond rfl (fun hc => ?_) (fun hc => ?_)
    · skip
      have h1 := of_decide_eq_true hc
      obtain ⟨rl, rx, rr, rfl⟩ := depth_pos_iff r (by omega)
      obtain ⟨hrl, hrx, hrr⟩ := hr.node
      have krl := hrl.tr
      have krr := hrr.tr
      refine WP.seq ?_
      refine WP.seq ?_
      refine WP.draws ?_
      refine RG.op (mv (ot rfl)) ?_
      refine RG.op (nc (ot rfl)) ?_
      refine RG.op (fa fo_node_2 (ot rfl)) ?_
      refine RG.op (ld sc_p_extree_node (ot rfl)) ?_
      refine RG.op (call c_n_deep (.c (ot rfl) .n)) ?_
      refine RG.op (mv (ot rfl)) ?_
      refine RG.op (nc (ot rfl)) ?_
      refine RG.op (fa fo_node_1 (ot rfl)) ?_
      refine RG.op (ld sc_p_extree_node (ot rfl)) ?_
      refine RG.op (call c_n_deep (.c (ot rfl) .n)) ?_
      refine RG.op (geq (ot rfl) (ot rfl)) ?_
      refine RG.fin HM (by kernel_rfl) ?_
      show WL _ _ _ _ _ _ _ _ _
      refine WL.nl (.thn ?_)
      refine WP.cond rfl (fun hc => ?_) (fun hc => ?_)
      · skip
        have h2 := of_decide_eq_true hc
        refine WP.seq ?_
        refine WP.draws ?_
        refine RG.op (mv (ot rfl)) ?_
        refine RG.op (lbs 0 rfl ag_Extent (ot rfl) (le_ rfl)) ?_
        refine RG.op (mv (ot rfl)) ?_
        refine RG.op (nc (ot rfl)) ?_
        refine RG.op (fa fo_node_1 (ot rfl)) ?_
        refine RG.op (ld sc_p_extree_node (ot rfl)) ?_
        refine RG.op (call (c_x_build (by simp only [Sz, Tr.depth, Tr.count, Tr.blocks]; omega)) (.c (ot rfl) (.c (ot rfl) (.c (ot rfl) .n)))) ?_
        refine RG.op (mv (ot rfl)) ?_
        refine RG.op (nc (ot rfl)) ?_
        refine RG.op (fa fo_node_0 (ot rfl)) ?_
        refine RG.op (ls ag_Extent (ot rfl) (le_ rfl)) ?_
        refine RG.op (mv (ot rfl)) ?_
        refine RG.op (nc (ot rfl)) ?_
        refine RG.op (fa fo_node_2 (ot rfl)) ?_
        refine RG.op (ld sc_p_extree_node (ot rfl)) ?_
        refine RG.op (call (c_x_build (by simp only [Sz, Tr.depth, Tr.count, Tr.blocks]; omega)) (.c (ot rfl) (.c (ot rfl) (.c (ot rfl) .n)))) ?_
        refine RG.op (asg (ot rfl)) ?_
        refine RG.fin HM (by kernel_rfl) ?_
        show WL _ _ _ _ _ _ _ _ _
        refine WL.nl (.thn ?_)
        exact WP.rt (.rthn (.rblk (.rthn (.r1 rfl rfl (imp_eq (congrArg tree (by simp only [bal]; rw [if_neg (by omega), if_pos h1, if_pos h2])))))))
      · skip
        have h2 := of_decide_eq_false hc
        obtain ⟨ml, mx, mr, rfl⟩ := depth_pos_iff rl (by omega)
        obtain ⟨hml, hmx, hmr⟩ := hrl.node
        have kml := hml.tr
        have kmr := hmr.tr
        refine WP.sk (.thn ?_)
        refine WP.seq ?_
        refine WP.region ?_
        refine WL.op (mv (ot rfl)) (by decide) ?_
        refine WL.op (nc (ot rfl)) (by decide) ?_
        refine WL.op (fa fo_node_1 (ot rfl)) (by decide) ?_
        refine WL.op (ld sc_p_extree_node (ot rfl)) (by decide) ?_
        refine WL.op (asg (ot rfl)) (by decide) ?_
        refine WL.nl (.thn ?_)
        refine WP.seq ?_
        refine WP.draws ?_
        refine RG.op (mv (ot rfl)) ?_
        refine RG.op (lbs 0 rfl ag_Extent (ot rfl) (le_ rfl)) ?_
        refine RG.op (mv (ot rfl)) ?_
        refine RG.op (nc (ot rfl)) ?_
        refine RG.op (fa fo_node_1 (ot rfl)) ?_
        refine RG.op (ld sc_p_extree_node (ot rfl)) ?_
        refine RG.op (call (c_x_build (by simp only [Sz, Tr.depth, Tr.count, Tr.blocks]; omega)) (.c (ot rfl) (.c (ot rfl) (.c (ot rfl) .n)))) ?_
        refine RG.op (mv (ot rfl)) ?_
        refine RG.op (nc (ot rfl)) ?_
        refine RG.op (fa fo_node_0 (ot rfl)) ?_
        refine RG.op (ls ag_Extent (ot rfl) (le_ rfl)) ?_
        refine RG.op (mv (ot rfl)) ?_
        refine RG.op (nc (ot rfl)) ?_
        refine RG.op (fa fo_node_2 (ot rfl)) ?_
        refine RG.op (ld sc_p_extree_node (ot rfl)) ?_
        refine RG.op (mv (ot rfl)) ?_
        refine RG.op (nc (ot rfl)) ?_
        refine RG.op (fa fo_node_0 (ot rfl)) ?_
        refine RG.op (ls ag_Extent (ot rfl) (le_ rfl)) ?_
        refine RG.op (mv (ot rfl)) ?_
        refine RG.op (nc (ot rfl)) ?_
        refine RG.op (fa fo_node_2 (ot rfl)) ?_
        refine RG.op (ld sc_p_extree_node (ot rfl)) ?_
        refine RG.op (call (c_x_build (by simp only [Sz, Tr.depth, Tr.count, Tr.blocks]; omega)) (.c (ot rfl) (.c (ot rfl) (.c (ot rfl) .n)))) ?_
        refine RG.op (call (c_x_build (by simp only [Sz, Tr.depth, Tr.count, Tr.blocks]; omega)) (.c (ot rfl) (.c (ot rfl) (.c (ot rfl) .n)))) ?_
        refine RG.op (asg (ot rfl)) ?_
        refine RG.fin HM (by kernel_rfl) ?_
        show WL _ _ _ _ _ _ _ _ _
        refine WL.nl (.thn ?_)
        exact WP.rt (.rblk (.rthn (.r1 rfl rfl (imp_eq (congrArg tree (by simp only [bal]; rw [if_neg (by omega), if_pos h1, if_neg (by omega)]))))))
    · skip
      have h00 := of_decide_eq_false hc
      refine WP.sk (.blk (.thn ?_))
      refine WP.seq ?_
      refine WP.region ?_
      refine WL.op (mv (ot rfl)) (by decide) ?_
      refine WL.op (lbs 0 rfl ag_Extent (ot rfl) (le_ rfl)) (by decide) ?_
      refine WL.op (mv (ot rfl)) (by decide) ?_
      refine WL.op (call (c_x_build (by simp only [Sz, Tr.depth, Tr.count, Tr.blocks]; omega)) (.c (ot rfl) (.c (ot rfl) (.c (ot rfl) .n)))) (by decide) ?_
      refine WL.op (asg (ot rfl)) (by decide) ?_
      refine WL.nl (.thn ?_)
      exact WP.rt (.r1 rfl rfl (imp_eq (congrArg tree (by simp only [bal]; rw [if_neg (by omega), if_neg (by omega)]))))
theorem c_x_join_0 {a n s : Int} (h : Bd (Tr.nil.list ++ ⟨a, n, s⟩ :: Tr.nil.list)) : PureC Tryz.prog 130 [tree .nil, agg [I a, I n, I s], tree .nil] (tree (join .nil ⟨a, n, s⟩ .nil)) := by
  have hx : 0 ≤ n ∧ n ≤ 65536 := h.mid.2.1
  refine PureC.of_wp Tryz.func130 (by kernel_rfl) rfl Tryz.ntmps130 (le_ rfl) (fun w0 M0 => ?_)
  refine WP.seq ?_
  refine WP.region ?_
  refine WL.box (ot rfl) (.agg _) (by decide) fun b4 => ?_
  refine WL.op (asg (oc _)) (by decide) ?_
  refine WL.nl (.thn ?_)
  refine WP.seq ?_
  refine WP.block ?_
  refine WP.seq ?_
  refine WP.region ?_
  refine WL.op (mv (ot rfl)) (by decide) ?_
  refine WL.op (call (c_n_deep (t := .nil)) (.c (ot rfl) .n)) (by decide) ?_
  refine WL.op (mv (ot rfl)) (by decide) ?_
  refine WL.op (call (c_n_deep (t := .nil)) (.c (ot rfl) .n)) (by decide) ?_
  refine WL.op (add (ot rfl) (oc _) (by simp only [Tr.depth]; omega)) (by decide) ?_
  refine WL.op (gtr (ot rfl) (ot rfl)) (by decide) ?_
  refine WL.op (asg (ot rfl)) (by decide) ?_
  refine WL.nl (.thn ?_)
  refine WP.cond rfl (fun hc => ?_) (fun hc => ?_)
  · skip
    exact absurd (of_decide_eq_true hc) (by simp [Tr.depth])
  · skip
    refine WP.seq ?_
    refine WP.region ?_
    refine WL.op (mv (ot rfl)) (by decide) ?_
    refine WL.op (call (c_n_deep (t := .nil)) (.c (ot rfl) .n)) (by decide) ?_
    refine WL.op (mv (ot rfl)) (by decide) ?_
    refine WL.op (call (c_n_deep (t := .nil)) (.c (ot rfl) .n)) (by decide) ?_
    refine WL.op (add (ot rfl) (oc _) (by simp only [Tr.depth]; omega)) (by decide) ?_
    refine WL.op (gtr (ot rfl) (ot rfl)) (by decide) ?_
    refine WL.op (asg (ot rfl)) (by decide) ?_
    refine WL.nl (.thn ?_)
    refine WP.cond rfl (fun hc => ?_) (fun hc => ?_)
    · skip
      exact absurd (of_decide_eq_true hc) (by simp [Tr.depth])
    · skip
      refine WP.sk (.blk (.thn ?_))
      refine WP.seq ?_
      refine WP.region ?_
      refine WL.op (mv (ot rfl)) (by decide) ?_
      refine WL.op (lbs 0 rfl ag_Extent (ot rfl) (le_ rfl)) (by decide) ?_
      refine WL.op (mv (ot rfl)) (by decide) ?_
      refine WL.op (call (c_x_build (by simp only [Sz, Tr.depth, Tr.count, Tr.blocks]; omega)) (.c (ot rfl) (.c (ot rfl) (.c (ot rfl) .n)))) (by decide) ?_
      refine WL.op (asg (ot rfl)) (by decide) ?_
      refine WL.nl (.thn ?_)
      exact WP.rt (.r1 rfl rfl (imp_eq (congrArg tree (join_n (by simp [Tr.depth]) (by simp [Tr.depth])).symm)))
theorem c_x_join_k (k : Nat) : ∀ (l r : Tr) (a n s : Int), l.size + r.size ≤ k → l.Bal → r.Bal → Bd (l.list ++ ⟨a, n, s⟩ :: r.list) → PureC Tryz.prog 130 [tree l, agg [I a, I n, I s], tree r] (tree (join l ⟨a, n, s⟩ r)) := by
  induction k with
  | zero =>
    intro l r a n s hk bl br h
    cases l with
    | node => simp [Tr.size] at hk
    | nil => cases r with
      | node => simp [Tr.size] at hk
      | nil => exact c_x_join_0 h
  | succ k ih =>
  intro l r a n s hk bl br h
  obtain ⟨hl, hx, hr⟩ := h.mid
  have hx : 0 ≤ n ∧ n ≤ 65536 := hx
  have kl := hl.tr
  have kr := hr.tr
  refine PureC.of_wp Tryz.func130 (by kernel_rfl) rfl Tryz.ntmps130 (le_ rfl) (fun w0 M0 => ?_)
  refine WP.seq ?_
  refine WP.region ?_
  refine WL.box (ot rfl) (.agg _) (by decide) fun b4 => ?_
  refine WL.op (asg (oc _)) (by decide) ?_
  refine WL.nl (.thn ?_)
  refine WP.seq ?_
  refine WP.block ?_
  refine WP.seq ?_
  refine WP.region ?_
  refine WL.op (mv (ot rfl)) (by decide) ?_
  refine WL.op (call c_n_deep (.c (ot rfl) .n)) (by decide) ?_
  refine WL.op (mv (ot rfl)) (by decide) ?_
  refine WL.op (call c_n_deep (.c (ot rfl) .n)) (by decide) ?_
  refine WL.op (add (ot rfl) (oc _) (by omega)) (by decide) ?_
  refine WL.op (gtr (ot rfl) (ot rfl)) (by decide) ?_
  refine WL.op (asg (ot rfl)) (by decide) ?_
  refine WL.nl (.thn ?_)
  refine WP.cond rfl (fun hc => ?_) (fun hc => ?_)
  · skip
    have h1' := of_decide_eq_true hc
    obtain ⟨ll, lx, lr, rfl⟩ := depth_pos_iff l (by omega)
    have h2 : Bd (ll.list ++ lx :: (lr.list ++ ⟨a, n, s⟩ :: r.list)) := by simpa [Tr.list] using h
    have h1 := h2.mid.2.2
    obtain ⟨hll, hlx, hlr⟩ := hl.node
    have kll := hll.tr
    have klr := hlr.tr
    refine WP.seq ?_
    refine WP.draws ?_
    refine RG.op (mv (ot rfl)) ?_
    refine RG.op (nc (ot rfl)) ?_
    refine RG.op (fa fo_node_1 (ot rfl)) ?_
    refine RG.op (ld sc_p_extree_node (ot rfl)) ?_
    refine RG.op (mv (ot rfl)) ?_
    refine RG.op (nc (ot rfl)) ?_
    refine RG.op (fa fo_node_0 (ot rfl)) ?_
    refine RG.op (ls ag_Extent (ot rfl) (le_ rfl)) ?_
    refine RG.op (mv (ot rfl)) ?_
    refine RG.op (nc (ot rfl)) ?_
    refine RG.op (fa fo_node_2 (ot rfl)) ?_
    refine RG.op (ld sc_p_extree_node (ot rfl)) ?_
    refine RG.op (lbs 0 rfl ag_Extent (ot rfl) (le_ rfl)) ?_
    refine RG.op (mv (ot rfl)) ?_
    refine RG.op (call (ih _ _ _ _ _ (by simp only [Tr.size] at hk; omega) bl.2.1 br h1) (.c (ot rfl) (.c (ot rfl) (.c (ot rfl) .n)))) ?_
    refine RG.op (call (c_x_balance (by rw [join_list bl.2.1 br]; exact h2)) (.c (ot rfl) (.c (ot rfl) (.c (ot rfl) .n)))) ?_
    refine RG.op (asg (ot rfl)) ?_
    refine RG.fin HM (by kernel_rfl) ?_
    show WL _ _ _ _ _ _ _ _ _
    refine WL.nl (.thn ?_)
    exact WP.rt (.rblk (.rthn (.r1 rfl rfl (imp_eq (congrArg tree (join_l h1').symm)))))
  · skip
    have h0 := of_decide_eq_false hc
    refine WP.seq ?_
    refine WP.region ?_
    refine WL.op (mv (ot rfl)) (by decide) ?_
    refine WL.op (call c_n_deep (.c (ot rfl) .n)) (by decide) ?_
    refine WL.op (mv (ot rfl)) (by decide) ?_
    refine WL.op (call c_n_deep (.c (ot rfl) .n)) (by decide) ?_
    refine WL.op (add (ot rfl) (oc _) (by omega)) (by decide) ?_
    refine WL.op (gtr (ot rfl) (ot rfl)) (by decide) ?_
    refine WL.op (asg (ot rfl)) (by decide) ?_
    refine WL.nl (.thn ?_)
    refine WP.cond rfl (fun hc => ?_) (fun hc => ?_)
    · skip
      have h1' := of_decide_eq_true hc
      obtain ⟨rl, rx, rr, rfl⟩ := depth_pos_iff r (by omega)
      have h2 : Bd ((l.list ++ ⟨a, n, s⟩ :: rl.list) ++ rx :: rr.list) := by simpa [Tr.list] using h
      have h1 := h2.mid.1
      obtain ⟨hrl, hrx, hrr⟩ := hr.node
      have krl := hrl.tr
      have krr := hrr.tr
      refine WP.seq ?_
      refine WP.draws ?_
      refine RG.op (mv (ot rfl)) ?_
      refine RG.op (lbs 0 rfl ag_Extent (ot rfl) (le_ rfl)) ?_
      refine RG.op (mv (ot rfl)) ?_
      refine RG.op (nc (ot rfl)) ?_
      refine RG.op (fa fo_node_1 (ot rfl)) ?_
      refine RG.op (ld sc_p_extree_node (ot rfl)) ?_
      refine RG.op (call (ih _ _ _ _ _ (by simp only [Tr.size] at hk; omega) bl br.1 h1) (.c (ot rfl) (.c (ot rfl) (.c (ot rfl) .n)))) ?_
      refine RG.op (mv (ot rfl)) ?_
      refine RG.op (nc (ot rfl)) ?_
      refine RG.op (fa fo_node_0 (ot rfl)) ?_
      refine RG.op (ls ag_Extent (ot rfl) (le_ rfl)) ?_
      refine RG.op (mv (ot rfl)) ?_
      refine RG.op (nc (ot rfl)) ?_
      refine RG.op (fa fo_node_2 (ot rfl)) ?_
      refine RG.op (ld sc_p_extree_node (ot rfl)) ?_
      refine RG.op (call (c_x_balance (by rw [join_list bl br.1]; exact h2)) (.c (ot rfl) (.c (ot rfl) (.c (ot rfl) .n)))) ?_
      refine RG.op (asg (ot rfl)) ?_
      refine RG.fin HM (by kernel_rfl) ?_
      show WL _ _ _ _ _ _ _ _ _
      refine WL.nl (.thn ?_)
      exact WP.rt (.rblk (.rthn (.r1 rfl rfl (imp_eq (congrArg tree (join_r (by omega) h1').symm)))))
    · skip
      have h00 := of_decide_eq_false hc
      refine WP.sk (.blk (.thn ?_))
      refine WP.seq ?_
      refine WP.region ?_
      refine WL.op (mv (ot rfl)) (by decide) ?_
      refine WL.op (lbs 0 rfl ag_Extent (ot rfl) (le_ rfl)) (by decide) ?_
      refine WL.op (mv (ot rfl)) (by decide) ?_
      refine WL.op (call (c_x_build (by simp only [Sz, Tr.depth, Tr.count, Tr.blocks]; omega)) (.c (ot rfl) (.c (ot rfl) (.c (ot rfl) .n)))) (by decide) ?_
      refine WL.op (asg (ot rfl)) (by decide) ?_
      refine WL.nl (.thn ?_)
      exact WP.rt (.r1 rfl rfl (imp_eq (congrArg tree (join_n (by omega) (by omega)).symm)))
theorem c_x_join {l r : Tr} {a n s : Int} (bl : l.Bal) (br : r.Bal) (h : Bd (l.list ++ ⟨a, n, s⟩ :: r.list)) : PureC Tryz.prog 130 [tree l, agg [I a, I n, I s], tree r] (tree (join l ⟨a, n, s⟩ r)) := c_x_join_k _ l r a n s (Nat.le_refl _) bl br h
end Go.Proofs.YtjglgfnhgehpeaaGreat

/- Steps of the scripts on trees. -/
set_option linter.unusedVariables false
namespace Go.Proofs.YtjglgfnhgehpeaaGreat
open Go.RowKit Go.Fw Go.Xt
/-- a step of a script -/
structure Sp where
  c : Bool
  a : Int
  n : Int
  s : Int
deriving Inhabited
def FS (x : Sp) : List Rp := [val (.bool x.c), val (.int .u8 x.a), val (.int .u8 x.n), val (.int .u8 x.s)]
def U8 (x : Sp) : Prop := 0 ≤ x.a ∧ x.a ≤ 255 ∧ 0 ≤ x.n ∧ x.n ≤ 255 ∧ 0 ≤ x.s ∧ x.s ≤ 255
theorem getD_all {α : Type} [Inhabited α] {p : α → Prop} {xs : List α} (h : ∀ x ∈ xs, p x) {i : Nat} (hi : i < xs.length) : p (xs.getD ((i : Nat) : Int).toNat default) := by
  have e : ((i : Nat) : Int).toNat = i := by omega
  rw [e, List.getD_eq_getElem?_getD, List.getElem?_eq_getElem hi]
  exact h _ (List.getElem_mem hi)

end Go.Proofs.YtjglgfnhgehpeaaGreat

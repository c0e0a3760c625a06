/- A step, of a list and of a tree, plainly. -/
import Derived.Test.YtjglgfnhgehpeaaRefP
import Derived.Test.YtjglgfnhgehpeaaExt
namespace Go.Xt
open Go.Proofs.Ytjglgfnhgehpeaa
def rCut (L : List X) (a n : Int) : List X × List X × Int := if Wi a n 65536 then (rcut L a n, Jn (parts L a (a + n)), 0) else ([], [], 1)
def rPut (L : List X) (x : X) : List X × List X × Int := if Pr x then (rput L x, Jn (parts L x.a (x.a + x.n)), 0) else ([], [], 1)
def tCut (t : Tr) (a n : Int) : Tr × List X × Int := if Wi a n 65536 then (if n = 0 then (t, [], 0) else ((cut t a n).1, (cut t a n).2.list, 0)) else (.nil, [], 1)
def tPut (t : Tr) (x : X) : Tr × List X × Int := if Pr x then ((put t x).1, (put t x).2.list, 0) else (.nil, [], 1)
/-- a tree does what its list does -/
structure Like (t : Tr × List X × Int) (r : List X × List X × Int) : Prop where
  e : t.2.2 = r.2.2
  part : t.2.1 = r.2.1
  list : t.1.list = r.1
  wt : Wt t.1
theorem wt_nil' : Wt .nil := ⟨trivial, trivial, trivial⟩
theorem parts_none {L : List X} {a : Int} : parts L a a = [] := by
  unfold parts
  rw [List.filterMap_eq_nil_iff]
  intro x _
  unfold part
  rw [if_neg (by omega)]
theorem like_cut {t : Tr} (h : Wt t) (a n : Int) : Like (tCut t a n) (rCut t.list a n) := by
  unfold tCut rCut
  split
  · rename_i hw
    obtain ⟨w1, w2, w3, w4⟩ := hw
    split
    · rename_i h0
      subst h0
      refine ⟨rfl, by rw [Int.add_zero, parts_none]; rfl, ?_, h⟩
      obtain ⟨j1, j2, j3⟩ := jn_spec (ok_rcut h.2.1 w1 (Int.le_refl 0))
      refine nf_unique _ _ 0 0 h.2.1 j1 h.2.2 j2 fun b => ?_
      show sem t.list b = sem (rcut t.list a 0) b
      unfold rcut
      rw [j3, sem_append, sem_parts, sem_parts, Int.add_zero]
      by_cases q1 : 0 ≤ b ∧ b < a
      · rw [if_pos q1]; cases sem t.list b with
        | none => rw [if_neg (by omega)]; rfl
        | some _ => rfl
      · rw [if_neg q1]
        by_cases q2 : a ≤ b ∧ b < 65536
        · rw [if_pos q2]; rfl
        · rw [if_neg q2]
          by_cases q3 : b < 0
          · rw [sem_lt h.2.1 q3]; rfl
          · rw [sem_ge h.2.1 (by omega)]; rfl
    · rename_i h0
      obtain ⟨e1, e2⟩ := cut_ref h w1 (show 1 ≤ n by omega)
      exact ⟨rfl, e2, e1, (cut_spec h w1 (by omega)).1⟩
  · exact ⟨rfl, rfl, rfl, wt_nil'⟩
theorem like_put {t : Tr} (h : Wt t) (x : X) : Like (tPut t x) (rPut t.list x) := by
  unfold tPut rPut
  split
  · rename_i hw
    obtain ⟨h1, ⟨a1, a2, a3, a4⟩, ⟨b1, b2, b3, b4⟩⟩ := hw
    have hx : Vx x := ⟨h1, b1, by omega, by omega⟩
    obtain ⟨e1, e2⟩ := put_ref h a1 hx
    exact ⟨rfl, e2, e1, (put_spec h a1 hx).1⟩
  · exact ⟨rfl, rfl, rfl, wt_nil'⟩
/-- nothing is mapped from so many blocks on -/
def Low (L : List X) : Prop := ∀ b, 600 ≤ b → sem L b = none
theorem low_len : ∀ {L : List X} {lo : Int}, Ok lo L → Low L → lo ≤ 600 → (L.length : Int) ≤ 600 - lo
  | [], lo, _, _, hl => by simp; omega
  | x :: L, lo, ⟨h1, h2, h3, h4, h5, h6⟩, hw, hl => by
    have e : x.a + x.n ≤ 600 := Classical.byContradiction fun hn => by
      have := hw (x.a + x.n - 1) (by omega)
      simp only [sem] at this
      rw [if_pos (by omega)] at this
      cases this
    have := low_len h6 (fun b hb => by
      have := hw b hb
      simp only [sem] at this
      rwa [if_neg (by omega)] at this) e
    simp only [List.length_cons]
    omega
theorem low_cut {t : Tr} (h : Wt t) (hw : Low t.list) (a n : Int) : Low (tCut t a n).1.list := by
  unfold tCut
  split
  · rename_i hw2
    split
    · exact hw
    · rename_i h0
      intro b hb
      rw [(cut_spec h hw2.1 (show 1 ≤ n by have := hw2.2.1; omega)).2.2]
      split
      · rfl
      · exact hw b hb
  · intro b _; rfl
theorem low_put {t : Tr} (h : Wt t) (hw : Low t.list) {x : X} (hx : x.a + x.n ≤ 600) : Low (tPut t x).1.list := by
  unfold tPut
  split
  · rename_i hw2
    obtain ⟨h1, ⟨a1, a2, a3, a4⟩, ⟨b1, b2, b3, b4⟩⟩ := hw2
    intro b hb
    rw [(put_spec h a1 (x := x) ⟨h1, b1, by omega, by omega⟩).2.2.1, if_neg (by omega)]
    exact hw b hb
  · intro b _; rfl
theorem sem_past : ∀ {L : List X} {c b : Int}, (∀ z ∈ L, z.a + z.n ≤ c) → c ≤ b → sem L b = none
  | [], _, _, _, _ => rfl
  | x :: L, c, b, h, hb => by
    have := h x List.mem_cons_self
    simp only [sem]
    rw [if_neg (by omega)]
    exact sem_past (fun z hz => h z (List.mem_cons_of_mem _ hz)) hb
def Tr.isN : Tr → Bool
  | .nil => false
  | .node _ _ _ => true
theorem Tr.of_isN {m : Tr} (h : m.isN = true) : ∃ l x r, m = .node l x r := by
  cases m with
  | nil => cases h
  | node l x r => exact ⟨l, x, r, rfl⟩
/-- a block's slot, as a tree finds it -/
def find : Tr → Int → Option Int
  | .nil, _ => none
  | .node l x r, b => if b < x.a then find l b else if x.a + x.n ≤ b then find r b else some (x.s + b - x.a)
theorem find_sem : ∀ {t : Tr} {lo b : Int}, Ok lo t.list → find t b = sem t.list b
  | .nil, _, _, _ => rfl
  | .node l x r, lo, b, h => by
    have h' : Ok lo (l.list ++ x :: r.list) := h
    have hl : Ok lo l.list := Ok.append_left h'
    have hx : ∀ z ∈ l.list, z.a + z.n ≤ x.a := Ok.ends h'
    have hx1 := h'.starts x (by simp)
    have hr : Ok (x.a + x.n) r.list := (Ok.append_right h').2.2.2.2.2
    show (if b < x.a then find l b else if x.a + x.n ≤ b then find r b else some (x.s + b - x.a)) = sem (l.list ++ x :: r.list) b
    rw [sem_append, find_sem hl, find_sem hr]
    simp only [sem]
    by_cases q1 : b < x.a
    · rw [if_pos q1, if_neg (by omega), sem_lt hr (by omega)]
      cases sem l.list b <;> rfl
    · rw [if_neg q1]
      have e : sem l.list b = none := sem_past hx (by omega)
      rw [e]
      by_cases q2 : x.a + x.n ≤ b
      · rw [if_pos q2, if_neg (by omega)]; rfl
      · rw [if_neg q2, if_pos (by omega)]; rfl
end Go.Xt

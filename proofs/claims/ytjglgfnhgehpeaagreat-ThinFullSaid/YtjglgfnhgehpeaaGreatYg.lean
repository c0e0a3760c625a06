/- Parts: Plain, Put, Jn, RefP, Lay. -/
import Derived.Test.YtjglgfnhgehpeaaGreatProg
import Derived.Test.YtjglgfnhgehpeaaGreatYf
/- Extent lists and trees, plainly: no Go in sight. -/
namespace Go.Xt
structure X where
  a : Int
  n : Int
  s : Int
deriving DecidableEq

inductive Tr where
  | nil
  | node (l : Tr) (x : X) (r : Tr)

namespace Tr
def depth : Tr → Int
  | nil => 0
  | node l _ r => 1 + max l.depth r.depth
def count : Tr → Int
  | nil => 0
  | node l _ r => 1 + l.count + r.count
def blocks : Tr → Int
  | nil => 0
  | node l x r => x.n + l.blocks + r.blocks
def list : Tr → List X
  | nil => []
  | node l x r => l.list ++ x :: r.list
def size : Tr → Nat
  | nil => 0
  | node l _ r => l.size + r.size + 1
def Bal : Tr → Prop
  | nil => True
  | node l _ r => l.Bal ∧ r.Bal ∧ l.depth ≤ r.depth + 1 ∧ r.depth ≤ l.depth + 1
end Tr
open Tr

theorem depth_nn : ∀ t : Tr, 0 ≤ t.depth
  | nil => by simp [depth]
  | node l _ r => by have := depth_nn l; have := depth_nn r; simp only [depth]; omega
theorem depth_pos_iff : ∀ t : Tr, 0 < t.depth → ∃ l x r, t = node l x r
  | nil => by simp [depth]
  | node l x r => fun _ => ⟨l, x, r, rfl⟩

def bal (l : Tr) (x : X) (r : Tr) : Tr :=
  if r.depth + 1 < l.depth then
    match l with
    | node ll lx lr =>
      if lr.depth ≤ ll.depth then node ll lx (node lr x r)
      else match lr with
        | node ml mx mr => node (node ll lx ml) mx (node mr x r)
        | nil => nil
    | nil => nil
  else if l.depth + 1 < r.depth then
    match r with
    | node rl rx rr =>
      if rl.depth ≤ rr.depth then node (node l x rl) rx rr
      else match rl with
        | node ml mx mr => node (node l x ml) mx (node mr rx rr)
        | nil => nil
    | nil => nil
  else node l x r

theorem bal_left {l r : Tr} {x : X} (hl : l.Bal) (hr : r.Bal) (h1 : l.depth ≤ r.depth + 2) (h2 : r.depth ≤ l.depth + 2) :
    (bal l x r).list = l.list ++ x :: r.list ∧ (bal l x r).Bal ∧
      (bal l x r).depth ≤ 1 + max l.depth r.depth ∧ max l.depth r.depth ≤ (bal l x r).depth ∧
      (l.depth ≤ r.depth + 1 → r.depth ≤ l.depth + 1 → (bal l x r).depth = 1 + max l.depth r.depth) := by
  unfold bal
  split
  · rename_i h
    cases l with
    | nil => simp [depth] at h; have := depth_nn r; omega
    | node ll lx lr =>
      obtain ⟨b1, b2, b3, b4⟩ := hl
      simp only [depth] at *
      split
      · refine ⟨by simp [list], ⟨b1, ⟨b2, hr, by omega, by omega⟩, by (try simp only [depth]); omega, by (try simp only [depth]); omega⟩, by (try simp only [depth]); omega, by (try simp only [depth]); omega, by omega⟩
      · cases lr with
        | nil => simp [depth] at *; have := depth_nn ll; omega
        | node ml mx mr =>
          obtain ⟨c1, c2, c3, c4⟩ := b2
          simp only [depth] at *
          refine ⟨by simp [list], ⟨⟨b1, c1, by omega, by omega⟩, ⟨c2, hr, by omega, by omega⟩, by (try simp only [depth]); omega, by (try simp only [depth]); omega⟩, by (try simp only [depth]); omega, by (try simp only [depth]); omega, by omega⟩
  · split
    · rename_i h0 h
      cases r with
      | nil => simp [depth] at h; have := depth_nn l; omega
      | node rl rx rr =>
        obtain ⟨b1, b2, b3, b4⟩ := hr
        simp only [depth] at *
        split
        · refine ⟨by simp [list], ⟨⟨hl, b1, by omega, by omega⟩, b2, by (try simp only [depth]); omega, by (try simp only [depth]); omega⟩, by (try simp only [depth]); omega, by (try simp only [depth]); omega, by omega⟩
        · cases rl with
          | nil => simp [depth] at *; have := depth_nn rr; omega
          | node ml mx mr =>
            obtain ⟨c1, c2, c3, c4⟩ := b1
            simp only [depth] at *
            refine ⟨by simp [list], ⟨⟨hl, c1, by omega, by omega⟩, ⟨c2, b2, by omega, by omega⟩, by (try simp only [depth]); omega, by (try simp only [depth]); omega⟩, by (try simp only [depth]); omega, by (try simp only [depth]); omega, by omega⟩
    · refine ⟨by simp [list], ⟨hl, hr, by omega, by omega⟩, by simp only [depth]; omega, by simp only [depth]; omega, by intros; simp only [depth]⟩

def join (l : Tr) (x : X) (r : Tr) : Tr :=
  if r.depth + 1 < l.depth then
    match l with
    | node ll lx lr => bal ll lx (join lr x r)
    | nil => nil
  else if l.depth + 1 < r.depth then
    match r with
    | node rl rx rr => bal (join l x rl) rx rr
    | nil => nil
  else node l x r
termination_by l.size + r.size
decreasing_by all_goals simp only [Tr.size]; omega

theorem join_spec (k : Nat) : ∀ (l r : Tr) (x : X), l.size + r.size ≤ k → l.Bal → r.Bal →
    (join l x r).list = l.list ++ x :: r.list ∧ (join l x r).Bal ∧
      (join l x r).depth ≤ 1 + max l.depth r.depth ∧ max l.depth r.depth ≤ (join l x r).depth := by
  induction k with
  | zero =>
    intro l r x hk hl hr
    cases l with
    | nil => cases r with
      | nil => unfold join; simp [depth, list, Bal]
      | node => simp [Tr.size] at hk
    | node => simp [Tr.size] at hk
  | succ k ih =>
    intro l r x hk hl hr
    unfold join
    split
    · rename_i h
      cases l with
      | nil => simp [depth] at h; have := depth_nn r; omega
      | node ll lx lr =>
        obtain ⟨b1, b2, b3, b4⟩ := hl
        simp only [Tr.size] at hk
        obtain ⟨i1, i2, i3, i4⟩ := ih lr r x (by omega) b2 hr
        simp only [depth] at *
        obtain ⟨j1, j2, j3, j4, j5⟩ := bal_left (x := lx) b1 i2 (by omega) (by omega)
        refine ⟨by rw [j1, i1]; simp [list], j2, ?_, ?_⟩
        · skip
          by_cases hc : (join lr x r).depth ≤ ll.depth + 1
          · have := j5 (by omega) (by omega); omega
          · omega
        · skip
          by_cases hc : (join lr x r).depth ≤ ll.depth + 1
          · have := j5 (by omega) (by omega); omega
          · omega
    · split
      · rename_i h0 h
        cases r with
        | nil => simp [depth] at h; have := depth_nn l; omega
        | node rl rx rr =>
          obtain ⟨b1, b2, b3, b4⟩ := hr
          simp only [Tr.size] at hk
          obtain ⟨i1, i2, i3, i4⟩ := ih l rl x (by omega) hl b1
          simp only [depth] at *
          obtain ⟨j1, j2, j3, j4, j5⟩ := bal_left (x := rx) i2 b2 (by omega) (by omega)
          refine ⟨by rw [j1, i1]; simp [list], j2, ?_, ?_⟩
          · skip
            by_cases hc : (join l x rl).depth ≤ rr.depth + 1
            · have := j5 (by omega) (by omega); omega
            · omega
          · skip
            by_cases hc : (join l x rl).depth ≤ rr.depth + 1
            · have := j5 (by omega) (by omega); omega
            · omega
      · refine ⟨by simp [list], ⟨hl, hr, by omega, by omega⟩, by (try simp only [depth]); omega, by (try simp only [depth]); omega⟩

theorem bal_nil : Tr.nil.Bal := trivial
theorem join_list {l r : Tr} {x : X} (hl : l.Bal) (hr : r.Bal) : (join l x r).list = l.list ++ x :: r.list := (join_spec _ l r x (Nat.le_refl _) hl hr).1
theorem join_bal {l r : Tr} {x : X} (hl : l.Bal) (hr : r.Bal) : (join l x r).Bal := (join_spec _ l r x (Nat.le_refl _) hl hr).2.1

def first : Tr → X → Tr → X × Tr
  | .nil, x, r => (x, r)
  | .node ll lx lr, x, r => ((first ll lx lr).1, join (first ll lx lr).2 x r)
def last : Tr → X → Tr → X × Tr
  | l, x, .nil => (x, l)
  | l, x, .node rl rx rr => ((last rl rx rr).1, join l x (last rl rx rr).2)
theorem first_spec : ∀ (l : Tr) (x : X) (r : Tr), (Tr.node l x r).Bal → (first l x r).1 :: (first l x r).2.list = (Tr.node l x r).list ∧ (first l x r).2.Bal
  | .nil, x, r => fun h => ⟨by simp [first, list], h.2.1⟩
  | .node ll lx lr, x, r => fun h => by
    obtain ⟨i1, i2⟩ := first_spec ll lx lr h.1
    refine ⟨?_, join_bal i2 h.2.1⟩
    simp only [first]
    rw [join_list i2 h.2.1, list, ← i1]; rfl
theorem last_spec : ∀ (r : Tr) (l : Tr) (x : X), (Tr.node l x r).Bal → (last l x r).2.list ++ [(last l x r).1] = (Tr.node l x r).list ∧ (last l x r).2.Bal
  | .nil, l, x => fun h => ⟨by simp [last, list], h.1⟩
  | .node rl rx rr, l, x => fun h => by
    obtain ⟨i1, i2⟩ := last_spec rr rl rx h.2.1
    refine ⟨?_, join_bal h.1 i2⟩
    simp only [last]
    rw [join_list h.1 i2, list, ← i1]; simp

def concat (l r : Tr) : Tr := match r with
  | .nil => l
  | .node rl rx rr => join l (first rl rx rr).1 (first rl rx rr).2
theorem concat_spec {l r : Tr} (hl : l.Bal) (hr : r.Bal) : (concat l r).list = l.list ++ r.list ∧ (concat l r).Bal := by
  cases r with
  | nil => simp [concat, list, hl]
  | node rl rx rr =>
    obtain ⟨i1, i2⟩ := first_spec rl rx rr hr
    exact ⟨by simp only [concat]; rw [join_list hl i2, i1], join_bal hl i2⟩

def X.head (x : X) (k : Int) : X := ⟨x.a, k, x.s⟩
def X.tail (x : X) (at_ k : Int) : X := ⟨at_, x.n - k, x.s + k⟩

def split : Tr → Int → Tr × Tr
  | .nil, _ => (.nil, .nil)
  | .node l x r, at_ =>
    if at_ ≤ x.a then ((split l at_).1, join (split l at_).2 x r)
    else if x.a + x.n ≤ at_ then (join l x (split r at_).1, (split r at_).2)
    else (join l (x.head (at_ - x.a)) .nil, join .nil (x.tail at_ (at_ - x.a)) r)

def part (x : X) (f t : Int) : Option X :=
  if max x.a f < min (x.a + x.n) t then some ⟨max x.a f, min (x.a + x.n) t - max x.a f, x.s + max x.a f - x.a⟩ else none
def parts (L : List X) (f t : Int) : List X := L.filterMap fun x => part x f t

def Ok : Int → List X → Prop
  | _, [] => True
  | lo, x :: L => lo ≤ x.a ∧ 1 ≤ x.n ∧ 0 ≤ x.s ∧ x.a + x.n ≤ 65536 ∧ x.s + x.n ≤ 65536 ∧ Ok (x.a + x.n) L
theorem Ok.lower {L : List X} {lo lo' : Int} (h : Ok lo L) (hl : lo' ≤ lo) : Ok lo' L := by
  cases L with
  | nil => trivial
  | cons x L => obtain ⟨h1, h2⟩ := h; exact ⟨by omega, h2⟩
theorem Ok.append_right : ∀ {A B : List X} {lo : Int}, Ok lo (A ++ B) → Ok lo B
  | [], _, _, h => h
  | x :: A, _, _, h => by
    obtain ⟨h1, h2, _, _, _, h3⟩ := h
    exact (Ok.append_right h3).lower (by omega)
theorem Ok.append_left : ∀ {A B : List X} {lo : Int}, Ok lo (A ++ B) → Ok lo A
  | [], _, _, _ => trivial
  | x :: A, _, _, h => by
    obtain ⟨h1, h2, h3, h4, h5, h6⟩ := h
    exact ⟨h1, h2, h3, h4, h5, Ok.append_left h6⟩
theorem Ok.ends : ∀ {A : List X} {y : X} {B : List X} {lo : Int}, Ok lo (A ++ y :: B) → ∀ x ∈ A, x.a + x.n ≤ y.a
  | x :: A, y, B, lo, h, z, hz => by
    obtain ⟨h1, h2, h3, h4, h5, h6⟩ := h
    rcases List.mem_cons.1 hz with rfl | hz
    · exact (Ok.append_right h6).1
    · exact Ok.ends h6 z hz
theorem Ok.starts : ∀ {B : List X} {lo : Int}, Ok lo B → ∀ x ∈ B, lo ≤ x.a ∧ 1 ≤ x.n ∧ 0 ≤ x.s ∧ x.a + x.n ≤ 65536 ∧ x.s + x.n ≤ 65536
  | x :: B, lo, h, z, hz => by
    obtain ⟨h1, h2, h3, h4, h5, h6⟩ := h
    rcases List.mem_cons.1 hz with rfl | hz
    · exact ⟨h1, h2, h3, h4, h5⟩
    · have := Ok.starts h6 z hz; exact ⟨by omega, this.2⟩

theorem parts_nil {L : List X} {f t : Int} (h : ∀ x ∈ L, x.a + x.n ≤ f ∨ t ≤ x.a) : parts L f t = [] := by
  unfold parts
  rw [List.filterMap_eq_nil_iff]
  intro x hx
  unfold part
  rw [if_neg (by have := h x hx; omega)]
theorem parts_all {L : List X} {f t : Int} (h : ∀ x ∈ L, f ≤ x.a ∧ x.a + x.n ≤ t ∧ 1 ≤ x.n) : parts L f t = L := by
  induction L with
  | nil => rfl
  | cons x L ih =>
    have hx := h x (by simp)
    have e : part x f t = some x := by
      unfold part
      rw [if_pos (by omega), show max x.a f = x.a from by omega, show min (x.a + x.n) t = x.a + x.n from by omega, show x.a + x.n - x.a = x.n from by omega, show x.s + x.a - x.a = x.s from by omega]
    unfold parts at *
    rw [List.filterMap_cons_some (f := fun x => part x f t) e, ih fun y hy => h y (List.mem_cons_of_mem _ hy)]
theorem parts_append (A B : List X) (f t : Int) : parts (A ++ B) f t = parts A f t ++ parts B f t := List.filterMap_append
theorem parts_cons (x : X) (B : List X) (f t : Int) : parts (x :: B) f t = parts [x] f t ++ parts B f t := parts_append [x] B f t

theorem parts_mid (A : List X) (x : X) (B : List X) (f t : Int) : parts (A ++ x :: B) f t = parts A f t ++ (parts [x] f t ++ parts B f t) := by
  rw [parts_append, ← parts_cons]

theorem split_spec : ∀ (t : Tr) (at_ : Int), t.Bal → Ok 0 t.list →
    (split t at_).1.list = parts t.list 0 at_ ∧ (split t at_).2.list = parts t.list at_ 65536 ∧ (split t at_).1.Bal ∧ (split t at_).2.Bal
  | .nil, at_ => fun _ _ => by simp [split, list, parts, Bal]
  | .node l x r, at_ => fun hb ho => by
    obtain ⟨b1, b2, b3, b4⟩ := hb
    simp only [list] at ho ⊢
    have oL := ho.append_left
    have oX := ho.append_right
    have oR : Ok (x.a + x.n) r.list := oX.2.2.2.2.2
    have eL := ho.ends
    have sL := oL.starts
    have sR := oR.starts
    obtain ⟨x1, x2, x3, x4, x5, _⟩ := oX
    unfold split
    rw [parts_mid, parts_mid]
    split
    · rename_i h
      obtain ⟨i1, i2, i3, i4⟩ := split_spec l at_ b1 oL
      refine ⟨?_, ?_, i3, join_bal i4 b2⟩
      · rw [parts_nil (L := [x]) (by simp; omega), parts_nil (L := r.list) (fun y hy => by have := sR y hy; omega)]
        simpa using i1
      · rw [join_list i4 b2, i2, parts_all (L := [x]) (by simp; omega), parts_all (L := r.list) (fun y hy => by have := sR y hy; omega)]
        simp
    · split
      · obtain ⟨i1, i2, i3, i4⟩ := split_spec r at_ b2 (oR.lower (by omega))
        refine ⟨?_, ?_, join_bal b1 i3, i4⟩
        · rw [join_list b1 i3, i1, parts_all (L := l.list) (fun y hy => by have := eL y hy; have := sL y hy; omega), parts_all (L := [x]) (by simp; omega)]
          simp
        · rw [parts_nil (L := l.list) (fun y hy => by have := eL y hy; omega), parts_nil (L := [x]) (by simp; omega)]
          simpa using i2
      · rename_i h1 h2
        refine ⟨?_, ?_, join_bal b1 bal_nil, join_bal bal_nil b2⟩
        · rw [join_list b1 bal_nil, parts_all (L := l.list) (fun y hy => by have := eL y hy; have := sL y hy; omega), parts_nil (L := r.list) (fun y hy => by have := sR y hy; omega)]
          simp only [parts, part, list, List.filterMap_cons, List.filterMap_nil, X.head]
          rw [if_pos (by omega), show max x.a 0 = x.a from by omega, show min (x.a + x.n) at_ = at_ from by omega, show x.s + x.a - x.a = x.s from by omega]
          simp
        · rw [join_list bal_nil b2, parts_nil (L := l.list) (fun y hy => by have := eL y hy; omega), parts_all (L := r.list) (fun y hy => by have := sR y hy; omega)]
          simp only [parts, part, list, List.filterMap_cons, List.filterMap_nil, X.tail]
          rw [if_pos (by omega), show max x.a at_ = at_ from by omega, show min (x.a + x.n) 65536 = x.a + x.n from by omega,
            show x.s + at_ - x.a = x.s + (at_ - x.a) from by omega, show x.a + x.n - at_ = x.n - (at_ - x.a) from by omega]
          simp

def sem : List X → Int → Option Int
  | [], _ => none
  | x :: L, b => if x.a ≤ b ∧ b < x.a + x.n then some (x.s + b - x.a) else sem L b
def Fol (x y : X) : Prop := x.a + x.n = y.a ∧ x.s + x.n = y.s
instance (x y : X) : Decidable (Fol x y) := by unfold Fol; infer_instance
def Nf : List X → Prop
  | [] => True
  | [_] => True
  | x :: y :: L => ¬ Fol x y ∧ Nf (y :: L)
theorem Nf.tail {x : X} {L : List X} (h : Nf (x :: L)) : Nf L := by
  cases L with
  | nil => trivial
  | cons y L => exact h.2

theorem sem_lt : ∀ {L : List X} {lo b : Int}, Ok lo L → b < lo → sem L b = none
  | [], _, _, _, _ => rfl
  | x :: L, lo, b, h, hb => by
    obtain ⟨h1, h2, h3, h4, h5, h6⟩ := h
    simp only [sem]
    rw [if_neg (by omega), sem_lt h6 (by omega)]
theorem sem_ge {L : List X} {lo b : Int} (h : Ok lo L) (hb : 65536 ≤ b) : sem L b = none := by
  induction L generalizing lo with
  | nil => rfl
  | cons x L ih =>
    obtain ⟨h1, h2, h3, h4, h5, h6⟩ := h
    simp only [sem]
    rw [if_neg (by omega), ih h6]
theorem sem_append (A B : List X) (b : Int) : sem (A ++ B) b = (sem A b).or (sem B b) := by
  induction A with
  | nil => rfl
  | cons x A ih =>
    simp only [List.cons_append, sem]
    split
    · rfl
    · exact ih

theorem nf_unique : ∀ (L M : List X) (lo lo' : Int), Ok lo L → Ok lo' M → Nf L → Nf M → (∀ b, sem L b = sem M b) → L = M
  | [], [], _, _, _, _, _, _, _ => rfl
  | [], y :: M, _, _, _, hM, _, _, h => by
    obtain ⟨h1, h2, _⟩ := hM
    have := h y.a
    simp only [sem] at this
    rw [if_pos (by omega)] at this; cases this
  | x :: L, [], _, _, hL, _, _, _, h => by
    obtain ⟨h1, h2, _⟩ := hL
    have := h x.a
    simp only [sem] at this
    rw [if_pos (by omega)] at this; cases this
  | x :: L, y :: M, lo, lo', hL, hM, nL, nM, h => by
    obtain ⟨h1, h2, h3, h4, h5, h6⟩ := hL
    obtain ⟨g1, g2, g3, g4, g5, g6⟩ := hM
    have ea : x.a = y.a := by
      rcases Int.lt_trichotomy x.a y.a with k | k | k
      · have := h x.a
        simp only [sem] at this
        rw [if_pos (by omega), if_neg (by omega), sem_lt g6 (by omega)] at this; cases this
      · exact k
      · have := h y.a
        simp only [sem] at this
        rw [if_neg (by omega), if_pos (by omega), sem_lt h6 (by omega)] at this; cases this
    have es : x.s = y.s := by
      have := h x.a
      simp only [sem] at this
      rw [if_pos (by omega), if_pos (by omega)] at this
      simp only [Option.some.injEq] at this; omega
    have en : x.n = y.n := by
      rcases Int.lt_trichotomy x.n y.n with k | k | k
      · exfalso
        have := h (x.a + x.n)
        simp only [sem] at this
        rw [if_neg (by omega), if_pos (by omega)] at this
        cases L with
        | nil => cases this
        | cons z L =>
          obtain ⟨k1, k2, k3, k4, k5, k6⟩ := h6
          simp only [sem] at this
          by_cases hz : z.a = x.a + x.n
          · rw [if_pos (by omega)] at this
            simp only [Option.some.injEq] at this
            exact nL.1 ⟨by omega, by omega⟩
          · rw [if_neg (by omega), sem_lt k6 (by omega)] at this; cases this
      · exact k
      · exfalso
        have := h (y.a + y.n)
        simp only [sem] at this
        rw [if_neg (c := y.a ≤ y.a + y.n ∧ y.a + y.n < y.a + y.n) (by omega), if_pos (by omega)] at this
        cases M with
        | nil => cases this
        | cons z M =>
          obtain ⟨k1, k2, k3, k4, k5, k6⟩ := g6
          simp only [sem] at this
          by_cases hz : z.a = y.a + y.n
          · rw [if_pos (by omega)] at this
            simp only [Option.some.injEq] at this
            exact nM.1 ⟨by omega, by omega⟩
          · rw [if_neg (by omega), sem_lt k6 (by omega)] at this; cases this
    have exy : x = y := by cases x; cases y; simp only [X.mk.injEq] at *; omega
    subst exy
    rw [nf_unique L M (x.a + x.n) (x.a + x.n) h6 g6 nL.tail nM.tail fun b => by
      by_cases hb : b < x.a + x.n
      · rw [sem_lt h6 hb, sem_lt g6 hb]
      · have := h b
        simp only [sem] at this
        rwa [if_neg (by omega), if_neg (by omega)] at this]

theorem sem_part (x : X) (f t b : Int) : sem (part x f t).toList b = if f ≤ b ∧ b < t then sem [x] b else none := by
  unfold part
  split
  · simp only [Option.toList, sem]
    by_cases h1 : f ≤ b ∧ b < t
    · rw [if_pos h1]
      by_cases h2 : x.a ≤ b ∧ b < x.a + x.n
      · rw [if_pos h2, if_pos (by omega), Option.some.injEq]; omega
      · rw [if_neg h2, if_neg (by omega)]
    · rw [if_neg h1, if_neg (by omega)]
  · simp only [Option.toList, sem]
    split
    · rw [if_neg (by omega)]
    · rfl
theorem parts_one (x : X) (f t : Int) : parts [x] f t = (part x f t).toList := by
  unfold parts; cases h : part x f t <;> simp [h]
theorem sem_parts (L : List X) (f t b : Int) : sem (parts L f t) b = if f ≤ b ∧ b < t then sem L b else none := by
  induction L with
  | nil => simp [parts, sem]
  | cons x L ih =>
    rw [parts_cons, sem_append, parts_one, sem_part, ih, show x :: L = [x] ++ L from rfl, sem_append]
    split <;> rfl
theorem ok_parts {f t : Int} : ∀ {L : List X} {lo lo' : Int}, Ok lo L → lo' ≤ max lo f → Ok lo' (parts L f t)
  | [], _, _, _, _ => trivial
  | x :: L, lo, lo', h, hl => by
    obtain ⟨h1, h2, h3, h4, h5, h6⟩ := h
    rw [parts_cons, parts_one]
    unfold part
    split
    · refine ⟨by simp only []; omega, by simp only []; omega, by simp only []; omega, by simp only []; omega, by simp only []; omega, ?_⟩
      exact ok_parts h6 (by simp only []; omega)
    · exact ok_parts h6 (by omega)
theorem parts_end {f t : Int} {L : List X} : ∀ x ∈ parts L f t, x.a + x.n ≤ t ∧ f ≤ x.a := by
  intro x hx
  unfold parts at hx
  obtain ⟨y, _, hy⟩ := List.mem_filterMap.1 hx
  unfold part at hy
  split at hy
  · simp only [Option.some.injEq] at hy; subst hy; simp only []; omega
  · cases hy
theorem nf_parts {f t : Int} : ∀ {L : List X} {lo : Int}, Ok lo L → Nf L → Nf (parts L f t)
  | [], _, _, _ => trivial
  | [x], _, _, _ => by
    rw [parts_one]; cases part x f t <;> trivial
  | x :: y :: L, lo, h, n => by
    obtain ⟨h1, h2, h3, h4, h5, h6⟩ := h
    have ih := nf_parts (f := f) (t := t) h6 n.2
    rw [parts_cons, parts_one]
    obtain ⟨g1, g2, g3, g4, g5, g6⟩ := h6
    cases hx : part x f t with
    | none => exact ih
    | some x' =>
      rw [parts_cons, parts_one] at ih ⊢
      cases hy : part y f t with
      | none =>
        have : parts L f t = [] := by
          refine parts_nil fun z hz => ?_
          unfold part at hx hy
          have := g6.starts z hz
          split at hy
          · cases hy
          · split at hx
            · omega
            · cases hx
        rw [this]; trivial
      | some y' =>
        rw [hy] at ih
        refine ⟨?_, ih⟩
        unfold part at hx hy
        split at hx
        · split at hy
          · simp only [Option.some.injEq] at hx hy
            subst hx; subst hy
            intro hf
            unfold Fol at hf
            simp only [] at hf
            exact n.1 ⟨by omega, by omega⟩
          · cases hy
        · cases hx

def push (L : List X) (x : X) : List X := match L.getLast? with
  | some y => if Fol y x then L.dropLast ++ [⟨y.a, y.n + x.n, y.s⟩] else L ++ [x]
  | none => [x]
def Jn (L : List X) : List X := L.foldl push []

def sumN : List X → Int
  | [] => 0
  | x :: L => x.n + sumN L
theorem sumN_append (A B : List X) : sumN (A ++ B) = sumN A + sumN B := by
  induction A with
  | nil => simp [sumN]
  | cons x A ih => simp only [List.cons_append, sumN, ih]; omega
theorem count_eq : ∀ t : Tr, t.count = t.list.length
  | .nil => rfl
  | .node l x r => by simp only [Tr.count, Tr.list, count_eq l, count_eq r, List.length_append, List.length_cons]; omega
theorem blocks_eq : ∀ t : Tr, t.blocks = sumN t.list
  | .nil => rfl
  | .node l x r => by simp only [Tr.blocks, Tr.list, blocks_eq l, blocks_eq r, sumN_append, sumN]; omega
theorem depth_le : ∀ t : Tr, t.depth ≤ t.count
  | .nil => by simp [Tr.depth, Tr.count]
  | .node l x r => by
    have := depth_le l; have := depth_le r; have := count_eq l; have := count_eq r
    simp only [Tr.depth, Tr.count]; omega
def Bd (L : List X) : Prop := (∀ x ∈ L, 0 ≤ x.n ∧ x.n ≤ 65536) ∧ L.length ≤ 70000 ∧ sumN L ≤ 70000
theorem sumN_nn : ∀ {L : List X}, (∀ x ∈ L, 0 ≤ x.n ∧ x.n ≤ 65536) → 0 ≤ sumN L
  | [], _ => by simp [sumN]
  | x :: L, h => by have := h x (by simp); have := sumN_nn (L := L) fun y hy => h y (List.mem_cons_of_mem _ hy); simp only [sumN]; omega
theorem Bd.left {A B : List X} (h : Bd (A ++ B)) : Bd A := by
  obtain ⟨h1, h2, h3⟩ := h
  have := sumN_nn (L := B) fun x hx => h1 x (List.mem_append_right _ hx)
  rw [sumN_append] at h3
  rw [List.length_append] at h2
  exact ⟨fun x hx => h1 x (List.mem_append_left _ hx), by omega, by omega⟩
theorem Bd.right {A B : List X} (h : Bd (A ++ B)) : Bd B := by
  obtain ⟨h1, h2, h3⟩ := h
  have := sumN_nn (L := A) fun x hx => h1 x (List.mem_append_left _ hx)
  rw [sumN_append] at h3
  rw [List.length_append] at h2
  exact ⟨fun x hx => h1 x (List.mem_append_right _ hx), by omega, by omega⟩
theorem Bd.tail {x : X} {B : List X} (h : Bd (x :: B)) : Bd B := Bd.right (A := [x]) h
theorem Bd.head {x : X} {B : List X} (h : Bd (x :: B)) : 0 ≤ x.n ∧ x.n ≤ 65536 := h.1 x (by simp)
theorem Bd.tr {t : Tr} (h : Bd t.list) : 0 ≤ t.depth ∧ t.depth ≤ 70000 ∧ 0 ≤ t.count ∧ t.count ≤ 70000 ∧ 0 ≤ t.blocks ∧ t.blocks ≤ 70000 := by
  have h1 := count_eq t; have h2 := blocks_eq t; have h3 := depth_le t; have h4 := depth_nn t; have h5 := sumN_nn h.1; have h6 := h.2.1; have h7 := h.2.2
  omega
theorem Ok.sum : ∀ {L : List X} {lo : Int}, 0 ≤ lo → Ok lo L → (L.length : Int) ≤ sumN L ∧ (L ≠ [] → lo + sumN L ≤ 65536) ∧ 0 ≤ sumN L
  | [], _, _, _ => by simp [sumN]
  | x :: L, lo, h0, h => by
    obtain ⟨h1, h2, h3, h4, h5, h6⟩ := h
    obtain ⟨i1, i2, i3⟩ := Ok.sum (lo := x.a + x.n) (by omega) h6
    refine ⟨by simp only [sumN, List.length_cons]; omega, fun _ => ?_, by simp only [sumN]; omega⟩
    cases L with
    | nil => simp only [sumN]; omega
    | cons y L => have := i2 (by simp); simp only [sumN] at *; omega
theorem Ok.bd {L : List X} {lo : Int} (h0 : 0 ≤ lo) (h : Ok lo L) : Bd L := by
  obtain ⟨h1, h2, h3⟩ := h.sum h0
  refine ⟨fun x hx => ?_, ?_, ?_⟩
  · have := h.starts x hx; omega
  · cases L with
    | nil => simp
    | cons y L => have := h2 (by simp); omega
  · cases L with
    | nil => simp [sumN]
    | cons y L => have := h2 (by simp); omega
theorem join_l {ll lr r : Tr} {lx x : X} (h : r.depth + 1 < (Tr.node ll lx lr).depth) : join (.node ll lx lr) x r = bal ll lx (join lr x r) := by
  conv => lhs; unfold join
  exact if_pos h
theorem join_r {l rl rr : Tr} {rx x : X} (h0 : ¬ (Tr.node rl rx rr).depth + 1 < l.depth) (h : l.depth + 1 < (Tr.node rl rx rr).depth) : join l x (.node rl rx rr) = bal (join l x rl) rx rr := by
  conv => lhs; unfold join
  exact (if_neg h0).trans (if_pos h)
theorem join_n {l r : Tr} {x : X} (h0 : ¬ r.depth + 1 < l.depth) (h : ¬ l.depth + 1 < r.depth) : join l x r = .node l x r := by
  conv => lhs; unfold join
  exact (if_neg h0).trans (if_neg h)
theorem Bd.mid {A B : List X} {x : X} (h : Bd (A ++ x :: B)) : Bd A ∧ (0 ≤ x.n ∧ x.n ≤ 65536) ∧ Bd B := ⟨h.left, h.right.head, h.right.tail⟩
theorem Bd.node {l r : Tr} {x : X} (h : Bd (Tr.node l x r).list) : Bd l.list ∧ (0 ≤ x.n ∧ x.n ≤ 65536) ∧ Bd r.list := Bd.mid h
def Sz (t : Tr) : Prop := 0 ≤ t.depth ∧ t.depth ≤ 1000000 ∧ 0 ≤ t.count ∧ t.count ≤ 1000000 ∧ 0 ≤ t.blocks ∧ t.blocks ≤ 1000000
theorem Bd.sz {t : Tr} (h : Bd t.list) : Sz t := by have := h.tr; unfold Sz; omega
end Go.Xt

/- Putting and cutting, plainly. -/
namespace Go.Xt
open Tr
instance : Inhabited X := ⟨⟨0, 0, 0⟩⟩
instance decOk : ∀ (lo : Int) (L : List X), Decidable (Ok lo L)
  | _, [] => isTrue trivial
  | lo, x :: L => by unfold Ok; have := decOk (x.a + x.n) L; infer_instance
def Vx (x : X) : Prop := 1 ≤ x.n ∧ 0 ≤ x.s ∧ x.a + x.n ≤ 65536 ∧ x.s + x.n ≤ 65536
theorem ok_snoc {x : X} (hx : Vx x) : ∀ {A : List X} {lo : Int}, Ok lo A → (∀ z ∈ A, z.a + z.n ≤ x.a) → lo ≤ x.a → Ok lo (A ++ [x])
  | [], lo, _, _, h => ⟨h, hx.1, hx.2.1, hx.2.2.1, hx.2.2.2, trivial⟩
  | z :: A, lo, h, he, _ => by
    obtain ⟨h1, h2, h3, h4, h5, h6⟩ := h
    exact ⟨h1, h2, h3, h4, h5, ok_snoc hx h6 (fun w hw => he w (List.mem_cons_of_mem _ hw)) (he z List.mem_cons_self)⟩
theorem ok_glue {x y : X} {B : List X} (hy : y.a = x.a) (hB : Ok x.a (y :: B)) : ∀ {A : List X} {lo : Int}, Ok lo (A ++ [x]) → Ok lo (A ++ y :: B)
  | [], lo, h => hB.lower h.1 |> fun h' => ⟨by have := h.1; have := hB.1; omega, h'.2⟩
  | z :: A, lo, h => by
    obtain ⟨h1, h2, h3, h4, h5, h6⟩ := h
    exact ⟨h1, h2, h3, h4, h5, ok_glue hy hB h6⟩
theorem ok_app : ∀ {A B : List X} {lo c : Int}, Ok lo A → Ok c B → (∀ z ∈ A, z.a + z.n ≤ c) → lo ≤ c → Ok lo (A ++ B)
  | [], B, lo, c, _, hB, _, h => hB.lower h
  | z :: A, B, lo, c, h, hB, he, _ => by
    obtain ⟨h1, h2, h3, h4, h5, h6⟩ := h
    exact ⟨h1, h2, h3, h4, h5, ok_app h6 hB (fun w hw => he w (List.mem_cons_of_mem _ hw)) (he z List.mem_cons_self)⟩
theorem nf_glue {x y : X} {B : List X} (ha : y.a = x.a) (hs : y.s = x.s) (hB : Nf (y :: B)) : ∀ {A : List X}, Nf (A ++ [x]) → Nf (A ++ y :: B)
  | [], _ => hB
  | [z], h => ⟨fun hf => h.1 (by unfold Fol at *; omega), hB⟩
  | z :: z' :: A, h => ⟨h.1, nf_glue ha hs hB (A := z' :: A) h.2⟩
theorem nf_app : ∀ {A B : List X}, Nf A → Nf B → (∀ x ∈ A, ∀ y ∈ B, ¬ Fol x y) → Nf (A ++ B)
  | [], B, _, hB, _ => hB
  | [z], [], _, _, _ => trivial
  | [z], y :: B, _, hB, h => ⟨h z (by simp) y (by simp), hB⟩
  | z :: z' :: A, B, hA, hB, h => ⟨hA.1, nf_app (A := z' :: A) hA.2 hB fun x hx y hy => h x (List.mem_cons_of_mem _ hx) y hy⟩
def glueL (a : Tr) (x : X) : X × Tr := match a with
  | .nil => (x, .nil)
  | .node l y r => if Fol (last l y r).1 x then (⟨(last l y r).1.a, (last l y r).1.n + x.n, (last l y r).1.s⟩, (last l y r).2) else (x, .node l y r)
def glueR (x : X) (b : Tr) : X × Tr := match b with
  | .nil => (x, .nil)
  | .node l y r => if Fol x (first l y r).1 then (⟨x.a, x.n + (first l y r).1.n, x.s⟩, (first l y r).2) else (x, .node l y r)
theorem glueL_spec {a : Tr} {x : X} (hb : a.Bal) (ho : Ok 0 a.list) (hn : Nf a.list) (he : ∀ z ∈ a.list, z.a + z.n ≤ x.a) (hx : Vx x) (h0 : 0 ≤ x.a) :
    (glueL a x).2.Bal ∧ Ok 0 ((glueL a x).2.list ++ [(glueL a x).1]) ∧ Nf ((glueL a x).2.list ++ [(glueL a x).1]) ∧ (glueL a x).1.a + (glueL a x).1.n = x.a + x.n ∧ (glueL a x).1.s + (glueL a x).1.n = x.s + x.n ∧ ∀ b, sem ((glueL a x).2.list ++ [(glueL a x).1]) b = sem (a.list ++ [x]) b := by
  have hs := ok_snoc hx ho he h0
  cases a with
  | nil => exact ⟨trivial, hs, trivial, rfl, rfl, fun _ => rfl⟩
  | node l y r =>
    obtain ⟨h1, h2⟩ := last_spec r l y hb
    simp only [glueL]
    rw [← h1] at ho hn hs he
    have hv := ho.starts (last l y r).1 (by simp)
    split
    · rename_i hf
      unfold Fol at hf
      unfold Vx at hx
      refine ⟨h2, ok_glue (x := (last l y r).1) (y := ⟨(last l y r).1.a, (last l y r).1.n + x.n, (last l y r).1.s⟩) (B := []) rfl ⟨Int.le_refl _, by simp only []; omega, by simp only []; omega, by simp only []; omega, by simp only []; omega, trivial⟩ ho, nf_glue (x := (last l y r).1) (y := ⟨(last l y r).1.a, (last l y r).1.n + x.n, (last l y r).1.s⟩) (B := []) rfl rfl trivial hn, by simp only []; omega, by simp only []; omega, fun b => ?_⟩
      rw [← h1, List.append_assoc, sem_append, sem_append]
      congr 1
      simp only [sem, List.cons_append, List.nil_append]
      by_cases q1 : (last l y r).1.a ≤ b ∧ b < (last l y r).1.a + (last l y r).1.n
      · rw [if_pos q1, if_pos (by omega)]
      · rw [if_neg q1]
        by_cases q2 : x.a ≤ b ∧ b < x.a + x.n
        · rw [if_pos q2, if_pos (by omega), Option.some.injEq]; omega
        · rw [if_neg q2, if_neg (by omega)]
    · rename_i hf
      rw [← h1]
      refine ⟨hb, hs, ?_, rfl, rfl, fun _ => rfl⟩
      rw [List.append_assoc]
      exact nf_glue (y := (last l y r).1) (B := [x]) rfl rfl ⟨hf, trivial⟩ hn
theorem glueR_spec {b : Tr} {x : X} (hb : b.Bal) (ho : Ok (x.a + x.n) b.list) (hn : Nf b.list) (hx : Vx x) :
    (glueR x b).2.Bal ∧ Ok x.a ((glueR x b).1 :: (glueR x b).2.list) ∧ Nf ((glueR x b).1 :: (glueR x b).2.list) ∧ (glueR x b).1.a = x.a ∧ (glueR x b).1.s = x.s ∧ ∀ c, sem ((glueR x b).1 :: (glueR x b).2.list) c = sem (x :: b.list) c := by
  obtain ⟨x1, x2, x3, x4⟩ := hx
  cases b with
  | nil => exact ⟨trivial, ⟨Int.le_refl _, x1, x2, x3, x4, trivial⟩, trivial, rfl, rfl, fun _ => rfl⟩
  | node l y r =>
    obtain ⟨h1, h2⟩ := first_spec l y r hb
    simp only [glueR]
    have ho' := ho
    rw [← h1] at ho' hn
    obtain ⟨g1, g2, g3, g4, g5, g6⟩ := ho'
    split
    · rename_i hf
      unfold Fol at hf
      refine ⟨h2, ⟨Int.le_refl _, by simp only []; omega, by simp only []; omega, by simp only []; omega, by simp only []; omega, g6.lower (by simp only []; omega)⟩, ?_, rfl, rfl, fun c => ?_⟩
      · cases hl : (first l y r).2.list with
        | nil => trivial
        | cons z L =>
          rw [hl] at hn
          exact ⟨fun q => hn.1 (by unfold Fol at *; simp only [] at q; omega), hn.2⟩
      · rw [← h1]
        simp only [sem]
        by_cases q1 : x.a ≤ c ∧ c < x.a + x.n
        · rw [if_pos q1, if_pos (by omega)]
        · rw [if_neg q1]
          by_cases q2 : (first l y r).1.a ≤ c ∧ c < (first l y r).1.a + (first l y r).1.n
          · rw [if_pos q2, if_pos (by omega), Option.some.injEq]; omega
          · rw [if_neg q2, if_neg (by omega)]
    · rename_i hf
      refine ⟨hb, ⟨Int.le_refl _, x1, x2, x3, x4, ho⟩, ?_, rfl, rfl, fun _ => rfl⟩
      rw [← h1]
      exact ⟨hf, hn⟩
def Wt (t : Tr) : Prop := t.Bal ∧ Ok 0 t.list ∧ Nf t.list
def put (t : Tr) (x : X) : Tr × Tr :=
  (join (glueL (split t x.a).1 x).2 (glueR (glueL (split t x.a).1 x).1 (split (split t x.a).2 (x.a + x.n)).2).1 (glueR (glueL (split t x.a).1 x).1 (split (split t x.a).2 (x.a + x.n)).2).2, (split (split t x.a).2 (x.a + x.n)).1)
def cut (t : Tr) (a n : Int) : Tr × Tr := (concat (split t a).1 (split (split t a).2 (a + n)).2, (split (split t a).2 (a + n)).1)
theorem split_facts {t : Tr} (h : Wt t) {a n : Int} (ha : 0 ≤ a) (hn : 0 ≤ n) :
    Wt (split t a).1 ∧ Wt (split t a).2 ∧ Wt (split (split t a).2 (a + n)).1 ∧ Wt (split (split t a).2 (a + n)).2 ∧ (∀ z ∈ (split t a).1.list, z.a + z.n ≤ a) ∧ Ok (a + n) (split (split t a).2 (a + n)).2.list ∧
      (∀ b, sem (split t a).1.list b = if 0 ≤ b ∧ b < a then sem t.list b else none) ∧ (∀ b, sem (split (split t a).2 (a + n)).2.list b = if a + n ≤ b then sem t.list b else none) ∧ (split (split t a).2 (a + n)).1.list = parts t.list a (a + n) := by
  obtain ⟨hb, ho, hf⟩ := h
  obtain ⟨s1, s2, s3, s4⟩ := split_spec t a hb ho
  have w1 : Wt (split t a).1 := ⟨s3, by rw [s1]; exact ok_parts ho (by omega), by rw [s1]; exact nf_parts ho hf⟩
  have w2 : Wt (split t a).2 := ⟨s4, by rw [s2]; exact ok_parts ho (by omega), by rw [s2]; exact nf_parts ho hf⟩
  obtain ⟨_, o2, f2⟩ := w2
  obtain ⟨r1, r2, r3, r4⟩ := split_spec (split t a).2 (a + n) s4 o2
  have w3 : Wt (split (split t a).2 (a + n)).1 := ⟨r3, by rw [r1]; exact ok_parts o2 (by omega), by rw [r1]; exact nf_parts o2 f2⟩
  have w4 : Wt (split (split t a).2 (a + n)).2 := ⟨r4, by rw [r2]; exact ok_parts o2 (by omega), by rw [r2]; exact nf_parts o2 f2⟩
  refine ⟨w1, ⟨s4, o2, f2⟩, w3, w4, fun z hz => ?_, ?_, fun b => ?_, fun b => ?_, ?_⟩
  · rw [s1] at hz; exact (parts_end z hz).1
  · rw [r2]; exact ok_parts o2 (by omega)
  · rw [s1, sem_parts]
  · rw [r2, sem_parts, s2, sem_parts]
    by_cases q : a + n ≤ b
    · rw [if_pos q]
      by_cases q2 : b < 65536
      · rw [if_pos ⟨q, q2⟩, if_pos ⟨by omega, q2⟩]
      · rw [if_neg (by omega), sem_ge ho (by omega)]
    · rw [if_neg q, if_neg (by omega)]
  · refine nf_unique _ _ 0 0 w3.2.1 (ok_parts ho (by omega)) w3.2.2 (nf_parts ho hf) fun b => ?_
    rw [r1, sem_parts, s2, sem_parts, sem_parts]
    by_cases q : a ≤ b ∧ b < a + n
    · rw [if_pos q, if_pos (by omega)]
      by_cases q2 : b < 65536
      · rw [if_pos (by omega)]
      · rw [if_neg (by omega), sem_ge ho (by omega)]
    · rw [if_neg q]
      by_cases q2 : 0 ≤ b ∧ b < a + n
      · rw [if_pos q2, if_neg (by omega)]
      · rw [if_neg q2]
theorem put_spec {t : Tr} {x : X} (h : Wt t) (h0 : 0 ≤ x.a) (hx : Vx x) :
    Wt (put t x).1 ∧ (put t x).2.list = parts t.list x.a (x.a + x.n) ∧ (∀ b, sem (put t x).1.list b = if x.a ≤ b ∧ b < x.a + x.n then some (x.s + b - x.a) else sem t.list b) ∧
      (put t x).1.list = (glueL (split t x.a).1 x).2.list ++ (glueR (glueL (split t x.a).1 x).1 (split (split t x.a).2 (x.a + x.n)).2).1 :: (glueR (glueL (split t x.a).1 x).1 (split (split t x.a).2 (x.a + x.n)).2).2.list ∧
      (glueL (split t x.a).1 x).2.Bal ∧ (glueR (glueL (split t x.a).1 x).1 (split (split t x.a).2 (x.a + x.n)).2).2.Bal ∧ Vx (glueL (split t x.a).1 x).1 := by
  have hx1 := hx.1
  obtain ⟨w1, w2, w3, w4, he, ho4, m1, m4, l3⟩ := split_facts h (a := x.a) (n := x.n) h0 (by omega)
  obtain ⟨g1, g2, g3, g4, g5, g6⟩ := glueL_spec w1.1 w1.2.1 w1.2.2 he hx h0
  have hv := g2.starts _ (List.mem_append_right _ (List.mem_singleton.2 rfl))
  have hv' : Vx (glueL (split t x.a).1 x).1 := ⟨hv.2.1, hv.2.2.1, hv.2.2.2.1, hv.2.2.2.2⟩
  obtain ⟨k1, k2, k3, k4, k5, k6⟩ := glueR_spec (x := (glueL (split t x.a).1 x).1) w4.1 (by rw [g4]; exact ho4) w4.2.2 hv'
  have hl : (put t x).1.list = (glueL (split t x.a).1 x).2.list ++ (glueR (glueL (split t x.a).1 x).1 (split (split t x.a).2 (x.a + x.n)).2).1 :: (glueR (glueL (split t x.a).1 x).1 (split (split t x.a).2 (x.a + x.n)).2).2.list := join_list g1 k1
  refine ⟨⟨join_bal g1 k1, by rw [hl]; exact ok_glue k4 k2 g2, by rw [hl]; exact nf_glue k4 k5 k3 g3⟩, l3, fun b => ?_, hl, g1, k1, hv'⟩
  rw [hl, sem_append, k6, show ∀ L : List X, (glueL (split t x.a).1 x).1 :: L = [(glueL (split t x.a).1 x).1] ++ L from fun _ => rfl, sem_append, ← Option.or_assoc, ← sem_append, g6, sem_append, m1, m4]
  simp only [sem]
  by_cases q : x.a ≤ b ∧ b < x.a + x.n
  · rw [if_pos q, if_neg (by omega), if_pos q]; rfl
  · rw [if_neg q, if_neg q]
    by_cases q1 : 0 ≤ b ∧ b < x.a
    · rw [if_pos q1, if_neg (by omega)]; cases sem t.list b <;> rfl
    · rw [if_neg q1]
      by_cases q2 : x.a + x.n ≤ b
      · rw [if_pos q2]; rfl
      · rw [if_neg q2, sem_lt h.2.1 (by omega)]; rfl
theorem cut_spec {t : Tr} {a n : Int} (h : Wt t) (h0 : 0 ≤ a) (hn : 1 ≤ n) :
    Wt (cut t a n).1 ∧ (cut t a n).2.list = parts t.list a (a + n) ∧ (∀ b, sem (cut t a n).1.list b = if a ≤ b ∧ b < a + n then none else sem t.list b) := by
  obtain ⟨w1, w2, w3, w4, he, ho4, m1, m4, l3⟩ := split_facts h (a := a) (n := n) h0 (by omega)
  obtain ⟨c1, c2⟩ := concat_spec w1.1 w4.1
  have hl : (cut t a n).1.list = (split t a).1.list ++ (split (split t a).2 (a + n)).2.list := c1
  refine ⟨⟨c2, by rw [hl]; exact ok_app w1.2.1 (ho4.lower (by omega)) he h0, by
    rw [hl]
    refine nf_app w1.2.2 w4.2.2 fun x hx y hy hf => ?_
    have h1 := he x hx
    have h2 := (ho4.starts y hy).1
    unfold Fol at hf
    omega⟩, l3, fun b => ?_⟩
  rw [hl, sem_append, m1, m4]
  by_cases q : a ≤ b ∧ b < a + n
  · rw [if_pos q, if_neg (by omega), if_neg (by omega)]; rfl
  · rw [if_neg q]
    by_cases q1 : 0 ≤ b ∧ b < a
    · rw [if_pos q1, if_neg (by omega)]; cases sem t.list b <;> rfl
    · rw [if_neg q1]
      by_cases q2 : a + n ≤ b
      · rw [if_pos q2]; rfl
      · rw [if_neg q2, sem_lt h.2.1 (by omega)]; rfl
end Go.Xt

/- The normal form, plainly. -/
namespace Go.Xt
theorem push_snoc (A : List X) (y x : X) : push (A ++ [y]) x = if Fol y x then A ++ [⟨y.a, y.n + x.n, y.s⟩] else A ++ [y] ++ [x] := by
  unfold push
  rw [List.getLast?_append]
  simp only [List.getLast?_singleton, Option.some_or]
  rw [List.dropLast_concat]
theorem push_spec {L : List X} {x : X} {lo : Int} (ho : Ok lo L) (hn : Nf L) (he : ∀ z ∈ L, z.a + z.n ≤ x.a) (hx : Vx x) (hl : lo ≤ x.a) :
    Ok lo (push L x) ∧ Nf (push L x) ∧ (∀ b, sem (push L x) b = sem (L ++ [x]) b) ∧ (∀ z ∈ push L x, z.a + z.n ≤ x.a + x.n) := by
  rcases List.eq_nil_or_concat L with rfl | ⟨A, y, rfl⟩
  · exact ⟨⟨hl, hx.1, hx.2.1, hx.2.2.1, hx.2.2.2, trivial⟩, trivial, fun _ => rfl, fun z hz => by rw [List.mem_singleton.1 hz]; exact Int.le_refl _⟩
  · rw [List.concat_eq_append] at *
    rw [push_snoc]
    have hv := ho.starts y (by simp)
    have hs := ok_snoc hx ho he hl
    split
    · rename_i hf
      unfold Fol at hf
      unfold Vx at hx
      refine ⟨ok_glue (x := y) (y := ⟨y.a, y.n + x.n, y.s⟩) (B := []) rfl ⟨Int.le_refl _, by simp only []; omega, by simp only []; omega, by simp only []; omega, by simp only []; omega, trivial⟩ ho, nf_glue (x := y) (y := ⟨y.a, y.n + x.n, y.s⟩) (B := []) rfl rfl trivial hn, fun b => ?_, fun z hz => ?_⟩
      · rw [List.append_assoc, sem_append, sem_append]
        congr 1
        simp only [sem, List.cons_append, List.nil_append]
        by_cases q1 : y.a ≤ b ∧ b < y.a + y.n
        · rw [if_pos q1, if_pos (by omega)]
        · rw [if_neg q1]
          by_cases q2 : x.a ≤ b ∧ b < x.a + x.n
          · rw [if_pos q2, if_pos (by omega), Option.some.injEq]; omega
          · rw [if_neg q2, if_neg (by omega)]
      · rcases List.mem_append.1 hz with hz | hz
        · have := he z (List.mem_append_left _ hz); omega
        · rw [List.mem_singleton.1 hz]; simp only []; omega
    · rename_i hf
      refine ⟨hs, ?_, fun _ => rfl, fun z hz => ?_⟩
      · rw [List.append_assoc]
        exact nf_glue (x := y) (y := y) (B := [x]) rfl rfl ⟨hf, trivial⟩ hn
      · rcases List.mem_append.1 hz with hz | hz
        · have := he z hz; have := hx.1; omega
        · rw [List.mem_singleton.1 hz]; exact Int.le_refl _
theorem fold_spec : ∀ {L acc : List X} {lo c : Int}, Ok c L → Ok lo acc → Nf acc → (∀ z ∈ acc, z.a + z.n ≤ c) → lo ≤ c → Ok lo (L.foldl push acc) ∧ Nf (L.foldl push acc) ∧ ∀ b, sem (L.foldl push acc) b = sem (acc ++ L) b
  | [], acc, lo, c, _, h2, h3, _, _ => ⟨h2, h3, fun b => by simp⟩
  | x :: L, acc, lo, c, ⟨h1, h2, h3, h4, h5, h6⟩, k2, k3, k4, k5 => by
    have hx : Vx x := ⟨h2, h3, h4, h5⟩
    obtain ⟨p1, p2, p3, p4⟩ := push_spec k2 k3 (fun z hz => by have := k4 z hz; omega) hx (by omega)
    obtain ⟨q1, q2, q3⟩ := fold_spec (L := L) (acc := push acc x) (lo := lo) (c := x.a + x.n) h6 p1 p2 p4 (by omega)
    refine ⟨q1, q2, fun b => ?_⟩
    show sem (L.foldl push (push acc x)) b = _
    rw [q3, sem_append, p3, ← sem_append, List.append_assoc]; rfl
theorem jn_spec {L : List X} {lo : Int} (h : Ok lo L) : Ok lo (Jn L) ∧ Nf (Jn L) ∧ ∀ b, sem (Jn L) b = sem L b := by
  obtain ⟨h1, h2, h3⟩ := fold_spec (L := L) (acc := []) (lo := lo) (c := lo) h trivial trivial (fun _ h => by cases h) (Int.le_refl _)
  exact ⟨h1, h2, fun b => by rw [Jn, h3]; rfl⟩
theorem jn_nf {L : List X} {lo : Int} (h : Ok lo L) (hn : Nf L) : Jn L = L := by
  obtain ⟨h1, h2, h3⟩ := jn_spec h
  exact nf_unique _ _ lo lo h1 h h2 hn h3
end Go.Xt

/- The specification's Put and Cut, plainly, and the trees'. -/
namespace Go.Xt
def rput (L : List X) (x : X) : List X := Jn (parts L 0 x.a ++ [x] ++ parts L (x.a + x.n) 65536)
def rcut (L : List X) (a n : Int) : List X := Jn (parts L 0 a ++ parts L (a + n) 65536)
theorem parts_le {f t : Int} {L : List X} : ∀ z ∈ parts L f t, z.a + z.n ≤ t := fun z hz => (parts_end z hz).1
theorem ok_rput {L : List X} {x : X} (h : Ok 0 L) (h0 : 0 ≤ x.a) (hx : Vx x) : Ok 0 (parts L 0 x.a ++ [x] ++ parts L (x.a + x.n) 65536) := by
  have h1 : Ok 0 (parts L 0 x.a ++ [x]) := ok_snoc hx (ok_parts h (by omega)) (fun z hz => parts_le z hz) h0
  refine ok_app (c := x.a + x.n) h1 (ok_parts h (by omega)) (fun z hz => ?_) (by have := hx.1; omega)
  rcases List.mem_append.1 hz with hz | hz
  · have := parts_le z hz; have := hx.1; omega
  · rw [List.mem_singleton.1 hz]; exact Int.le_refl _
theorem ok_rcut {L : List X} {a n : Int} (h : Ok 0 L) (h0 : 0 ≤ a) (hn : 0 ≤ n) : Ok 0 (parts L 0 a ++ parts L (a + n) 65536) :=
  ok_app (c := a) (ok_parts h (by omega)) (ok_parts h (by omega)) (fun z hz => parts_le z hz) h0
theorem put_ref {t : Tr} {x : X} (h : Wt t) (h0 : 0 ≤ x.a) (hx : Vx x) : (put t x).1.list = rput t.list x ∧ (put t x).2.list = Jn (parts t.list x.a (x.a + x.n)) := by
  have hx1 := hx.1
  obtain ⟨w, hm, hs, _⟩ := put_spec h h0 hx
  obtain ⟨j1, j2, j3⟩ := jn_spec (ok_rput h.2.1 h0 hx)
  refine ⟨nf_unique _ _ 0 0 w.2.1 j1 w.2.2 j2 fun b => ?_, ?_⟩
  · unfold rput
    rw [hs, j3, sem_append, sem_append, sem_parts, sem_parts]
    simp only [sem]
    by_cases q : x.a ≤ b ∧ b < x.a + x.n
    · rw [if_pos q, if_neg (by omega), if_pos q]; rfl
    · rw [if_neg q, if_neg q]
      by_cases q1 : 0 ≤ b ∧ b < x.a
      · rw [if_pos q1, if_neg (by omega)]; cases sem t.list b <;> rfl
      · rw [if_neg q1]
        by_cases q2 : x.a + x.n ≤ b ∧ b < 65536
        · rw [if_pos q2]; rfl
        · rw [if_neg q2]
          by_cases q3 : b < 0
          · rw [sem_lt h.2.1 q3]; rfl
          · rw [sem_ge h.2.1 (by omega)]; rfl
  · rw [hm, jn_nf (ok_parts h.2.1 (lo' := 0) (by omega)) (nf_parts h.2.1 h.2.2)]
theorem cut_ref {t : Tr} {a n : Int} (h : Wt t) (h0 : 0 ≤ a) (hn : 1 ≤ n) : (cut t a n).1.list = rcut t.list a n ∧ (cut t a n).2.list = Jn (parts t.list a (a + n)) := by
  obtain ⟨w, hm, hs⟩ := cut_spec h h0 hn
  obtain ⟨j1, j2, j3⟩ := jn_spec (ok_rcut h.2.1 h0 (by omega : 0 ≤ n))
  refine ⟨nf_unique _ _ 0 0 w.2.1 j1 w.2.2 j2 fun b => ?_, ?_⟩
  · unfold rcut
    rw [hs, j3, sem_append, sem_parts, sem_parts]
    by_cases q : a ≤ b ∧ b < a + n
    · rw [if_pos q, if_neg (by omega), if_neg (by omega)]; rfl
    · rw [if_neg q]
      by_cases q1 : 0 ≤ b ∧ b < a
      · rw [if_pos q1, if_neg (by omega)]; cases sem t.list b <;> rfl
      · rw [if_neg q1]
        by_cases q2 : a + n ≤ b ∧ b < 65536
        · rw [if_pos q2]; rfl
        · rw [if_neg q2]
          by_cases q3 : b < 0
          · rw [sem_lt h.2.1 q3]; rfl
          · rw [sem_ge h.2.1 (by omega)]; rfl
  · rw [hm, jn_nf (ok_parts h.2.1 (lo' := 0) (by omega)) (nf_parts h.2.1 h.2.2)]
end Go.Xt

/- Sizes and places of this program's types, each asked of the kernel. -/
namespace Go.Proofs.YtjglgfnhgehpeaaGreat
open Go.Fw
theorem ag_Extent : aggs Tryz.prog 65 = some 3 := by kernel_rfl
theorem ag_Tree : aggs Tryz.prog 112 = some 1 := by kernel_rfl
theorem ag_VolumeInfo : aggs Tryz.prog 34 = some 5 := by kernel_rfl
theorem ag_family_Family : aggs Tryz.prog 28 = some 2 := by kernel_rfl
theorem ag_family_volume : aggs Tryz.prog 114 = some 3 := by kernel_rfl
theorem ag_refcount_Counts : aggs Tryz.prog 25 = some 1 := by kernel_rfl
theorem ei_s_api_Extent : elemInfo Tryz.prog 51 = some (65, 3, 24, 3) := by kernel_rfl
theorem ei_s_bool : elemInfo Tryz.prog 151 = some (4, 1, 1, 1) := by kernel_rfl
theorem ei_s_int : elemInfo Tryz.prog 23 = some (3, 1, 8, 1) := by kernel_rfl
theorem el_s_api_Extent : elemSz Tryz.prog 51 = some 3 := by kernel_rfl
theorem el_s_bool : elemSz Tryz.prog 151 = some 1 := by kernel_rfl
theorem el_s_int : elemSz Tryz.prog 23 = some 1 := by kernel_rfl
theorem el_s_uint8 : elemSz Tryz.prog 38 = some 1 := by kernel_rfl
theorem fo_Extent_0 : fieldOff Tryz.prog 65 0 = some 0 := by kernel_rfl
theorem fo_Extent_1 : fieldOff Tryz.prog 65 1 = some 1 := by kernel_rfl
theorem fo_Extent_2 : fieldOff Tryz.prog 65 2 = some 2 := by kernel_rfl
theorem fo_Tree_0 : fieldOff Tryz.prog 112 0 = some 0 := by kernel_rfl
theorem fo_VolumeInfo_4 : fieldOff Tryz.prog 34 4 = some 4 := by kernel_rfl
theorem fo_family_Family_0 : fieldOff Tryz.prog 28 0 = some 0 := by kernel_rfl
theorem fo_family_Family_1 : fieldOff Tryz.prog 28 1 = some 1 := by kernel_rfl
theorem fo_family_size_0 : fieldOff Tryz.prog 109 0 = some 0 := by kernel_rfl
theorem fo_family_size_1 : fieldOff Tryz.prog 109 1 = some 1 := by kernel_rfl
theorem fo_family_volume_0 : fieldOff Tryz.prog 114 0 = some 0 := by kernel_rfl
theorem fo_family_volume_1 : fieldOff Tryz.prog 114 1 = some 2 := by kernel_rfl
theorem fo_node_0 : fieldOff Tryz.prog 169 0 = some 0 := by kernel_rfl
theorem fo_node_1 : fieldOff Tryz.prog 169 1 = some 3 := by kernel_rfl
theorem fo_node_2 : fieldOff Tryz.prog 169 2 = some 4 := by kernel_rfl
theorem fo_node_3 : fieldOff Tryz.prog 169 3 = some 5 := by kernel_rfl
theorem fo_node_4 : fieldOff Tryz.prog 169 4 = some 6 := by kernel_rfl
theorem fo_node_5 : fieldOff Tryz.prog 169 5 = some 7 := by kernel_rfl
theorem fo_refcount_Counts_0 : fieldOff Tryz.prog 25 0 = some 0 := by kernel_rfl
theorem pl_Extent_0 : place Tryz.prog 65 0 = some (0, 1) := by kernel_rfl
theorem pl_Extent_1 : place Tryz.prog 65 1 = some (1, 1) := by kernel_rfl
theorem pl_Extent_2 : place Tryz.prog 65 2 = some (2, 1) := by kernel_rfl
theorem pl_Tree_0 : place Tryz.prog 112 0 = some (0, 1) := by kernel_rfl
theorem pl_VolumeInfo_0 : place Tryz.prog 34 0 = some (0, 1) := by kernel_rfl
theorem pl_VolumeInfo_1 : place Tryz.prog 34 1 = some (1, 1) := by kernel_rfl
theorem pl_VolumeInfo_2 : place Tryz.prog 34 2 = some (2, 1) := by kernel_rfl
theorem pl_VolumeInfo_3 : place Tryz.prog 34 3 = some (3, 1) := by kernel_rfl
theorem pl_VolumeInfo_4 : place Tryz.prog 34 4 = some (4, 1) := by kernel_rfl
theorem pl_family_Family_0 : place Tryz.prog 28 0 = some (0, 1) := by kernel_rfl
theorem pl_family_Family_1 : place Tryz.prog 28 1 = some (1, 1) := by kernel_rfl
theorem pl_family_size_0 : place Tryz.prog 109 0 = some (0, 1) := by kernel_rfl
theorem pl_family_size_1 : place Tryz.prog 109 1 = some (1, 1) := by kernel_rfl
theorem pl_family_volume_0 : place Tryz.prog 114 0 = some (0, 2) := by kernel_rfl
theorem pl_node_0 : place Tryz.prog 169 0 = some (0, 3) := by kernel_rfl
theorem pl_node_1 : place Tryz.prog 169 1 = some (3, 1) := by kernel_rfl
theorem pl_node_2 : place Tryz.prog 169 2 = some (4, 1) := by kernel_rfl
theorem pl_node_3 : place Tryz.prog 169 3 = some (5, 1) := by kernel_rfl
theorem pl_node_4 : place Tryz.prog 169 4 = some (6, 1) := by kernel_rfl
theorem pl_node_5 : place Tryz.prog 169 5 = some (7, 1) := by kernel_rfl
theorem pl_refcount_Counts_0 : place Tryz.prog 25 0 = some (0, 1) := by kernel_rfl
theorem ps_Extent : (placesOf Tryz.prog 65).isSome = true := by kernel_rfl
theorem ps_Tree : (placesOf Tryz.prog 112).isSome = true := by kernel_rfl
theorem ps_VolumeInfo : (placesOf Tryz.prog 34).isSome = true := by kernel_rfl
theorem ps_family_Family : (placesOf Tryz.prog 28).isSome = true := by kernel_rfl
theorem ps_family_size : (placesOf Tryz.prog 109).isSome = true := by kernel_rfl
theorem ps_family_volume : (placesOf Tryz.prog 114).isSome = true := by kernel_rfl
theorem ps_node : (placesOf Tryz.prog 169).isSome = true := by kernel_rfl
theorem ps_refcount_Counts : (placesOf Tryz.prog 25).isSome = true := by kernel_rfl
theorem pt_p_extree_node : Tryz.prog.underlying 110 = some (.pointer (Tryz.prog.pointee 110)) := by kernel_rfl
theorem sc_bool : scal Tryz.prog 4 = true := by kernel_rfl
theorem sc_int : scal Tryz.prog 3 = true := by kernel_rfl
theorem sc_m_string_family_volume : scal Tryz.prog 26 = true := by kernel_rfl
theorem sc_p_extree_node : scal Tryz.prog 110 = true := by kernel_rfl
theorem sc_s_api_Extent : scal Tryz.prog 51 = true := by kernel_rfl
theorem sc_s_int : scal Tryz.prog 23 = true := by kernel_rfl
theorem sc_uint8 : scal Tryz.prog 5 = true := by kernel_rfl
theorem sz_Extent : sizeT Tryz.prog 65 = some 3 := by kernel_rfl
theorem sz_Tree : sizeT Tryz.prog 112 = some 1 := by kernel_rfl
theorem sz_VolumeInfo : sizeT Tryz.prog 34 = some 5 := by kernel_rfl
theorem sz_bool : sizeT Tryz.prog 4 = some 1 := by kernel_rfl
theorem sz_family_Family : sizeT Tryz.prog 28 = some 2 := by kernel_rfl
theorem sz_family_volume : sizeT Tryz.prog 114 = some 3 := by kernel_rfl
theorem sz_int : sizeT Tryz.prog 3 = some 1 := by kernel_rfl
theorem sz_refcount_Counts : sizeT Tryz.prog 25 = some 1 := by kernel_rfl
theorem sz_s_api_Extent : sizeT Tryz.prog 51 = some 1 := by kernel_rfl
theorem um_m_string_family_volume : Tryz.prog.underlying 26 = some (.map 9 114) := by kernel_rfl
-- UNKNOWN um_vols
-- UNKNOWN un_pr
-- UNKNOWN un_rn
theorem un_string : Tryz.prog.underlying 9 = some (.string) := by kernel_rfl
theorem un_uint8 : Tryz.prog.underlying 5 = some (.int .u8) := by kernel_rfl
theorem us_s_api_Extent : Tryz.prog.underlying 51 = some (.slice 65) := by kernel_rfl
theorem us_s_int : Tryz.prog.underlying 23 = some (.slice 3) := by kernel_rfl
theorem us_s_uint8 : Tryz.prog.underlying 38 = some (.slice 5) := by kernel_rfl
theorem zg_family_volume : zagg Tryz.prog 114 = some [.int .i64 0, .int .i64 0, .pointer none] := by kernel_rfl
theorem zr_Extent : zeros Tryz.prog 65 = some [.int .i64 0, .int .i64 0, .int .i64 0] := by kernel_rfl
theorem zr_Tree : zeros Tryz.prog 112 = some [.pointer none] := by kernel_rfl
theorem zr_VolumeInfo : zeros Tryz.prog 34 = some [.string ByteArray.empty, .int .i64 0, .int .i64 0, .int .i64 0, .int .i64 0] := by kernel_rfl
theorem zr_bool : zeros Tryz.prog 4 = some [.bool false] := by kernel_rfl
theorem zr_family_Family : zeros Tryz.prog 28 = some [.slice none 0 0, .map none] := by kernel_rfl
theorem zr_family_size : zeros Tryz.prog 109 = some [.int .i64 0, .int .i64 0] := by kernel_rfl
theorem zr_family_volume : zeros Tryz.prog 114 = some [.int .i64 0, .int .i64 0, .pointer none] := by kernel_rfl
theorem zr_int : zeros Tryz.prog 3 = some [.int .i64 0] := by kernel_rfl
theorem zr_node : zeros Tryz.prog 169 = some [.int .i64 0, .int .i64 0, .int .i64 0, .pointer none, .pointer none, .int .i64 0, .int .i64 0, .int .i64 0] := by kernel_rfl
theorem zr_refcount_Counts : zeros Tryz.prog 25 = some [.slice none 0 0] := by kernel_rfl
theorem zr_s_api_Extent : zeros Tryz.prog 51 = some [.slice none 0 0] := by kernel_rfl
theorem HM : Tryz.prog.follows .mixedOrders = true := by kernel_rfl
end Go.Proofs.YtjglgfnhgehpeaaGreat

/- Extents put in a rotated order, plainly. -/
import Derived.Test.YtjglgfnhgehpeaaStp
namespace Go.Xt
open Go.Proofs.Ytjglgfnhgehpeaa
def cov (x : X) (b : Int) : Prop := x.a ≤ b ∧ b < x.a + x.n
theorem sem_mem : ∀ {L : List X} {z : X} {b : Int}, z ∈ L → cov z b → ∃ v, sem L b = some v
  | x :: L, z, b, hz, hc => by
    simp only [sem]
    by_cases q : x.a ≤ b ∧ b < x.a + x.n
    · exact ⟨_, if_pos q⟩
    · rw [if_neg q]
      rcases List.mem_cons.1 hz with rfl | hz
      · exact absurd hc q
      · exact sem_mem hz hc
theorem sem_some : ∀ {L : List X} {b v : Int}, sem L b = some v → ∃ p, p < L.length ∧ cov (L.getD p default) b ∧ v = (L.getD p default).s + b - (L.getD p default).a
  | x :: L, b, v, h => by
    simp only [sem] at h
    by_cases q : x.a ≤ b ∧ b < x.a + x.n
    · rw [if_pos q] at h
      cases h
      exact ⟨0, by simp, q, rfl⟩
    · rw [if_neg q] at h
      obtain ⟨p, h1, h2, h3⟩ := sem_some h
      exact ⟨p + 1, by simp; omega, by simpa using h2, by simpa using h3⟩
theorem getX_eq {L : List X} {p : Nat} (hp : p < L.length) : L.getD p default = L[p] := by
  rw [List.getD_eq_getElem?_getD, List.getElem?_eq_getElem hp]; rfl
theorem getX_mem {L : List X} {p : Nat} (hp : p < L.length) : L.getD p default ∈ L := by
  rw [getX_eq hp]; exact List.getElem_mem hp
theorem ok_before {L : List X} {lo : Int} (h : Ok lo L) {p q : Nat} (hpq : p < q) (hq : q < L.length) : (L.getD p default).a + (L.getD p default).n ≤ (L.getD q default).a := by
  have e : L.take q ++ L[q] :: L.drop (q + 1) = L := by rw [← List.drop_eq_getElem_cons hq, List.take_append_drop]
  rw [getX_eq hq, getX_eq (by omega)]
  rw [← e] at h
  refine h.ends _ ?_
  rw [List.mem_take_iff_getElem]
  exact ⟨p, by omega, rfl⟩
theorem ok_disj {L : List X} {lo b : Int} (h : Ok lo L) {p q : Nat} (hp : p < L.length) (hq : q < L.length) (h1 : cov (L.getD p default) b) (h2 : cov (L.getD q default) b) : p = q := by
  unfold cov at *
  rcases Nat.lt_trichotomy p q with hlt | e | hgt
  · have := ok_before h hlt hq; omega
  · exact e
  · have := ok_before h hgt hp; omega
/-- the place of the i-th -/
def kI (n r : Int) (back : Bool) (i : Int) : Int := if back then n - 1 - (i + r) % n else (i + r) % n
theorem kI_lt {n r i : Int} {back : Bool} (hn : 0 < n) : 0 ≤ kI n r back i ∧ kI n r back i < n := by
  have h0 := Int.emod_nonneg (i + r) (b := n) (by omega)
  have h1 := Int.emod_lt_of_pos (i + r) hn
  unfold kI
  split <;> omega
theorem kI_inj {n r i j : Int} {back : Bool} (hi : 0 ≤ i ∧ i < n) (hj : 0 ≤ j ∧ j < n) (h : kI n r back i = kI n r back j) : i = j := by
  have h' : (i + r) % n = (j + r) % n := by
    unfold kI at h
    split at h <;> omega
  have key : ∀ {i j : Int}, 0 ≤ i ∧ i < n → 0 ≤ j ∧ j < n → (i + r) % n = (j + r) % n → j ≤ i → i = j := by
    intro i j hi hj h hle
    have h2 := Int.emod_eq_emod_iff_emod_sub_eq_zero.1 h
    rw [show i + r - (j + r) = i - j from by omega, Int.emod_eq_of_lt (by omega) (by omega)] at h2
    omega
  rcases Int.le_total j i with hle | hle
  · exact key hi hj h' hle
  · exact (key hj hi h'.symm hle).symm
theorem kI_sur {n r p : Int} {back : Bool} (hp : 0 ≤ p ∧ p < n) : ∃ i, 0 ≤ i ∧ i < n ∧ kI n r back i = p := by
  have key : ∀ {p : Int}, 0 ≤ p ∧ p < n → ∃ i, 0 ≤ i ∧ i < n ∧ (i + r) % n = p := fun {p} hp => by
    refine ⟨(p - r) % n, Int.emod_nonneg _ (by omega), Int.emod_lt_of_pos _ (by omega), ?_⟩
    rw [Int.emod_add_emod, show p - r + r = p from by omega, Int.emod_eq_of_lt hp.1 hp.2]
  unfold kI
  cases back
  · simpa using key hp
  · obtain ⟨i, h1, h2, h3⟩ := key (p := n - 1 - p) (by omega)
    exact ⟨i, h1, h2, by simp only [if_true]; omega⟩
def kX (xs : List X) (r : Int) (back : Bool) (i : Nat) : X := xs.getD (kI xs.length r back i).toNat default
/-- the tree after so many -/
structure OrdT (xs : List X) (r : Int) (back : Bool) (i : Nat) (t : Tr) : Prop where
  wt : Wt t
  only : ∀ b v, sem t.list b = some v → ∃ i', i' < i ∧ cov (kX xs r back i') b
  all : ∀ b i', i' < i → cov (kX xs r back i') b → sem t.list b = some ((kX xs r back i').s + b - (kX xs r back i').a)
theorem ord_nil (xs : List X) (r : Int) (back : Bool) : OrdT xs r back 0 .nil := ⟨wt_nil', fun b v h => (by cases h), fun b i' h => absurd h (by omega)⟩
theorem kX_disj {xs : List X} {r b : Int} {back : Bool} (ho : Ok 0 xs) {i j : Nat} (hi : i < xs.length) (hj : j < xs.length) (h1 : cov (kX xs r back i) b) (h2 : cov (kX xs r back j) b) : i = j := by
  have k1 := kI_lt (n := xs.length) (r := r) (i := i) (back := back) (by omega)
  have k2 := kI_lt (n := xs.length) (r := r) (i := j) (back := back) (by omega)
  have h := ok_disj ho (by omega) (by omega) h1 h2
  have := kI_inj (n := xs.length) (r := r) (i := i) (j := j) (back := back) (by omega) (by omega) (by omega)
  omega
theorem ord_step {xs : List X} {r : Int} {back : Bool} {i : Nat} {t : Tr} (ho : Ok 0 xs) (h : OrdT xs r back i t) (hi : i < xs.length) :
    OrdT xs r back (i + 1) (tPut t (kX xs r back i)).1 ∧ (tPut t (kX xs r back i)).2.1 = [] ∧ (tPut t (kX xs r back i)).2.2 = 0 := by
  have k1 := kI_lt (n := xs.length) (r := r) (i := i) (back := back) (by omega)
  have hv : 0 ≤ (kX xs r back i).a ∧ 1 ≤ (kX xs r back i).n ∧ 0 ≤ (kX xs r back i).s ∧ (kX xs r back i).a + (kX xs r back i).n ≤ 65536 ∧ (kX xs r back i).s + (kX xs r back i).n ≤ 65536 := ho.starts _ (getX_mem (L := xs) (p := (kI xs.length r back i).toNat) (by omega))
  obtain ⟨v1, v2, v3, v4, v5⟩ := hv
  have hp : Pr (kX xs r back i) := ⟨v2, ⟨v1, by omega, by omega, by omega⟩, ⟨v3, by omega, by omega, by omega⟩⟩
  have hx : Vx (kX xs r back i) := ⟨v2, v3, v4, v5⟩
  obtain ⟨p1, p2, p3, _⟩ := put_spec h.wt v1 hx
  have e : tPut t (kX xs r back i) = ((put t (kX xs r back i)).1, (put t (kX xs r back i)).2.list, 0) := if_pos hp
  rw [e]
  refine ⟨⟨p1, fun b v hb => ?_, fun b i' hi' hc => ?_⟩, ?_, rfl⟩
  · rw [p3] at hb
    by_cases q : cov (kX xs r back i) b
    · exact ⟨i, by omega, q⟩
    · rw [if_neg (show ¬ ((kX xs r back i).a ≤ b ∧ b < (kX xs r back i).a + (kX xs r back i).n) from q)] at hb
      obtain ⟨i', h1, h2⟩ := h.only b v hb
      exact ⟨i', by omega, h2⟩
  · show sem (put t (kX xs r back i)).1.list b = _
    rw [p3]
    by_cases q : cov (kX xs r back i) b
    · have := kX_disj ho (by omega) hi hc q
      subst this
      exact if_pos q
    · rw [if_neg (show ¬ ((kX xs r back i).a ≤ b ∧ b < (kX xs r back i).a + (kX xs r back i).n) from q)]
      refine h.all b i' ?_ hc
      by_cases e : i' = i
      · subst e; exact absurd hc q
      · omega
  · show (put t (kX xs r back i)).2.list = []
    rw [p2]
    refine parts_nil fun z hz => ?_
    have hz2 := h.wt.2.1.starts z hz
    by_cases q : z.a + z.n ≤ (kX xs r back i).a ∨ (kX xs r back i).a + (kX xs r back i).n ≤ z.a
    · omega
    · exfalso
      have hb1 : cov z (max z.a (kX xs r back i).a) := by unfold cov; omega
      have hb2 : cov (kX xs r back i) (max z.a (kX xs r back i).a) := by unfold cov; omega
      obtain ⟨v, hv⟩ := sem_mem hz hb1
      obtain ⟨i', h1, h2⟩ := h.only _ v hv
      have := kX_disj ho (by omega) hi h2 hb2
      omega
theorem ord_end {xs : List X} {r : Int} {back : Bool} {t : Tr} (ho : Ok 0 xs) (h : OrdT xs r back xs.length t) : t.list = Jn xs := by
  obtain ⟨j1, j2, j3⟩ := jn_spec ho
  refine nf_unique _ _ 0 0 h.wt.2.1 j1 h.wt.2.2 j2 fun b => ?_
  rw [j3]
  cases hs : sem xs b with
  | some v =>
    obtain ⟨p, h1, h2, h3⟩ := sem_some hs
    obtain ⟨i, i0, i1, hk⟩ := kI_sur (n := xs.length) (r := r) (p := p) (back := back) (by omega)
    have e : kX xs r back i.toNat = xs.getD p default := by
      unfold kX
      rw [show ((i.toNat : Nat) : Int) = i from by omega, hk]; rfl
    rw [h.all b i.toNat (by omega) (by rw [e]; exact h2), e, h3]
  | none =>
    cases ht : sem t.list b with
    | none => rfl
    | some v =>
      obtain ⟨i', h1, h2⟩ := h.only b v ht
      have k1 := kI_lt (n := xs.length) (r := r) (i := i') (back := back) (by omega)
      obtain ⟨v', hv'⟩ := sem_mem (getX_mem (L := xs) (p := (kI xs.length r back i').toNat) (by omega)) h2
      rw [hs] at hv'; cases hv'
end Go.Xt

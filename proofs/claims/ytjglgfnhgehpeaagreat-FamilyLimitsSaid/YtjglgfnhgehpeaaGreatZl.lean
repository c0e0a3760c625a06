/- Parts: Ord, CntP, RefA. -/
import Derived.Test.YtjglgfnhgehpeaaGreatZk
import Derived.Test.YtjglgfnhgehpeaaGreatZe
/- Extents put in a rotated order, plainly. -/
namespace Go.Xt
open Go.Proofs.YtjglgfnhgehpeaaGreat
def cov (x : X) (b : Int) : Prop := x.a ≤ b ∧ b < x.a + x.n
theorem sem_mem : ∀ {L : List X} {z : X} {b : Int}, z ∈ L → cov z b → ∃ v, sem L b = some v
  | x :: L, z, b, hz, hc => by
    simp only [sem]
    by_cases q : x.a ≤ b ∧ b < x.a + x.n
    · exact ⟨_, if_pos q⟩
    · rw [if_neg q]
      rcases List.mem_cons.1 hz with rfl | hz
      · exact absurd hc q
      · exact sem_mem hz hc
theorem sem_some : ∀ {L : List X} {b v : Int}, sem L b = some v → ∃ p, p < L.length ∧ cov (L.getD p default) b ∧ v = (L.getD p default).s + b - (L.getD p default).a
  | x :: L, b, v, h => by
    simp only [sem] at h
    by_cases q : x.a ≤ b ∧ b < x.a + x.n
    · rw [if_pos q] at h
      cases h
      exact ⟨0, by simp, q, rfl⟩
    · rw [if_neg q] at h
      obtain ⟨p, h1, h2, h3⟩ := sem_some h
      exact ⟨p + 1, by simp; omega, by simpa using h2, by simpa using h3⟩
theorem getX_eq {L : List X} {p : Nat} (hp : p < L.length) : L.getD p default = L[p] := by
  rw [List.getD_eq_getElem?_getD, List.getElem?_eq_getElem hp]; rfl
theorem getX_mem {L : List X} {p : Nat} (hp : p < L.length) : L.getD p default ∈ L := by
  rw [getX_eq hp]; exact List.getElem_mem hp
theorem ok_before {L : List X} {lo : Int} (h : Ok lo L) {p q : Nat} (hpq : p < q) (hq : q < L.length) : (L.getD p default).a + (L.getD p default).n ≤ (L.getD q default).a := by
  have e : L.take q ++ L[q] :: L.drop (q + 1) = L := by rw [← List.drop_eq_getElem_cons hq, List.take_append_drop]
  rw [getX_eq hq, getX_eq (by omega)]
  rw [← e] at h
  refine h.ends _ ?_
  rw [List.mem_take_iff_getElem]
  exact ⟨p, by omega, rfl⟩
theorem ok_disj {L : List X} {lo b : Int} (h : Ok lo L) {p q : Nat} (hp : p < L.length) (hq : q < L.length) (h1 : cov (L.getD p default) b) (h2 : cov (L.getD q default) b) : p = q := by
  unfold cov at *
  rcases Nat.lt_trichotomy p q with hlt | e | hgt
  · have := ok_before h hlt hq; omega
  · exact e
  · have := ok_before h hgt hp; omega
/-- the place of the i-th -/
def kI (n r : Int) (back : Bool) (i : Int) : Int := if back then n - 1 - (i + r) % n else (i + r) % n
theorem kI_lt {n r i : Int} {back : Bool} (hn : 0 < n) : 0 ≤ kI n r back i ∧ kI n r back i < n := by
  have h0 := Int.emod_nonneg (i + r) (b := n) (by omega)
  have h1 := Int.emod_lt_of_pos (i + r) hn
  unfold kI
  split <;> omega
theorem kI_inj {n r i j : Int} {back : Bool} (hi : 0 ≤ i ∧ i < n) (hj : 0 ≤ j ∧ j < n) (h : kI n r back i = kI n r back j) : i = j := by
  have h' : (i + r) % n = (j + r) % n := by
    unfold kI at h
    split at h <;> omega
  have key : ∀ {i j : Int}, 0 ≤ i ∧ i < n → 0 ≤ j ∧ j < n → (i + r) % n = (j + r) % n → j ≤ i → i = j := by
    intro i j hi hj h hle
    have h2 := Int.emod_eq_emod_iff_emod_sub_eq_zero.1 h
    rw [show i + r - (j + r) = i - j from by omega, Int.emod_eq_of_lt (by omega) (by omega)] at h2
    omega
  rcases Int.le_total j i with hle | hle
  · exact key hi hj h' hle
  · exact (key hj hi h'.symm hle).symm
theorem kI_sur {n r p : Int} {back : Bool} (hp : 0 ≤ p ∧ p < n) : ∃ i, 0 ≤ i ∧ i < n ∧ kI n r back i = p := by
  have key : ∀ {p : Int}, 0 ≤ p ∧ p < n → ∃ i, 0 ≤ i ∧ i < n ∧ (i + r) % n = p := fun {p} hp => by
    refine ⟨(p - r) % n, Int.emod_nonneg _ (by omega), Int.emod_lt_of_pos _ (by omega), ?_⟩
    rw [Int.emod_add_emod, show p - r + r = p from by omega, Int.emod_eq_of_lt hp.1 hp.2]
  unfold kI
  cases back
  · simpa using key hp
  · obtain ⟨i, h1, h2, h3⟩ := key (p := n - 1 - p) (by omega)
    exact ⟨i, h1, h2, by simp only [if_true]; omega⟩
def kX (xs : List X) (r : Int) (back : Bool) (i : Nat) : X := xs.getD (kI xs.length r back i).toNat default
/-- the tree after so many -/
structure OrdT (xs : List X) (r : Int) (back : Bool) (i : Nat) (t : Tr) : Prop where
  wt : Wt t
  only : ∀ b v, sem t.list b = some v → ∃ i', i' < i ∧ cov (kX xs r back i') b
  all : ∀ b i', i' < i → cov (kX xs r back i') b → sem t.list b = some ((kX xs r back i').s + b - (kX xs r back i').a)
theorem ord_nil (xs : List X) (r : Int) (back : Bool) : OrdT xs r back 0 .nil := ⟨wt_nil', fun b v h => (by cases h), fun b i' h => absurd h (by omega)⟩
theorem kX_disj {xs : List X} {r b : Int} {back : Bool} (ho : Ok 0 xs) {i j : Nat} (hi : i < xs.length) (hj : j < xs.length) (h1 : cov (kX xs r back i) b) (h2 : cov (kX xs r back j) b) : i = j := by
  have k1 := kI_lt (n := xs.length) (r := r) (i := i) (back := back) (by omega)
  have k2 := kI_lt (n := xs.length) (r := r) (i := j) (back := back) (by omega)
  have h := ok_disj ho (by omega) (by omega) h1 h2
  have := kI_inj (n := xs.length) (r := r) (i := i) (j := j) (back := back) (by omega) (by omega) (by omega)
  omega
theorem ord_step {xs : List X} {r : Int} {back : Bool} {i : Nat} {t : Tr} (ho : Ok 0 xs) (h : OrdT xs r back i t) (hi : i < xs.length) :
    OrdT xs r back (i + 1) (tPut t (kX xs r back i)).1 ∧ (tPut t (kX xs r back i)).2.1 = [] ∧ (tPut t (kX xs r back i)).2.2 = 0 := by
  have k1 := kI_lt (n := xs.length) (r := r) (i := i) (back := back) (by omega)
  have hv : 0 ≤ (kX xs r back i).a ∧ 1 ≤ (kX xs r back i).n ∧ 0 ≤ (kX xs r back i).s ∧ (kX xs r back i).a + (kX xs r back i).n ≤ 65536 ∧ (kX xs r back i).s + (kX xs r back i).n ≤ 65536 := ho.starts _ (getX_mem (L := xs) (p := (kI xs.length r back i).toNat) (by omega))
  obtain ⟨v1, v2, v3, v4, v5⟩ := hv
  have hp : Pr (kX xs r back i) := ⟨v2, ⟨v1, by omega, by omega, by omega⟩, ⟨v3, by omega, by omega, by omega⟩⟩
  have hx : Vx (kX xs r back i) := ⟨v2, v3, v4, v5⟩
  obtain ⟨p1, p2, p3, _⟩ := put_spec h.wt v1 hx
  have e : tPut t (kX xs r back i) = ((put t (kX xs r back i)).1, (put t (kX xs r back i)).2.list, 0) := if_pos hp
  rw [e]
  refine ⟨⟨p1, fun b v hb => ?_, fun b i' hi' hc => ?_⟩, ?_, rfl⟩
  · rw [p3] at hb
    by_cases q : cov (kX xs r back i) b
    · exact ⟨i, by omega, q⟩
    · rw [if_neg (show ¬ ((kX xs r back i).a ≤ b ∧ b < (kX xs r back i).a + (kX xs r back i).n) from q)] at hb
      obtain ⟨i', h1, h2⟩ := h.only b v hb
      exact ⟨i', by omega, h2⟩
  · show sem (put t (kX xs r back i)).1.list b = _
    rw [p3]
    by_cases q : cov (kX xs r back i) b
    · have := kX_disj ho (by omega) hi hc q
      subst this
      exact if_pos q
    · rw [if_neg (show ¬ ((kX xs r back i).a ≤ b ∧ b < (kX xs r back i).a + (kX xs r back i).n) from q)]
      refine h.all b i' ?_ hc
      by_cases e : i' = i
      · subst e; exact absurd hc q
      · omega
  · show (put t (kX xs r back i)).2.list = []
    rw [p2]
    refine parts_nil fun z hz => ?_
    have hz2 := h.wt.2.1.starts z hz
    by_cases q : z.a + z.n ≤ (kX xs r back i).a ∨ (kX xs r back i).a + (kX xs r back i).n ≤ z.a
    · omega
    · exfalso
      have hb1 : cov z (max z.a (kX xs r back i).a) := by unfold cov; omega
      have hb2 : cov (kX xs r back i) (max z.a (kX xs r back i).a) := by unfold cov; omega
      obtain ⟨v, hv⟩ := sem_mem hz hb1
      obtain ⟨i', h1, h2⟩ := h.only _ v hv
      have := kX_disj ho (by omega) hi h2 hb2
      omega
theorem ord_end {xs : List X} {r : Int} {back : Bool} {t : Tr} (ho : Ok 0 xs) (h : OrdT xs r back xs.length t) : t.list = Jn xs := by
  obtain ⟨j1, j2, j3⟩ := jn_spec ho
  refine nf_unique _ _ 0 0 h.wt.2.1 j1 h.wt.2.2 j2 fun b => ?_
  rw [j3]
  cases hs : sem xs b with
  | some v =>
    obtain ⟨p, h1, h2, h3⟩ := sem_some hs
    obtain ⟨i, i0, i1, hk⟩ := kI_sur (n := xs.length) (r := r) (p := p) (back := back) (by omega)
    have e : kX xs r back i.toNat = xs.getD p default := by
      unfold kX
      rw [show ((i.toNat : Nat) : Int) = i from by omega, hk]; rfl
    rw [h.all b i.toNat (by omega) (by rw [e]; exact h2), e, h3]
  | none =>
    cases ht : sem t.list b with
    | none => rfl
    | some v =>
      obtain ⟨i', h1, h2⟩ := h.only b v ht
      have k1 := kI_lt (n := xs.length) (r := r) (i := i') (back := back) (by omega)
      obtain ⟨v', hv'⟩ := sem_mem (getX_mem (L := xs) (p := (kI xs.length r back i').toNat) (by omega)) h2
      rw [hs] at hv'; cases hv'
end Go.Xt

/- Counts of slots, plainly. -/
namespace Go.Xt
/-- from a on, k counts are changed -/
def inc (d : Int) (out : List Int) (a : Nat) : Nat → List Int
  | 0 => out
  | k + 1 => (inc d out a k).set (a + k) ((inc d out a k).getD (a + k) 0 + d)
def chg (d : Int) (cs : List Int) (xs : List X) : List Int := xs.foldl (fun out x => inc d out x.s.toNat x.n.toNat) cs
/-- how many list a slot -/
def hits (xs : List X) (s : Int) : Int := match xs with
  | [] => 0
  | x :: xs => (if x.s ≤ s ∧ s < x.s + x.n then 1 else 0) + hits xs s
def perm1 (N : Int) (x : X) : Bool := decide (1 ≤ x.n) && decide (0 ≤ x.s) && decide (x.s ≤ N) && decide (x.n ≤ N - x.s)
def permB (N : Int) (xs : List X) : Bool := xs.foldl (fun ok x => ok && perm1 N x) true
theorem foldl_and {α : Type} (p : α → Bool) : ∀ (xs : List α) (b : Bool), xs.foldl (fun ok x => ok && p x) b = (b && xs.all p)
  | [], b => by simp
  | x :: xs, b => by rw [List.foldl_cons, foldl_and p xs, List.all_cons, Bool.and_assoc]
theorem permB_iff {N : Int} {xs : List X} : permB N xs = true ↔ ∀ x ∈ xs, 1 ≤ x.n ∧ 0 ≤ x.s ∧ x.s + x.n ≤ N := by
  unfold permB
  rw [foldl_and, Bool.true_and, List.all_eq_true]
  constructor <;> intro h x hx <;> have := h x hx <;> simp only [perm1, Bool.and_eq_true, decide_eq_true_eq] at * <;> omega
theorem inc_len (d : Int) (out : List Int) (a : Nat) : ∀ k, (inc d out a k).length = out.length
  | 0 => rfl
  | k + 1 => by simp only [inc, List.length_set]; exact inc_len d out a k
theorem inc_get (d : Int) (out : List Int) (a : Nat) : ∀ (k : Nat), a + k ≤ out.length → ∀ s, (inc d out a k).getD s 0 = out.getD s 0 + (if a ≤ s ∧ s < a + k then d else 0)
  | 0, _, s => by simp only [inc]; rw [if_neg (by omega)]; omega
  | k + 1, h, s => by
    have ih := inc_get d out a k (by omega)
    have hl := inc_len d out a k
    simp only [inc]
    rw [List.getD_eq_getElem?_getD, List.getElem?_set]
    by_cases e : a + k = s
    · subst e
      rw [if_pos rfl, if_pos (by omega), if_pos (by omega)]
      show (inc d out a k).getD (a + k) 0 + d = _
      rw [ih, if_neg (by omega)]
      omega
    · rw [if_neg e, ← List.getD_eq_getElem?_getD, ih]
      by_cases q : a ≤ s ∧ s < a + k
      · rw [if_pos q, if_pos (by omega)]
      · rw [if_neg q, if_neg (by omega)]
theorem chg_snoc (d : Int) (cs : List Int) (xs : List X) (x : X) : chg d cs (xs ++ [x]) = inc d (chg d cs xs) x.s.toNat x.n.toNat := by
  unfold chg; rw [List.foldl_append]; rfl
theorem hits_app (xs ys : List X) (s : Int) : hits (xs ++ ys) s = hits xs s + hits ys s := by
  induction xs with
  | nil => simp [hits]
  | cons x xs ih => simp only [List.cons_append, hits, ih]; omega
theorem hits_nn (xs : List X) (s : Int) : 0 ≤ hits xs s := by
  induction xs with
  | nil => simp [hits]
  | cons x xs ih => simp only [hits]; split <;> omega
theorem hits_le (xs : List X) (s : Int) : hits xs s ≤ xs.length := by
  induction xs with
  | nil => simp [hits]
  | cons x xs ih => simp only [hits, List.length_cons]; split <;> omega
theorem chg_ok (d : Int) (cs : List Int) : ∀ (n : Nat) (xs : List X), xs.length = n → (∀ x ∈ xs, 1 ≤ x.n ∧ 0 ≤ x.s ∧ x.s + x.n ≤ cs.length) → (chg d cs xs).length = cs.length ∧ ∀ s : Nat, (chg d cs xs).getD s 0 = cs.getD s 0 + d * hits xs s
  | 0, xs, hn, _ => by
    have : xs = [] := List.eq_nil_of_length_eq_zero hn
    subst this
    exact ⟨rfl, fun s => by simp [chg, hits]⟩
  | n + 1, xs, hn, h => by
    rcases List.eq_nil_or_concat xs with rfl | ⟨ys, x, h0⟩
    · simp at hn
    · rw [List.concat_eq_append] at h0
      subst h0
      obtain ⟨ih1, ih2⟩ := chg_ok d cs n ys (by simpa using hn) fun z hz => h z (List.mem_append_left _ hz)
      have hx := h x (by simp)
      rw [chg_snoc]
      refine ⟨by rw [inc_len, ih1], fun s => ?_⟩
      rw [inc_get _ _ _ _ (by omega), ih2, hits_app]
      simp only [hits]
      by_cases q : x.s ≤ s ∧ (s : Int) < x.s + x.n
      · rw [if_pos q, if_pos (by omega), Int.add_zero, Int.mul_add, Int.mul_one]; omega
      · rw [if_neg q, if_neg (by omega)]; simp
end Go.Xt

/- The small functions of the specification of extents. -/
set_option linter.unusedVariables false
set_option linter.unusedSimpArgs false
set_option maxRecDepth 4000
namespace Go.Proofs.YtjglgfnhgehpeaaGreat
open Go.RowKit Go.Fw Go.Xt
theorem c_r32_One (x : X) : PureC Tryz.prog 150 [ext x] (val (.bool (decide (Pr x)))) := by
  refine PureC.of_wp Tryz.func150 (by kernel_rfl) rfl Tryz.ntmps150 (le_ rfl) (fun w0 M0 => ?_)
  refine WP.seq ?_
  refine WP.region ?_
  refine WL.box (ot rfl) (.agg _) (by decide) fun b1 => ?_
  refine WL.op (asg (oc _)) (by decide) ?_
  refine WL.nl (.thn ?_)
  refine WP.seq ?_
  refine WP.region ?_
  refine WL.op (fv fo_Extent_0 (ot rfl)) (by decide) ?_
  refine WL.op (lb 0 rfl sc_int (ot rfl) rfl) (by decide) ?_
  refine WL.op (geq (ot rfl) (oc _)) (by decide) ?_
  refine WL.op (mv (ot rfl)) (by decide) ?_
  refine WL.gd rfl rfl (Tells.v _ _) (fun hg => fv fo_Extent_2 (ot rfl)) (by decide) ?_
  refine WL.gd rfl rfl (Tells.v _ _) (fun hg => lb 0 rfl sc_int (og rfl hg) rfl) (by decide) ?_
  refine WL.gd rfl rfl (Tells.v _ _) (fun hg => geq (og rfl hg) (oc _)) (by decide) ?_
  refine WL.op (and_ (ot rfl) (ot rfl)) (by decide) ?_
  refine WL.op (mv (ot rfl)) (by decide) ?_
  refine WL.gd rfl rfl (Tells.v _ _) (fun hg => fv fo_Extent_1 (ot rfl)) (by decide) ?_
  refine WL.gd rfl rfl (Tells.v _ _) (fun hg => lb 0 rfl sc_int (og rfl hg) rfl) (by decide) ?_
  refine WL.gd rfl rfl (Tells.v _ _) (fun hg => geq (og rfl hg) (oc _)) (by decide) ?_
  refine WL.op (and_ (ot rfl) (ot rfl)) (by decide) ?_
  refine WL.op (mv (ot rfl)) (by decide) ?_
  refine WL.gd rfl rfl (Tells.v _ _) (fun hg => fv fo_Extent_0 (ot rfl)) (by decide) ?_
  refine WL.gd rfl rfl (Tells.v _ _) (fun hg => lb 0 rfl sc_int (og rfl hg) rfl) (by decide) ?_
  refine WL.gd rfl rfl (Tells.v _ _) (fun hg => leq (og rfl hg) (oc _)) (by decide) ?_
  refine WL.op (and_ (ot rfl) (ot rfl)) (by decide) ?_
  refine WL.op (mv (ot rfl)) (by decide) ?_
  refine WL.gd rfl rfl (Tells.v _ _) (fun hg => fv fo_Extent_2 (ot rfl)) (by decide) ?_
  refine WL.gd rfl rfl (Tells.v _ _) (fun hg => lb 0 rfl sc_int (og rfl hg) rfl) (by decide) ?_
  refine WL.gd rfl rfl (Tells.v _ _) (fun hg => leq (og rfl hg) (oc _)) (by decide) ?_
  refine WL.op (and_ (ot rfl) (ot rfl)) (by decide) ?_
  refine WL.op (mv (ot rfl)) (by decide) ?_
  refine WL.gd rfl rfl (Tells.v _ _) (fun hg => fv fo_Extent_1 (ot rfl)) (by decide) ?_
  refine WL.gd rfl rfl (Tells.v _ _) (fun hg => lb 0 rfl sc_int (og rfl hg) rfl) (by decide) ?_
  refine WL.gd rfl rfl (Tells.v _ _) (fun hg => leq (og rfl hg) (oc _)) (by decide) ?_
  refine WL.op (and_ (ot rfl) (ot rfl)) (by decide) ?_
  refine WL.op (mv (ot rfl)) (by decide) ?_
  refine WL.gd rfl rfl (Tells.v _ _) (fun hg => fv fo_Extent_0 (ot rfl)) (by decide) ?_
  refine WL.gd rfl rfl (Tells.v _ _) (fun hg => lb 0 rfl sc_int (og rfl hg) rfl) (by decide) ?_
  refine WL.gd rfl rfl (Tells.v _ _) (fun hg => fv fo_Extent_1 (ot rfl)) (by decide) ?_
  refine WL.gd rfl rfl (Tells.v _ _) (fun hg => lb 0 rfl sc_int (og rfl hg) rfl) (by decide) ?_
  refine WL.gd rfl rfl (Tells.v _ _) (fun hg => add (og rfl hg) (og rfl hg) (by simp at hg; omega)) (by decide) ?_
  refine WL.gd rfl rfl (Tells.v _ _) (fun hg => leq (og rfl hg) (oc _)) (by decide) ?_
  refine WL.op (and_ (ot rfl) (ot rfl)) (by decide) ?_
  refine WL.op (mv (ot rfl)) (by decide) ?_
  refine WL.gd rfl rfl (Tells.v _ _) (fun hg => fv fo_Extent_2 (ot rfl)) (by decide) ?_
  refine WL.gd rfl rfl (Tells.v _ _) (fun hg => lb 0 rfl sc_int (og rfl hg) rfl) (by decide) ?_
  refine WL.gd rfl rfl (Tells.v _ _) (fun hg => fv fo_Extent_1 (ot rfl)) (by decide) ?_
  refine WL.gd rfl rfl (Tells.v _ _) (fun hg => lb 0 rfl sc_int (og rfl hg) rfl) (by decide) ?_
  refine WL.gd rfl rfl (Tells.v _ _) (fun hg => add (og rfl hg) (og rfl hg) (by simp at hg; omega)) (by decide) ?_
  refine WL.gd rfl rfl (Tells.v _ _) (fun hg => leq (og rfl hg) (oc _)) (by decide) ?_
  refine WL.op (and_ (ot rfl) (ot rfl)) (by decide) ?_
  refine WL.op (asg (ot rfl)) (by decide) ?_
  refine WL.nl (.thn ?_)
  exact WP.rt (.r1 rfl rfl (imp_eq (congrArg (fun b => val (.bool b)) (by rw [Bool.eq_iff_iff]; refine Iff.trans ?_ decide_eq_true_iff.symm; simp [Pr, Wi]; omega))))
theorem c_r32_Range (a n : Int) : PureC Tryz.prog 121 [I a, I n] (val (.bool (decide (Wi a n 65536)))) := by
  refine PureC.of_wp Tryz.func121 (by kernel_rfl) rfl Tryz.ntmps121 (le_ rfl) (fun w0 M0 => ?_)
  refine WP.seq ?_
  refine WP.region ?_
  refine WL.op (asg (oc _)) (by decide) ?_
  refine WL.nl (.thn ?_)
  refine WP.seq ?_
  refine WP.region ?_
  refine WL.op (mv (ot rfl)) (by decide) ?_
  refine WL.op (geq (ot rfl) (oc _)) (by decide) ?_
  refine WL.op (mv (ot rfl)) (by decide) ?_
  refine WL.gd rfl rfl (Tells.v _ _) (fun hg => mv (ot rfl)) (by decide) ?_
  refine WL.gd rfl rfl (Tells.v _ _) (fun hg => geq (og rfl hg) (oc _)) (by decide) ?_
  refine WL.op (and_ (ot rfl) (ot rfl)) (by decide) ?_
  refine WL.op (mv (ot rfl)) (by decide) ?_
  refine WL.gd rfl rfl (Tells.v _ _) (fun hg => mv (ot rfl)) (by decide) ?_
  refine WL.gd rfl rfl (Tells.v _ _) (fun hg => leq (og rfl hg) (oc _)) (by decide) ?_
  refine WL.op (and_ (ot rfl) (ot rfl)) (by decide) ?_
  refine WL.op (mv (ot rfl)) (by decide) ?_
  refine WL.gd rfl rfl (Tells.v _ _) (fun hg => mv (ot rfl)) (by decide) ?_
  refine WL.gd rfl rfl (Tells.v _ _) (fun hg => leq (og rfl hg) (oc _)) (by decide) ?_
  refine WL.op (and_ (ot rfl) (ot rfl)) (by decide) ?_
  refine WL.op (mv (ot rfl)) (by decide) ?_
  refine WL.gd rfl rfl (Tells.v _ _) (fun hg => mv (ot rfl)) (by decide) ?_
  refine WL.gd rfl rfl (Tells.v _ _) (fun hg => mv (ot rfl)) (by decide) ?_
  refine WL.gd rfl rfl (Tells.v _ _) (fun hg => add (og rfl hg) (og rfl hg) (by simp at hg; omega)) (by decide) ?_
  refine WL.gd rfl rfl (Tells.v _ _) (fun hg => leq (og rfl hg) (oc _)) (by decide) ?_
  refine WL.op (and_ (ot rfl) (ot rfl)) (by decide) ?_
  refine WL.op (asg (ot rfl)) (by decide) ?_
  refine WL.nl (.thn ?_)
  exact WP.rt (.r1 rfl rfl (imp_eq (congrArg (fun b => val (.bool b)) (by rw [Bool.eq_iff_iff]; refine Iff.trans ?_ decide_eq_true_iff.symm; simp [Wi]; omega))))

/-- the part of an extent between two blocks, as the code says it -/
def cpart (x : X) (f t : Int) : X := ⟨max x.a f, min (x.a + x.n) t - max x.a f, x.s + max x.a f - x.a⟩

theorem c_r32_part (x : X) (f t : Int) (h : 0 ≤ x.a ∧ 0 ≤ x.n ∧ 0 ≤ x.s ∧ x.a + x.n ≤ 100000000 ∧ x.s + x.n ≤ 100000000) (hf : 0 ≤ f ∧ f ≤ 100000000) (ht : 0 ≤ t ∧ t ≤ 100000000) : PureC Tryz.prog 155 [ext x, I f, I t] (tup [ext (cpart x f t), val (.bool (decide (max x.a f < min (x.a + x.n) t)))]) := by
  refine PureC.of_wp Tryz.func155 (by kernel_rfl) rfl Tryz.ntmps155 (le_ rfl) (fun w0 M0 => ?_)
  refine WP.seq ?_
  refine WP.region ?_
  refine WL.box (ot rfl) (.agg _) (by decide) fun b3 => ?_
  refine WL.alloc zr_Extent rfl (by decide) fun b6 => ?_
  refine WL.op (asg (oc _)) (by decide) ?_
  refine WL.nl (.thn ?_)
  refine WP.seq ?_
  refine WP.draws ?_
  refine RG.op (fv fo_Extent_0 (ot rfl)) ?_
  refine RG.op (lb 1 rfl sc_int (ot rfl) rfl) ?_
  refine RG.op (mv (ot rfl)) ?_
  refine RG.op (mx_ (ot rfl) (ot rfl)) ?_
  refine RG.op (fv fo_Extent_0 (ot rfl)) ?_
  refine RG.op (lb 1 rfl sc_int (ot rfl) rfl) ?_
  refine RG.op (fv fo_Extent_1 (ot rfl)) ?_
  refine RG.op (lb 1 rfl sc_int (ot rfl) rfl) ?_
  refine RG.op (add (ot rfl) (ot rfl) (by omega)) ?_
  refine RG.op (mv (ot rfl)) ?_
  refine RG.op (mn_ (ot rfl) (ot rfl)) ?_
  refine RG.op (asg (ot rfl)) ?_
  refine RG.op (asg (ot rfl)) ?_
  refine RG.fin HM (by kernel_rfl) ?_
  show WL _ _ _ _ _ _ _ _ _
  refine WL.nl (.thn ?_)
  refine WP.seq ?_
  refine WP.region ?_
  refine WL.op (mv (ot rfl)) (by decide) ?_
  refine WL.op (mv (ot rfl)) (by decide) ?_
  refine WL.op (mv (ot rfl)) (by decide) ?_
  refine WL.op (sub (ot rfl) (ot rfl) (by omega)) (by decide) ?_
  refine WL.op (fv fo_Extent_2 (ot rfl)) (by decide) ?_
  refine WL.op (lb 1 rfl sc_int (ot rfl) rfl) (by decide) ?_
  refine WL.op (mv (ot rfl)) (by decide) ?_
  refine WL.op (add (ot rfl) (ot rfl) (by omega)) (by decide) ?_
  refine WL.op (fv fo_Extent_0 (ot rfl)) (by decide) ?_
  refine WL.op (lb 1 rfl sc_int (ot rfl) rfl) (by decide) ?_
  refine WL.op (sub (ot rfl) (ot rfl) (by omega)) (by decide) ?_
  refine WL.op (bld zr_Extent rfl ps_Extent (.c (ot rfl) (.leaf (.val rfl)) pl_Extent_0 rfl (le_ rfl) (.c (ot rfl) (.leaf (.val rfl)) pl_Extent_1 rfl (le_ rfl) (.c (ot rfl) (.leaf (.val rfl)) pl_Extent_2 rfl (le_ rfl) .n)))) (by decide) ?_
  refine WL.op (mv (ot rfl)) (by decide) ?_
  refine WL.op (mv (ot rfl)) (by decide) ?_
  refine WL.op (lss (ot rfl) (ot rfl)) (by decide) ?_
  refine WL.store 0 rfl (ot rfl) (ot rfl) (.agg _) sz_Extent rfl (le_ rfl) ?_
  refine WL.op (asg (ot rfl)) (by decide) ?_
  refine WL.nl (.thn ?_)
  exact WP.rt (.rN rfl (.cons (.bx 0 rfl rfl ag_Extent) (.cons (.tm rfl) .nil)) (le_ rfl) (imp_eq rfl))
theorem c_r32_Valid (xs : List X) (hl : xs.length ≤ 100000) : PureC Tryz.prog 115 [sl 3 FX xs] (val (.bool (decide (Xt.Ok 0 xs)))) := by
  refine PureC.of_wp Tryz.func115 (by kernel_rfl) rfl Tryz.ntmps115 (le_ rfl) (fun w0 M0 => ?_)
  refine WP.seq ?_
  refine WP.region ?_
  refine WL.op (asg (oc _)) (by decide) ?_
  refine WL.nl (.thn ?_)
  refine WP.seq ?_
  refine WP.seq ?_
  refine WP.region ?_
  refine WL.op (asg (oc _)) (by decide) ?_
  refine WL.nl (.thn ?_)
  refine WP.block ?_
  refine WP.loop (fun y : Nat => []) (fun y => [(3, I (y : Int)), (0, sl 3 FX xs)]) (fun y => y ≤ xs.length ∧ Xt.Ok 0 (xs.take y)) (fun y => xs.length - y) 0 ⟨Nat.zero_le _, trivial⟩ (Sub.of (Sub.cons rfl (imp_eq rfl) (Sub.cons rfl (imp _) Sub.nil))) (fun i hi => ?_)
  replace hi : i ≤ xs.length ∧ Xt.Ok 0 (xs.take i) := hi
  show WP _ _ _ _ [] [(3, I (i : Int)), (0, sl 3 FX xs)] _ _
  refine WP.seq ?_
  refine WP.seq ?_
  refine WP.region ?_
  refine WL.op (mv (ot rfl)) (by decide) ?_
  refine WL.op (mv (ot rfl)) (by decide) ?_
  refine WL.op (len_ us_s_api_Extent (ot rfl)) (by decide) ?_
  refine WL.op (lss (ot rfl) (ot rfl)) (by decide) ?_
  refine WL.nl (.thn ?_)
  refine WP.condB (decide (i < xs.length)) rfl (by rw [Bool.eq_iff_iff]; simp) (fun hc => ?_) (fun hc => ?_)
  · skip
    have hc1 : i < xs.length := by simpa using hc
    have hprev : 0 < i → 0 ≤ (xs.getD ((i : Int) - 1).toNat default).a + (xs.getD ((i : Int) - 1).toNat default).n ∧ (xs.getD ((i : Int) - 1).toNat default).a + (xs.getD ((i : Int) - 1).toNat default).n ≤ 100000000 := fun h0 => by
      have e2 : ((i : Int) - 1).toNat = i - 1 := by omega
      rw [e2, List.getD_eq_getElem?_getD, List.getElem?_eq_getElem (by omega)]
      have := hi.2.starts (xs[i - 1]) (List.mem_take_iff_getElem.2 ⟨i - 1, by omega, rfl⟩)
      show 0 ≤ xs[i - 1].a + xs[i - 1].n ∧ xs[i - 1].a + xs[i - 1].n ≤ 100000000
      omega
    refine WP.sk (.thn ?_)
    refine WP.seq ?_
    refine WP.block ?_
    refine WP.seq ?_
    refine WP.draws ?_
    refine RG.op (mv (ot rfl)) ?_
    refine RG.op (mv (ot rfl)) ?_
    refine RG.op (ixd el_s_api_Extent (ot rfl) (ot rfl) (by omega) (by omega)) ?_
    refine RG.op (ls ag_Extent (ot rfl) (le_ rfl)) ?_
    refine RG.op (call (c_r32_One (xs.getD (i : Int).toNat default)) (.c (ot rfl) .n)) ?_
    refine RG.op (not_ (ot rfl)) ?_
    refine RG.op (mv (ot rfl)) ?_
    refine RG.gd rfl rfl (Tells.v _ _) (fun hg => mv (ot rfl)) ?_
    refine RG.gd rfl rfl (Tells.v _ _) (fun hg => gtr (og rfl hg) (oc _)) ?_
    refine RG.gd rfl rfl (Tells.v _ _) (fun hg => mv (og rfl hg)) ?_
    refine RG.gd rfl rfl (Tells.g _ _) (fun hg => mv (ot rfl)) ?_
    refine RG.gd rfl rfl (Tells.g _ _) (fun hg => mv (ot rfl)) ?_
    refine RG.gd rfl rfl (Tells.g _ _) (fun hg => ixd el_s_api_Extent (og rfl hg) (og rfl hg) (by simp at hg; omega) (by simp at hg; omega)) ?_
    refine RG.gd rfl rfl (Tells.g _ _) (fun hg => fa fo_Extent_0 (og rfl hg)) ?_
    refine RG.gd rfl rfl (Tells.g _ _) (fun hg => ld sc_int (og rfl hg)) ?_
    refine RG.gd rfl rfl (Tells.g _ _) (fun hg => mv (ot rfl)) ?_
    refine RG.gd rfl rfl (Tells.g _ _) (fun hg => mv (ot rfl)) ?_
    refine RG.gd rfl rfl (Tells.g _ _) (fun hg => sub (og rfl hg) (oc _) (by omega)) ?_
    refine RG.gd rfl rfl (Tells.g _ _) (fun hg => ixd el_s_api_Extent (og rfl hg) (og rfl hg) (by simp at hg; omega) (by simp at hg; omega)) ?_
    refine RG.gd rfl rfl (Tells.g _ _) (fun hg => fa fo_Extent_0 (og rfl hg)) ?_
    refine RG.gd rfl rfl (Tells.g _ _) (fun hg => ld sc_int (og rfl hg)) ?_
    refine RG.gd rfl rfl (Tells.g _ _) (fun hg => mv (ot rfl)) ?_
    refine RG.gd rfl rfl (Tells.g _ _) (fun hg => mv (ot rfl)) ?_
    refine RG.gd rfl rfl (Tells.g _ _) (fun hg => sub (og rfl hg) (oc _) (by omega)) ?_
    refine RG.gd rfl rfl (Tells.g _ _) (fun hg => ixd el_s_api_Extent (og rfl hg) (og rfl hg) (by simp at hg; omega) (by simp at hg; omega)) ?_
    refine RG.gd rfl rfl (Tells.g _ _) (fun hg => fa fo_Extent_1 (og rfl hg)) ?_
    refine RG.gd rfl rfl (Tells.g _ _) (fun hg => ld sc_int (og rfl hg)) ?_
    refine RG.gd rfl rfl (Tells.g _ _) (fun hg => add (og rfl hg) (og rfl hg) (by have := hprev (by simp at hg; omega); omega)) ?_
    refine RG.gd rfl rfl (Tells.g _ _) (fun hg => lss (og rfl hg) (og rfl hg)) ?_
    refine RG.gd rfl rfl (Tells.v _ _) (fun hg => and_ (og rfl hg) (og2 rfl hg)) ?_
    refine RG.op (or_ (ot rfl) (ot rfl)) ?_
    refine RG.fin HM (by kernel_rfl) ?_
    show WL _ _ _ _ _ _ _ _ _
    refine WL.nl (.thn ?_)
    refine WP.condB (!decide (Xt.Ok 0 (xs.take (i + 1)))) rfl (valid_step hc1 hi.2) (fun hc => ?_) (fun hc => ?_)
    · skip
      refine WP.seq ?_
      refine WP.region ?_
      refine WL.op (asg (oc _)) (by decide) ?_
      refine WL.nl (.thn ?_)
      exact WP.rt (.rblk (.rthn (.rthn (.rblk (.rthn (.r1 rfl rfl (imp_eq (congrArg (fun b => val (.bool b)) (Eq.symm (decide_eq_false fun h => (by simpa using hc : ¬ Xt.Ok 0 (xs.take (i + 1))) (Xt.Ok.append_left (B := xs.drop (i + 1)) (by rw [List.take_append_drop]; exact h))))))))))))
    · skip
      refine WP.sk (.blk (.thn ?_))
      refine WP.region ?_
      refine WL.op (mv (ot rfl)) (by decide) ?_
      refine WL.op (add (ot rfl) (oc _) (by omega)) (by decide) ?_
      refine WL.op (asg (ot rfl)) (by decide) ?_
      exact WL.nl (.again (i + 1) ⟨hc1, by simpa using hc⟩ (by omega) (Sub.of (Sub.cons rfl (imp_eq (congrArg I (by omega))) (Sub.cons rfl (imp _) Sub.nil))))
  · skip
    have hc1 : ¬ i < xs.length := by simpa using hc
    refine WP.xt (.xthn (.xthn (.xin (.thn ?_))))
    refine WP.seq ?_
    refine WP.region ?_
    refine WL.op (asg (oc _)) (by decide) ?_
    refine WL.nl (.thn ?_)
    exact WP.rt (.r1 rfl rfl (imp_eq (congrArg (fun b => val (.bool b)) (Eq.symm (decide_eq_true (by have := hi.2; rwa [List.take_of_length_le (by omega)] at this))))))

theorem X.ext3 {x y : X} : ([x.a, x.n, x.s] : List Int) = [y.a, y.n, y.s] ↔ x = y := by cases x; cases y; simp
theorem take_eq {xs ys : List X} {i : Nat} (hi : i < xs.length) (hj : i < ys.length) (h : xs.take i = ys.take i) (he : xs.getD ((i : Nat) : Int).toNat default = ys.getD ((i : Nat) : Int).toNat default) : xs.take (i + 1) = ys.take (i + 1) := by
  have e : ((i : Nat) : Int).toNat = i := by omega
  rw [e, List.getD_eq_getElem?_getD, List.getD_eq_getElem?_getD, List.getElem?_eq_getElem hi, List.getElem?_eq_getElem hj] at he
  have he : xs[i] = ys[i] := he
  rw [List.take_add_one, List.take_add_one, List.getElem?_eq_getElem hi, List.getElem?_eq_getElem hj, h, he]

theorem c_r32_Same (xs ys : List X) (hl : xs.length ≤ 100000) (hl2 : ys.length ≤ 100000) : PureC Tryz.prog 27 [sl 3 FX xs, sl 3 FX ys] (val (.bool (decide (xs = ys)))) := by
  refine PureC.of_wp Tryz.func27 (by kernel_rfl) rfl Tryz.ntmps27 (le_ rfl) (fun w0 M0 => ?_)
  refine WP.seq ?_
  refine WP.region ?_
  refine WL.op (asg (oc _)) (by decide) ?_
  refine WL.nl (.thn ?_)
  refine WP.seq ?_
  refine WP.seq ?_
  refine WP.region ?_
  refine WL.op (mv (ot rfl)) (by decide) ?_
  refine WL.op (len_ us_s_api_Extent (ot rfl)) (by decide) ?_
  refine WL.op (mv (ot rfl)) (by decide) ?_
  refine WL.op (len_ us_s_api_Extent (ot rfl)) (by decide) ?_
  refine WL.op (neq (ot rfl) (ot rfl)) (by decide) ?_
  refine WL.nl (.thn ?_)
  refine WP.cond rfl (fun hc => ?_) (fun hc => ?_)
  · skip
    refine WP.seq ?_
    refine WP.region ?_
    refine WL.op (asg (oc _)) (by decide) ?_
    refine WL.nl (.thn ?_)
    exact WP.rt (.rthn (.r1 rfl rfl (imp_eq (congrArg (fun b => val (.bool b)) (Eq.symm (decide_eq_false fun h => by subst h; simp at hc))))))
  · skip
    have hle : xs.length = ys.length := by simp at hc; omega
    refine WP.sk (.thn ?_)
    refine WP.seq ?_
    refine WP.seq ?_
    refine WP.region ?_
    refine WL.op (asg (oc _)) (by decide) ?_
    refine WL.nl (.thn ?_)
    refine WP.block ?_
    refine WP.loop (fun y : Nat => []) (fun y => [(5, I (y : Int)), (0, sl 3 FX xs), (1, sl 3 FX ys)]) (fun y => y ≤ xs.length ∧ xs.take y = ys.take y) (fun y => xs.length - y) 0 ⟨Nat.zero_le _, rfl⟩ (Sub.of (Sub.cons rfl (imp_eq rfl) (Sub.cons rfl (imp _) (Sub.cons rfl (imp _) Sub.nil)))) (fun i hi => ?_)
    replace hi : i ≤ xs.length ∧ xs.take i = ys.take i := hi
    show WP _ _ _ _ [] [(5, I (i : Int)), (0, sl 3 FX xs), (1, sl 3 FX ys)] _ _
    refine WP.seq ?_
    refine WP.seq ?_
    refine WP.region ?_
    refine WL.op (mv (ot rfl)) (by decide) ?_
    refine WL.op (mv (ot rfl)) (by decide) ?_
    refine WL.op (len_ us_s_api_Extent (ot rfl)) (by decide) ?_
    refine WL.op (lss (ot rfl) (ot rfl)) (by decide) ?_
    refine WL.nl (.thn ?_)
    refine WP.condB (decide (i < xs.length)) rfl (by rw [Bool.eq_iff_iff]; simp) (fun hc => ?_) (fun hc => ?_)
    · skip
      have hc1 : i < xs.length := by simpa using hc
      refine WP.sk (.thn ?_)
      refine WP.seq ?_
      refine WP.block ?_
      refine WP.seq ?_
      refine WP.draws ?_
      refine RG.op (mv (ot rfl)) ?_
      refine RG.op (mv (ot rfl)) ?_
      refine RG.op (ixd el_s_api_Extent (ot rfl) (ot rfl) (by omega) (by omega)) ?_
      refine RG.op (ls ag_Extent (ot rfl) (le_ rfl)) ?_
      refine RG.op (mv (ot rfl)) ?_
      refine RG.op (mv (ot rfl)) ?_
      refine RG.op (ixd el_s_api_Extent (ot rfl) (ot rfl) (by omega) (by omega)) ?_
      refine RG.op (ls ag_Extent (ot rfl) (le_ rfl)) ?_
      refine RG.op (nes (us := [(xs.getD (i : Int).toNat default).a, (xs.getD (i : Int).toNat default).n, (xs.getD (i : Int).toNat default).s]) (cs := [(ys.getD (i : Int).toNat default).a, (ys.getD (i : Int).toNat default).n, (ys.getD (i : Int).toNat default).s]) iF_Extent rfl rfl (ot rfl) (ot rfl)) ?_
      refine RG.fin HM (by kernel_rfl) ?_
      show WL _ _ _ _ _ _ _ _ _
      refine WL.nl (.thn ?_)
      refine WP.cond rfl (fun hc => ?_) (fun hc => ?_)
      · skip
        refine WP.seq ?_
        refine WP.region ?_
        refine WL.op (asg (oc _)) (by decide) ?_
        refine WL.nl (.thn ?_)
        exact WP.rt (.rblk (.rthn (.rthn (.rblk (.rthn (.r1 rfl rfl (imp_eq (congrArg (fun b => val (.bool b)) (Eq.symm (decide_eq_false fun h => by subst h; simp at hc))))))))))
      · skip
        refine WP.sk (.blk (.thn ?_))
        refine WP.region ?_
        refine WL.op (mv (ot rfl)) (by decide) ?_
        refine WL.op (add (ot rfl) (oc _) (by omega)) (by decide) ?_
        refine WL.op (asg (ot rfl)) (by decide) ?_
        exact WL.nl (.again (i + 1) ⟨hc1, take_eq hc1 (by omega) hi.2 (X.ext3.1 (by simpa using hc))⟩ (by omega) (Sub.of (Sub.cons rfl (imp_eq (congrArg I (by omega))) (Sub.cons rfl (imp _) (Sub.cons rfl (imp _) Sub.nil)))))
    · skip
      have hc1 : ¬ i < xs.length := by simpa using hc
      refine WP.xt (.xthn (.xthn (.xin (.thn ?_))))
      refine WP.seq ?_
      refine WP.region ?_
      refine WL.op (asg (oc _)) (by decide) ?_
      refine WL.nl (.thn ?_)
      exact WP.rt (.r1 rfl rfl (imp_eq (congrArg (fun b => val (.bool b)) (Eq.symm (decide_eq_true (by have := hi.2; rwa [List.take_of_length_le (by omega), List.take_of_length_le (by omega)] at this))))))

theorem sum_step {xs : List X} {i : Nat} (hi : i < xs.length) (ho : Xt.Ok 0 xs) : sumN (xs.take i) + (xs.getD ((i : Nat) : Int).toNat default).n = sumN (xs.take (i + 1)) ∧ 0 ≤ sumN (xs.take i) ∧ sumN (xs.take i) ≤ 70000 ∧ 0 ≤ (xs.getD ((i : Nat) : Int).toNat default).n ∧ (xs.getD ((i : Nat) : Int).toNat default).n ≤ 65536 := by
  have e : ((i : Nat) : Int).toNat = i := by omega
  rw [e, List.getD_eq_getElem?_getD, List.getElem?_eq_getElem hi]
  have h1 : Xt.Ok 0 (xs.take i) := Xt.Ok.append_left (B := xs.drop i) (by rw [List.take_append_drop]; exact ho)
  have h2 := h1.bd (Int.le_refl 0)
  have h3 := sumN_nn h2.1
  have h4 := ho.starts xs[i] (List.getElem_mem hi)
  refine ⟨?_, h3, h2.2.2, ?_, ?_⟩
  · rw [List.take_add_one, List.getElem?_eq_getElem hi]
    show sumN (xs.take i) + xs[i].n = sumN (xs.take i ++ [xs[i]])
    rw [sumN_append]; simp [sumN]
  · show 0 ≤ xs[i].n
    omega
  · show xs[i].n ≤ 65536
    omega

theorem c_r32_Blocks (xs : List X) (hl : xs.length ≤ 100000) (ho : Xt.Ok 0 xs) : PureC Tryz.prog 79 [sl 3 FX xs] (I (sumN xs)) := by
  refine PureC.of_wp Tryz.func79 (by kernel_rfl) rfl Tryz.ntmps79 (le_ rfl) (fun w0 M0 => ?_)
  refine WP.seq ?_
  refine WP.region ?_
  refine WL.op (asg (oc _)) (by decide) ?_
  refine WL.nl (.thn ?_)
  refine WP.seq ?_
  refine WP.seq ?_
  refine WP.region ?_
  refine WL.op (mv (ot rfl)) (by decide) ?_
  refine WL.op (OpG.weak (R' := val (.bool true)) (call (c_r32_Valid xs hl) (.c (ot rfl) .n)) (imp_eq (congrArg (fun b => val (.bool b)) (decide_eq_true ho)))) (by decide) ?_
  refine WL.op (not_ (ot rfl)) (by decide) ?_
  refine WL.nl (.thn ?_)
  refine WP.condF rfl ?_
  refine WP.sk (.thn ?_)
  refine WP.seq ?_
  refine WP.region ?_
  refine WL.op (asg (oc _)) (by decide) ?_
  refine WL.nl (.thn ?_)
  refine WP.seq ?_
  refine WP.seq ?_
  refine WP.region ?_
  refine WL.op (asg (oc _)) (by decide) ?_
  refine WL.nl (.thn ?_)
  refine WP.block ?_
  refine WP.loop (fun y : Nat => []) (fun y => [(4, I (y : Int)), (3, I (sumN (xs.take y))), (0, sl 3 FX xs)]) (fun y => y ≤ xs.length) (fun y => xs.length - y) 0 (Nat.zero_le _) (Sub.of (Sub.cons rfl (imp_eq rfl) (Sub.cons rfl (imp _) (Sub.cons rfl (imp _) Sub.nil)))) (fun i hi => ?_)
  replace hi : i ≤ xs.length := hi
  show WP _ _ _ _ [] [(4, I (i : Int)), (3, I (sumN (xs.take i))), (0, sl 3 FX xs)] _ _
  refine WP.seq ?_
  refine WP.seq ?_
  refine WP.region ?_
  refine WL.op (mv (ot rfl)) (by decide) ?_
  refine WL.op (mv (ot rfl)) (by decide) ?_
  refine WL.op (len_ us_s_api_Extent (ot rfl)) (by decide) ?_
  refine WL.op (lss (ot rfl) (ot rfl)) (by decide) ?_
  refine WL.nl (.thn ?_)
  refine WP.condB (decide (i < xs.length)) rfl (by rw [Bool.eq_iff_iff]; simp) (fun hc => ?_) (fun hc => ?_)
  · skip
    have hc1 : i < xs.length := by simpa using hc
    have hs := sum_step hc1 ho
    refine WP.sk (.thn ?_)
    refine WP.seq ?_
    refine WP.block ?_
    refine WP.region ?_
    refine WL.op (mv (ot rfl)) (by decide) ?_
    refine WL.op (mv (ot rfl)) (by decide) ?_
    refine WL.op (mv (ot rfl)) (by decide) ?_
    refine WL.op (ixd el_s_api_Extent (ot rfl) (ot rfl) (by omega) (by omega)) (by decide) ?_
    refine WL.op (fa fo_Extent_1 (ot rfl)) (by decide) ?_
    refine WL.op (ld sc_int (ot rfl)) (by decide) ?_
    refine WL.op (add (ot rfl) (ot rfl) (by omega)) (by decide) ?_
    refine WL.op (asg (ot rfl)) (by decide) ?_
    refine WL.nl (.blk (.thn ?_))
    refine WP.region ?_
    refine WL.op (mv (ot rfl)) (by decide) ?_
    refine WL.op (add (ot rfl) (oc _) (by omega)) (by decide) ?_
    refine WL.op (asg (ot rfl)) (by decide) ?_
    exact WL.nl (.again (i + 1) hc1 (by omega) (Sub.of (Sub.cons rfl (imp_eq (congrArg I (by omega))) (Sub.cons rfl (imp_eq (congrArg I hs.1)) (Sub.cons rfl (imp _) Sub.nil)))))
  · skip
    have hc1 : ¬ i < xs.length := by simpa using hc
    refine WP.xt (.xthn (.xthn (.xin (.thn ?_))))
    refine WP.seq ?_
    refine WP.region ?_
    refine WL.op (mv (ot rfl)) (by decide) ?_
    refine WL.op (asg (ot rfl)) (by decide) ?_
    refine WL.nl (.thn ?_)
    exact WP.rt (.r1 rfl rfl (imp_eq (congrArg I (by rw [List.take_of_length_le (by omega)]))))

theorem find_step {xs : List X} {i : Nat} (hi : i < xs.length) (ho : Xt.Ok 0 xs) (b : Int) (hn : sem (xs.take i) b = none) :
    (0 ≤ (xs.getD ((i : Nat) : Int).toNat default).a ∧ 1 ≤ (xs.getD ((i : Nat) : Int).toNat default).n ∧ 0 ≤ (xs.getD ((i : Nat) : Int).toNat default).s ∧ (xs.getD ((i : Nat) : Int).toNat default).a + (xs.getD ((i : Nat) : Int).toNat default).n ≤ 65536 ∧ (xs.getD ((i : Nat) : Int).toNat default).s + (xs.getD ((i : Nat) : Int).toNat default).n ≤ 65536) ∧
    ((xs.getD ((i : Nat) : Int).toNat default).a ≤ b ∧ b < (xs.getD ((i : Nat) : Int).toNat default).a + (xs.getD ((i : Nat) : Int).toNat default).n → sem xs b = some ((xs.getD ((i : Nat) : Int).toNat default).s + b - (xs.getD ((i : Nat) : Int).toNat default).a)) ∧
    (¬ ((xs.getD ((i : Nat) : Int).toNat default).a ≤ b ∧ b < (xs.getD ((i : Nat) : Int).toNat default).a + (xs.getD ((i : Nat) : Int).toNat default).n) → sem (xs.take (i + 1)) b = none) := by
  have e : ((i : Nat) : Int).toNat = i := by omega
  have h4 := ho.starts xs[i] (List.getElem_mem hi)
  have e2 : xs.take i ++ (xs[i] :: xs.drop (i + 1)) = xs := by rw [← List.drop_eq_getElem_cons hi, List.take_append_drop]
  have e3 : xs.take (i + 1) = xs.take i ++ [xs[i]] := by rw [List.take_add_one, List.getElem?_eq_getElem hi]; rfl
  have e4 : xs.getD i default = xs[i] := by rw [List.getD_eq_getElem?_getD, List.getElem?_eq_getElem hi]; rfl
  rw [e, e4, e3]
  generalize xs[i] = z at *
  refine ⟨h4, fun h => ?_, fun h => ?_⟩
  · rw [← e2, sem_append, hn]
    simp only [sem, Option.none_or]
    rw [if_pos h]
  · show sem (xs.take i ++ [z]) b = none
    rw [sem_append, hn]
    simp only [sem, Option.none_or]
    rw [if_neg h]

theorem c_r32_Find (xs : List X) (b : Int) (hl : xs.length ≤ 100000) (ho : Xt.Ok 0 xs) : PureC Tryz.prog 86 [sl 3 FX xs, I b] (tup [I ((sem xs b).getD 0), val (.bool (sem xs b).isSome)]) := by
  refine PureC.of_wp Tryz.func86 (by kernel_rfl) rfl Tryz.ntmps86 (le_ rfl) (fun w0 M0 => ?_)
  refine WP.seq ?_
  refine WP.region ?_
  refine WL.op (asg (oc _)) (by decide) ?_
  refine WL.op (asg (oc _)) (by decide) ?_
  refine WL.nl (.thn ?_)
  refine WP.seq ?_
  refine WP.seq ?_
  refine WP.region ?_
  refine WL.op (mv (ot rfl)) (by decide) ?_
  refine WL.op (OpG.weak (R' := val (.bool true)) (call (c_r32_Valid xs hl) (.c (ot rfl) .n)) (imp_eq (congrArg (fun b => val (.bool b)) (decide_eq_true ho)))) (by decide) ?_
  refine WL.op (not_ (ot rfl)) (by decide) ?_
  refine WL.nl (.thn ?_)
  refine WP.condF rfl ?_
  refine WP.sk (.thn ?_)
  refine WP.seq ?_
  refine WP.seq ?_
  refine WP.region ?_
  refine WL.op (asg (oc _)) (by decide) ?_
  refine WL.nl (.thn ?_)
  refine WP.block ?_
  refine WP.loop (fun y : Nat => []) (fun y => [(6, I (y : Int)), (0, sl 3 FX xs), (1, I b)]) (fun y => y ≤ xs.length ∧ sem (xs.take y) b = none) (fun y => xs.length - y) 0 ⟨Nat.zero_le _, rfl⟩ (Sub.of (Sub.cons rfl (imp_eq rfl) (Sub.cons rfl (imp _) (Sub.cons rfl (imp _) Sub.nil)))) (fun i hi => ?_)
  replace hi : i ≤ xs.length ∧ sem (xs.take i) b = none := hi
  show WP _ _ _ _ [] [(6, I (i : Int)), (0, sl 3 FX xs), (1, I b)] _ _
  refine WP.seq ?_
  refine WP.seq ?_
  refine WP.region ?_
  refine WL.op (mv (ot rfl)) (by decide) ?_
  refine WL.op (mv (ot rfl)) (by decide) ?_
  refine WL.op (len_ us_s_api_Extent (ot rfl)) (by decide) ?_
  refine WL.op (lss (ot rfl) (ot rfl)) (by decide) ?_
  refine WL.nl (.thn ?_)
  refine WP.condB (decide (i < xs.length)) rfl (by rw [Bool.eq_iff_iff]; simp) (fun hc => ?_) (fun hc => ?_)
  · skip
    have hc1 : i < xs.length := by simpa using hc
    have hs := find_step hc1 ho b hi.2
    refine WP.sk (.thn ?_)
    refine WP.seq ?_
    refine WP.block ?_
    refine WP.seq ?_
    refine WP.draws ?_
    refine RG.op (mv (ot rfl)) ?_
    refine RG.op (mv (ot rfl)) ?_
    refine RG.op (mv (ot rfl)) ?_
    refine RG.op (ixd el_s_api_Extent (ot rfl) (ot rfl) (by omega) (by omega)) ?_
    refine RG.op (fa fo_Extent_0 (ot rfl)) ?_
    refine RG.op (ld sc_int (ot rfl)) ?_
    refine RG.op (geq (ot rfl) (ot rfl)) ?_
    refine RG.op (mv (ot rfl)) ?_
    refine RG.gd rfl rfl (Tells.v _ _) (fun hg => mv (ot rfl)) ?_
    refine RG.gd rfl rfl (Tells.v _ _) (fun hg => mv (ot rfl)) ?_
    refine RG.gd rfl rfl (Tells.v _ _) (fun hg => mv (ot rfl)) ?_
    refine RG.gd rfl rfl (Tells.v _ _) (fun hg => ixd el_s_api_Extent (og rfl hg) (og rfl hg) (by omega) (by omega)) ?_
    refine RG.gd rfl rfl (Tells.v _ _) (fun hg => fa fo_Extent_0 (og rfl hg)) ?_
    refine RG.gd rfl rfl (Tells.v _ _) (fun hg => ld sc_int (og rfl hg)) ?_
    refine RG.gd rfl rfl (Tells.v _ _) (fun hg => mv (ot rfl)) ?_
    refine RG.gd rfl rfl (Tells.v _ _) (fun hg => mv (ot rfl)) ?_
    refine RG.gd rfl rfl (Tells.v _ _) (fun hg => ixd el_s_api_Extent (og rfl hg) (og rfl hg) (by omega) (by omega)) ?_
    refine RG.gd rfl rfl (Tells.v _ _) (fun hg => fa fo_Extent_1 (og rfl hg)) ?_
    refine RG.gd rfl rfl (Tells.v _ _) (fun hg => ld sc_int (og rfl hg)) ?_
    refine RG.gd rfl rfl (Tells.v _ _) (fun hg => add (og rfl hg) (og rfl hg) (by omega)) ?_
    refine RG.gd rfl rfl (Tells.v _ _) (fun hg => lss (og rfl hg) (og rfl hg)) ?_
    refine RG.op (and_ (ot rfl) (ot rfl)) ?_
    refine RG.fin HM (by kernel_rfl) ?_
    show WL _ _ _ _ _ _ _ _ _
    refine WL.nl (.thn ?_)
    refine WP.cond rfl (fun hc => ?_) (fun hc => ?_)
    · skip
      have hf : (xs.getD (i : Int).toNat default).a ≤ b ∧ b < (xs.getD (i : Int).toNat default).a + (xs.getD (i : Int).toNat default).n := by simpa using hc
      refine WP.seq ?_
      refine WP.draws ?_
      refine RG.op (mv (ot rfl)) ?_
      refine RG.op (mv (ot rfl)) ?_
      refine RG.op (ixd el_s_api_Extent (ot rfl) (ot rfl) (by omega) (by omega)) ?_
      refine RG.op (fa fo_Extent_2 (ot rfl)) ?_
      refine RG.op (ld sc_int (ot rfl)) ?_
      refine RG.op (mv (ot rfl)) ?_
      refine RG.op (add (ot rfl) (ot rfl) (by omega)) ?_
      refine RG.op (mv (ot rfl)) ?_
      refine RG.op (mv (ot rfl)) ?_
      refine RG.op (ixd el_s_api_Extent (ot rfl) (ot rfl) (by omega) (by omega)) ?_
      refine RG.op (fa fo_Extent_0 (ot rfl)) ?_
      refine RG.op (ld sc_int (ot rfl)) ?_
      refine RG.op (sub (ot rfl) (ot rfl) (by omega)) ?_
      refine RG.op (asg (ot rfl)) ?_
      refine RG.op (asg (oc _)) ?_
      refine RG.fin HM (by kernel_rfl) ?_
      show WL _ _ _ _ _ _ _ _ _
      refine WL.nl (.thn ?_)
      exact WP.rt (.rblk (.rthn (.rthn (.rblk (.rthn (.rN rfl (.cons (.tm rfl) (.cons (.tm rfl) .nil)) (le_ rfl) (imp_eq (by rw [hs.2.1 hf]; rfl))))))))
    · skip
      have hf : ¬ ((xs.getD (i : Int).toNat default).a ≤ b ∧ b < (xs.getD (i : Int).toNat default).a + (xs.getD (i : Int).toNat default).n) := by simp only [Bool.and_eq_false_iff, decide_eq_false_iff_not] at hc; omega
      refine WP.sk (.blk (.thn ?_))
      refine WP.region ?_
      refine WL.op (mv (ot rfl)) (by decide) ?_
      refine WL.op (add (ot rfl) (oc _) (by omega)) (by decide) ?_
      refine WL.op (asg (ot rfl)) (by decide) ?_
      exact WL.nl (.again (i + 1) ⟨hc1, hs.2.2 hf⟩ (by omega) (Sub.of (Sub.cons rfl (imp_eq (congrArg I (by omega))) (Sub.cons rfl (imp _) (Sub.cons rfl (imp _) Sub.nil)))))
  · skip
    have hc1 : ¬ i < xs.length := by simpa using hc
    refine WP.xt (.xthn (.xthn (.xin (.thn ?_))))
    refine WP.seq ?_
    refine WP.region ?_
    refine WL.op (asg (oc _)) (by decide) ?_
    refine WL.op (asg (oc _)) (by decide) ?_
    refine WL.nl (.thn ?_)
    exact WP.rt (.rN rfl (.cons (.tm rfl) (.cons (.tm rfl) .nil)) (le_ rfl) (imp_eq (by have := hi.2; rw [List.take_of_length_le (by omega)] at this; rw [this]; rfl)))
end Go.Proofs.YtjglgfnhgehpeaaGreat

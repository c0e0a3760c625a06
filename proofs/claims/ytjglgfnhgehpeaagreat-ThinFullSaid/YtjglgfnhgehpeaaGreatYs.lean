/- Parts: Hit, Sums, RfP, Rel. -/
import Derived.Test.YtjglgfnhgehpeaaGreatYn
/- What a list of extents lists: additive over its parts; the runs of a sorted list. -/
set_option linter.unusedVariables false
set_option linter.unusedSimpArgs false
namespace Go.Proofs.YtjglgfnhgehpeaaGreat
open Go.RowKit Go.Fw Go.Xt
def hit1 (x : X) (s : Int) : Int := if x.s ≤ s ∧ s < x.s + x.n then 1 else 0
theorem hits_cons (x : X) (L : List X) (s : Int) : hits (x :: L) s = hit1 x s + hits L s := rfl
theorem hits_one (x : X) (s : Int) : hits [x] s = hit1 x s := by rw [hits_cons]; simp [hits]
theorem hits_push {L : List X} {x : X} (hL : ∀ y ∈ L, 0 ≤ y.n) (hx : 0 ≤ x.n) (s : Int) : hits (push L x) s = hits L s + hit1 x s := by
  rcases List.eq_nil_or_concat L with rfl | ⟨A, y, h0⟩
  · show hits [x] s = _; rw [hits_one]; simp [hits]
  · rw [List.concat_eq_append] at h0
    subst h0
    rw [push_snoc]
    have hy := hL y (by simp)
    split
    · rename_i hf
      rw [hits_app, hits_app, hits_one, hits_one]
      obtain ⟨h1, h2⟩ := hf
      have : hit1 ⟨y.a, y.n + x.n, y.s⟩ s = hit1 y s + hit1 x s := by
        unfold hit1
        simp only []
        by_cases q1 : y.s ≤ s ∧ s < y.s + y.n
        · rw [if_pos q1, if_pos (by omega), if_neg (by omega)]; rfl
        · rw [if_neg q1]
          by_cases q2 : x.s ≤ s ∧ s < x.s + x.n
          · rw [if_pos q2, if_pos (by omega)]; rfl
          · rw [if_neg q2, if_neg (by omega)]; rfl
      omega
    · rw [hits_app, hits_app, hits_one, hits_one]
theorem push_nn {L : List X} {x : X} (hL : ∀ y ∈ L, 0 ≤ y.n) (hx : 0 ≤ x.n) : ∀ y ∈ push L x, 0 ≤ y.n := by
  rcases List.eq_nil_or_concat L with rfl | ⟨A, y, h0⟩
  · intro z hz; have hz : z ∈ [x] := hz; rw [List.mem_singleton.1 hz]; exact hx
  · rw [List.concat_eq_append] at h0
    subst h0
    rw [push_snoc]
    have hy := hL y (by simp)
    intro z hz
    split at hz
    · rcases List.mem_append.1 hz with hz | hz
      · exact hL z (List.mem_append_left _ hz)
      · rw [List.mem_singleton.1 hz]; show 0 ≤ y.n + x.n; omega
    · rcases List.mem_append.1 hz with hz | hz
      · exact hL z hz
      · rw [List.mem_singleton.1 hz]; exact hx
theorem hits_jn {L : List X} (hL : ∀ y ∈ L, 0 ≤ y.n) (s : Int) : hits (Jn L) s = hits L s := by
  have : ∀ (L acc : List X), (∀ y ∈ L, 0 ≤ y.n) → (∀ y ∈ acc, 0 ≤ y.n) → hits (L.foldl push acc) s = hits acc s + hits L s := by
    intro L
    induction L with
    | nil => intro acc _ _; simp [hits]
    | cons x L ih =>
      intro acc h1 h2
      rw [List.foldl_cons, ih _ (fun y hy => h1 y (List.mem_cons_of_mem _ hy)) (push_nn h2 (h1 x List.mem_cons_self)), hits_push h2 (h1 x List.mem_cons_self), hits_cons]
      omega
  rw [Jn, this L [] hL (by simp)]
  simp [hits]
theorem ok_nn {L : List X} {lo : Int} (h : Xt.Ok lo L) : ∀ y ∈ L, 0 ≤ y.n := fun y hy => by have := h.starts y hy; omega
theorem hits_sem {L M : List X} (hL : Xt.Ok 0 L) (hM : Xt.Ok 0 M) (h : ∀ b, sem L b = sem M b) (s : Int) : hits L s = hits M s := by
  obtain ⟨a1, a2, a3⟩ := jn_spec hL
  obtain ⟨b1, b2, b3⟩ := jn_spec hM
  rw [← hits_jn (ok_nn hL), ← hits_jn (ok_nn hM), nf_unique _ _ 0 0 a1 b1 a2 b2 fun b => by rw [a3, b3, h]]
theorem hits_split {L : List X} {lo a b c : Int} (h : Xt.Ok lo L) (hab : a ≤ b) (hbc : b ≤ c) (s : Int) : hits (Xt.parts L a c) s = hits (Xt.parts L a b) s + hits (Xt.parts L b c) s := by
  induction L generalizing lo with
  | nil => rfl
  | cons x L ih =>
    obtain ⟨h1, h2, h3, h4, h5, h6⟩ := h
    have ih := ih h6
    rw [parts_cons x L a c, parts_cons x L a b, parts_cons x L b c, hits_app, hits_app, hits_app, ih, parts_one, parts_one, parts_one]
    have : hits (Xt.part x a c).toList s = hits (Xt.part x a b).toList s + hits (Xt.part x b c).toList s := by
      unfold Xt.part
      by_cases q1 : max x.a a < min (x.a + x.n) b
      · by_cases q2 : max x.a b < min (x.a + x.n) c
        · rw [if_pos q1, if_pos q2, if_pos (by omega)]
          simp only [Option.toList, hits_one]
          unfold hit1
          simp only []
          by_cases q3 : x.s + max x.a a - x.a ≤ s ∧ s < x.s + max x.a a - x.a + (min (x.a + x.n) b - max x.a a)
          · rw [if_pos q3, if_pos (by omega), if_neg (by omega)]; rfl
          · rw [if_neg q3]
            by_cases q4 : x.s + max x.a b - x.a ≤ s ∧ s < x.s + max x.a b - x.a + (min (x.a + x.n) c - max x.a b)
            · rw [if_pos q4, if_pos (by omega)]; rfl
            · rw [if_neg q4, if_neg (by omega)]; rfl
        · rw [if_pos q1, if_neg q2, if_pos (by omega), show min (x.a + x.n) c = min (x.a + x.n) b from by omega]
          simp [hits]
      · by_cases q2 : max x.a b < min (x.a + x.n) c
        · rw [if_neg q1, if_pos q2, if_pos (by omega), show max x.a a = max x.a b from by omega]
          simp [hits]
        · rw [if_neg q1, if_neg q2, if_neg (by omega)]
          simp [hits]
    omega
theorem parts_full {L : List X} {n : Int} (h : Xt.Ok 0 L) (hn : ∀ x ∈ L, x.a + x.n ≤ n) : Xt.parts L 0 n = L := parts_all fun x hx => by have := h.starts x hx; have := hn x hx; omega
theorem parts_whole {L : List X} (h : Xt.Ok 0 L) : Xt.parts L 0 65536 = L := parts_full h fun x hx => by have := h.starts x hx; omega
theorem hits_put {L : List X} {x : X} (h : Xt.Ok 0 L) (h0 : 0 ≤ x.a) (hx : Vx x) (s : Int) : hits (rput L x) s + hits (Jn (Xt.parts L x.a (x.a + x.n))) s = hits L s + hit1 x s := by
  have hx1 := hx.1
  have hx2 := hx.2.2.1
  rw [rput, hits_jn (ok_nn (ok_rput h h0 hx)), hits_jn (ok_nn (ok_parts h (lo' := 0) (by omega))), hits_app, hits_app, hits_one]
  have e1 := hits_split (a := 0) (b := x.a) (c := 65536) h h0 (by omega) s
  have e2 := hits_split (a := x.a) (b := x.a + x.n) (c := 65536) h (by omega) (by omega) s
  rw [parts_whole h] at e1
  omega
theorem hits_cut {L : List X} {a n : Int} (h : Xt.Ok 0 L) (h0 : 0 ≤ a) (hn : 0 ≤ n) (hl : a + n ≤ 65536) (s : Int) : hits (rcut L a n) s + hits (Jn (Xt.parts L a (a + n))) s = hits L s := by
  rw [rcut, hits_jn (ok_nn (ok_rcut h h0 hn)), hits_jn (ok_nn (ok_parts h (lo' := 0) (by omega))), hits_app]
  have e1 := hits_split (a := 0) (b := a) (c := 65536) h h0 (by omega) s
  have e2 := hits_split (a := a) (b := a + n) (c := 65536) h (by omega) (by omega) s
  rw [parts_whole h] at e1
  omega
theorem hits_mem {L : List X} {s : Int} (h : 0 < hits L s) : ∃ x ∈ L, x.s ≤ s ∧ s < x.s + x.n := by
  induction L with
  | nil => simp [hits] at h
  | cons x L ih =>
    rw [hits_cons] at h
    by_cases q : x.s ≤ s ∧ s < x.s + x.n
    · exact ⟨x, List.mem_cons_self, q⟩
    · unfold hit1 at h
      rw [if_neg q] at h
      obtain ⟨y, hy, hq⟩ := ih (by omega)
      exact ⟨y, List.mem_cons_of_mem _ hy, hq⟩
theorem hits_pos {L : List X} {s : Int} {x : X} (hx : x ∈ L) (h : x.s ≤ s ∧ s < x.s + x.n) : 0 < hits L s := by
  induction L with
  | nil => cases hx
  | cons y L ih =>
    rw [hits_cons]
    have := hits_nn L s
    rcases List.mem_cons.1 hx with rfl | hx
    · unfold hit1; rw [if_pos h]; omega
    · have := ih hx
      unfold hit1
      split <;> omega
theorem lastX_snoc (L : List X) (x : X) : lastX (L ++ [x]) = x := by
  have h : 0 < (L ++ [x]).length := by simp
  rw [(last_eq h).1]
  simp
theorem rstep_idem (out : List X) (u : Int) : rstep (rstep out (un u)) (un u) = rstep out (un u) := by
  rcases List.eq_nil_or_concat out with rfl | ⟨A, y, h0⟩
  · have e0 : rstep [] (un u) = [⟨0, 1, u⟩] := rfl
    rw [e0]
    unfold rstep
    rw [if_pos ⟨by simp, by show u ≤ u + 1; omega⟩]
    show [(⟨0, max 1 (u + 1 - u), u⟩ : X)] = _
    rw [show max 1 (u + 1 - u) = 1 from by omega]
  · rw [List.concat_eq_append] at h0
    subst h0
    have hl : (A ++ [y]).length = A.length + 1 := by simp
    have hs : ∀ z : X, (A ++ [y]).set (((A ++ [y]).length : Int) - 1).toNat z = A ++ [z] := fun z => by
      rw [hl, show (((A.length + 1 : Nat) : Int) - 1).toNat = A.length from by omega, List.set_append_right _ _ (Nat.le_refl _)]
      simp
    by_cases q : u ≤ y.s + y.n
    · have e1 : rstep (A ++ [y]) (un u) = A ++ [⟨y.a, max y.n (u + 1 - y.s), y.s⟩] := by
        unfold rstep
        rw [if_pos ⟨by omega, by rw [lastX_snoc]; exact q⟩, hs, lastX_snoc]; rfl
      rw [e1]
      have hs2 : ∀ z w : X, (A ++ [w]).set (((A ++ [w]).length : Int) - 1).toNat z = A ++ [z] := fun z w => by
        rw [show ((A ++ [w]).length : Int) = A.length + 1 from by simp, show (((A.length : Nat) : Int) + 1 - 1).toNat = A.length from by omega, List.set_append_right _ _ (Nat.le_refl _)]
        simp
      unfold rstep
      rw [if_pos ⟨by simp, by rw [lastX_snoc]; show u ≤ y.s + max y.n (u + 1 - y.s); omega⟩, hs2, lastX_snoc]
      show A ++ [(⟨y.a, max (max y.n (u + 1 - y.s)) (u + 1 - y.s), y.s⟩ : X)] = _
      rw [show max (max y.n (u + 1 - y.s)) (u + 1 - y.s) = max y.n (u + 1 - y.s) from by omega]
    · have e1 : rstep (A ++ [y]) (un u) = A ++ [y] ++ [⟨0, 1, u⟩] := by
        unfold rstep
        rw [if_neg (by rintro ⟨_, h⟩; rw [lastX_snoc] at h; exact q h)]; rfl
      rw [e1]
      have hs2 : ∀ z w : X, (A ++ [y] ++ [w]).set (((A ++ [y] ++ [w]).length : Int) - 1).toNat z = A ++ [y] ++ [z] := fun z w => by
        rw [show ((A ++ [y] ++ [w]).length : Int) = (A ++ [y]).length + 1 from by simp; omega, show ((((A ++ [y]).length : Nat) : Int) + 1 - 1).toNat = (A ++ [y]).length from by omega, List.set_append_right _ _ (Nat.le_refl _)]
        simp
      unfold rstep
      rw [if_pos ⟨by simp, by rw [lastX_snoc]; show u ≤ u + 1; omega⟩, hs2, lastX_snoc]
      show A ++ [y] ++ [(⟨0, max 1 (u + 1 - u), u⟩ : X)] = _
      rw [show max 1 (u + 1 - u) = 1 from by omega]
def ddp : List Int → List Int
  | [] => []
  | [u] => [u]
  | u :: v :: U => if u = v then ddp (v :: U) else u :: ddp (v :: U)
theorem ddp_mem : ∀ {U : List Int} {x : Int}, x ∈ ddp U ↔ x ∈ U
  | [], x => by simp [ddp]
  | [u], x => by simp [ddp]
  | u :: v :: U, x => by
    have ih := ddp_mem (U := v :: U) (x := x)
    unfold ddp
    split
    · rename_i e
      subst e
      rw [ih]
      simp
    · rw [List.mem_cons, ih, ← List.mem_cons]
theorem ddp_runs : ∀ (U : List Int) (acc : List X), (U.map un).foldl rstep acc = ((ddp U).map un).foldl rstep acc
  | [], acc => rfl
  | [u], acc => rfl
  | u :: v :: U, acc => by
    unfold ddp
    split
    · rename_i e
      subst e
      rw [← ddp_runs (u :: U) acc, List.map_cons, List.map_cons, List.foldl_cons, List.foldl_cons, rstep_idem]
      rfl
    · rw [List.map_cons, List.foldl_cons, List.map_cons, List.foldl_cons]
      exact ddp_runs (v :: U) _
theorem ddp_lt : ∀ {U : List Int}, U.Pairwise (· ≤ ·) → (ddp U).Pairwise (· < ·)
  | [], _ => List.Pairwise.nil
  | [u], _ => by simp [ddp]
  | u :: v :: U, h => by
    obtain ⟨h1, h2⟩ := List.pairwise_cons.1 h
    have ih := ddp_lt h2
    unfold ddp
    split
    · exact ih
    · rename_i e
      refine List.pairwise_cons.2 ⟨fun x hx => ?_, ih⟩
      have hx := ddp_mem.1 hx
      have h3 := h1 v List.mem_cons_self
      rcases List.mem_cons.1 hx with rfl | hx
      · omega
      · have := (List.pairwise_cons.1 h2).1 x hx; omega
theorem asc_unique : ∀ {U V : List Int}, U.Pairwise (· < ·) → V.Pairwise (· < ·) → (∀ x, x ∈ U ↔ x ∈ V) → U = V
  | [], [], _, _, _ => rfl
  | [], v :: V, _, _, h => by have := (h v).2 List.mem_cons_self; cases this
  | u :: U, [], _, _, h => by have := (h u).1 List.mem_cons_self; cases this
  | u :: U, v :: V, h1, h2, h => by
    obtain ⟨a1, a2⟩ := List.pairwise_cons.1 h1
    obtain ⟨b1, b2⟩ := List.pairwise_cons.1 h2
    have e : u = v := by
      rcases List.mem_cons.1 ((h u).1 List.mem_cons_self) with e | hu
      · exact e
      · rcases List.mem_cons.1 ((h v).2 List.mem_cons_self) with e | hv
        · exact e.symm
        · have := a1 v hv; have := b1 u hu; omega
    subst e
    rw [asc_unique a2 b2 fun x => ?_]
    constructor
    · intro hx
      rcases List.mem_cons.1 ((h x).1 (List.mem_cons_of_mem _ hx)) with rfl | hx'
      · have := a1 x hx; omega
      · exact hx'
    · intro hx
      rcases List.mem_cons.1 ((h x).2 (List.mem_cons_of_mem _ hx)) with rfl | hx'
      · have := b1 x hx; omega
      · exact hx'
theorem srt_le (U : List Int) : (srt U).Pairwise (· ≤ ·) := by
  have := List.pairwise_mergeSort (le := fun x y : Int => decide (x ≤ y)) (fun a b c h1 h2 => by simp only [decide_eq_true_eq] at *; omega) (fun a b => by simp only [Bool.or_eq_true, decide_eq_true_eq]; omega) U
  exact this.imp fun h => of_decide_eq_true h
theorem srt_mem {U : List Int} {x : Int} : x ∈ srt U ↔ x ∈ U := by unfold srt; exact List.mem_mergeSort
def asc (N : Nat) (p : Nat → Bool) : List Int := ((List.range N).filter p).map fun (s : Nat) => (s : Int)
theorem asc_lt (N : Nat) (p : Nat → Bool) : (asc N p).Pairwise (· < ·) := by
  unfold asc
  rw [List.pairwise_map]
  refine List.Pairwise.imp ?_ (List.Pairwise.filter _ List.pairwise_lt_range)
  intro a b h; omega
theorem asc_mem {N : Nat} {p : Nat → Bool} {u : Int} : u ∈ asc N p ↔ 0 ≤ u ∧ u < N ∧ p u.toNat = true := by
  unfold asc
  simp only [List.mem_map, List.mem_filter, List.mem_range]
  constructor
  · rintro ⟨s, ⟨h1, h2⟩, rfl⟩; exact ⟨by omega, by omega, h2⟩
  · rintro ⟨h1, h2, h3⟩; exact ⟨u.toNat, ⟨by omega, h3⟩, by omega⟩
theorem asc_step (N : Nat) (p : Nat → Bool) : asc (N + 1) p = asc N p ++ (if p N then [(N : Int)] else []) := by
  unfold asc
  rw [List.range_succ, List.filter_append, List.map_append]
  congr 1
  cases h : p N
  · rw [List.filter_cons_of_neg (by rw [h]; exact Bool.false_ne_true), List.filter_nil]; rfl
  · rw [List.filter_cons_of_pos h, List.filter_nil]; rfl
theorem asc_le (N : Nat) (p : Nat → Bool) : (asc N p).length ≤ N := by
  unfold asc
  rw [List.length_map]
  exact Nat.le_trans (List.length_filter_le _ _) (by simp)
theorem runs_asc {U : List Int} {N : Nat} {p : Nat → Bool} (h : ∀ u, u ∈ U ↔ 0 ≤ u ∧ u < N ∧ p u.toNat = true) : mruns ((srt U).map un) = mruns ((asc N p).map un) := by
  unfold mruns
  rw [ddp_runs (srt U), asc_unique (ddp_lt (srt_le U)) (asc_lt N p) fun x => by rw [ddp_mem, srt_mem, h, asc_mem]]
theorem srt_asc (N : Nat) (p : Nat → Bool) : srt (asc N p) = asc N p := asc_unique (by
  have h := srt_le (asc N p)
  have hn : (srt (asc N p)).Nodup := (List.mergeSort_perm _ _).nodup_iff.2 ((asc_lt N p).imp fun h => by omega)
  have := h.and hn
  exact this.imp fun ⟨a, b⟩ => by omega) (asc_lt N p) fun x => srt_mem
theorem rstep_sum {acc : List X} {u : Int} (h : acc = [] ∨ (lastX acc).s + (lastX acc).n ≤ u ∧ 0 ≤ (lastX acc).n) : sumN (rstep acc (un u)) = sumN acc + 1 ∧ rstep acc (un u) ≠ [] ∧ (lastX (rstep acc (un u))).s + (lastX (rstep acc (un u))).n = u + 1 ∧ 0 ≤ (lastX (rstep acc (un u))).n := by
  rcases List.eq_nil_or_concat acc with rfl | ⟨A, y, h0⟩
  · have e : rstep [] (un u) = [⟨0, 1, u⟩] := rfl
    rw [e]
    have hl : lastX [(⟨0, 1, u⟩ : X)] = ⟨0, 1, u⟩ := rfl
    rw [hl]
    refine ⟨by simp [sumN], by simp, rfl, by show (0 : Int) ≤ 1; decide⟩
  · rw [List.concat_eq_append] at h0
    subst h0
    obtain h | ⟨h1, h2⟩ := h
    · simp at h
    rw [lastX_snoc] at h1 h2
    by_cases q : u ≤ y.s + y.n
    · have e1 : rstep (A ++ [y]) (un u) = A ++ [⟨y.a, max y.n (u + 1 - y.s), y.s⟩] := by
        unfold rstep
        rw [if_pos ⟨by simp, by rw [lastX_snoc]; exact q⟩, show ((A ++ [y]).length : Int) = A.length + 1 from by simp, show (((A.length : Nat) : Int) + 1 - 1).toNat = A.length from by omega, List.set_append_right _ _ (Nat.le_refl _), lastX_snoc]
        simp [un]
      rw [e1, lastX_snoc]
      refine ⟨?_, by simp, ?_, ?_⟩
      · rw [sumN_append, sumN_append]; simp only [sumN]; omega
      · show y.s + max y.n (u + 1 - y.s) = u + 1; omega
      · show 0 ≤ max y.n (u + 1 - y.s); omega
    · have e1 : rstep (A ++ [y]) (un u) = A ++ [y] ++ [⟨0, 1, u⟩] := by
        unfold rstep
        rw [if_neg (by rintro ⟨_, h⟩; rw [lastX_snoc] at h; exact q h)]; rfl
      rw [e1, lastX_snoc]
      exact ⟨by rw [sumN_append (A ++ [y])]; simp [sumN], by simp, rfl, by show (0 : Int) ≤ 1; decide⟩
theorem runs_sum {U : List Int} (h : U.Pairwise (· < ·)) : sumN (mruns (U.map un)) = U.length := by
  have : ∀ (U : List Int) (acc : List X), U.Pairwise (· < ·) → (acc = [] ∨ (∀ u ∈ U, (lastX acc).s + (lastX acc).n ≤ u) ∧ 0 ≤ (lastX acc).n) → sumN ((U.map un).foldl rstep acc) = sumN acc + U.length := by
    intro U
    induction U with
    | nil => intro acc _ _; simp
    | cons u U ih =>
      intro acc h1 h2
      obtain ⟨a1, a2⟩ := List.pairwise_cons.1 h1
      obtain ⟨b1, b2, b3, b4⟩ := rstep_sum (acc := acc) (u := u) (h2.imp id fun h => ⟨h.1 u List.mem_cons_self, h.2⟩)
      rw [List.map_cons, List.foldl_cons, ih _ a2 (.inr ⟨fun v hv => by have := a1 v hv; omega, b4⟩), b1, List.length_cons]
      omega
  have := this U [] h (.inl rfl)
  simpa [mruns, sumN] using this
end Go.Proofs.YtjglgfnhgehpeaaGreat

/- Sums over the slots; the exclusive ones. -/
set_option linter.unusedVariables false
set_option linter.unusedSimpArgs false
namespace Go.Proofs.YtjglgfnhgehpeaaGreat
open Go.RowKit Go.Fw Go.Xt
def sumR (f : Nat → Int) : Nat → Int
  | 0 => 0
  | n + 1 => sumR f n + f n
theorem sumR_congr {f g : Nat → Int} : ∀ {n : Nat}, (∀ i, i < n → f i = g i) → sumR f n = sumR g n
  | 0, _ => rfl
  | n + 1, h => by simp only [sumR]; rw [sumR_congr fun i hi => h i (by omega), h n (by omega)]
theorem sumR_add (f g : Nat → Int) : ∀ n : Nat, sumR (fun i => f i + g i) n = sumR f n + sumR g n
  | 0 => rfl
  | n + 1 => by simp only [sumR]; rw [sumR_add f g n]; omega
theorem sumR_le {f g : Nat → Int} : ∀ {n : Nat}, (∀ i, i < n → f i ≤ g i) → sumR f n ≤ sumR g n
  | 0, _ => by simp [sumR]
  | n + 1, h => by
    have := sumR_le (f := f) (g := g) (n := n) fun i hi => h i (by omega)
    have := h n (by omega)
    simp only [sumR]; omega
theorem sumR_zero {f : Nat → Int} {n : Nat} (h : ∀ i, i < n → f i = 0) : sumR f n = 0 := by
  rw [sumR_congr (g := fun _ => 0) h]
  induction n with
  | zero => rfl
  | succ n ih => simp only [sumR]; rw [ih fun i hi => h i (by omega)]; rfl
theorem sumR_nn {f : Nat → Int} {n : Nat} (h : ∀ i, i < n → 0 ≤ f i) : 0 ≤ sumR f n := by
  have := sumR_le (f := fun _ => 0) (g := f) h
  rwa [sumR_zero fun _ _ => rfl] at this
theorem sumR_ub {f : Nat → Int} {n : Nat} (h : ∀ i, i < n → f i ≤ 1) : sumR f n ≤ n := by
  induction n with
  | zero => simp [sumR]
  | succ n ih =>
    have := ih fun i hi => h i (by omega)
    have := h n (by omega)
    simp only [sumR]; omega
theorem sumR_shift (h : Nat → Int) (a : Nat) : ∀ k : Nat, sumR h (a + k) = sumR h a + sumR (fun j => h (a + j)) k
  | 0 => by simp [sumR]
  | k + 1 => by
    have := sumR_shift h a k
    show sumR h (a + k) + h (a + k) = _
    rw [this]
    simp only [sumR]; omega
theorem sumR_win {h : Nat → Int} {a k N : Nat} (hN : a + k ≤ N) : sumR (fun s => if a ≤ s ∧ s < a + k then h s else 0) N = sumR (fun j => h (a + j)) k := by
  obtain ⟨r, rfl⟩ : ∃ r, N = a + k + r := ⟨N - (a + k), by omega⟩
  rw [sumR_shift _ (a + k) r, sumR_shift _ a k, sumR_zero (n := a) (fun i hi => if_neg (by omega)), sumR_zero (n := r) (fun i hi => if_neg (by omega))]
  rw [sumR_congr (n := k) (g := fun j => h (a + j)) fun i hi => if_pos (by omega)]
  omega
theorem sumR_one (k : Nat) : sumR (fun _ => 1) k = k := by
  induction k with
  | zero => rfl
  | succ k ih => simp only [sumR]; rw [ih]; omega
def usedE (cs : List Int) (i : Nat) : Int := sumR (fun s => if 0 < cs.getD s 0 then 1 else 0) i
theorem usedE_bd (cs : List Int) (i : Nat) : 0 ≤ usedE cs i ∧ usedE cs i ≤ i := ⟨sumR_nn fun _ _ => by split <;> omega, sumR_ub fun _ _ => by split <;> omega⟩
theorem usedE_step (cs : List Int) (i : Nat) : usedE cs (i + 1) = usedE cs i + (if 0 < cs.getD i 0 then 1 else 0) := rfl
theorem sumR_hit {h : Nat → Int} {x : X} {N : Nat} (h0 : 0 ≤ x.s) (hn : 0 ≤ x.n) (hN : x.s + x.n ≤ N) : sumR (fun s => if x.s ≤ (s : Int) ∧ (s : Int) < x.s + x.n then h s else 0) N = sumR (fun j => h (x.s.toNat + j)) x.n.toNat := by
  rw [← sumR_win (N := N) (by omega)]
  refine sumR_congr fun i hi => ?_
  by_cases q : x.s ≤ (i : Int) ∧ (i : Int) < x.s + x.n
  · rw [if_pos q, if_pos (by omega)]
  · rw [if_neg q, if_neg (by omega)]
theorem sumR_hits {L : List X} {N : Nat} (h : ∀ x ∈ L, 1 ≤ x.n ∧ 0 ≤ x.s ∧ x.s + x.n ≤ N) : sumR (fun s => hits L s) N = sumN L := by
  induction L with
  | nil => exact sumR_zero fun _ _ => rfl
  | cons x L ih =>
    have hx := h x List.mem_cons_self
    rw [sumR_congr (g := fun s => hit1 x s + hits L s) fun i _ => hits_cons x L i, sumR_add, ih fun y hy => h y (List.mem_cons_of_mem _ hy)]
    have := sumR_hit (h := fun _ => 1) (x := x) (N := N) (by omega) (by omega) (by omega)
    rw [sumR_one] at this
    show sumR (fun s => if x.s ≤ (s : Int) ∧ (s : Int) < x.s + x.n then 1 else 0) N + _ = x.n + sumN L
    rw [this]; omega
def exH (cs : List Int) (L : List X) : Int := sumR (fun s => if cs.getD s 0 = 1 then hits L s else 0) cs.length
def ex1 (cs : List Int) (x : X) (k : Nat) : Int := sumR (fun j => if cs.getD (x.s.toNat + j) 0 = 1 then 1 else 0) k
def exE (cs : List Int) (xs : List X) : Int := xs.foldl (fun n x => n + ex1 cs x x.n.toNat) 0
theorem exE_step {cs : List Int} {xs : List X} {i : Nat} (hi : i < xs.length) : exE cs (xs.take (i + 1)) = exE cs (xs.take i) + ex1 cs (xs.getD (i : Int).toNat default) (xs.getD (i : Int).toNat default).n.toNat := foldl_step _ _ hi
theorem ex1_bd (cs : List Int) (x : X) (k : Nat) : 0 ≤ ex1 cs x k ∧ ex1 cs x k ≤ k := ⟨sumR_nn fun i _ => by split <;> omega, sumR_ub fun i _ => by split <;> omega⟩
theorem exH_app (cs : List Int) (A B : List X) : exH cs (A ++ B) = exH cs A + exH cs B := by
  unfold exH
  rw [← sumR_add]
  refine sumR_congr fun i _ => ?_
  rw [hits_app]
  split <;> omega
theorem exH_one {cs : List Int} {x : X} (h0 : 0 ≤ x.s) (hn : 0 ≤ x.n) (hN : x.s + x.n ≤ cs.length) : exH cs [x] = ex1 cs x x.n.toNat := by
  unfold ex1
  rw [← sumR_hit (h := fun s => if cs.getD s 0 = 1 then 1 else 0) h0 hn hN]
  refine sumR_congr fun i _ => ?_
  rw [hits_one]
  unfold hit1
  by_cases q : cs.getD i 0 = 1
  · rw [if_pos q]; simp only [if_pos q]
  · rw [if_neg q]; simp only [if_neg q]; split <;> rfl
theorem exE_eq {cs : List Int} {xs : List X} (h : ∀ x ∈ xs, 1 ≤ x.n ∧ 0 ≤ x.s ∧ x.s + x.n ≤ cs.length) : exE cs xs = exH cs xs := by
  have : ∀ (xs : List X) (n : Int), (∀ x ∈ xs, 1 ≤ x.n ∧ 0 ≤ x.s ∧ x.s + x.n ≤ cs.length) → xs.foldl (fun n x => n + ex1 cs x x.n.toNat) n = n + exH cs xs := by
    intro xs
    induction xs with
    | nil => intro n _; simp only [List.foldl_nil]; unfold exH; rw [sumR_zero fun i _ => by simp [hits]]; omega
    | cons x xs ih =>
      intro n h
      have hx := h x List.mem_cons_self
      rw [List.foldl_cons, ih _ fun y hy => h y (List.mem_cons_of_mem _ hy), show x :: xs = [x] ++ xs from rfl, exH_app, exH_one (by omega) (by omega) (by omega)]
      omega
  have := this xs 0 h
  unfold exE
  rw [this]; omega
theorem exH_nn (cs : List Int) (L : List X) : 0 ≤ exH cs L := sumR_nn fun i _ => by have := hits_nn L i; split <;> omega
theorem exH_le {cs : List Int} {L : List X} (h : ∀ x ∈ L, 1 ≤ x.n ∧ 0 ≤ x.s ∧ x.s + x.n ≤ cs.length) : exH cs L ≤ sumN L := by
  rw [← sumR_hits h]
  exact sumR_le fun i _ => by have := hits_nn L i; split <;> omega
theorem sgk_spec (cs : List Int) (a : List Bool × Int) (s : Nat) : ∀ k : Nat, s + k ≤ a.1.length →
    (∀ t : Nat, (sgk cs a s k).1.getD t false = (a.1.getD t false || decide (s ≤ t ∧ t < s + k))) ∧ (sgk cs a s k).2 = a.2 + sumR (fun j => if (!a.1.getD (s + j) false && decide (cs.getD (s + j) 0 = 1)) = true then 1 else 0) k
  | 0, _ => ⟨fun t => by rw [decide_eq_false (by omega), Bool.or_false]; rfl, by simp [sgk, sumR]⟩
  | k + 1, h => by
    obtain ⟨h1, h2⟩ := sgk_spec cs a s k (by omega)
    have hl := (sgk_ok cs a s k).1
    constructor
    · intro t
      show ((sgk cs a s k).1.set (s + k) true).getD t false = _
      rw [List.getD_eq_getElem?_getD, List.getElem?_set]
      by_cases e : s + k = t
      · subst e
        rw [if_pos rfl, if_pos (by omega), decide_eq_true (by omega)]
        simp
      · rw [if_neg e, ← List.getD_eq_getElem?_getD, h1]
        by_cases q : s ≤ t ∧ t < s + k
        · rw [decide_eq_true q, decide_eq_true (by omega)]
        · rw [decide_eq_false q, decide_eq_false (by omega)]
    · show (if (!(sgk cs a s k).1.getD (s + k) false && decide (cs.getD (s + k) 0 = 1)) = true then (sgk cs a s k).2 + 1 else (sgk cs a s k).2) = _
      rw [h1, decide_eq_false (p := s ≤ s + k ∧ s + k < s + k) (by omega), Bool.or_false, h2]
      simp only [sumR]
      split <;> omega
theorem sgl_spec (cs : List Int) : ∀ (n : Nat) (xs : List X), xs.length = n → (∀ x ∈ xs, 1 ≤ x.n ∧ 0 ≤ x.s ∧ x.s + x.n ≤ cs.length) →
    (∀ t : Nat, (sgl cs xs).1.getD t false = decide (0 < hits xs t)) ∧ (sgl cs xs).1.length = cs.length ∧ (sgl cs xs).2 = sumR (fun s => if cs.getD s 0 = 1 ∧ 0 < hits xs s then 1 else 0) cs.length
  | 0, xs, hn, _ => by
    have : xs = [] := List.eq_nil_of_length_eq_zero hn
    subst this
    refine ⟨fun t => ?_, by simp [sgl], ?_⟩
    · rw [decide_eq_false (by simp [hits])]
      show (List.replicate cs.length false).getD t false = false
      rw [List.getD_eq_getElem?_getD, List.getElem?_replicate]
      split <;> rfl
    · rw [sumR_zero fun i _ => if_neg (by simp [hits])]; rfl
  | n + 1, xs, hn, h => by
    rcases List.eq_nil_or_concat xs with rfl | ⟨ys, x, h0⟩
    · simp at hn
    · rw [List.concat_eq_append] at h0
      subst h0
      obtain ⟨i1, i2, i3⟩ := sgl_spec cs n ys (by simpa using hn) fun z hz => h z (List.mem_append_left _ hz)
      have hx := h x (by simp)
      have e : sgl cs (ys ++ [x]) = sgk cs (sgl cs ys) x.s.toNat x.n.toNat := by unfold sgl; rw [List.foldl_append]; rfl
      obtain ⟨k1, k2⟩ := sgk_spec cs (sgl cs ys) x.s.toNat x.n.toNat (by omega)
      rw [e]
      refine ⟨fun t => ?_, by rw [(sgk_ok cs _ _ _).1, i2], ?_⟩
      · rw [k1, i1, hits_app, hits_one]
        have hy := hits_nn ys t
        unfold hit1
        by_cases q : x.s ≤ (t : Int) ∧ (t : Int) < x.s + x.n
        · rw [if_pos q, decide_eq_true (p := x.s.toNat ≤ t ∧ t < x.s.toNat + x.n.toNat) (by omega), Bool.or_true, decide_eq_true (by omega)]
        · rw [if_neg q, decide_eq_false (p := x.s.toNat ≤ t ∧ t < x.s.toNat + x.n.toNat) (by omega), Bool.or_false, Int.add_zero]
      · rw [k2, i3, ← sumR_hit (x := x) (N := cs.length) (h := fun s => if (!(sgl cs ys).1.getD s false && decide (cs.getD s 0 = 1)) = true then 1 else 0) (by omega) (by omega) (by omega), ← sumR_add]
        refine sumR_congr fun i _ => ?_
        simp only [i1, hits_app, hits_one]
        have hy := hits_nn ys i
        unfold hit1
        generalize cs.getD i 0 = z
        generalize hits ys (i : Int) = hh at hy ⊢
        by_cases c : z = 1
        · by_cases q : x.s ≤ (i : Int) ∧ (i : Int) < x.s + x.n
          · by_cases p : 0 < hh
            · rw [if_pos ⟨c, p⟩, if_pos q, if_neg (by rw [decide_eq_true p]; simp), if_pos q, if_pos ⟨c, by omega⟩]; rfl
            · rw [if_neg (fun h => p h.2), if_pos q, if_pos (by rw [decide_eq_false p, decide_eq_true c]; rfl), if_pos q, if_pos ⟨c, by omega⟩]; rfl
          · rw [if_neg q, if_neg q, Int.add_zero, Int.add_zero]
        · rw [if_neg (fun h : z = 1 ∧ 0 < hh => c h.1), decide_eq_false c, Bool.and_false]
          have e : ∀ k : Int, (if z = 1 ∧ 0 < k then (1 : Int) else 0) = 0 := fun k => if_neg fun h => c h.1
          rw [e]
          split <;> rfl
theorem single_ex {cs : List Int} {xs : List X} (h : ∀ x ∈ xs, 1 ≤ x.n ∧ 0 ≤ x.s ∧ x.s + x.n ≤ cs.length) (h1 : ∀ s : Nat, s < cs.length → cs.getD s 0 = 1 → hits xs s ≤ 1) : singleE cs xs = exH cs xs := by
  unfold singleE exH
  rw [(sgl_spec cs _ xs rfl h).2.2]
  refine sumR_congr fun i hi => ?_
  have := hits_nn xs i
  by_cases c : cs.getD i 0 = 1
  · have := h1 i hi c
    by_cases p : 0 < hits xs i
    · rw [if_pos ⟨c, p⟩, if_pos c]; omega
    · rw [if_neg (by rintro ⟨_, q⟩; exact p q), if_pos c]; omega
  · rw [if_neg (by rintro ⟨q, _⟩; exact c q), if_neg c]
end Go.Proofs.YtjglgfnhgehpeaaGreat

/- The reference's families, plainly. -/
set_option linter.unusedVariables false
set_option linter.unusedSimpArgs false
namespace Go.Proofs.YtjglgfnhgehpeaaGreat
open Go.RowKit Go.Fw Go.Xt
structure RV where
  s : ByteArray
  n : Int
  r : Int
  l : List X
instance : Inhabited RV := ⟨⟨⟨#[]⟩, 0, 0, []⟩⟩
structure RF where
  k : Nat
  vs : List RV
instance : Inhabited RF := ⟨⟨0, []⟩⟩
def FRV (v : RV) : List Rp := [val (.string v.s), I v.n, I v.r, sl 3 FX v.l]
abbrev eG (g : RF) : Rp := agg [I (g.k : Int), sl 4 FRV g.vs]
abbrev key (s : ByteArray) : List UInt8 := s.data.toList
theorem key_inj {a b : ByteArray} : key a = key b ↔ a = b := by
  constructor
  · intro h
    cases a; cases b
    exact congrArg _ (Array.toList_inj.1 h)
  · rintro rfl; rfl
def isS (s : ByteArray) (v : RV) : Bool := decide (v.s = s)
def gl (s : ByteArray) (vs : List RV) : Option RV := vs.find? (isS s)
def rAt (vs : List RV) (s : ByteArray) : Int := fidx (isS s) vs
theorem at_none {s : ByteArray} {vs : List RV} (h : gl s vs = none) : rAt vs s = -1 ∧ ∀ v ∈ vs, v.s ≠ s := by
  have h2 : ∀ v ∈ vs, v.s ≠ s := fun v hv e => by
    have := List.find?_eq_none.1 h v hv
    exact this (decide_eq_true e)
  exact ⟨fidx_none fun v hv => decide_eq_false (h2 v hv), h2⟩
theorem at_some {s : ByteArray} {v : RV} : ∀ {vs : List RV}, gl s vs = some v → ∃ i : Nat, i < vs.length ∧ rAt vs s = i ∧ vs[i]? = some v ∧ v.s = s := by
  intro vs h
  have hv : v.s = s := of_decide_eq_true (show isS s v = true from List.find?_some (p := isS s) h)
  unfold rAt fidx
  cases q : vs.findIdx? (isS s) with
  | none =>
    have := List.findIdx?_eq_none_iff.1 q v (List.mem_of_find?_eq_some h)
    rw [show isS s v = true from decide_eq_true hv] at this
    cases this
  | some i =>
    obtain ⟨hi, h1, h2⟩ := List.findIdx?_eq_some_iff_getElem.1 q
    refine ⟨i, hi, rfl, ?_, hv⟩
    have : gl s vs = some vs[i] := by
      unfold gl
      rw [List.find?_eq_some_iff_getElem]
      exact ⟨h1, i, hi, rfl, fun j hj => by simpa using h2 j hj⟩
    rw [h] at this
    rw [List.getElem?_eq_getElem hi]
    exact this.symm
theorem gl_mem {s : ByteArray} {v : RV} {vs : List RV} (h : gl s vs = some v) : v ∈ vs ∧ v.s = s := ⟨List.mem_of_find?_eq_some h, of_decide_eq_true (show isS s v = true from List.find?_some (p := isS s) h)⟩
theorem gl_of_mem {v : RV} {vs : List RV} (hn : vs.Pairwise fun a b => key a.s < key b.s) (h : v ∈ vs) : gl v.s vs = some v := by
  induction vs with
  | nil => cases h
  | cons w vs ih =>
    obtain ⟨h1, h2⟩ := List.pairwise_cons.1 hn
    unfold gl
    rcases List.mem_cons.1 h with rfl | h
    · rw [List.find?_cons_of_pos (by exact decide_eq_true rfl)]
    · have := h1 v h
      rw [List.find?_cons_of_neg (by unfold isS; rw [decide_eq_true_eq]; intro e; rw [e] at this; exact List.lt_irrefl _ this)]
      exact ih h2 h
def wst (v : RV) (a : List RV × Bool) (w : RV) : List RV × Bool :=
  (if w.s = v.s then (if a.2 = false ∧ ¬ key w.s < key v.s then a.1 ++ [v] else a.1) else (if a.2 = false ∧ ¬ key w.s < key v.s then a.1 ++ [v] else a.1) ++ [w],
    if a.2 = false ∧ ¬ key w.s < key v.s then true else a.2)
def rWithF (vs : List RV) (v : RV) : List RV × Bool := vs.foldl (wst v) ([], false)
def rWithL (vs : List RV) (v : RV) : List RV := if (rWithF vs v).2 = true then (rWithF vs v).1 else (rWithF vs v).1 ++ [v]
def rWith (g : RF) (v : RV) : RF := ⟨g.k, rWithL g.vs v⟩
def rCounts (g : RF) : List Int := g.vs.foldl (fun c v => (addE c v.l).1) (List.replicate g.k 0)
def fz (a b : List Int) : List Int := asc a.length fun s => decide (0 < a.getD s 0) && decide (b.getD s 0 = 0)
def rFreed (g h : RF) : List X := mruns ((fz (rCounts g) (rCounts h)).map un)
def rNew (k : Int) : RF × Int := if 0 ≤ k ∧ k ≤ 65536 then (⟨k.toNat, []⟩, 0) else (default, 1)
def rCreate (g : RF) (s : ByteArray) (n r : Int) : RF × Int :=
  if badN s n r then (default, 1) else match gl s g.vs with
  | some _ => (default, 10)
  | none => if 32 ≤ g.vs.length then (default, 7) else (rWith g ⟨s, n, r, []⟩, 0)
def rClone (g : RF) (s o : ByteArray) : RF × Int := match gl s g.vs with
  | none => (default, 9)
  | some v => if nameE o = false then (default, 1) else match gl o g.vs with
    | some _ => (default, 10)
    | none => if 32 ≤ g.vs.length then (default, 7) else (rWith g ⟨o, v.n, 0, v.l⟩, 0)
def rDel (g : RF) (i : Nat) : RF := ⟨g.k, g.vs.take i ++ g.vs.drop (i + 1)⟩
def rDelete (g : RF) (s : ByteArray) : RF × List X × Int := match gl s g.vs with
  | none => (default, [], 9)
  | some _ => (rDel g (rAt g.vs s).toNat, rFreed g (rDel g (rAt g.vs s).toNat), 0)
def inB (n a m : Int) : Bool := decide (0 ≤ a) && decide (0 ≤ m) && decide (a ≤ n) && decide (m ≤ n) && decide (a + m ≤ n)
def rAsg (g : RF) (v : RV) (x : X) : RF := rWith g ⟨v.s, v.n, v.r, (rPut v.l x).1⟩
def asgOk (g : RF) (v : RV) (x : X) : Bool := decide (1 ≤ x.n) && inB v.n x.a x.n && decide (0 ≤ x.s) && decide (x.s ≤ g.k) && decide (x.s + x.n ≤ g.k)
def rAssign (g : RF) (s : ByteArray) (x : X) : RF × List X × Int := match gl s g.vs with
  | none => (default, [], 9)
  | some v => if asgOk g v x then (rAsg g v x, rFreed g (rAsg g v x), 0) else (default, [], 2)
def rUnm (g : RF) (v : RV) (a n : Int) : RF := rWith g ⟨v.s, v.n, v.r, (rCut v.l a n).1⟩
def rUnmap (g : RF) (s : ByteArray) (a n : Int) : RF × List X × Int := match gl s g.vs with
  | none => (default, [], 9)
  | some v => if inB v.n a n then (rUnm g v a n, rFreed g (rUnm g v a n), 0) else (default, [], 2)
def rLookup (g : RF) (s : ByteArray) (a : Int) : Int × Bool × Int := match gl s g.vs with
  | none => (0, false, 9)
  | some v => if a < 0 ∨ v.n ≤ a then (0, false, 2) else ((sem v.l a).getD 0, (sem v.l a).isSome, 0)
def rRange (g : RF) (s : ByteArray) (a n : Int) : List X × Int := match gl s g.vs with
  | none => ([], 9)
  | some v => if inB v.n a n then ((rCut v.l a n).2.1, 0) else ([], 2)
def rInfo (g : RF) (s : ByteArray) : Inf × Int := match gl s g.vs with
  | none => (default, 9)
  | some v => (⟨v.s, v.n, v.r, sumN v.l, exE (rCounts g) v.l⟩, 0)
def za (cs : List Int) : List Int := asc cs.length fun s => decide (cs.getD s 0 = 0)
def rFree (g : RF) : List X := mruns ((za (rCounts g)).map un)
structure St6 where
  k : Int
  v : Int
  o : Int
  a : Int
  n : Int
  s : Int
instance : Inhabited St6 := ⟨⟨0, 0, 0, 0, 0, 0⟩⟩
structure St6.U8 (t : St6) : Prop where
  k : 0 ≤ t.k ∧ t.k ≤ 255
  v : 0 ≤ t.v ∧ t.v ≤ 255
  o : 0 ≤ t.o ∧ t.o ≤ 255
  a : 0 ≤ t.a ∧ t.a ≤ 255
  n : 0 ≤ t.n ∧ t.n ≤ 255
  s : 0 ≤ t.s ∧ t.s ≤ 255
def FS6 (t : St6) : List Rp := [val (.int .u8 t.k), val (.int .u8 t.v), val (.int .u8 t.o), val (.int .u8 t.a), val (.int .u8 t.n), val (.int .u8 t.s)]
def nmNo : ByteArray := ⟨#[110, 111, 32, 110, 97, 109, 101]⟩
def nm (n : Int) : ByteArray := if n % 6 = 5 then nmNo else ⟨#[UInt8.ofNat (97 + (n % 6).toNat)]⟩
def St6.x (t : St6) : X := ⟨t.a, t.n, t.s⟩
def fApply (f : Fam) (t : St6) : Fam × List X × Int :=
  if t.k % 8 = 0 then ((fCreate f (nm t.v) t.n t.a).1, [], (fCreate f (nm t.v) t.n t.a).2)
  else if t.k % 8 = 1 then ((fClone f (nm t.v) (nm t.o)).1, [], (fClone f (nm t.v) (nm t.o)).2)
  else if t.k % 8 = 2 then fDelete f (nm t.v)
  else if t.k % 8 = 3 then fUnmap f (nm t.v) t.a t.n
  else fAssign f (nm t.v) t.x
def rApply (g : RF) (t : St6) : RF × List X × Int :=
  if t.k % 8 = 0 then ((rCreate g (nm t.v) t.n t.a).1, [], (rCreate g (nm t.v) t.n t.a).2)
  else if t.k % 8 = 1 then ((rClone g (nm t.v) (nm t.o)).1, [], (rClone g (nm t.v) (nm t.o)).2)
  else if t.k % 8 = 2 then rDelete g (nm t.v)
  else if t.k % 8 = 3 then rUnmap g (nm t.v) t.a t.n
  else rAssign g (nm t.v) t.x
end Go.Proofs.YtjglgfnhgehpeaaGreat

/- The families of the code against the reference's. -/
set_option linter.unusedVariables false
set_option linter.unusedSimpArgs false
namespace Go.Proofs.YtjglgfnhgehpeaaGreat
open Go.RowKit Go.Fw Go.Xt
def rv (x : ByteArray × Vol) : RV := ⟨x.1, x.2.n, x.2.r, x.2.t.list⟩
structure VOk (k : Nat) (v : RV) : Prop where
  n : 1 ≤ v.n ∧ v.n ≤ 65536
  r : 0 ≤ v.r ∧ v.r ≤ v.n
  ok : Xt.Ok 0 v.l
  nf : Nf v.l
  inn : ∀ x ∈ v.l, x.a + x.n ≤ v.n ∧ x.s + x.n ≤ k
  nm : nameE v.s = true
structure GOk (g : RF) : Prop where
  k : g.k ≤ 65536
  srt : g.vs.Pairwise fun a b => key a.s < key b.s
  vol : ∀ v ∈ g.vs, VOk g.k v
  num : g.vs.length ≤ 32
structure Rel (f : Fam) (g : RF) : Prop where
  ok : GOk g
  cs : f.cs = rCounts g
  vs : (f.vs.map rv).Perm g.vs
  wt : ∀ x ∈ f.vs, Wt x.2.t
theorem VOk.slots {k : Nat} {v : RV} (h : VOk k v) : ∀ x ∈ v.l, 1 ≤ x.n ∧ 0 ≤ x.s ∧ x.s + x.n ≤ k := fun x hx => by
  have := h.ok.starts x hx
  have := h.inn x hx
  omega
def tot : List RV → Int → Int
  | [], _ => 0
  | v :: vs, s => hits v.l s + tot vs s
theorem tot_nn (vs : List RV) (s : Int) : 0 ≤ tot vs s := by
  induction vs with
  | nil => simp [tot]
  | cons v vs ih => have := hits_nn v.l s; simp only [tot]; omega
theorem tot_perm {a b : List RV} (h : a.Perm b) (s : Int) : tot a s = tot b s := by
  induction h with
  | nil => rfl
  | cons x _ ih => simp only [tot]; rw [ih]
  | swap x y l => simp only [tot]; omega
  | trans _ _ i1 i2 => exact i1.trans i2
theorem tot_mem {vs : List RV} {v : RV} (h : v ∈ vs) (s : Int) : hits v.l s ≤ tot vs s := by
  induction vs with
  | nil => cases h
  | cons w vs ih =>
    have := tot_nn vs s
    have := hits_nn w.l s
    simp only [tot]
    rcases List.mem_cons.1 h with rfl | h
    · omega
    · have := ih h; omega
theorem counts_of {k : Nat} : ∀ (vs : List RV) (c : List Int), c.length = k → (∀ v ∈ vs, ∀ x ∈ v.l, 1 ≤ x.n ∧ 0 ≤ x.s ∧ x.s + x.n ≤ k) →
    (vs.foldl (fun c v => (addE c v.l).1) c).length = k ∧ ∀ s : Nat, (vs.foldl (fun c v => (addE c v.l).1) c).getD s 0 = c.getD s 0 + tot vs s
  | [], c, hc, _ => ⟨hc, fun s => by simp [tot]⟩
  | v :: vs, c, hc, h => by
    have hv := h v List.mem_cons_self
    have hp : permB c.length v.l = true := permB_iff.2 fun x hx => by have := hv x hx; omega
    have e : (addE c v.l).1 = chg 1 c v.l := by unfold addE; rw [if_pos hp]
    obtain ⟨g1, g2⟩ := chg_ok 1 c _ v.l rfl fun x hx => by have := hv x hx; omega
    obtain ⟨i1, i2⟩ := counts_of vs (chg 1 c v.l) (by omega) fun w hw => h w (List.mem_cons_of_mem _ hw)
    rw [List.foldl_cons, e]
    refine ⟨i1, fun s => ?_⟩
    rw [i2, g2]
    simp only [tot]
    omega
theorem counts_spec {g : RF} (h : GOk g) : (rCounts g).length = g.k ∧ ∀ s : Nat, (rCounts g).getD s 0 = tot g.vs s := by
  obtain ⟨h1, h2⟩ := counts_of (k := g.k) g.vs (List.replicate g.k 0) (List.length_replicate ..) fun v hv => (h.vol v hv).slots
  refine ⟨h1, fun s => ?_⟩
  unfold rCounts
  rw [h2, List.getD_eq_getElem?_getD, List.getElem?_replicate]
  split <;> simp
theorem getD_ext {a b : List Int} (hl : a.length = b.length) (h : ∀ s : Nat, a.getD s 0 = b.getD s 0) : a = b := by
  refine List.ext_getElem hl fun i h1 h2 => ?_
  have := h i
  rw [List.getD_eq_getElem?_getD, List.getD_eq_getElem?_getD, List.getElem?_eq_getElem h1, List.getElem?_eq_getElem h2] at this
  exact this
theorem tot_le {g : RF} (h : GOk g) (s : Int) : tot g.vs s ≤ 3000000 := by
  have : ∀ vs : List RV, (∀ v ∈ vs, VOk g.k v) → tot vs s ≤ 65536 * (vs.length : Int) := by
    intro vs
    induction vs with
    | nil => intro _; simp [tot]
    | cons v vs ih =>
      intro hv
      have := ih fun w hw => hv w (List.mem_cons_of_mem _ hw)
      have := hits_le v.l s
      have := ok_len (hv v List.mem_cons_self).ok
      simp only [tot, List.length_cons]
      omega
  have := this g.vs h.vol
  have := h.num
  omega
theorem keys_nd {f : Fam} {g : RF} (h : Rel f g) : (f.vs.map (·.1)).Nodup := by
  have h1 : (g.vs.map (·.s)).Nodup := by
    unfold List.Nodup
    rw [List.pairwise_map]
    exact h.ok.srt.imp fun {a b} hl e => by rw [e] at hl; exact List.lt_irrefl _ hl
  have h2 := (h.vs.map (·.s)).nodup_iff.2 h1
  rwa [List.map_map] at h2
theorem lookK_none {α : Type} {s : ByteArray} : ∀ {l : List (ByteArray × α)}, lookK s l = none → ∀ x ∈ l, x.1 ≠ s
  | [], _, x, hx => by cases hx
  | y :: l, h, x, hx => by
    unfold lookK at h
    split at h
    · cases h
    · rename_i hn
      rcases List.mem_cons.1 hx with rfl | hx
      · exact fun e => hn e.symm
      · exact lookK_none h x hx
theorem Rel.look {f : Fam} {g : RF} (h : Rel f g) (s : ByteArray) : gl s g.vs = (lookK s f.vs).map fun v => rv (s, v) := by
  cases hl : lookK s f.vs with
  | some v =>
    have h1 : rv (s, v) ∈ g.vs := h.vs.subset (List.mem_map_of_mem (lookK_mem hl))
    exact gl_of_mem (v := rv (s, v)) h.ok.srt h1
  | none =>
    cases hg : gl s g.vs with
    | none => rfl
    | some w =>
      obtain ⟨h1, h2⟩ := gl_mem hg
      obtain ⟨x, hx, e⟩ := List.mem_map.1 (h.vs.symm.subset h1)
      exact absurd (by rw [← h2, ← e]; rfl) (lookK_none hl x hx)
theorem Rel.num {f : Fam} {g : RF} (h : Rel f g) : f.vs.length = g.vs.length := by have := h.vs.length_eq; rwa [List.length_map] at this
theorem Rel.fw {f : Fam} {g : RF} (h : Rel f g) : Fw0 f where
  len := by rw [h.cs, (counts_spec h.ok).1]; exact h.ok.k
  cb := fun s => by rw [h.cs, (counts_spec h.ok).2]; have := tot_nn g.vs s; have := tot_le h.ok s; omega
  vol := fun x hx => by
    have h1 : rv x ∈ g.vs := h.vs.subset (List.mem_map_of_mem hx)
    have h2 := h.ok.vol _ h1
    refine ⟨h.wt x hx, by have := h2.n; show 0 ≤ (rv x).n; omega, h2.n.2, ?_⟩
    rw [h.cs, (counts_spec h.ok).1]
    exact permB_iff.2 h2.slots
  num := by rw [h.num]; have := h.ok.num; omega
theorem key_lt_trans {a b c : List UInt8} (h1 : a < b) (h2 : b < c) : a < c := List.lt_trans h1 h2
theorem key_lt_of {a b : List UInt8} (h1 : ¬ a < b) (h2 : a ≠ b) : b < a := by
  rcases List.le_iff_lt_or_eq.1 (List.not_lt.1 h1) with h | h
  · exact h
  · exact absurd h.symm h2
theorem wst_true (v : RV) : ∀ (vs acc : List RV), vs.foldl (wst v) (acc, true) = (acc ++ vs.filter (fun w => !decide (w.s = v.s)), true)
  | [], acc => by simp
  | w :: vs, acc => by
    rw [List.foldl_cons]
    have e : wst v (acc, true) w = (if w.s = v.s then acc else acc ++ [w], true) := by
      unfold wst
      by_cases q : w.s = v.s <;> simp [q]
    rw [e, wst_true v vs]
    by_cases q : w.s = v.s
    · rw [if_pos q, List.filter_cons_of_neg (by simp [q])]
    · rw [if_neg q, List.filter_cons_of_pos (by simp [q])]; simp
def lowS (s : ByteArray) (vs : List RV) : List RV := vs.filter fun w => decide (key w.s < key s)
def highS (s : ByteArray) (vs : List RV) : List RV := vs.filter fun w => decide (key s < key w.s)
theorem with_spec (v : RV) : ∀ (vs acc : List RV), vs.Pairwise (fun a b => key a.s < key b.s) →
    (if (vs.foldl (wst v) (acc, false)).2 = true then (vs.foldl (wst v) (acc, false)).1 else (vs.foldl (wst v) (acc, false)).1 ++ [v]) = acc ++ (lowS v.s vs ++ v :: highS v.s vs)
  | [], acc, _ => by simp [lowS, highS]
  | w :: vs, acc, h => by
    obtain ⟨h1, h2⟩ := List.pairwise_cons.1 h
    rw [List.foldl_cons]
    by_cases q : key w.s < key v.s
    · have e : wst v (acc, false) w = (acc ++ [w], false) := by
        have hne : ¬ w.s = v.s := fun e => by rw [e] at q; exact List.lt_irrefl _ q
        unfold wst
        rw [if_neg hne, if_neg (fun h : (acc, false).2 = false ∧ ¬ key w.s < key v.s => h.2 q), if_neg (fun h : (acc, false).2 = false ∧ ¬ key w.s < key v.s => h.2 q)]
      rw [e, with_spec v vs _ h2]
      unfold lowS highS
      rw [List.filter_cons_of_pos (by exact decide_eq_true q), List.filter_cons_of_neg (by rw [decide_eq_true_eq]; exact fun h => List.lt_irrefl _ (key_lt_trans h q))]
      simp
    · have hgt : ∀ x ∈ vs, key v.s < key x.s := fun x hx => by
        have := h1 x hx
        by_cases e : key w.s = key v.s
        · rwa [← e]
        · exact key_lt_trans (key_lt_of q e) this
      have f1 : lowS v.s vs = [] := List.filter_eq_nil_iff.2 fun x hx h => List.lt_irrefl _ (key_lt_trans (hgt x hx) (of_decide_eq_true h))
      have f2 : highS v.s vs = vs := List.filter_eq_self.2 fun x hx => decide_eq_true (hgt x hx)
      have f3 : vs.filter (fun w => !decide (w.s = v.s)) = vs := List.filter_eq_self.2 fun x hx => by
        have := hgt x hx
        rw [Bool.not_eq_true', decide_eq_false_iff_not]
        intro e; rw [e] at this; exact List.lt_irrefl _ this
      have g1 : lowS v.s (w :: vs) = [] := by unfold lowS; rw [List.filter_cons_of_neg (by rw [decide_eq_true_eq]; exact q)]; exact f1
      by_cases e : w.s = v.s
      · have e1 : wst v (acc, false) w = (acc ++ [v], true) := by
          unfold wst
          rw [if_pos e, if_pos ⟨rfl, q⟩, if_pos ⟨rfl, q⟩]
        have g2 : highS v.s (w :: vs) = vs := by unfold highS; rw [List.filter_cons_of_neg (by rw [decide_eq_true_eq, e]; exact List.lt_irrefl _)]; exact f2
        rw [e1, wst_true, if_pos rfl, g1, g2, f3]
        simp
      · have e1 : wst v (acc, false) w = (acc ++ [v] ++ [w], true) := by
          unfold wst
          rw [if_neg e, if_pos ⟨rfl, q⟩, if_pos ⟨rfl, q⟩]
        have g2 : highS v.s (w :: vs) = w :: vs := by
          unfold highS
          rw [List.filter_cons_of_pos (by exact decide_eq_true (key_lt_of q fun h => e (key_inj.1 h)))]
          exact congrArg _ f2
        rw [e1, wst_true, if_pos rfl, g1, g2, f3]
        simp
theorem withL_eq {vs : List RV} (h : vs.Pairwise fun a b => key a.s < key b.s) (v : RV) : rWithL vs v = lowS v.s vs ++ v :: highS v.s vs := by
  have := with_spec v vs [] h
  rw [List.nil_append] at this
  exact this
theorem with_srt {vs : List RV} (h : vs.Pairwise fun a b => key a.s < key b.s) (v : RV) : (rWithL vs v).Pairwise fun a b => key a.s < key b.s := by
  rw [withL_eq h, List.pairwise_append]
  refine ⟨h.filter _, List.pairwise_cons.2 ⟨fun x hx => of_decide_eq_true (List.mem_filter.1 hx).2, h.filter _⟩, fun x hx y hy => ?_⟩
  have hx := of_decide_eq_true (List.mem_filter.1 hx).2
  rcases List.mem_cons.1 hy with rfl | hy
  · exact hx
  · exact key_lt_trans hx (of_decide_eq_true (List.mem_filter.1 hy).2)
def oth (s : ByteArray) (vs : List RV) : List RV := vs.filter fun w => !decide (w.s = s)
theorem with_perm {vs : List RV} (h : vs.Pairwise fun a b => key a.s < key b.s) (v : RV) : (rWithL vs v).Perm (v :: oth v.s vs) := by
  rw [withL_eq h]
  refine List.perm_middle.trans (List.Perm.cons _ ?_)
  have := List.filter_append_perm (fun w : RV => decide (key w.s < key v.s)) (oth v.s vs)
  refine List.Perm.trans (List.Perm.of_eq ?_) this
  unfold lowS highS oth
  rw [List.filter_filter, List.filter_filter]
  congr 1
  · refine List.filter_congr fun x _ => ?_
    by_cases q : key x.s < key v.s
    · rw [decide_eq_true q, decide_eq_false (fun e => by rw [e] at q; exact List.lt_irrefl _ q)]; rfl
    · rw [decide_eq_false q]; rfl
  · refine List.filter_congr fun x _ => ?_
    by_cases q : key x.s < key v.s
    · rw [decide_eq_true q, decide_eq_false (fun h => List.lt_irrefl _ (key_lt_trans h q))]; rfl
    · by_cases e : x.s = v.s
      · rw [decide_eq_false (by rw [e]; exact List.lt_irrefl _), decide_eq_true e, Bool.not_true, Bool.and_false]
      · rw [decide_eq_true (key_lt_of q fun h => e (key_inj.1 h)), decide_eq_false q, decide_eq_false e]; rfl
theorem gl_perm {vs : List RV} {s : ByteArray} {v : RV} (hs : vs.Pairwise fun a b => key a.s < key b.s) (h : gl s vs = some v) : vs.Perm (v :: oth s vs) := by
  induction vs with
  | nil => cases h
  | cons w vs ih =>
    obtain ⟨h1, h2⟩ := List.pairwise_cons.1 hs
    unfold gl at h
    by_cases q : w.s = s
    · rw [List.find?_cons_of_pos (by exact decide_eq_true q)] at h
      cases h
      unfold oth
      rw [List.filter_cons_of_neg (by simp [q])]
      refine List.Perm.cons _ (List.Perm.of_eq (List.filter_eq_self.2 fun x hx => ?_).symm)
      have := h1 x hx
      rw [Bool.not_eq_true', decide_eq_false_iff_not]
      intro e; rw [e, ← q] at this; exact List.lt_irrefl _ this
    · rw [List.find?_cons_of_neg (by unfold isS; rw [decide_eq_true_eq]; exact q)] at h
      unfold oth
      rw [List.filter_cons_of_pos (by simp [q])]
      exact (List.Perm.cons _ (ih h2 h)).trans (List.Perm.swap _ _ _)
theorem oth_none {vs : List RV} {s : ByteArray} (h : gl s vs = none) : oth s vs = vs := List.filter_eq_self.2 fun x hx => by
  have := (at_none h).2 x hx
  rw [Bool.not_eq_true', decide_eq_false_iff_not]; exact this
theorem oth_mem {vs : List RV} {s : ByteArray} {v : RV} : v ∈ oth s vs ↔ v ∈ vs ∧ v.s ≠ s := by
  unfold oth
  rw [List.mem_filter, Bool.not_eq_true', decide_eq_false_iff_not]
theorem oth_len {vs : List RV} {s : ByteArray} : (oth s vs).length ≤ vs.length := List.length_filter_le _ _
theorem putK_perm {s : ByteArray} {v : Vol} : ∀ {l : List (ByteArray × Vol)}, (l.map (·.1)).Nodup → ((putK s v l).map rv).Perm (rv (s, v) :: oth s (l.map rv))
  | [], _ => List.Perm.refl _
  | x :: l, h => by
    obtain ⟨h1, h2⟩ := List.nodup_cons.1 h
    unfold putK oth
    by_cases q : s = x.1
    · rw [if_pos q, List.map_cons, List.map_cons, List.filter_cons_of_neg (by simp [rv, q])]
      refine List.Perm.cons _ (List.Perm.of_eq (List.filter_eq_self.2 fun y hy => ?_).symm)
      obtain ⟨z, hz, rfl⟩ := List.mem_map.1 hy
      rw [Bool.not_eq_true', decide_eq_false_iff_not]
      intro e
      exact h1 (by show x.1 ∈ _; rw [← q, ← e]; exact List.mem_map_of_mem (f := fun x => x.1) hz)
    · rw [if_neg q, List.map_cons, List.map_cons, List.filter_cons_of_pos (by show (!decide (x.1 = s)) = true; rw [decide_eq_false fun e : x.1 = s => q e.symm]; rfl)]
      exact (List.Perm.cons _ (putK_perm h2)).trans (List.Perm.swap _ _ _)
theorem delK_eq {s : ByteArray} : ∀ {l : List (ByteArray × Vol)}, (l.map (·.1)).Nodup → (delK s l).map rv = oth s (l.map rv)
  | [], _ => rfl
  | x :: l, h => by
    obtain ⟨h1, h2⟩ := List.nodup_cons.1 h
    unfold delK oth
    by_cases q : s = x.1
    · rw [if_pos q, List.map_cons, List.filter_cons_of_neg (by simp [rv, q])]
      refine (List.filter_eq_self.2 fun y hy => ?_).symm
      obtain ⟨z, hz, rfl⟩ := List.mem_map.1 hy
      rw [Bool.not_eq_true', decide_eq_false_iff_not]
      intro e
      exact h1 (by show x.1 ∈ _; rw [← q, ← e]; exact List.mem_map_of_mem (f := fun x => x.1) hz)
    · rw [if_neg q, List.map_cons, List.map_cons, List.filter_cons_of_pos (by show (!decide (x.1 = s)) = true; rw [decide_eq_false fun e : x.1 = s => q e.symm]; rfl), delK_eq h2]
      rfl
theorem putK_mem {α : Type} {s : ByteArray} {v : α} : ∀ {l : List (ByteArray × α)} {x : ByteArray × α}, x ∈ putK s v l → x = (s, v) ∨ x ∈ l
  | [], x, h => .inl (List.mem_singleton.1 h)
  | y :: l, x, h => by
    unfold putK at h
    split at h
    · rcases List.mem_cons.1 h with h | h
      · exact .inl h
      · exact .inr (List.mem_cons_of_mem _ h)
    · rcases List.mem_cons.1 h with rfl | h
      · exact .inr List.mem_cons_self
      · exact (putK_mem h).imp id (List.mem_cons_of_mem _)
theorem delK_mem {α : Type} {s : ByteArray} : ∀ {l : List (ByteArray × α)} {x : ByteArray × α}, x ∈ delK s l → x ∈ l
  | [], x, h => by cases h
  | y :: l, x, h => by
    unfold delK at h
    split at h
    · exact List.mem_cons_of_mem _ h
    · rcases List.mem_cons.1 h with rfl | h
      · exact List.mem_cons_self
      · exact List.mem_cons_of_mem _ (delK_mem h)
theorem gok_with {g : RF} (h : GOk g) {v : RV} (hv : VOk g.k v) (hn : (oth v.s g.vs).length ≤ 31) : GOk (rWith g v) where
  k := h.k
  srt := with_srt h.srt v
  vol := fun w hw => by
    rcases List.mem_cons.1 ((with_perm h.srt v).subset hw) with rfl | hw
    · exact hv
    · exact h.vol w (oth_mem.1 hw).1
  num := by
    have := (with_perm h.srt v).length_eq
    show (rWithL g.vs v).length ≤ 32
    rw [this, List.length_cons]; omega
theorem rel_with {f : Fam} {g : RF} (h : Rel f g) {s : ByteArray} {v : Vol} {cs : List Int} (hw : Wt v.t) (hv : VOk g.k (rv (s, v))) (hn : (oth s g.vs).length ≤ 31) (hl : cs.length = g.k) (hc : ∀ t : Nat, cs.getD t 0 = hits v.t.list t + tot (oth s g.vs) t) :
    Rel ⟨cs, putK s v f.vs⟩ (rWith g (rv (s, v))) where
  ok := gok_with h.ok hv hn
  cs := by
    obtain ⟨h1, h2⟩ := counts_spec (gok_with h.ok hv hn)
    refine getD_ext (by rw [h1]; exact hl) fun t => ?_
    rw [h2, show (rWith g (rv (s, v))).vs = rWithL g.vs (rv (s, v)) from rfl, tot_perm (with_perm h.ok.srt _)]
    exact hc t
  vs := by
    refine (putK_perm (keys_nd h)).trans ((List.Perm.cons _ ?_).trans (with_perm h.ok.srt (rv (s, v))).symm)
    exact h.vs.filter _
  wt := fun x hx => by
    rcases putK_mem hx with rfl | hx
    · exact hw
    · exact h.wt x hx
theorem oth_lt {g : RF} (h : GOk g) {s : ByteArray} {v : RV} (hg : gl s g.vs = some v) : (oth s g.vs).length ≤ 31 ∧ ∀ t, tot g.vs t = hits v.l t + tot (oth s g.vs) t := by
  have hp := gl_perm h.srt hg
  have := hp.length_eq
  have := h.num
  rw [List.length_cons] at *
  exact ⟨by omega, fun t => tot_perm hp t⟩
theorem del_eq {s : ByteArray} : ∀ {vs : List RV} {i : Nat}, vs.Pairwise (fun a b => key a.s < key b.s) → rAt vs s = i → i < vs.length → vs.take i ++ vs.drop (i + 1) = oth s vs := by
  intro vs i hs hi hl
  have h0 : gl s vs ≠ none := fun h => by have := (at_none h).1; omega
  obtain ⟨v, hv⟩ := Option.ne_none_iff_exists'.1 h0
  obtain ⟨j, h1, h2, h3, h4⟩ := at_some hv
  have : j = i := by omega
  subst this
  obtain ⟨hj, h3⟩ := List.getElem?_eq_some_iff.1 h3
  have e : vs = vs.take j ++ v :: vs.drop (j + 1) := by rw [← h3, ← List.drop_eq_getElem_cons hj, List.take_append_drop]
  have hs' := hs
  rw [e] at hs'
  obtain ⟨p1, p2, p3⟩ := List.pairwise_append.1 hs'
  obtain ⟨p4, p5⟩ := List.pairwise_cons.1 p2
  have e2 : oth s vs = oth s (vs.take j) ++ oth s (v :: vs.drop (j + 1)) := by
    conv => lhs; rw [e]
    exact List.filter_append ..
  rw [e2]
  congr 1
  · refine (List.filter_eq_self.2 fun x hx => ?_).symm
    have := p3 x hx v List.mem_cons_self
    rw [Bool.not_eq_true', decide_eq_false_iff_not]
    intro e; rw [e, ← h4] at this; exact List.lt_irrefl _ this
  · unfold oth
    rw [List.filter_cons_of_neg (by simp [h4])]
    refine (List.filter_eq_self.2 fun x hx => ?_).symm
    have := p4 x hx
    rw [Bool.not_eq_true', decide_eq_false_iff_not]
    intro e; rw [e, ← h4] at this; exact List.lt_irrefl _ this
end Go.Proofs.YtjglgfnhgehpeaaGreat

/- Parts: RelB, RelC, RelN, ThP, ThQ. -/
import Derived.Test.YtjglgfnhgehpeaaGreatYs
import Derived.Test.YtjglgfnhgehpeaaGreatYq
/- Each change of a family does what the reference says. -/
set_option linter.unusedVariables false
set_option linter.unusedSimpArgs false
namespace Go.Proofs.YtjglgfnhgehpeaaGreat
open Go.RowKit Go.Fw Go.Xt
theorem rel_new (k : Int) : (fNew k).2 = (rNew k).2 ∧ ((rNew k).2 = 0 → Rel (fNew k).1 (rNew k).1) := by
  unfold fNew rNew
  by_cases q : 0 ≤ k ∧ k ≤ 65536
  · rw [if_pos q, if_pos q]
    exact ⟨rfl, fun _ => ⟨⟨by show k.toNat ≤ _; omega, List.Pairwise.nil, fun v hv => (by cases hv), by show (0 : Nat) ≤ _; omega⟩, rfl, List.Perm.nil, fun x hx => by cases hx⟩⟩
  · rw [if_neg q, if_neg q]
    exact ⟨rfl, fun h => by cases h⟩
theorem vac_eq {f : Fam} {g : RF} (h : Rel f g) (s : ByteArray) : vac f s = match gl s g.vs with
  | some _ => 10
  | none => if 32 ≤ g.vs.length then 7 else 0 := by
  unfold vac
  rw [h.look s, h.num]
  cases lookK s f.vs with
  | some v => rfl
  | none => rfl
theorem rel_create {f : Fam} {g : RF} (h : Rel f g) (s : ByteArray) (n r : Int) : (fCreate f s n r).2 = (rCreate g s n r).2 ∧ ((rCreate g s n r).2 = 0 → Rel (fCreate f s n r).1 (rCreate g s n r).1) := by
  unfold fCreate rCreate
  by_cases q : badN s n r
  · rw [if_pos q, if_pos q]; exact ⟨rfl, fun h => by cases h⟩
  rw [if_neg q, if_neg q, vac_eq h s]
  cases hg : gl s g.vs with
  | some w => dsimp only; rw [if_neg (by decide)]; exact ⟨rfl, fun h => by cases h⟩
  | none =>
    dsimp only
    by_cases q2 : 32 ≤ g.vs.length
    · rw [if_pos q2, if_neg (by decide), if_pos q2]; exact ⟨rfl, fun h => by cases h⟩
    · rw [if_neg q2, if_pos rfl, if_neg q2]
      refine ⟨rfl, fun _ => ?_⟩
      have hq : nameE s = true ∧ 1 ≤ n ∧ n ≤ 65536 ∧ 0 ≤ r ∧ r ≤ n := by
        unfold badN at q
        simp only [not_or, Bool.not_eq_false] at q
        obtain ⟨q1, q2, q3, q4, q5⟩ := q
        exact ⟨q1, by omega, by omega, by omega, by omega⟩
      obtain ⟨q1, q3, q4, q5, q6⟩ := hq
      refine rel_with h (s := s) (v := ⟨n, r, .nil⟩) (cs := f.cs) wt_nil' ⟨⟨q3, q4⟩, ⟨q5, q6⟩, trivial, trivial, fun x hx => (by cases hx), q1⟩ (by rw [oth_none hg]; omega) ?_ fun t => ?_
      · rw [h.cs]; exact (counts_spec h.ok).1
      · rw [h.cs, (counts_spec h.ok).2, oth_none hg]
        show _ = hits [] t + _
        simp [hits]
theorem find_eq {f : Fam} {g : RF} (h : Rel f g) (s : ByteArray) (a n : Int) : ∀ v, lookK s f.vs = some v → fFind f s a n = if inB v.n a n = true then (v, 0) else (default, 2) := fun v hv => by
  unfold fFind
  rw [hv]
  have : has v a n = inB v.n a n := by
    unfold has inB
    rw [Bool.eq_iff_iff]
    simp only [Bool.and_eq_true, decide_eq_true_eq]
    omega
  dsimp only
  rw [this]
theorem drop_ok {cs : List Int} {xs : List X} (hp : ∀ x ∈ xs, 1 ≤ x.n ∧ 0 ≤ x.s ∧ x.s + x.n ≤ cs.length) (hc : ∀ s : Nat, hits xs s ≤ cs.getD s 0) :
    dropE cs xs = (chg (-1) cs xs, mruns ((srt (frd (chg (-1) cs xs) xs)).map un), 0) ∧ (chg (-1) cs xs).length = cs.length ∧ ∀ s : Nat, (chg (-1) cs xs).getD s 0 = cs.getD s 0 - hits xs s := by
  obtain ⟨h1, h2⟩ := chg_ok (-1) cs _ xs rfl hp
  have h3 : ∀ s : Nat, (chg (-1) cs xs).getD s 0 = cs.getD s 0 - hits xs s := fun s => by rw [h2]; omega
  refine ⟨?_, h1, h3⟩
  unfold dropE
  rw [if_pos (permB_iff.2 hp), if_neg]
  intro h
  rw [List.any_eq_true] at h
  obtain ⟨c, hc1, hc2⟩ := h
  obtain ⟨i, hi, rfl⟩ := List.mem_iff_getElem.1 hc1
  have := h3 i
  rw [List.getD_eq_getElem?_getD, List.getElem?_eq_getElem hi] at this
  have := hc i
  have := of_decide_eq_true hc2
  simp only [Option.getD_some] at *
  omega
theorem freed_eq {a b : List Int} {xs : List X} (hl : b.length = a.length) (hp : ∀ x ∈ xs, 1 ≤ x.n ∧ 0 ≤ x.s ∧ x.s + x.n ≤ a.length) (h : ∀ s : Nat, b.getD s 0 = 0 → (0 < a.getD s 0 ↔ 0 < hits xs s)) :
    mruns ((srt (frd b xs)).map un) = mruns ((fz a b).map un) := by
  refine runs_asc fun u => ?_
  rw [frd_mem]
  constructor
  · rintro ⟨⟨x, hx, h1, h2⟩, h3⟩
    have := hp x hx
    refine ⟨by omega, by omega, ?_⟩
    rw [h3, decide_eq_true (h u.toNat h3 |>.2 ?_)]
    · rfl
    · refine hits_pos hx ?_; omega
  · rintro ⟨h1, h2, h3⟩
    rw [Bool.and_eq_true, decide_eq_true_eq, decide_eq_true_eq] at h3
    obtain ⟨x, hx, q⟩ := hits_mem ((h _ h3.2).1 h3.1)
    exact ⟨⟨x, hx, by omega, by omega⟩, h3.2⟩
theorem ok_jn_parts {L : List X} (h : Xt.Ok 0 L) (a b : Int) : Xt.Ok 0 (Jn (Xt.parts L a b)) := (jn_spec (ok_parts h (lo' := 0) (by omega))).1
theorem mem_hits {L : List X} {k : Nat} (ho : Xt.Ok 0 L) (h : ∀ s : Int, (s < 0 ∨ (k : Int) ≤ s) → hits L s = 0) : ∀ x ∈ L, 1 ≤ x.n ∧ 0 ≤ x.s ∧ x.s + x.n ≤ k := fun x hx => by
  have h1 := ho.starts x hx
  refine ⟨h1.2.1, h1.2.2.1, ?_⟩
  by_cases q : x.s + x.n ≤ k
  · exact q
  · have := h (x.s + x.n - 1) (.inr (by omega))
    have := hits_pos hx (s := x.s + x.n - 1) (by omega)
    omega
theorem hits_out {L : List X} {k : Nat} (h : ∀ x ∈ L, 1 ≤ x.n ∧ 0 ≤ x.s ∧ x.s + x.n ≤ k) (s : Int) (hs : s < 0 ∨ (k : Int) ≤ s) : hits L s = 0 := by
  have h0 := hits_nn L s
  by_cases q : 0 < hits L s
  · obtain ⟨x, hx, h1⟩ := hits_mem q
    have := h x hx
    omega
  · omega
theorem end_sem {L : List X} {m : Int} (ho : Xt.Ok 0 L) (h : ∀ b, m ≤ b → sem L b = none) : ∀ x ∈ L, x.a + x.n ≤ m := fun x hx => by
  by_cases q : x.a + x.n ≤ m
  · exact q
  · have h1 := ho.starts x hx
    obtain ⟨v, hv⟩ := sem_mem (L := L) (z := x) (b := x.a + x.n - 1) hx ⟨by omega, by omega⟩
    rw [h _ (by omega)] at hv
    cases hv
theorem sem_end {L : List X} {m : Int} (h : ∀ x ∈ L, x.a + x.n ≤ m) (b : Int) (hb : m ≤ b) : sem L b = none := sem_past h hb
theorem rput_sem {L : List X} {x : X} (h : Xt.Ok 0 L) (h0 : 0 ≤ x.a) (hx : Vx x) (b : Int) : sem (rput L x) b = if x.a ≤ b ∧ b < x.a + x.n then some (x.s + b - x.a) else sem L b := by
  have hx1 := hx.1
  obtain ⟨_, _, j3⟩ := jn_spec (ok_rput h h0 hx)
  unfold rput
  rw [j3, sem_append, sem_append, sem_parts, sem_parts]
  simp only [sem]
  by_cases q : x.a ≤ b ∧ b < x.a + x.n
  · rw [if_pos q, if_neg (by omega), if_pos q]; rfl
  · rw [if_neg q, if_neg q]
    by_cases q1 : 0 ≤ b ∧ b < x.a
    · rw [if_pos q1, if_neg (by omega)]; cases sem L b <;> rfl
    · rw [if_neg q1]
      by_cases q2 : x.a + x.n ≤ b ∧ b < 65536
      · rw [if_pos q2]; rfl
      · rw [if_neg q2]
        by_cases q3 : b < 0
        · rw [sem_lt h q3]; rfl
        · rw [sem_ge h (by omega)]; rfl
theorem rcut_sem {L : List X} {a n : Int} (h : Xt.Ok 0 L) (h0 : 0 ≤ a) (hn : 0 ≤ n) (b : Int) : sem (rcut L a n) b = if a ≤ b ∧ b < a + n then none else sem L b := by
  obtain ⟨_, _, j3⟩ := jn_spec (ok_rcut h h0 hn)
  unfold rcut
  rw [j3, sem_append, sem_parts, sem_parts]
  by_cases q : a ≤ b ∧ b < a + n
  · rw [if_pos q, if_neg (by omega), if_neg (by omega)]; rfl
  · rw [if_neg q]
    by_cases q1 : 0 ≤ b ∧ b < a
    · rw [if_pos q1]; cases hs : sem L b with
      | none => rw [if_neg (by omega)]; rfl
      | some _ => rfl
    · rw [if_neg q1]
      by_cases q2 : a + n ≤ b ∧ b < 65536
      · rw [if_pos q2]; rfl
      · rw [if_neg q2]
        by_cases q3 : b < 0
        · rw [sem_lt h q3]; rfl
        · rw [sem_ge h (by omega)]; rfl
theorem vok_put {k : Nat} {v : RV} (hv : VOk k v) (hk : k ≤ 65536) {x : X} (h1 : 1 ≤ x.n) (h2 : 0 ≤ x.a) (h3 : x.a + x.n ≤ v.n) (h4 : 0 ≤ x.s) (h5 : x.s + x.n ≤ k) : VOk k ⟨v.s, v.n, v.r, rput v.l x⟩ := by
  have hvx : Vx x := ⟨h1, h4, by have := hv.n; omega, by omega⟩
  obtain ⟨j1, j2, _⟩ := jn_spec (ok_rput hv.ok h2 hvx)
  refine ⟨hv.n, hv.r, j1, j2, fun y hy => ⟨?_, ?_⟩, hv.nm⟩
  · refine end_sem j1 (fun b hb => ?_) y hy
    show sem (rput v.l x) b = none
    have hb : v.n ≤ b := hb
    rw [rput_sem hv.ok h2 hvx, if_neg (by omega)]
    exact sem_end (fun z hz => (hv.inn z hz).1) b hb
  · refine (mem_hits j1 (fun s hs => ?_) y hy).2.2
    have e := hits_put hv.ok h2 hvx s
    have e1 := hits_out hv.slots s hs
    have e2 := hits_nn (rput v.l x) s
    have e3 := hits_nn (Jn (Xt.parts v.l x.a (x.a + x.n))) s
    have e4 : hit1 x s = 0 := if_neg (by omega)
    show hits (rput v.l x) s = 0
    omega
theorem vok_cut {k : Nat} {v : RV} (hv : VOk k v) {a n : Int} (h1 : 0 ≤ a) (h2 : 0 ≤ n) (h3 : a + n ≤ 65536) : VOk k ⟨v.s, v.n, v.r, rcut v.l a n⟩ := by
  obtain ⟨j1, j2, _⟩ := jn_spec (ok_rcut hv.ok h1 h2)
  refine ⟨hv.n, hv.r, j1, j2, fun y hy => ⟨?_, ?_⟩, hv.nm⟩
  · refine end_sem j1 (fun b hb => ?_) y hy
    show sem (rcut v.l a n) b = none
    rw [rcut_sem hv.ok h1 h2]
    split
    · rfl
    · exact sem_end (fun z hz => (hv.inn z hz).1) b hb
  · refine (mem_hits j1 (fun s hs => ?_) y hy).2.2
    have e := hits_cut hv.ok h1 h2 h3 s
    have e1 := hits_out hv.slots s hs
    have e2 := hits_nn (rcut v.l a n) s
    have e3 := hits_nn (Jn (Xt.parts v.l a (a + n))) s
    show hits (rcut v.l a n) s = 0
    omega
theorem vok_name {k : Nat} {v : RV} (hv : VOk k v) {o : ByteArray} (ho : nameE o = true) {r : Int} (hr : 0 ≤ r ∧ r ≤ v.n) : VOk k ⟨o, v.n, r, v.l⟩ := ⟨hv.n, hr, hv.ok, hv.nf, hv.inn, ho⟩
theorem Rel.look_some {f : Fam} {g : RF} (h : Rel f g) {s : ByteArray} {v : Vol} (hv : lookK s f.vs = some v) : gl s g.vs = some (rv (s, v)) ∧ VOk g.k (rv (s, v)) ∧ Wt v.t := by
  have h1 := h.look s
  rw [hv] at h1
  have h1 : gl s g.vs = some (rv (s, v)) := h1
  exact ⟨h1, h.ok.vol _ (gl_mem h1).1, h.wt _ (lookK_mem hv)⟩
theorem Rel.look_none {f : Fam} {g : RF} (h : Rel f g) {s : ByteArray} (hv : lookK s f.vs = none) : gl s g.vs = none := by
  have h1 := h.look s
  rwa [hv] at h1
theorem rel_clone {f : Fam} {g : RF} (h : Rel f g) (s o : ByteArray) : (fClone f s o).2 = (rClone g s o).2 ∧ ((rClone g s o).2 = 0 → Rel (fClone f s o).1 (rClone g s o).1) := by
  unfold fClone rClone
  cases hv : lookK s f.vs with
  | none => rw [h.look_none hv]; exact ⟨rfl, fun h => by cases h⟩
  | some v =>
    obtain ⟨h1, h2, h3⟩ := h.look_some hv
    rw [h1]
    dsimp only
    by_cases q : nameE o = false
    · rw [if_pos q, if_pos q]; exact ⟨rfl, fun h => by cases h⟩
    rw [if_neg q, if_neg q, vac_eq h o]
    cases hg : gl o g.vs with
    | some w => dsimp only; rw [if_neg (by decide)]; exact ⟨rfl, fun h => by cases h⟩
    | none =>
      dsimp only
      by_cases q2 : 32 ≤ g.vs.length
      · rw [if_pos q2, if_neg (by decide), if_pos q2]; exact ⟨rfl, fun h => by cases h⟩
      · rw [if_neg q2, if_pos rfl, if_neg q2]
        have hc := counts_spec h.ok
        have hp : ∀ x ∈ v.t.list, 1 ≤ x.n ∧ 0 ≤ x.s ∧ x.s + x.n ≤ f.cs.length := fun x hx => by rw [h.cs, hc.1]; exact h2.slots x hx
        have ha : addE f.cs v.t.list = (chg 1 f.cs v.t.list, 0) := by unfold addE; rw [if_pos (permB_iff.2 hp)]
        obtain ⟨c1, c2⟩ := chg_ok 1 f.cs _ v.t.list rfl hp
        rw [ha, if_pos rfl]
        refine ⟨rfl, fun _ => ?_⟩
        refine rel_with h (s := o) (v := ⟨v.n, 0, v.t⟩) h3 (vok_name h2 (by simpa using q) ⟨Int.le_refl _, by have : 1 ≤ (rv (s, v)).n := h2.n.1; show (0 : Int) ≤ (rv (s, v)).n; omega⟩) (by rw [oth_none hg]; omega) ?_ fun t => ?_
        · rw [c1, h.cs]; exact hc.1
        · show (chg 1 f.cs v.t.list).getD t 0 = _
          rw [c2, h.cs, hc.2, oth_none hg]; show _ = hits v.t.list t + _; omega
theorem rel_delete {f : Fam} {g : RF} (h : Rel f g) (s : ByteArray) : (fDelete f s).2.2 = (rDelete g s).2.2 ∧ (fDelete f s).2.1 = (rDelete g s).2.1 ∧ ((rDelete g s).2.2 = 0 → Rel (fDelete f s).1 (rDelete g s).1) := by
  unfold fDelete rDelete
  cases hv : lookK s f.vs with
  | none => rw [h.look_none hv]; exact ⟨rfl, rfl, fun h => by cases h⟩
  | some v =>
    obtain ⟨h1, h2, h3⟩ := h.look_some hv
    rw [h1]
    dsimp only
    have hc := counts_spec h.ok
    have ho := oth_lt h.ok h1
    obtain ⟨i, i1, i2, i3, i4⟩ := at_some h1
    have hp : ∀ x ∈ v.t.list, 1 ≤ x.n ∧ 0 ≤ x.s ∧ x.s + x.n ≤ f.cs.length := fun x hx => by rw [h.cs, hc.1]; exact h2.slots x hx
    obtain ⟨d1, d2, d3⟩ := drop_ok hp fun t => by
      rw [h.cs, hc.2, ho.2]; have := tot_nn (oth s g.vs) t; show hits v.t.list t ≤ hits v.t.list t + _; omega
    have hdel : rDel g (rAt g.vs s).toNat = ⟨g.k, oth s g.vs⟩ := by
      unfold rDel
      rw [i2, Int.toNat_natCast, del_eq h.ok.srt i2 i1]
    have hgk : GOk ⟨g.k, oth s g.vs⟩ := ⟨h.ok.k, h.ok.srt.filter _, fun w hw => h.ok.vol w (oth_mem.1 hw).1, Nat.le_trans oth_len h.ok.num⟩
    have hcs : chg (-1) f.cs v.t.list = rCounts ⟨g.k, oth s g.vs⟩ := by
      obtain ⟨e1, e2⟩ := counts_spec hgk
      refine getD_ext (by rw [e1, d2, h.cs, hc.1]) fun t => ?_
      rw [d3, e2, h.cs, hc.2, ho.2]
      show hits v.t.list t + _ - _ = tot (oth s g.vs) t
      omega
    rw [d1, if_pos rfl, hdel]
    refine ⟨rfl, ?_, fun _ => ⟨hgk, hcs, ?_, fun x hx => h.wt x (delK_mem hx)⟩⟩
    · show mruns _ = rFreed _ _
      unfold rFreed
      rw [← hcs, ← h.cs]
      refine freed_eq d2 hp fun t ht => ?_
      rw [d3] at ht
      omega
    · show ((delK s f.vs).map rv).Perm (oth s g.vs)
      rw [delK_eq (keys_nd h)]
      exact h.vs.filter _
theorem asg_iff {g : RF} {v : RV} {x : X} : asgOk g v x = true ↔ 1 ≤ x.n ∧ inB v.n x.a x.n = true ∧ 0 ≤ x.s ∧ x.s + x.n ≤ g.k := by
  unfold asgOk
  simp only [Bool.and_eq_true, decide_eq_true_eq]
  constructor
  · rintro ⟨⟨⟨⟨a, b⟩, c⟩, d⟩, e⟩; exact ⟨a, b, c, e⟩
  · rintro ⟨a, b, c, e⟩; exact ⟨⟨⟨⟨a, b⟩, c⟩, by omega⟩, e⟩
theorem inB_iff {n a m : Int} : inB n a m = true ↔ 0 ≤ a ∧ 0 ≤ m ∧ a + m ≤ n := by
  unfold inB
  simp only [Bool.and_eq_true, decide_eq_true_eq]
  omega
theorem asg_core {f : Fam} {g : RF} (h : Rel f g) {s : ByteArray} {v : Vol} {x : X} (hv : lookK s f.vs = some v) (hok : asgOk g (rv (s, v)) x = true) :
    (addE f.cs [x]).2 = 0 ∧ (tPut v.t x).2.2 = 0 ∧ (fAsg f s x v).2.2 = 0 ∧ (fAsg f s x v).2.1 = rFreed g (rAsg g (rv (s, v)) x) ∧ Rel (fAsg f s x v).1 (rAsg g (rv (s, v)) x) := by
  obtain ⟨h1, h2, h3⟩ := h.look_some hv
  obtain ⟨q1, q2, q3, q4⟩ := asg_iff.1 hok
  obtain ⟨q5, q6, q7⟩ := inB_iff.1 q2
  have q7 : x.a + x.n ≤ v.n := q7
  have hc := counts_spec h.ok
  have hk := h.ok.k
  have hn : v.n ≤ 65536 := h2.n.2
  have ho := oth_lt h.ok h1
  have hvx : Vx x := ⟨q1, q3, by omega, by omega⟩
  have hpr : Pr x := ⟨q1, ⟨q5, by omega, by omega, by omega⟩, ⟨q3, by omega, by omega, by omega⟩⟩
  have hl := like_put h3 x
  have er : rPut v.t.list x = (rput v.t.list x, Jn (Xt.parts v.t.list x.a (x.a + x.n)), 0) := if_pos hpr
  have hpx : ∀ y ∈ [x], 1 ≤ y.n ∧ 0 ≤ y.s ∧ y.s + y.n ≤ f.cs.length := fun y hy => by
    rw [List.mem_singleton.1 hy, h.cs, hc.1]; exact ⟨q1, q3, q4⟩
  have ha : addE f.cs [x] = (chg 1 f.cs [x], 0) := by unfold addE; rw [if_pos (permB_iff.2 hpx)]
  obtain ⟨c1, c2⟩ := chg_ok 1 f.cs _ [x] rfl hpx
  have ep : (tPut v.t x).2.1 = Jn (Xt.parts v.t.list x.a (x.a + x.n)) := by rw [hl.part, er]
  have el : (tPut v.t x).1.list = rput v.t.list x := by rw [hl.list, er]
  have hh := hits_put (L := v.t.list) h3.2.1 q5 hvx
  have hold : ∀ y ∈ (tPut v.t x).2.1, 1 ≤ y.n ∧ 0 ≤ y.s ∧ y.s + y.n ≤ (chg 1 f.cs [x]).length := by
    rw [ep, c1, h.cs, hc.1]
    refine mem_hits (ok_jn_parts h3.2.1 _ _) fun t ht => ?_
    have e := hh t
    have e1 : hits v.t.list t = 0 := hits_out h2.slots t ht
    have e2 := hits_nn (rput v.t.list x) t
    have e3 := hits_nn (Jn (Xt.parts v.t.list x.a (x.a + x.n))) t
    have e4 : hit1 x t = 0 := if_neg (by omega)
    omega
  have hcs : ∀ t : Nat, (chg 1 f.cs [x]).getD t 0 = hits v.t.list t + tot (oth s g.vs) t + hit1 x t := fun t => by
    rw [c2, h.cs, hc.2, ho.2, hits_one]; show hits v.t.list t + _ + _ = _; omega
  obtain ⟨d1, d2, d3⟩ := drop_ok hold fun t => by
    rw [hcs, ep]
    have e := hh t
    have e2 := hits_nn (rput v.t.list x) t
    have := tot_nn (oth s g.vs) t
    omega
  have hrel : Rel ⟨chg (-1) (chg 1 f.cs [x]) (tPut v.t x).2.1, putK s ⟨v.n, v.r, (tPut v.t x).1⟩ f.vs⟩ (rAsg g (rv (s, v)) x) := by
    have e : rAsg g (rv (s, v)) x = rWith g (rv (s, ⟨v.n, v.r, (tPut v.t x).1⟩)) := by
      unfold rAsg
      show rWith g ⟨s, v.n, v.r, (rPut v.t.list x).1⟩ = rWith g ⟨s, v.n, v.r, (tPut v.t x).1.list⟩
      rw [el, er]
    rw [e]
    refine rel_with h (s := s) hl.wt ?_ ho.1 (by rw [d2, c1, h.cs, hc.1]) fun t => ?_
    · have := vok_put h2 hk q1 q5 q7 q3 q4
      show VOk g.k ⟨s, v.n, v.r, (tPut v.t x).1.list⟩
      rw [el]; exact this
    · show (chg (-1) (chg 1 f.cs [x]) (tPut v.t x).2.1).getD t 0 = hits (tPut v.t x).1.list t + _
      rw [d3, hcs, ep, el]
      have e := hh t
      omega
  refine ⟨by rw [ha], by rw [hl.e, er], ?_, ?_, ?_⟩
  · unfold fAsg; rw [ha, d1]
  · unfold fAsg
    rw [ha, d1]
    show mruns _ = rFreed g _
    unfold rFreed
    rw [← h.cs, ← hrel.cs]
    refine (freed_eq (a := f.cs) (by rw [d2, c1]) (fun y hy => by have := hold y hy; rwa [c1] at this) fun t ht => ?_)
    rw [d3, hcs, ep] at ht
    rw [h.cs, hc.2, ho.2, ep]
    have e := hh t
    have e2 := hits_nn (rput v.t.list x) t
    have e3 := tot_nn (oth s g.vs) t
    have e4 := hits_nn (Jn (Xt.parts v.t.list x.a (x.a + x.n))) t
    have e5 := hits_nn v.t.list t
    have e6 : 0 ≤ hit1 x t := by unfold hit1; split <;> omega
    show 0 < hits v.t.list t + _ ↔ _
    have hle : hits (Jn (Xt.parts v.t.list x.a (x.a + x.n))) t ≤ hits v.t.list t := by
      rw [hits_jn (ok_nn (ok_parts h3.2.1 (lo' := 0) (by omega)))]
      have s1 := hits_split (a := 0) (b := x.a) (c := 65536) h3.2.1 q5 (by omega) t
      have s2 := hits_split (a := x.a) (b := x.a + x.n) (c := 65536) h3.2.1 (by omega) (by omega) t
      rw [parts_whole h3.2.1] at s1
      have := hits_nn (Xt.parts v.t.list 0 x.a) t
      have := hits_nn (Xt.parts v.t.list (x.a + x.n) 65536) t
      omega
    omega
  · unfold fAsg; rw [ha, d1]; exact hrel
theorem rel_assign {f : Fam} {g : RF} (h : Rel f g) (s : ByteArray) (x : X) : (fAssign f s x).2.2 = (rAssign g s x).2.2 ∧ (fAssign f s x).2.1 = (rAssign g s x).2.1 ∧ ((rAssign g s x).2.2 = 0 → Rel (fAssign f s x).1 (rAssign g s x).1) := by
  unfold fAssign rAssign
  cases hv : lookK s f.vs with
  | none =>
    have e : fFind f s x.a x.n = (default, 9) := by unfold fFind; rw [hv]
    rw [h.look_none hv, e, if_neg (by decide)]; exact ⟨rfl, rfl, fun h => by cases h⟩
  | some v =>
    obtain ⟨h1, h2, h3⟩ := h.look_some hv
    rw [h1, find_eq h s x.a x.n v hv]
    dsimp only
    by_cases q : inB v.n x.a x.n = true
    · rw [if_pos q, if_pos rfl]
      dsimp only
      by_cases q2 : asgOk g (rv (s, v)) x = true
      · obtain ⟨a1, a2, a3, a4, a5⟩ := asg_core h hv q2
        rw [if_pos a1, if_pos a2, if_pos q2]
        exact ⟨a3, a4, fun _ => a5⟩
      · rw [if_neg q2, if_neg]
        · exact ⟨rfl, rfl, fun h => by cases h⟩
        · intro ha
          unfold addE at ha
          split at ha
          · rename_i hp
            have := permB_iff.1 hp x (by simp)
            rw [h.cs, (counts_spec h.ok).1] at this
            exact q2 (asg_iff.2 ⟨this.1, q, this.2.1, this.2.2⟩)
          · cases ha
    · rw [if_neg q, if_neg (by decide), if_neg fun q2 => q (asg_iff.1 q2).2.1]
      exact ⟨rfl, rfl, fun h => by cases h⟩
theorem rel_unmap {f : Fam} {g : RF} (h : Rel f g) (s : ByteArray) (a n : Int) : (fUnmap f s a n).2.2 = (rUnmap g s a n).2.2 ∧ (fUnmap f s a n).2.1 = (rUnmap g s a n).2.1 ∧ ((rUnmap g s a n).2.2 = 0 → Rel (fUnmap f s a n).1 (rUnmap g s a n).1) := by
  unfold fUnmap rUnmap
  cases hv : lookK s f.vs with
  | none =>
    have e : fFind f s a n = (default, 9) := by unfold fFind; rw [hv]
    rw [h.look_none hv, e, if_neg (by decide)]; exact ⟨rfl, rfl, fun h => by cases h⟩
  | some v =>
    obtain ⟨h1, h2, h3⟩ := h.look_some hv
    rw [h1, find_eq h s a n v hv]
    dsimp only
    by_cases q : inB v.n a n = true
    · obtain ⟨q5, q6, q7⟩ := inB_iff.1 q
      have hn : v.n ≤ 65536 := h2.n.2
      have hwi : Wi a n 65536 := ⟨q5, q6, by omega, by omega⟩
      have hl := like_cut h3 a n
      have er : rCut v.t.list a n = (rcut v.t.list a n, Jn (Xt.parts v.t.list a (a + n)), 0) := if_pos hwi
      have ep : (tCut v.t a n).2.1 = Jn (Xt.parts v.t.list a (a + n)) := by rw [hl.part, er]
      have el : (tCut v.t a n).1.list = rcut v.t.list a n := by rw [hl.list, er]
      have hh := hits_cut (L := v.t.list) h3.2.1 q5 q6 (by omega)
      have hc := counts_spec h.ok
      have ho := oth_lt h.ok h1
      have hcs : ∀ t : Nat, f.cs.getD t 0 = hits v.t.list t + tot (oth s g.vs) t := fun t => by
        rw [h.cs, hc.2, ho.2]; rfl
      have hold : ∀ y ∈ (tCut v.t a n).2.1, 1 ≤ y.n ∧ 0 ≤ y.s ∧ y.s + y.n ≤ f.cs.length := by
        rw [ep, h.cs, hc.1]
        refine mem_hits (ok_jn_parts h3.2.1 _ _) fun t ht => ?_
        have e := hh t
        have e1 : hits v.t.list t = 0 := hits_out h2.slots t ht
        have e2 := hits_nn (rcut v.t.list a n) t
        have e3 := hits_nn (Jn (Xt.parts v.t.list a (a + n))) t
        omega
      obtain ⟨d1, d2, d3⟩ := drop_ok hold fun t => by
        rw [hcs, ep]
        have e := hh t
        have e2 := hits_nn (rcut v.t.list a n) t
        have := tot_nn (oth s g.vs) t
        omega
      have hrel : Rel ⟨chg (-1) f.cs (tCut v.t a n).2.1, putK s ⟨v.n, v.r, (tCut v.t a n).1⟩ f.vs⟩ (rUnm g (rv (s, v)) a n) := by
        have e : rUnm g (rv (s, v)) a n = rWith g (rv (s, ⟨v.n, v.r, (tCut v.t a n).1⟩)) := by
          unfold rUnm
          show rWith g ⟨s, v.n, v.r, (rCut v.t.list a n).1⟩ = rWith g ⟨s, v.n, v.r, (tCut v.t a n).1.list⟩
          rw [el, er]
        rw [e]
        refine rel_with h (s := s) hl.wt ?_ ho.1 (by rw [d2, h.cs, hc.1]) fun t => ?_
        · have := vok_cut h2 q5 q6 (by omega)
          show VOk g.k ⟨s, v.n, v.r, (tCut v.t a n).1.list⟩
          rw [el]; exact this
        · show (chg (-1) f.cs (tCut v.t a n).2.1).getD t 0 = hits (tCut v.t a n).1.list t + _
          rw [d3, hcs, ep, el]
          have e := hh t
          omega
      rw [if_pos q, if_pos rfl, if_pos (by dsimp only; rw [hl.e, er]), if_pos (show inB (rv (s, v)).n a n = true from q)]
      refine ⟨?_, ?_, fun _ => ?_⟩
      · unfold fUnm; dsimp only; rw [d1]
      · unfold fUnm
        dsimp only
        rw [d1]
        show mruns _ = rFreed g _
        unfold rFreed
        rw [← h.cs, ← hrel.cs]
        refine freed_eq d2 hold fun t ht => ?_
        rw [d3, hcs, ep] at ht
        rw [hcs, ep]
        have e := hh t
        have e2 := hits_nn (rcut v.t.list a n) t
        have e3 := tot_nn (oth s g.vs) t
        omega
      · unfold fUnm; dsimp only; rw [d1]; exact hrel
    · rw [if_neg q, if_neg (by decide), if_neg (show ¬ inB (rv (s, v)).n a n = true from q)]
      exact ⟨rfl, rfl, fun h => by cases h⟩
theorem rel_apply {f : Fam} {g : RF} (h : Rel f g) (t : St6) : (fApply f t).2.2 = (rApply g t).2.2 ∧ (fApply f t).2.1 = (rApply g t).2.1 ∧ ((rApply g t).2.2 = 0 → Rel (fApply f t).1 (rApply g t).1) := by
  unfold fApply rApply
  split
  · have := rel_create h (nm t.v) t.n t.a; exact ⟨this.1, rfl, this.2⟩
  split
  · have := rel_clone h (nm t.v) (nm t.o); exact ⟨this.1, rfl, this.2⟩
  split
  · exact rel_delete h _
  split
  · exact rel_unmap h _ _ _
  · exact rel_assign h _ _
end Go.Proofs.YtjglgfnhgehpeaaGreat

/- What is asked of a family, by the code and by the reference. -/
set_option linter.unusedVariables false
set_option linter.unusedSimpArgs false
namespace Go.Proofs.YtjglgfnhgehpeaaGreat
open Go.RowKit Go.Fw Go.Xt
theorem tCut_nil (a n : Int) : (tCut Tr.nil a n).2.1 = [] := by
  rw [(like_cut wt_nil' a n).part]
  unfold rCut
  split <;> rfl
theorem rel_range {f : Fam} {g : RF} (h : Rel f g) (s : ByteArray) (a n : Int) : fRange f s a n = rRange g s a n := by
  unfold fRange rRange
  cases hv : lookK s f.vs with
  | none =>
    have e : fFind f s a n = (default, 9) := by unfold fFind; rw [hv]
    rw [h.look_none hv, e]
    exact Prod.ext (tCut_nil a n) rfl
  | some v =>
    obtain ⟨h1, h2, h3⟩ := h.look_some hv
    rw [h1, find_eq h s a n v hv]
    dsimp only
    by_cases q : inB v.n a n = true
    · rw [if_pos q, if_pos (show inB (rv (s, v)).n a n = true from q)]
      exact Prod.ext (like_cut h3 a n).part rfl
    · rw [if_neg q, if_neg (show ¬ inB (rv (s, v)).n a n = true from q)]
      exact Prod.ext (tCut_nil a n) rfl
theorem excl_le {g : RF} (h : GOk g) {v : RV} (hv : v ∈ g.vs) : ∀ s : Nat, s < (rCounts g).length → (rCounts g).getD s 0 = 1 → hits v.l s ≤ 1 := fun s _ h1 => by
  rw [(counts_spec h).2] at h1
  have := tot_mem hv s
  omega
theorem slots_cs {g : RF} (h : GOk g) {v : RV} (hv : v ∈ g.vs) : ∀ x ∈ v.l, 1 ≤ x.n ∧ 0 ≤ x.s ∧ x.s + x.n ≤ (rCounts g).length := by
  rw [(counts_spec h).1]; exact (h.vol v hv).slots
theorem rel_info {f : Fam} {g : RF} (h : Rel f g) (s : ByteArray) : fInfo f s = rInfo g s := by
  unfold fInfo rInfo
  cases hv : lookK s f.vs with
  | none =>
    have e : fFind f s 0 0 = (default, 9) := by unfold fFind; rw [hv]
    rw [h.look_none hv, e, if_neg (by decide)]
  | some v =>
    obtain ⟨h1, h2, h3⟩ := h.look_some hv
    have hm := (gl_mem h1).1
    have hn : 1 ≤ v.n := h2.n.1
    rw [h1, find_eq h s 0 0 v hv, if_pos (inB_iff.2 ⟨by omega, by omega, by omega⟩), if_pos rfl]
    have e1 : v.t.blocks = sumN v.t.list := blocks_eq v.t
    have e2 : singleE f.cs v.t.list = exE (rCounts g) v.t.list := by
      rw [h.cs]
      exact (single_ex (slots_cs h.ok hm) (excl_le h.ok hm)).trans (exE_eq (slots_cs h.ok hm)).symm
    show ((⟨s, v.n, v.r, v.t.blocks, singleE f.cs v.t.list⟩ : Inf), (0 : Int)) = (⟨s, v.n, v.r, sumN v.t.list, exE (rCounts g) v.t.list⟩, 0)
    rw [e1, e2]
theorem rel_count {f : Fam} {g : RF} (h : Rel f g) (s : Int) : fCount f s = if s < 0 ∨ (g.k : Int) ≤ s then 0 else (rCounts g).getD s.toNat 0 := by
  unfold fCount
  rw [h.cs, (counts_spec h.ok).1]
theorem rel_free {f : Fam} {g : RF} (h : Rel f g) : mruns ((srt (za f.cs)).map un) = rFree g := by
  unfold rFree za
  rw [srt_asc, h.cs]
end Go.Proofs.YtjglgfnhgehpeaaGreat

/- The names of a family are the reference's, in order. -/
set_option linter.unusedVariables false
set_option linter.unusedSimpArgs false
namespace Go.Proofs.YtjglgfnhgehpeaaGreat
open Go.RowKit Go.Fw Go.Xt Go.Sort Go.Maps
theorem rel_names {f : Fam} {g : RF} (h : Rel f g) : sortK f.vs = g.vs.map fun v => key v.s := by
  have hp : (keysB f.vs).Perm (g.vs.map fun v => key v.s) := by
    have := h.vs.map fun v : RV => key v.s
    rwa [List.map_map] at this
  have hs : (g.vs.map fun v => key v.s).Pairwise (fun a b => leB a b = true) := by
    rw [List.pairwise_map]
    exact h.ok.srt.imp fun {a b} hl => decide_eq_true (List.le_of_lt hl)
  unfold sortK
  rw [mergeSort_of_perm hp]
  refine List.Perm.eq_of_pairwise (le := fun a b => leB a b = true) (fun a b _ _ h1 h2 => ?_) (List.pairwise_mergeSort ?_ ?_ _) hs (List.mergeSort_perm _ _)
  · simp only [leB, decide_eq_true_eq] at h1 h2
    exact List.le_antisymm h1 h2
  · intro a b c h1 h2; simp only [leB, decide_eq_true_eq] at *; exact List.le_trans h1 h2
  · intro a b; simp only [leB, Bool.or_eq_true, decide_eq_true_eq]; exact List.le_total a b
end Go.Proofs.YtjglgfnhgehpeaaGreat

/- Space accounting, plainly: claims, room, and what a write costs. -/
set_option linter.unusedVariables false
set_option linter.unusedSimpArgs false
namespace Go.Proofs.YtjglgfnhgehpeaaGreat
open Go.RowKit Go.Fw Go.Xt
def rClaim (g : RF) (s : ByteArray) : Int × Int := if (rInfo g s).2 = 0 then (max 0 ((rInfo g s).1.r - (rInfo g s).1.e), 0) else (0, (rInfo g s).2)
def rClaims (g : RF) : Int := g.vs.foldl (fun n v => n + (rClaim g v.s).1) 0
def rFreeN (g : RF) : Int := g.k - usedE (rCounts g) (rCounts g).length
def rRoom (g : RF) : Int := rFreeN g - rClaims g
def rNeed (g : RF) (s : ByteArray) (a n : Int) : Int × Int := if (rRange g s a n).2 = 0 then (n - exE (rCounts g) (rRange g s a n).1, 0) else (0, (rRange g s a n).2)
def rCanCreate (g : RF) (n r : Int) : Int := if n < 1 ∨ 65536 < n ∨ r < 0 ∨ n < r then 1 else if rRoom g < r then 11 else 0
def rCanClone (g : RF) (s : ByteArray) : Int := if (rInfo g s).2 = 0 then (if rRoom g - ((rInfo g s).1.r - (rClaim g s).1) < 0 then 11 else 0) else (rInfo g s).2
def rCanWrite (g : RF) (s : ByteArray) (a n : Int) : Int := if (rNeed g s a n).2 = 0 then (if (rClaim g s).1 + max 0 (rRoom g) < (rNeed g s a n).1 then 11 else 0) else (rNeed g s a n).2
def clV (cs : List Int) (v : RV) : Int := max 0 (v.r - exH cs v.l)
def clS (cs : List Int) : List RV → Int
  | [] => 0
  | v :: vs => clV cs v + clS cs vs
def frN (cs : List Int) : Int := sumR (fun s => if cs.getD s 0 = 0 then 1 else 0) cs.length
def room (g : RF) : Int := frN (rCounts g) - clS (rCounts g) g.vs
theorem clS_perm {cs : List Int} {a b : List RV} (h : a.Perm b) : clS cs a = clS cs b := by
  induction h with
  | nil => rfl
  | cons x _ ih => simp only [clS]; rw [ih]
  | swap x y l => simp only [clS]; omega
  | trans _ _ i1 i2 => exact i1.trans i2
theorem clV_nn (cs : List Int) (v : RV) : 0 ≤ clV cs v := by unfold clV; omega
theorem clS_nn (cs : List Int) (vs : List RV) : 0 ≤ clS cs vs := by
  induction vs with
  | nil => simp [clS]
  | cons v vs ih => have := clV_nn cs v; simp only [clS]; omega
theorem clS_le {cs cs' : List Int} {vs : List RV} (h : ∀ v ∈ vs, clV cs' v ≤ clV cs v) : clS cs' vs ≤ clS cs vs := by
  induction vs with
  | nil => simp [clS]
  | cons v vs ih =>
    have := h v List.mem_cons_self
    have := ih fun w hw => h w (List.mem_cons_of_mem _ hw)
    simp only [clS]; omega
theorem clS_eq {cs cs' : List Int} {vs : List RV} (h : ∀ v ∈ vs, clV cs' v = clV cs v) : clS cs' vs = clS cs vs := by
  induction vs with
  | nil => rfl
  | cons v vs ih => simp only [clS]; rw [h v List.mem_cons_self, ih fun w hw => h w (List.mem_cons_of_mem _ hw)]
theorem frN_nn (cs : List Int) : 0 ≤ frN cs := sumR_nn fun _ _ => by split <;> omega
theorem free_eq {g : RF} (h : GOk g) : rFreeN g = frN (rCounts g) := by
  obtain ⟨h1, h2⟩ := counts_spec h
  have : ∀ N : Nat, usedE (rCounts g) N + sumR (fun s => if (rCounts g).getD s 0 = 0 then 1 else 0) N = N := by
    intro N
    induction N with
    | zero => rfl
    | succ N ih =>
      have := h2 N
      have := tot_nn g.vs N
      rw [usedE_step]
      simp only [sumR]
      by_cases q : (rCounts g).getD N 0 = 0
      · rw [if_neg (by omega), if_pos q]; omega
      · rw [if_pos (by omega), if_neg q]; omega
  have := this (rCounts g).length
  unfold rFreeN frN
  omega
theorem info_at {g : RF} (h : GOk g) {v : RV} (hv : v ∈ g.vs) : rInfo g v.s = (⟨v.s, v.n, v.r, sumN v.l, exH (rCounts g) v.l⟩, 0) := by
  unfold rInfo
  rw [gl_of_mem h.srt hv, ← exE_eq (slots_cs h hv)]
theorem claim_at {g : RF} (h : GOk g) {v : RV} (hv : v ∈ g.vs) : rClaim g v.s = (clV (rCounts g) v, 0) := by
  unfold rClaim
  rw [info_at h hv, if_pos rfl]
  rfl
theorem claims_eq {g : RF} (h : GOk g) : rClaims g = clS (rCounts g) g.vs := by
  have : ∀ (vs : List RV) (n : Int), (∀ v ∈ vs, v ∈ g.vs) → vs.foldl (fun n v => n + (rClaim g v.s).1) n = n + clS (rCounts g) vs := by
    intro vs
    induction vs with
    | nil => intro n _; simp [clS]
    | cons v vs ih =>
      intro n hv
      rw [List.foldl_cons, ih _ fun w hw => hv w (List.mem_cons_of_mem _ hw), claim_at h (hv v List.mem_cons_self)]
      simp only [clS]; omega
  have := this g.vs 0 fun _ h => h
  unfold rClaims
  omega
theorem room_eq {g : RF} (h : GOk g) : rRoom g = room g := by unfold rRoom room; rw [free_eq h, claims_eq h]
theorem clV_le {cs : List Int} {k : Nat} {v : RV} (h : VOk k v) : clV cs v ≤ 65536 := by
  have := h.r; have := h.n; have := exH_nn cs v.l
  unfold clV; omega
theorem clS_ub {g : RF} (cs : List Int) : ∀ {vs : List RV}, (∀ v ∈ vs, VOk g.k v) → clS cs vs ≤ 65536 * (vs.length : Int)
  | [], _ => by simp [clS]
  | v :: vs, h => by
    have := clS_ub cs fun w hw => h w (List.mem_cons_of_mem _ hw)
    have := clV_le (cs := cs) (h v List.mem_cons_self)
    simp only [clS, List.length_cons]; omega
theorem room_bd {g : RF} (h : GOk g) : -3000000 ≤ rRoom g ∧ rRoom g ≤ 65536 := by
  rw [room_eq h]
  have h1 := frN_nn (rCounts g)
  have h2 := clS_nn (rCounts g) g.vs
  have h3 := clS_ub (g := g) (rCounts g) h.vol
  have h4 : frN (rCounts g) ≤ (rCounts g).length := sumR_ub fun _ _ => by split <;> omega
  rw [(counts_spec h).1] at h4
  have := h.k
  have := h.num
  unfold room
  omega
theorem exH_mono {cs cs' : List Int} {L : List X} (hl : cs'.length = cs.length) (h : ∀ s : Nat, s < cs.length → cs.getD s 0 = 1 → 0 < hits L s → cs'.getD s 0 = 1) : exH cs L ≤ exH cs' L := by
  unfold exH
  rw [hl]
  refine sumR_le fun i hi => ?_
  have := hits_nn L i
  by_cases q : cs.getD i 0 = 1
  · by_cases q2 : 0 < hits L i
    · rw [if_pos q, if_pos (h i hi q q2)]; omega
    · rw [if_pos q]; split <;> omega
  · rw [if_neg q]; split <;> omega
theorem clV_mono {cs cs' : List Int} {v : RV} (hl : cs'.length = cs.length) (h : ∀ s : Nat, s < cs.length → cs.getD s 0 = 1 → 0 < hits v.l s → cs'.getD s 0 = 1) : clV cs' v ≤ clV cs v := by
  have := exH_mono hl h
  unfold clV; omega
theorem exH_congr {cs : List Int} {L M : List X} (h : ∀ s : Nat, s < cs.length → hits L s = hits M s) : exH cs L = exH cs M := sumR_congr fun i hi => by rw [h i hi]
theorem room_with {g : RF} (h : GOk g) {v : RV} (hv : VOk g.k v) (hn : (oth v.s g.vs).length ≤ 31) : room (rWith g v) = frN (rCounts (rWith g v)) - (clV (rCounts (rWith g v)) v + clS (rCounts (rWith g v)) (oth v.s g.vs)) := by
  unfold room
  rw [show (rWith g v).vs = rWithL g.vs v from rfl, clS_perm (with_perm h.srt v)]
  rfl
theorem counts_with {g : RF} (h : GOk g) {v : RV} (hv : VOk g.k v) (hn : (oth v.s g.vs).length ≤ 31) : (rCounts (rWith g v)).length = g.k ∧ ∀ t : Nat, (rCounts (rWith g v)).getD t 0 = hits v.l t + tot (oth v.s g.vs) t := by
  obtain ⟨h1, h2⟩ := counts_spec (gok_with h hv hn)
  refine ⟨h1, fun t => ?_⟩
  rw [h2, show (rWith g v).vs = rWithL g.vs v from rfl, tot_perm (with_perm h.srt v)]
  rfl
theorem room_at {g : RF} (h : GOk g) {v : RV} (hv : gl v.s g.vs = some v) : room g = frN (rCounts g) - (clV (rCounts g) v + clS (rCounts g) (oth v.s g.vs)) := by
  unfold room
  rw [clS_perm (gl_perm h.srt hv)]
  rfl
theorem room_create {g : RF} (h : GOk g) {s : ByteArray} {n r : Int} (hv : VOk g.k ⟨s, n, r, []⟩) (hg : gl s g.vs = none) (hn : g.vs.length ≤ 31) : room (rWith g ⟨s, n, r, []⟩) = room g - r := by
  have ho : oth s g.vs = g.vs := oth_none hg
  have hn' : (oth (⟨s, n, r, []⟩ : RV).s g.vs).length ≤ 31 := by show (oth s g.vs).length ≤ _; rw [ho]; exact hn
  have hc : rCounts (rWith g ⟨s, n, r, []⟩) = rCounts g := by
    obtain ⟨c1, c2⟩ := counts_with h hv hn'
    refine getD_ext (by rw [c1, (counts_spec h).1]) fun t => ?_
    rw [c2, (counts_spec h).2]
    show hits [] t + tot (oth s g.vs) t = _
    rw [ho]; simp [hits]
  rw [room_with h hv hn', hc]
  show frN _ - (clV _ _ + clS _ (oth s g.vs)) = _
  rw [ho]
  have e : clV (rCounts g) ⟨s, n, r, []⟩ = r := by
    have hr : 0 ≤ r := hv.r.1
    unfold clV
    rw [show exH (rCounts g) (⟨s, n, r, []⟩ : RV).l = 0 from sumR_zero fun i _ => by simp [hits]]
    show max 0 (r - 0) = r
    omega
  rw [e]
  unfold room
  omega
theorem room_clone {g : RF} (h : GOk g) {v : RV} {o : ByteArray} (hm : gl v.s g.vs = some v) (ho : nameE o = true) (hg : gl o g.vs = none) (hn : g.vs.length ≤ 31) : room (rWith g ⟨o, v.n, 0, v.l⟩) = room g - (v.r - clV (rCounts g) v) := by
  have hvm := (gl_mem hm).1
  have hv := h.vol v hvm
  have hv2 : VOk g.k ⟨o, v.n, 0, v.l⟩ := vok_name hv ho ⟨Int.le_refl _, by have := hv.n; omega⟩
  have hoo : oth o g.vs = g.vs := oth_none hg
  have hn' : (oth (⟨o, v.n, 0, v.l⟩ : RV).s g.vs).length ≤ 31 := by show (oth o g.vs).length ≤ _; rw [hoo]; exact hn
  obtain ⟨c1, c2⟩ := counts_with h hv2 hn'
  have hc := counts_spec h
  have hcs : ∀ t : Nat, (rCounts (rWith g ⟨o, v.n, 0, v.l⟩)).getD t 0 = (rCounts g).getD t 0 + hits v.l t := fun t => by
    rw [c2, hc.2]; show hits v.l t + tot (oth o g.vs) t = _; rw [hoo]; omega
  have hle : ∀ t : Nat, hits v.l t ≤ (rCounts g).getD t 0 := fun t => by rw [hc.2]; exact tot_mem hvm t
  have hsplit := oth_lt h hm
  have hcv := fun t : Nat => hc.2 t
  rw [room_with h hv2 hn', show oth (⟨o, v.n, 0, v.l⟩ : RV).s g.vs = g.vs from hoo, clS_perm (gl_perm h.srt hm), room_at h hm]
  have e1 : frN (rCounts (rWith g ⟨o, v.n, 0, v.l⟩)) = frN (rCounts g) := by
    unfold frN
    rw [c1, hc.1]
    refine sumR_congr fun i _ => ?_
    rw [hcs]
    have := hle i
    have := hits_nn v.l i
    have := tot_nn g.vs i
    have := hcv i
    by_cases q : (rCounts g).getD i 0 = 0
    · rw [if_pos q, if_pos (by omega)]
    · rw [if_neg q, if_neg (by omega)]
  have e2 : clV (rCounts (rWith g ⟨o, v.n, 0, v.l⟩)) ⟨o, v.n, 0, v.l⟩ = 0 := by
    have := exH_nn (rCounts (rWith g ⟨o, v.n, 0, v.l⟩)) v.l
    unfold clV
    show max 0 (0 - exH _ v.l) = 0
    omega
  have e3 : clV (rCounts (rWith g ⟨o, v.n, 0, v.l⟩)) v = v.r := by
    have hr := hv.r.1
    have : exH (rCounts (rWith g ⟨o, v.n, 0, v.l⟩)) v.l = 0 := sumR_zero fun i _ => by
      rw [hcs]
      have := hle i
      have := hits_nn v.l i
      by_cases q : (rCounts g).getD i 0 + hits v.l i = 1
      · rw [if_pos q]; omega
      · rw [if_neg q]
    unfold clV
    rw [this]; omega
  have e4 : clS (rCounts (rWith g ⟨o, v.n, 0, v.l⟩)) (oth v.s g.vs) = clS (rCounts g) (oth v.s g.vs) := by
    refine clS_eq fun u hu => ?_
    have hum := (oth_mem.1 hu).1
    unfold clV
    congr 2
    unfold exH
    rw [c1, hc.1]
    refine sumR_congr fun i _ => ?_
    rw [hcs]
    have h1 : hits u.l i ≤ tot (oth v.s g.vs) i := tot_mem hu i
    have h2 := hsplit.2 i
    have h3 := hits_nn u.l i
    have h4 := hits_nn v.l i
    have h5 := hcv i
    by_cases q0 : hits u.l i = 0
    · rw [q0]; split <;> split <;> rfl
    · by_cases q : (rCounts g).getD i 0 = 1
      · rw [if_pos q, if_pos (by omega)]
      · rw [if_neg q, if_neg (by omega)]
  rw [e1, e2]
  simp only [clS]
  rw [e3, e4]
  omega
theorem room_delete {g : RF} (h : GOk g) {v : RV} (hm : gl v.s g.vs = some v) : room g ≤ room ⟨g.k, oth v.s g.vs⟩ := by
  have hgk : GOk ⟨g.k, oth v.s g.vs⟩ := ⟨h.k, h.srt.filter _, fun w hw => h.vol w (oth_mem.1 hw).1, Nat.le_trans oth_len h.num⟩
  obtain ⟨d1, d2⟩ := counts_spec hgk
  have hc := counts_spec h
  have hsplit := oth_lt h hm
  rw [room_at h hm]
  unfold room
  have e1 : frN (rCounts g) ≤ frN (rCounts ⟨g.k, oth v.s g.vs⟩) := by
    unfold frN
    rw [d1, hc.1]
    refine sumR_le fun i _ => ?_
    have := hsplit.2 i
    have := hits_nn v.l i
    have := tot_nn (oth v.s g.vs) i
    have := hc.2 i
    have := d2 i
    simp only [] at this
    by_cases q : (rCounts g).getD i 0 = 0
    · rw [if_pos q, if_pos (by omega)]; omega
    · rw [if_neg q]; split <;> omega
  have e2 : clS (rCounts ⟨g.k, oth v.s g.vs⟩) (oth v.s g.vs) ≤ clS (rCounts g) (oth v.s g.vs) := clS_le fun u hu => clV_mono (by rw [d1, hc.1]) fun i hi q1 q2 => by
    have h1 : hits u.l i ≤ tot (oth v.s g.vs) i := tot_mem hu i
    have h2 := hsplit.2 i
    have h4 := hits_nn v.l i
    have h5 := hc.2 i
    have h6 := d2 i
    simp only [] at h6
    omega
  have := clV_nn (rCounts g) v
  show _ ≤ _ - clS _ (oth v.s g.vs)
  omega
theorem room_cut {g : RF} (h : GOk g) {v : RV} (hm : gl v.s g.vs = some v) {a n : Int} (h1 : 0 ≤ a) (h2 : 0 ≤ n) (h3 : a + n ≤ 65536) : room g ≤ room (rWith g ⟨v.s, v.n, v.r, rcut v.l a n⟩) := by
  have hv := h.vol v (gl_mem hm).1
  have hv2 := vok_cut hv h1 h2 h3
  have hsplit := oth_lt h hm
  obtain ⟨c1, c2⟩ := counts_with h hv2 hsplit.1
  have hc := counts_spec h
  have hh := hits_cut hv.ok h1 h2 h3
  rw [room_at h hm, room_with h hv2 hsplit.1]
  show _ ≤ _ - (_ + clS _ (oth v.s g.vs))
  have e2 : clS (rCounts (rWith g ⟨v.s, v.n, v.r, rcut v.l a n⟩)) (oth v.s g.vs) ≤ clS (rCounts g) (oth v.s g.vs) := clS_le fun u hu => clV_mono (by rw [c1, hc.1]) fun i hi q1 q2 => by
    have g1 : hits u.l i ≤ tot (oth v.s g.vs) i := tot_mem hu i
    have g2 := hsplit.2 i
    have g3 := hits_nn (rcut v.l a n) i
    have g4 := hits_nn (Jn (Xt.parts v.l a (a + n))) i
    have g5 := hh i
    have g6 := hc.2 i
    rw [c2]
    show hits (rcut v.l a n) i + tot (oth v.s g.vs) i = 1
    omega
  have e1 : frN (rCounts g) + exH (rCounts g) v.l ≤ frN (rCounts (rWith g ⟨v.s, v.n, v.r, rcut v.l a n⟩)) + exH (rCounts (rWith g ⟨v.s, v.n, v.r, rcut v.l a n⟩)) (rcut v.l a n) := by
    unfold frN exH
    rw [c1, hc.1, ← sumR_add, ← sumR_add]
    refine sumR_le fun i _ => ?_
    have g2 := hsplit.2 i
    have g3 := hits_nn (rcut v.l a n) i
    have g4 := hits_nn (Jn (Xt.parts v.l a (a + n))) i
    have g5 := hh i
    have g6 := hc.2 i
    have g7 := tot_nn (oth v.s g.vs) i
    have g8 : (rCounts (rWith g ⟨v.s, v.n, v.r, rcut v.l a n⟩)).getD i 0 = hits (rcut v.l a n) i + tot (oth v.s g.vs) i := c2 i
    rw [g8]
    by_cases q0 : (rCounts g).getD i 0 = 0
    · rw [if_pos q0, if_neg (by omega), if_pos (by omega)]; split <;> omega
    · rw [if_neg q0]
      by_cases q1 : (rCounts g).getD i 0 = 1
      · rw [if_pos q1]
        by_cases q2 : hits (rcut v.l a n) i + tot (oth v.s g.vs) i = 0
        · rw [if_pos q2]; split <;> omega
        · rw [if_neg q2, if_pos (by omega)]; omega
      · rw [if_neg q1]; split <;> split <;> omega
  have e3 : frN (rCounts g) ≤ frN (rCounts (rWith g ⟨v.s, v.n, v.r, rcut v.l a n⟩)) := by
    unfold frN
    rw [c1, hc.1]
    refine sumR_le fun i _ => ?_
    have g2 := hsplit.2 i
    have g3 := hits_nn (rcut v.l a n) i
    have g4 := hits_nn (Jn (Xt.parts v.l a (a + n))) i
    have g5 := hh i
    have g6 := hc.2 i
    have g7 := tot_nn (oth v.s g.vs) i
    have g8 : (rCounts (rWith g ⟨v.s, v.n, v.r, rcut v.l a n⟩)).getD i 0 = hits (rcut v.l a n) i + tot (oth v.s g.vs) i := c2 i
    by_cases q0 : (rCounts g).getD i 0 = 0
    · rw [if_pos q0, if_pos (by omega)]; omega
    · rw [if_neg q0]; split <;> omega
  have e4 : clV (rCounts (rWith g ⟨v.s, v.n, v.r, rcut v.l a n⟩)) ⟨v.s, v.n, v.r, rcut v.l a n⟩ = max 0 (v.r - exH (rCounts (rWith g ⟨v.s, v.n, v.r, rcut v.l a n⟩)) (rcut v.l a n)) := rfl
  have e5 : clV (rCounts g) v = max 0 (v.r - exH (rCounts g) v.l) := rfl
  rw [e4, e5]
  omega
end Go.Proofs.YtjglgfnhgehpeaaGreat

/- A write: every block that is not exclusive gets a free slot; permitted steps keep a family sound. -/
set_option linter.unusedVariables false
set_option linter.unusedSimpArgs false
namespace Go.Proofs.YtjglgfnhgehpeaaGreat
open Go.RowKit Go.Fw Go.Xt
theorem ok_span : ∀ {L : List X} {lo m : Int}, Xt.Ok lo L → (∀ x ∈ L, x.a + x.n ≤ m) → lo ≤ m → sumN L ≤ m - lo
  | [], lo, m, _, _, h => by simp only [sumN]; omega
  | x :: L, lo, m, h, hm, _ => by
    obtain ⟨h1, h2, h3, h4, h5, h6⟩ := h
    have hx := hm x List.mem_cons_self
    have := ok_span h6 (fun y hy => hm y (List.mem_cons_of_mem _ hy)) hx
    simp only [sumN]; omega
theorem sumN_parts {L : List X} {a b : Int} (h : Xt.Ok 0 L) (h0 : 0 ≤ a) (hab : a ≤ b) : sumN (Xt.parts L a b) ≤ b - a := ok_span (ok_parts h (by omega)) (fun x hx => (parts_end x hx).1) hab
theorem parts_slots {L : List X} {k : Nat} {a b : Int} (ho : Xt.Ok 0 L) (h0 : 0 ≤ a) (hab : a ≤ b) (hb : b ≤ 65536) (h : ∀ x ∈ L, 1 ≤ x.n ∧ 0 ≤ x.s ∧ x.s + x.n ≤ k) : ∀ x ∈ Xt.parts L a b, 1 ≤ x.n ∧ 0 ≤ x.s ∧ x.s + x.n ≤ k :=
  mem_hits (ok_parts ho (lo' := 0) (by omega)) fun s hs => by
    have e1 := hits_split (a := 0) (b := a) (c := 65536) ho h0 (by omega) s
    have e2 := hits_split (a := a) (b := b) (c := 65536) ho hab hb s
    rw [parts_whole ho] at e1
    have := hits_out h s hs
    have := hits_nn (Xt.parts L 0 a) s
    have := hits_nn (Xt.parts L b 65536) s
    have := hits_nn (Xt.parts L a b) s
    omega
theorem exH_parts_split {cs : List Int} {L : List X} {a b c : Int} (h : Xt.Ok 0 L) (hab : a ≤ b) (hbc : b ≤ c) : exH cs (Xt.parts L a c) = exH cs (Xt.parts L a b) + exH cs (Xt.parts L b c) := by
  rw [← exH_app]
  exact exH_congr fun s _ => by rw [hits_split h hab hbc, hits_app]
theorem exH_jn {cs : List Int} {L : List X} (h : Xt.Ok 0 L) : exH cs (Jn L) = exH cs L := exH_congr fun s _ => hits_jn (ok_nn h) s
theorem asc_len (N : Nat) (p : Nat → Bool) : ((asc N p).length : Int) = sumR (fun s => if p s = true then 1 else 0) N := by
  induction N with
  | zero => rfl
  | succ N ih =>
    rw [asc_step, List.length_append]
    simp only [sumR]
    rw [← ih]
    split <;> simp
theorem za_len (cs : List Int) : ((za cs).length : Int) = frN cs := by
  unfold za frN
  rw [asc_len]
  exact sumR_congr fun i _ => by
    by_cases q : cs.getD i 0 = 0
    · rw [if_pos q, if_pos (decide_eq_true q)]
    · rw [if_neg q, if_neg (by rw [decide_eq_false q]; exact Bool.false_ne_true)]
theorem za_mem {cs : List Int} {u : Int} (h : u ∈ za cs) : 0 ≤ u ∧ u < cs.length ∧ cs.getD u.toNat 0 = 0 := by
  have := asc_mem.1 h
  exact ⟨this.1, this.2.1, of_decide_eq_true this.2.2⟩
structure Wr1 (g g' : RF) (v v' : RV) (b : Int) : Prop where
  ok : GOk g'
  at_ : gl v.s g'.vs = some v'
  others : oth v.s g'.vs = oth v.s g.vs
  fr : frN (rCounts g') = frN (rCounts g) - 1
  ex : exH (rCounts g) v.l + 1 ≤ exH (rCounts g') v'.l
  cl : clS (rCounts g') (oth v.s g.vs) ≤ clS (rCounts g) (oth v.s g.vs)
  prt : ∀ a c : Int, 0 ≤ a → a ≤ c → c ≤ 65536 → (c ≤ b ∨ b < a) → exH (rCounts g) (Xt.parts v.l a c) ≤ exH (rCounts g') (Xt.parts v'.l a c)
  new : exH (rCounts g') (Xt.parts v'.l b (b + 1)) = 1
theorem gl_with {g : RF} (h : GOk g) (v : RV) (s : ByteArray) : gl s (rWithL g.vs v) = if s = v.s then some v else gl s g.vs := by
  have hs := with_srt h.srt v
  have hp := with_perm h.srt v
  by_cases q : s = v.s
  · subst q
    rw [if_pos rfl]
    exact gl_of_mem hs (hp.symm.subset List.mem_cons_self)
  · rw [if_neg q]
    cases hg : gl s g.vs with
    | some w =>
      obtain ⟨h1, h2⟩ := gl_mem hg
      subst h2
      exact gl_of_mem hs (hp.symm.subset (List.mem_cons_of_mem _ (oth_mem.2 ⟨h1, q⟩)))
    | none =>
      cases hw : gl s (rWithL g.vs v) with
      | none => rfl
      | some w =>
        obtain ⟨h1, h2⟩ := gl_mem hw
        rcases List.mem_cons.1 (hp.subset h1) with rfl | h1
        · exact absurd h2.symm q
        · exact absurd h2 ((at_none hg).2 w (oth_mem.1 h1).1)
theorem oth_with {g : RF} (h : GOk g) (v : RV) : (oth v.s (rWithL g.vs v)) = oth v.s g.vs := by
  rw [withL_eq h.srt]
  unfold oth lowS highS
  rw [List.filter_append, List.filter_cons_of_neg (by simp), List.filter_filter, List.filter_filter]
  have : ∀ {vs : List RV}, vs.Pairwise (fun a b => key a.s < key b.s) → vs.filter (fun w => !decide (w.s = v.s) && decide (key w.s < key v.s)) ++ vs.filter (fun w => !decide (w.s = v.s) && decide (key v.s < key w.s)) = vs.filter fun w => !decide (w.s = v.s) := by
    intro vs
    induction vs with
    | nil => intro _; rfl
    | cons w vs ih =>
      intro hs
      obtain ⟨h1, h2⟩ := List.pairwise_cons.1 hs
      have ih := ih h2
      by_cases q : key w.s < key v.s
      · have hne : w.s ≠ v.s := fun e => by rw [e] at q; exact List.lt_irrefl _ q
        rw [List.filter_cons_of_pos (by simp [hne, q]), List.filter_cons_of_neg (by simp only [Bool.and_eq_true, decide_eq_true_eq]; exact fun h => List.lt_irrefl _ (key_lt_trans h.2 q)), List.filter_cons_of_pos (by simp [hne]), List.cons_append, ih]
      · have hgt : ∀ x ∈ vs, key v.s < key x.s := fun x hx => by
          have := h1 x hx
          by_cases e : key w.s = key v.s
          · rwa [← e]
          · exact key_lt_trans (key_lt_of q e) this
        have f1 : vs.filter (fun w => !decide (w.s = v.s) && decide (key w.s < key v.s)) = [] := List.filter_eq_nil_iff.2 fun x hx h => by
          simp only [Bool.and_eq_true, decide_eq_true_eq] at h
          exact List.lt_irrefl _ (key_lt_trans (hgt x hx) h.2)
        rw [f1, List.nil_append] at ih
        rw [List.filter_cons_of_neg (by simp only [Bool.and_eq_true, decide_eq_true_eq]; exact fun h => q h.2), f1, List.nil_append]
        by_cases e : w.s = v.s
        · rw [List.filter_cons_of_neg (by simp [e]), List.filter_cons_of_neg (by simp [e])]; exact ih
        · rw [List.filter_cons_of_pos (by simp only [Bool.and_eq_true, Bool.not_eq_true', decide_eq_false_iff_not, decide_eq_true_eq]; exact ⟨e, key_lt_of q fun h => e (key_inj.1 h)⟩), List.filter_cons_of_pos (by simp [e]), ih]
  exact this h.srt
theorem write_one {g : RF} (h : GOk g) {v : RV} (hm : gl v.s g.vs = some v) {b fr : Int} (hb : 0 ≤ b ∧ b < v.n) (hf : 0 ≤ fr ∧ fr < g.k ∧ (rCounts g).getD fr.toNat 0 = 0) (hex : exH (rCounts g) (Xt.parts v.l b (b + 1)) = 0) :
    Wr1 g (rWith g ⟨v.s, v.n, v.r, rput v.l ⟨b, 1, fr⟩⟩) v ⟨v.s, v.n, v.r, rput v.l ⟨b, 1, fr⟩⟩ b := by
  have hv := h.vol v (gl_mem hm).1
  have hk := h.k
  have hn := hv.n
  have hv2 : VOk g.k ⟨v.s, v.n, v.r, rput v.l ⟨b, 1, fr⟩⟩ := vok_put hv hk (x := ⟨b, 1, fr⟩) (by show (1 : Int) ≤ 1; omega) hb.1 (by show b + 1 ≤ v.n; omega) hf.1 (by show fr + 1 ≤ g.k; omega)
  have hvx : Vx ⟨b, 1, fr⟩ := ⟨by show (1 : Int) ≤ 1; omega, hf.1, by show b + 1 ≤ 65536; omega, by show fr + 1 ≤ 65536; omega⟩
  have hsplit := oth_lt h hm
  obtain ⟨c1, c2⟩ := counts_with h hv2 hsplit.1
  have hc := counts_spec h
  have hh : ∀ s : Int, hits (rput v.l ⟨b, 1, fr⟩) s + hits (Xt.parts v.l b (b + 1)) s = hits v.l s + hit1 ⟨b, 1, fr⟩ s := fun s => by
    have := hits_put (x := ⟨b, 1, fr⟩) hv.ok hb.1 hvx s
    rwa [hits_jn (ok_nn (ok_parts hv.ok (lo' := 0) (by omega)))] at this
  have hone : ∀ s : Int, hit1 ⟨b, 1, fr⟩ s = if s = fr then 1 else 0 := fun s => by
    unfold hit1
    show (if fr ≤ s ∧ s < fr + 1 then (1 : Int) else 0) = _
    by_cases q : s = fr
    · rw [if_pos q, if_pos (by omega)]
    · rw [if_neg q, if_neg (by omega)]
  have hfn : ((fr.toNat : Nat) : Int) = fr := by omega
  have hps := parts_slots (a := b) (b := b + 1) hv.ok hb.1 (by omega) (by omega) hv.slots
  have hold : ∀ s : Nat, (rCounts g).getD s 0 = 1 → hits (Xt.parts v.l b (b + 1)) s = 0 := fun s q => by
    have h0 := hits_nn (Xt.parts v.l b (b + 1)) s
    by_cases hs : s < g.k
    · have : sumR (fun t => if t = s then hits (Xt.parts v.l b (b + 1)) s else 0) g.k ≤ exH (rCounts g) (Xt.parts v.l b (b + 1)) := by
        unfold exH
        rw [hc.1]
        refine sumR_le fun i _ => ?_
        have := hits_nn (Xt.parts v.l b (b + 1)) i
        by_cases e : i = s
        · subst e; rw [if_pos rfl, if_pos q]; omega
        · rw [if_neg e]; split <;> omega
      rw [sumR_congr (g := fun t => if s ≤ t ∧ t < s + 1 then (fun _ => hits (Xt.parts v.l b (b + 1)) s) t else 0) (fun i _ => by
        by_cases e : i = s
        · rw [if_pos e, if_pos (by omega)]
        · rw [if_neg e, if_neg (by omega)]), sumR_win (by omega)] at this
      simp only [sumR] at this
      omega
    · exact hits_out hps s (.inr (by omega))
  have hle1 : ∀ s : Nat, s < g.k → hits (Xt.parts v.l b (b + 1)) s ≤ 1 := fun s hs => by
    have h1 : sumN (Xt.parts v.l b (b + 1)) ≤ b + 1 - b := sumN_parts hv.ok hb.1 (by omega)
    rw [← sumR_hits hps] at h1
    have : sumR (fun t => if t = s then hits (Xt.parts v.l b (b + 1)) s else 0) g.k ≤ sumR (fun t => hits (Xt.parts v.l b (b + 1)) t) g.k := sumR_le fun i _ => by
      have := hits_nn (Xt.parts v.l b (b + 1)) i
      by_cases e : i = s
      · subst e; rw [if_pos rfl]; omega
      · rw [if_neg e]; omega
    rw [sumR_congr (g := fun t => if s ≤ t ∧ t < s + 1 then (fun _ => hits (Xt.parts v.l b (b + 1)) s) t else 0) (fun i _ => by
      by_cases e : i = s
      · rw [if_pos e, if_pos (by omega)]
      · rw [if_neg e, if_neg (by omega)]), sumR_win (by omega)] at this
    simp only [sumR] at this
    omega
  have hpl : ∀ s : Nat, hits (Xt.parts v.l b (b + 1)) s ≤ hits v.l s := fun s => by
    have s1 := hits_split (a := 0) (b := b) (c := 65536) hv.ok hb.1 (by omega) s
    have s2 := hits_split (a := b) (b := b + 1) (c := 65536) hv.ok (by omega) (by omega) s
    rw [parts_whole hv.ok] at s1
    have := hits_nn (Xt.parts v.l 0 b) s
    have := hits_nn (Xt.parts v.l (b + 1) 65536) s
    omega
  have hcs : ∀ t : Nat, (rCounts (rWith g ⟨v.s, v.n, v.r, rput v.l ⟨b, 1, fr⟩⟩)).getD t 0 = (rCounts g).getD t 0 + (if (t : Int) = fr then 1 else 0) - hits (Xt.parts v.l b (b + 1)) t := fun t => by
    rw [c2, hc.2, hsplit.2]
    show hits (rput v.l ⟨b, 1, fr⟩) t + tot (oth v.s g.vs) t = _
    have := hh t
    have := hone t
    omega
  have hvt : ∀ t : Nat, hits v.l t ≤ (rCounts g).getD t 0 := fun t => by rw [hc.2]; exact tot_mem (gl_mem hm).1 t
  have hkeep : ∀ s : Nat, (rCounts g).getD s 0 = 1 → (rCounts (rWith g ⟨v.s, v.n, v.r, rput v.l ⟨b, 1, fr⟩⟩)).getD s 0 = 1 := fun s q => by
    rw [hcs, hold s q, q, if_neg]
    · rfl
    · intro e
      have : s = fr.toNat := by omega
      subst this
      omega
  have hfr1 : (rCounts (rWith g ⟨v.s, v.n, v.r, rput v.l ⟨b, 1, fr⟩⟩)).getD fr.toNat 0 = 1 := by
    have h1 := hpl fr.toNat
    have h2 := hvt fr.toNat
    have h3 := hits_nn (Xt.parts v.l b (b + 1)) fr.toNat
    rw [hcs, if_pos (by omega)]
    omega
  have hsem : ∀ c : Int, sem (rput v.l ⟨b, 1, fr⟩) c = if b ≤ c ∧ c < b + 1 then some (fr + c - b) else sem v.l c := rput_sem hv.ok hb.1 hvx
  refine ⟨gok_with h hv2 hsplit.1, ?_, ?_, ?_, ?_, ?_, ?_, ?_⟩
  · show gl v.s (rWithL g.vs _) = _
    rw [gl_with h, if_pos rfl]
  · exact oth_with h ⟨v.s, v.n, v.r, rput v.l ⟨b, 1, fr⟩⟩
  · unfold frN
    rw [c1, hc.1]
    have e : sumR (fun s => if (rCounts g).getD s 0 = 0 then 1 else 0) g.k = sumR (fun s => (if (rCounts (rWith g ⟨v.s, v.n, v.r, rput v.l ⟨b, 1, fr⟩⟩)).getD s 0 = 0 then 1 else 0) + (if fr.toNat ≤ s ∧ s < fr.toNat + 1 then (fun _ => (1 : Int)) s else 0)) g.k := sumR_congr fun i hi => by
      have h1 := hcs i
      have h2 := hle1 i hi
      have h3 := hpl i
      have h4 := hvt i
      have h5 := hold i
      have h6 := hits_nn (Xt.parts v.l b (b + 1)) i
      by_cases e : i = fr.toNat
      · subst e
        rw [if_pos hf.2.2, hfr1, if_neg (by omega), if_pos (by omega)]; rfl
      · rw [if_neg (show ¬ (i : Int) = fr by omega)] at h1
        rw [if_neg (show ¬ (fr.toNat ≤ i ∧ i < fr.toNat + 1) by omega)]
        by_cases q : (rCounts g).getD i 0 = 0
        · rw [if_pos q, if_pos (by omega)]; rfl
        · rw [if_neg q, if_neg]
          · rfl
          · intro q2
            have : (rCounts g).getD i 0 = 1 := by omega
            have := h5 this
            omega
    rw [e, sumR_add, sumR_win (by omega)]
    simp only [sumR]
    omega
  · unfold exH
    rw [c1, hc.1]
    show _ ≤ sumR (fun s => if (rCounts (rWith g ⟨v.s, v.n, v.r, rput v.l ⟨b, 1, fr⟩⟩)).getD s 0 = 1 then hits (rput v.l ⟨b, 1, fr⟩) s else 0) g.k
    have e : sumR (fun s => (if (rCounts g).getD s 0 = 1 then hits v.l s else 0) + (if fr.toNat ≤ s ∧ s < fr.toNat + 1 then (fun _ => (1 : Int)) s else 0)) g.k ≤ sumR (fun s => if (rCounts (rWith g ⟨v.s, v.n, v.r, rput v.l ⟨b, 1, fr⟩⟩)).getD s 0 = 1 then hits (rput v.l ⟨b, 1, fr⟩) s else 0) g.k := sumR_le fun i hi => by
      have h1 := hh i
      have h2 := hone i
      have h3 := hold i
      have h4 := hvt i
      have h5 := hpl i
      have h6 := hits_nn (Xt.parts v.l b (b + 1)) i
      have h7 := hits_nn (rput v.l ⟨b, 1, fr⟩) i
      by_cases e : i = fr.toNat
      · subst e
        rw [hf.2.2, if_neg (by omega), if_pos (by omega), if_pos hfr1]
        rw [if_pos (by omega)] at h2
        show 0 + (1 : Int) ≤ _
        omega
      · rw [if_neg (show ¬ (i : Int) = fr by omega)] at h2
        rw [if_neg (show ¬ (fr.toNat ≤ i ∧ i < fr.toNat + 1) by omega)]
        by_cases q : (rCounts g).getD i 0 = 1
        · have := h3 q
          rw [if_pos q, if_pos (hkeep i q)]; omega
        · rw [if_neg q]; split <;> omega
    rw [sumR_add, sumR_win (by omega)] at e
    simp only [sumR] at e
    omega
  · exact clS_le fun u hu => clV_mono (by rw [c1, hc.1]) fun s hs q _ => hkeep s q
  · intro a c h0 hac hc6 hbc
    have e : exH (rCounts g) (Xt.parts v.l a c) = exH (rCounts g) (Xt.parts (rput v.l ⟨b, 1, fr⟩) a c) := exH_congr fun s _ => hits_sem (ok_parts hv.ok (by omega)) (ok_parts hv2.ok (by omega)) (fun d => by
      rw [sem_parts, sem_parts, hsem]
      by_cases q : a ≤ d ∧ d < c
      · rw [if_pos q, if_pos q, if_neg (by omega)]
      · rw [if_neg q, if_neg q]) s
    rw [e]
    exact exH_mono (by rw [c1, hc.1]) fun s hs q _ => hkeep s q
  · have e : exH (rCounts (rWith g ⟨v.s, v.n, v.r, rput v.l ⟨b, 1, fr⟩⟩)) (Xt.parts (rput v.l ⟨b, 1, fr⟩) b (b + 1)) = exH (rCounts (rWith g ⟨v.s, v.n, v.r, rput v.l ⟨b, 1, fr⟩⟩)) [⟨b, 1, fr⟩] := exH_congr fun s _ => hits_sem (ok_parts hv2.ok (by omega)) (show Xt.Ok 0 [(⟨b, 1, fr⟩ : X)] from ⟨hb.1, hvx.1, hvx.2.1, hvx.2.2.1, hvx.2.2.2, trivial⟩) (fun d => by
      rw [sem_parts, hsem]
      simp only [sem]
      by_cases q : b ≤ d ∧ d < b + 1
      · rw [if_pos q, if_pos q, if_pos q]
      · rw [if_neg q, if_neg q]) s
    show exH _ (Xt.parts (rput v.l ⟨b, 1, fr⟩) b (b + 1)) = 1
    rw [e, exH_one hf.1 (by show (0 : Int) ≤ 1; omega) (by rw [c1]; show fr + 1 ≤ g.k; omega)]
    show ex1 _ ⟨b, 1, fr⟩ 1 = 1
    unfold ex1
    simp only [sumR]
    rw [if_pos (by show (rCounts _).getD (fr.toNat + 0) 0 = 1; rw [Nat.add_zero]; exact hfr1)]
    rfl
end Go.Proofs.YtjglgfnhgehpeaaGreat

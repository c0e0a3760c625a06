/- Parts: ThR, Lay6. -/
import Derived.Test.YtjglgfnhgehpeaaGreatYt
import Derived.Test.YtjglgfnhgehpeaaGreatYg
import Derived.Test.YtjglgfnhgehpeaaGreatYf
/- Permitted steps keep a family sound. -/
set_option linter.unusedVariables false
set_option linter.unusedSimpArgs false
namespace Go.Proofs.YtjglgfnhgehpeaaGreat
open Go.RowKit Go.Fw Go.Xt
def wr1 (p : Fam × RF) (s : ByteArray) (k : Int) : Fam × RF :=
  if (rNeed p.2 s k 1).1 = 0 then p else match za (rCounts p.2) with
  | [] => p
  | u :: _ => ((fAssign p.1 s ⟨k, 1, u⟩).1, (rAssign p.2 s ⟨k, 1, u⟩).1)
def wrN (p : Fam × RF) (s : ByteArray) (a : Int) : Nat → Fam × RF
  | 0 => p
  | n + 1 => wr1 (wrN p s a n) s (a + n)
structure Snd (p : Fam × RF) : Prop where
  rel : Rel p.1 p.2
  room : 0 ≤ room p.2
structure WI (p : Fam × RF) (s : ByteArray) (n0 r0 a k e : Int) (v : RV) : Prop where
  snd : Snd p
  at_ : gl s p.2.vs = some v
  n : v.n = n0
  r : v.r = r0
  need : (e - k) - exH (rCounts p.2) (Xt.parts v.l k e) ≤ clV (rCounts p.2) v + room p.2
  full : exH (rCounts p.2) (Xt.parts v.l a k) = k - a
theorem need_at {g : RF} (h : GOk g) {s : ByteArray} {v : RV} (hm : gl s g.vs = some v) {a n : Int} (h0 : 0 ≤ a) (hn : 0 ≤ n) (he : a + n ≤ v.n) : rNeed g s a n = (n - exH (rCounts g) (Xt.parts v.l a (a + n)), 0) := by
  have hv := h.vol v (gl_mem hm).1
  have hvn := hv.n
  have er : rRange g s a n = (Jn (Xt.parts v.l a (a + n)), 0) := by
    unfold rRange
    rw [hm]
    dsimp only
    rw [if_pos (inB_iff.2 ⟨h0, hn, he⟩)]
    unfold rCut
    rw [if_pos ⟨h0, hn, by omega, by omega⟩]
  have hok := ok_parts hv.ok (lo' := 0) (f := a) (t := a + n) (by omega)
  have hps : ∀ x ∈ Jn (Xt.parts v.l a (a + n)), 1 ≤ x.n ∧ 0 ≤ x.s ∧ x.s + x.n ≤ (rCounts g).length := by
    rw [(counts_spec h).1]
    refine mem_hits (jn_spec hok).1 fun t ht => ?_
    rw [hits_jn (ok_nn hok)]
    exact hits_out (parts_slots hv.ok h0 (by omega) (by omega) hv.slots) t ht
  unfold rNeed
  rw [er, if_pos rfl, exE_eq hps, exH_jn hok]
theorem ex_bd {g : RF} (h : GOk g) {v : RV} (hv : v ∈ g.vs) {a b : Int} (h0 : 0 ≤ a) (hab : a ≤ b) (hb : b ≤ 65536) : 0 ≤ exH (rCounts g) (Xt.parts v.l a b) ∧ exH (rCounts g) (Xt.parts v.l a b) ≤ b - a := by
  have hv := h.vol v hv
  refine ⟨exH_nn _ _, Int.le_trans (exH_le ?_) (sumN_parts hv.ok h0 hab)⟩
  rw [(counts_spec h).1]
  exact parts_slots hv.ok h0 hab hb hv.slots
theorem wr_step {p : Fam × RF} {s : ByteArray} {n0 r0 a k e : Int} {v : RV} (h : WI p s n0 r0 a k e v) (h0 : 0 ≤ a) (hak : a ≤ k) (hk : k < e) (he : e ≤ n0) :
    (rNeed p.2 s k 1).2 = 0 ∧ ((rNeed p.2 s k 1).1 ≠ 0 → za (rCounts p.2) ≠ []) ∧ ∃ v', WI (wr1 p s k) s n0 r0 a (k + 1) e v' := by
  have hr := h.snd.rel
  have hg := hr.ok
  have hm := h.at_
  obtain ⟨hvm, hvs⟩ := gl_mem hm
  have hv := hg.vol v hvm
  have hvn := hv.n
  have hn := h.n
  have en := need_at hg hm (a := k) (n := 1) (by omega) (by omega) (by omega)
  obtain ⟨b1, b2⟩ := ex_bd hg hvm (a := k) (b := k + 1) (by omega) (by omega) (by omega)
  obtain ⟨b3, b4⟩ := ex_bd hg hvm (a := k + 1) (b := e) (by omega) (by omega) (by omega)
  have hsp := exH_parts_split (cs := rCounts p.2) hv.ok (a := k) (b := k + 1) (c := e) (by omega) (by omega)
  have hsa := exH_parts_split (cs := rCounts p.2) hv.ok (a := a) (b := k) (c := k + 1) (by omega) (by omega)
  have hneed := h.need
  have hfull := h.full
  have hroom := h.snd.room
  have hms : gl v.s p.2.vs = some v := by rw [hvs]; exact hm
  have hra := room_at hg hms
  have hcn := clS_nn (rCounts p.2) (oth v.s p.2.vs)
  have hvnn := clV_nn (rCounts p.2) v
  refine ⟨by rw [en], fun hne => ?_, ?_⟩
  · rw [en] at hne
    have hne : 1 - exH (rCounts p.2) (Xt.parts v.l k (k + 1)) ≠ 0 := hne
    intro hz
    have := za_len (rCounts p.2)
    rw [hz] at this
    simp at this
    omega
  · unfold wr1
    rw [en]
    dsimp only
    by_cases q : 1 - exH (rCounts p.2) (Xt.parts v.l k (k + 1)) = 0
    · rw [if_pos q]
      exact ⟨v, h.snd, hm, hn, h.r, by omega, by omega⟩
    · rw [if_neg q]
      cases hz : za (rCounts p.2) with
      | nil =>
        exfalso
        have := za_len (rCounts p.2)
        rw [hz] at this
        simp at this
        omega
      | cons u us =>
        dsimp only
        obtain ⟨u1, u2, u3⟩ := za_mem (cs := rCounts p.2) (u := u) (by rw [hz]; exact List.mem_cons_self)
        rw [(counts_spec hg).1] at u2
        have hw := write_one hg hms (b := k) (fr := u) ⟨by omega, by omega⟩ ⟨u1, u2, u3⟩ (by omega)
        have hasg : asgOk p.2 v ⟨k, 1, u⟩ = true := asg_iff.2 ⟨by show (1 : Int) ≤ 1; omega, inB_iff.2 ⟨by show 0 ≤ k; omega, by show (0 : Int) ≤ 1; omega, by show k + 1 ≤ v.n; omega⟩, u1, by show u + 1 ≤ p.2.k; omega⟩
        have hpr : Pr ⟨k, 1, u⟩ := ⟨by show (1 : Int) ≤ 1; omega, ⟨by show 0 ≤ k; omega, by show (0 : Int) ≤ 1; omega, by show k ≤ 65536; omega, by show (1 : Int) ≤ 65536 - k; omega⟩, ⟨u1, by show (0 : Int) ≤ 1; omega, by show u ≤ 65536; have := hg.k; omega, by show (1 : Int) ≤ 65536 - u; have := hg.k; omega⟩⟩
        have ea : rAssign p.2 s ⟨k, 1, u⟩ = (rWith p.2 ⟨v.s, v.n, v.r, rput v.l ⟨k, 1, u⟩⟩, rFreed p.2 (rWith p.2 ⟨v.s, v.n, v.r, rput v.l ⟨k, 1, u⟩⟩), 0) := by
          unfold rAssign
          rw [hm]
          dsimp only
          rw [if_pos hasg]
          unfold rAsg
          rw [show (rPut v.l ⟨k, 1, u⟩).1 = rput v.l ⟨k, 1, u⟩ from by unfold rPut; rw [if_pos hpr]]
        have hrel := (rel_assign hr s ⟨k, 1, u⟩).2.2 (by rw [ea])
        rw [ea] at hrel ⊢
        have hra2 := room_at (v := ⟨v.s, v.n, v.r, rput v.l ⟨k, 1, u⟩⟩) hw.ok hw.at_
        rw [show oth (⟨v.s, v.n, v.r, rput v.l ⟨k, 1, u⟩⟩ : RV).s (rWith p.2 ⟨v.s, v.n, v.r, rput v.l ⟨k, 1, u⟩⟩).vs = oth v.s p.2.vs from hw.others] at hra2
        have h1 := hw.fr
        have h2 := hw.ex
        have h3 := hw.cl
        have h4 := hw.prt (k + 1) e (by omega) (by omega) (by omega) (.inr (by omega))
        have h5 := hw.prt a k (by omega) (by omega) (by omega) (.inl (by omega))
        have h6 := hw.new
        have hv2 := hw.ok.vol _ (gl_mem hw.at_).1
        obtain ⟨b5, b6⟩ := ex_bd hw.ok (gl_mem hw.at_).1 (a := a) (b := k) h0 hak (by omega)
        have hsa2 := exH_parts_split (cs := rCounts (rWith p.2 ⟨v.s, v.n, v.r, rput v.l ⟨k, 1, u⟩⟩)) hv2.ok (a := a) (b := k) (c := k + 1) (by omega) (by omega)
        have c1 : clV (rCounts p.2) v = max 0 (v.r - exH (rCounts p.2) v.l) := rfl
        have c2 : clV (rCounts (rWith p.2 ⟨v.s, v.n, v.r, rput v.l ⟨k, 1, u⟩⟩)) ⟨v.s, v.n, v.r, rput v.l ⟨k, 1, u⟩⟩ = max 0 (v.r - exH (rCounts (rWith p.2 ⟨v.s, v.n, v.r, rput v.l ⟨k, 1, u⟩⟩)) (rput v.l ⟨k, 1, u⟩)) := rfl
        simp only [] at h2 h4 h5 h6 hsa2 b5 b6
        refine ⟨⟨v.s, v.n, v.r, rput v.l ⟨k, 1, u⟩⟩, ⟨hrel, ?_⟩, by rw [← hvs]; exact hw.at_, hn, h.r, ?_, ?_⟩
        · show 0 ≤ room (rWith p.2 ⟨v.s, v.n, v.r, rput v.l ⟨k, 1, u⟩⟩)
          omega
        · show e - (k + 1) - exH (rCounts (rWith p.2 ⟨v.s, v.n, v.r, rput v.l ⟨k, 1, u⟩⟩)) (Xt.parts (rput v.l ⟨k, 1, u⟩) (k + 1) e) ≤ clV (rCounts (rWith p.2 ⟨v.s, v.n, v.r, rput v.l ⟨k, 1, u⟩⟩)) ⟨v.s, v.n, v.r, rput v.l ⟨k, 1, u⟩⟩ + room (rWith p.2 ⟨v.s, v.n, v.r, rput v.l ⟨k, 1, u⟩⟩)
          omega
        · show exH (rCounts (rWith p.2 ⟨v.s, v.n, v.r, rput v.l ⟨k, 1, u⟩⟩)) (Xt.parts (rput v.l ⟨k, 1, u⟩) a (k + 1)) = k + 1 - a
          omega
theorem parts_same (L : List X) (a : Int) : Xt.parts L a a = [] := parts_none
theorem exH_nil (cs : List Int) : exH cs [] = 0 := sumR_zero fun _ _ => by simp [hits]
theorem wi_start {p : Fam × RF} (h : Snd p) {s : ByteArray} {a n : Int} (hc : rCanWrite p.2 s a n = 0) : ∃ v, gl s p.2.vs = some v ∧ 0 ≤ a ∧ 0 ≤ n ∧ a + n ≤ v.n ∧ WI p s v.n v.r a a (a + n) v ∧ (rNeed p.2 s a n).1 ≤ frN (rCounts p.2) ∧ 0 ≤ (rNeed p.2 s a n).1 := by
  have hg := h.rel.ok
  unfold rCanWrite at hc
  by_cases q : (rNeed p.2 s a n).2 = 0
  · rw [if_pos q] at hc
    cases hm : gl s p.2.vs with
    | none =>
      have er : rRange p.2 s a n = ([], 9) := by
        unfold rRange
        rw [hm]
      have : (rNeed p.2 s a n).2 = 9 := by unfold rNeed; rw [er]; rfl
      omega
    | some v =>
      have hv := hg.vol v (gl_mem hm).1
      have hin : inB v.n a n = true := by
        by_cases q2 : inB v.n a n = true
        · exact q2
        · have er : rRange p.2 s a n = ([], 2) := by
            unfold rRange
            rw [hm]
            dsimp only
            rw [if_neg q2]
          have : (rNeed p.2 s a n).2 = 2 := by unfold rNeed; rw [er]; rfl
          omega
      obtain ⟨i1, i2, i3⟩ := inB_iff.1 hin
      have en := need_at hg hm i1 i2 i3
      have ec : (rClaim p.2 s).1 = clV (rCounts p.2) v := by
        have := claim_at hg (gl_mem hm).1
        rw [(gl_mem hm).2] at this
        rw [this]
      have hvn := hv.n
      have hroom := h.room
      rw [ec, room_eq hg, en] at hc
      have hms : gl v.s p.2.vs = some v := by rw [(gl_mem hm).2]; exact hm
      have hra := room_at hg hms
      have hcn := clS_nn (rCounts p.2) (oth v.s p.2.vs)
      obtain ⟨b1, b2⟩ := ex_bd hg (gl_mem hm).1 (a := a) (b := a + n) i1 (by omega) (by omega)
      rw [en]
      have hc : ¬ clV (rCounts p.2) v + max 0 (room p.2) < n - exH (rCounts p.2) (Xt.parts v.l a (a + n)) := fun q3 => by rw [if_pos q3] at hc; cases hc
      refine ⟨v, rfl, i1, i2, i3, ⟨h, hm, rfl, rfl, by omega, ?_⟩, ?_, ?_⟩
      · rw [parts_same, exH_nil]; omega
      · show n - exH _ _ ≤ _; omega
      · show 0 ≤ n - exH _ _; omega
  · rw [if_neg q] at hc
    exact absurd hc q
theorem wr_run {p : Fam × RF} {s : ByteArray} {n0 r0 a e : Int} {v : RV} (h : WI p s n0 r0 a a e v) (h0 : 0 ≤ a) (he : e ≤ n0) : ∀ j : Nat, a + j ≤ e → ∃ v', WI (wrN p s a j) s n0 r0 a (a + j) e v'
  | 0, _ => ⟨v, by rw [show a + ((0 : Nat) : Int) = a from by omega]; exact h⟩
  | j + 1, hj => by
    obtain ⟨v', hw⟩ := wr_run h h0 he j (by omega)
    obtain ⟨_, _, v2, h2⟩ := wr_step hw h0 (by omega) (by omega) he
    exact ⟨v2, by rw [show a + ((j + 1 : Nat) : Int) = a + (j : Int) + 1 from by omega]; exact h2⟩
theorem wr_snd {p : Fam × RF} (h : Snd p) {s : ByteArray} {a n : Int} (hc : rCanWrite p.2 s a n = 0) : Snd (wrN p s a n.toNat) := by
  obtain ⟨v, _, h1, h2, h3, hw, _⟩ := wi_start h hc
  obtain ⟨v', h4⟩ := wr_run hw h1 h3 n.toNat (by omega)
  exact h4.snd
def ap (p : Fam × RF) (t : St6) : Fam × RF := if (rApply p.2 t).2.2 = 0 then ((fApply p.1 t).1, (rApply p.2 t).1) else p
def pm (p : Fam × RF) (t : St6) : Fam × RF :=
  if t.k % 8 = 0 then (if rCanCreate p.2 t.n t.a = 0 then ap p t else p)
  else if t.k % 8 = 1 then (if rCanClone p.2 (nm t.v) = 0 then ap p t else p)
  else if t.k % 8 = 2 ∨ t.k % 8 = 3 then ap p t
  else if rCanWrite p.2 (nm t.v) t.a t.n = 0 then wrN p (nm t.v) t.a t.n.toNat else p
theorem ap_rel {p : Fam × RF} (h : Rel p.1 p.2) (t : St6) : Rel (ap p t).1 (ap p t).2 := by
  unfold ap
  split
  · rename_i q; exact (rel_apply h t).2.2 q
  · exact h
theorem create_room {g : RF} (h : GOk g) {s : ByteArray} {n r : Int} (hc : (rCreate g s n r).2 = 0) : room (rCreate g s n r).1 = room g - r := by
  unfold rCreate at hc ⊢
  by_cases q : badN s n r
  · rw [if_pos q] at hc; cases hc
  · rw [if_neg q] at hc ⊢
    cases hg : gl s g.vs with
    | some w => rw [hg] at hc; cases hc
    | none =>
      rw [hg] at hc
      dsimp only at hc ⊢
      by_cases q2 : 32 ≤ g.vs.length
      · rw [if_pos q2] at hc; cases hc
      · rw [if_neg q2]
        unfold badN at q
        simp only [not_or, Bool.not_eq_false] at q
        obtain ⟨q1, q2', q3, q4, q5⟩ := q
        exact room_create h ⟨⟨by show 1 ≤ n; omega, by show n ≤ 65536; omega⟩, ⟨by show 0 ≤ r; omega, by show r ≤ n; omega⟩, trivial, trivial, fun x hx => (by cases hx), q1⟩ hg (by omega)
theorem clone_room {g : RF} (h : GOk g) {s o : ByteArray} (hc : (rClone g s o).2 = 0) : ∃ v, gl s g.vs = some v ∧ room (rClone g s o).1 = room g - (v.r - clV (rCounts g) v) := by
  unfold rClone at hc ⊢
  cases hm : gl s g.vs with
  | none => rw [hm] at hc; cases hc
  | some v =>
    rw [hm] at hc
    dsimp only at hc ⊢
    by_cases q : nameE o = false
    · rw [if_pos q] at hc; cases hc
    · rw [if_neg q] at hc ⊢
      cases hg : gl o g.vs with
      | some w => rw [hg] at hc; cases hc
      | none =>
        rw [hg] at hc
        dsimp only at hc ⊢
        by_cases q2 : 32 ≤ g.vs.length
        · rw [if_pos q2] at hc; cases hc
        · rw [if_neg q2]
          exact ⟨v, rfl, room_clone h (by rw [(gl_mem hm).2]; exact hm) (by simpa using q) hg (by omega)⟩
theorem canClone_at {g : RF} (h : GOk g) {s : ByteArray} {v : RV} (hm : gl s g.vs = some v) : rCanClone g s = if room g - (v.r - clV (rCounts g) v) < 0 then 11 else 0 := by
  have h1 := info_at h (gl_mem hm).1
  have h2 := claim_at h (gl_mem hm).1
  rw [(gl_mem hm).2] at h1 h2
  unfold rCanClone
  rw [h1, h2, if_pos rfl, room_eq h]
theorem pm_snd {p : Fam × RF} (h : Snd p) (t : St6) : Snd (pm p t) := by
  have hg := h.rel.ok
  have hroom := h.room
  unfold pm
  split
  · rename_i k0
    split
    · rename_i q
      refine ⟨ap_rel h.rel t, ?_⟩
      unfold ap
      split
      · rename_i q2
        have e : rApply p.2 t = ((rCreate p.2 (nm t.v) t.n t.a).1, [], (rCreate p.2 (nm t.v) t.n t.a).2) := by unfold rApply; rw [if_pos k0]
        rw [e] at q2 ⊢
        have := create_room hg q2
        show 0 ≤ room (rCreate p.2 (nm t.v) t.n t.a).1
        rw [this]
        unfold rCanCreate at q
        split at q
        · cases q
        · split at q
          · cases q
          · rw [room_eq hg] at *; omega
      · exact hroom
    · exact h
  split
  · rename_i k0 k1
    split
    · rename_i q
      refine ⟨ap_rel h.rel t, ?_⟩
      unfold ap
      split
      · rename_i q2
        have e : rApply p.2 t = ((rClone p.2 (nm t.v) (nm t.o)).1, [], (rClone p.2 (nm t.v) (nm t.o)).2) := by unfold rApply; rw [if_neg k0, if_pos k1]
        rw [e] at q2 ⊢
        obtain ⟨v, hm, hr⟩ := clone_room hg q2
        rw [canClone_at hg hm] at q
        split at q
        · cases q
        · show 0 ≤ room (rClone p.2 (nm t.v) (nm t.o)).1
          omega
      · exact hroom
    · exact h
  split
  · rename_i k0 k1 k23
    refine ⟨ap_rel h.rel t, ?_⟩
    unfold ap
    split
    · rename_i q2
      rcases k23 with k2 | k3
      · have e : rApply p.2 t = rDelete p.2 (nm t.v) := by unfold rApply; rw [if_neg k0, if_neg k1, if_pos k2]
        rw [e] at q2 ⊢
        show 0 ≤ room (rDelete p.2 (nm t.v)).1
        unfold rDelete at q2 ⊢
        cases hm : gl (nm t.v) p.2.vs with
        | none => rw [hm] at q2; cases q2
        | some v =>
          dsimp only
          obtain ⟨i, i1, i2, i3, i4⟩ := at_some hm
          have hdel : rDel p.2 (rAt p.2.vs (nm t.v)).toNat = ⟨p.2.k, oth (nm t.v) p.2.vs⟩ := by
            unfold rDel
            rw [i2, Int.toNat_natCast, del_eq hg.srt i2 i1]
          have := room_delete hg (v := v) (by rw [(gl_mem hm).2]; exact hm)
          rw [hdel]
          rw [(gl_mem hm).2] at this
          omega
      · have e : rApply p.2 t = rUnmap p.2 (nm t.v) t.a t.n := by unfold rApply; rw [if_neg k0, if_neg k1, if_neg (by omega), if_pos k3]
        rw [e] at q2 ⊢
        show 0 ≤ room (rUnmap p.2 (nm t.v) t.a t.n).1
        unfold rUnmap at q2 ⊢
        cases hm : gl (nm t.v) p.2.vs with
        | none => rw [hm] at q2; cases q2
        | some v =>
          rw [hm] at q2
          dsimp only at q2 ⊢
          split at q2
          · rename_i q3
            rw [if_pos q3]
            obtain ⟨i1, i2, i3⟩ := inB_iff.1 q3
            have hvn := (hg.vol v (gl_mem hm).1).n
            have := room_cut hg (v := v) (by rw [(gl_mem hm).2]; exact hm) i1 i2 (by omega)
            show 0 ≤ room (rUnm p.2 v t.a t.n)
            unfold rUnm rCut
            rw [if_pos ⟨i1, i2, by omega, by omega⟩]
            show 0 ≤ room (rWith p.2 ⟨v.s, v.n, v.r, rcut v.l t.a t.n⟩)
            omega
          · cases q2
    · exact hroom
  split
  · rename_i q; exact wr_snd h q
  · exact h
theorem ap_keep {p : Fam × RF} (h : Rel p.1 p.2) {t : St6} {s : ByteArray} (h1 : s ≠ nm t.v) (h2 : s ≠ nm t.o) : gl s (ap p t).2.vs = gl s p.2.vs := by
  have hg := h.ok
  unfold ap
  split
  · rename_i q
    show gl s (rApply p.2 t).1.vs = _
    unfold rApply at q ⊢
    split
    · rename_i k0
      rw [if_pos k0] at q
      unfold rCreate at q ⊢
      dsimp only at q ⊢
      split
      · rename_i q1; rw [if_pos q1] at q; cases q
      · rename_i q1
        rw [if_neg q1] at q
        cases hm : gl (nm t.v) p.2.vs with
        | some w => rw [hm] at q; cases q
        | none =>
          rw [hm] at q
          dsimp only at q ⊢
          split
          · rename_i q2; rw [if_pos q2] at q; cases q
          · show gl s (rWithL p.2.vs _) = _
            rw [gl_with hg, if_neg h1]
    rename_i k0
    rw [if_neg k0] at q
    split
    · rename_i k1
      rw [if_pos k1] at q
      unfold rClone at q ⊢
      dsimp only at q ⊢
      cases hm : gl (nm t.v) p.2.vs with
      | none => rw [hm] at q; cases q
      | some v =>
        rw [hm] at q
        dsimp only at q ⊢
        split
        · rename_i q1; rw [if_pos q1] at q; cases q
        · rename_i q1
          rw [if_neg q1] at q
          cases hm2 : gl (nm t.o) p.2.vs with
          | some w => rw [hm2] at q; cases q
          | none =>
            rw [hm2] at q
            dsimp only at q ⊢
            split
            · rename_i q2; rw [if_pos q2] at q; cases q
            · show gl s (rWithL p.2.vs _) = _
              rw [gl_with hg, if_neg h2]
    rename_i k1
    rw [if_neg k1] at q
    split
    · rename_i k2
      rw [if_pos k2] at q
      unfold rDelete at q ⊢
      cases hm : gl (nm t.v) p.2.vs with
      | none => rw [hm] at q; cases q
      | some v =>
        dsimp only
        obtain ⟨i, i1, i2, i3, i4⟩ := at_some hm
        unfold rDel
        rw [i2, Int.toNat_natCast, del_eq hg.srt i2 i1]
        show gl s (oth (nm t.v) p.2.vs) = _
        cases hs : gl s p.2.vs with
        | some w =>
          obtain ⟨g1, g2⟩ := gl_mem hs
          subst g2
          exact gl_of_mem (hg.srt.filter _) (oth_mem.2 ⟨g1, h1⟩)
        | none =>
          cases hw : gl s (oth (nm t.v) p.2.vs) with
          | none => rfl
          | some w =>
            obtain ⟨g1, g2⟩ := gl_mem hw
            exact absurd g2 ((at_none hs).2 w (oth_mem.1 g1).1)
    rename_i k2
    rw [if_neg k2] at q
    split
    · rename_i k3
      rw [if_pos k3] at q
      unfold rUnmap at q ⊢
      cases hm : gl (nm t.v) p.2.vs with
      | none => rw [hm] at q; cases q
      | some v =>
        rw [hm] at q
        dsimp only at q ⊢
        split
        · show gl s (rWithL p.2.vs _) = _
          rw [gl_with hg, if_neg (by rw [show (⟨v.s, v.n, v.r, (rCut v.l t.a t.n).1⟩ : RV).s = nm t.v from (gl_mem hm).2]; exact h1)]
        · rename_i q1; rw [if_neg q1] at q; cases q
    · rename_i k3
      rw [if_neg k3] at q
      unfold rAssign at q ⊢
      cases hm : gl (nm t.v) p.2.vs with
      | none => rw [hm] at q; cases q
      | some v =>
        rw [hm] at q
        dsimp only at q ⊢
        split
        · show gl s (rWithL p.2.vs _) = _
          rw [gl_with hg, if_neg (by rw [show (⟨v.s, v.n, v.r, (rPut v.l t.x).1⟩ : RV).s = nm t.v from (gl_mem hm).2]; exact h1)]
        · rename_i q1; rw [if_neg q1] at q; cases q
  · rfl
theorem asg_keep {g : RF} (h : GOk g) {s o : ByteArray} {x : X} (hc : (rAssign g o x).2.2 = 0) (hs : s ≠ o) : gl s (rAssign g o x).1.vs = gl s g.vs := by
  unfold rAssign at hc ⊢
  cases hm : gl o g.vs with
  | none => rw [hm] at hc; cases hc
  | some v =>
    rw [hm] at hc
    dsimp only at hc ⊢
    split
    · show gl s (rWithL g.vs _) = _
      rw [gl_with h, if_neg (by rw [show (⟨v.s, v.n, v.r, (rPut v.l x).1⟩ : RV).s = o from (gl_mem hm).2]; exact hs)]
    · rename_i q1; rw [if_neg q1] at hc; cases hc
theorem wr_keep {p : Fam × RF} {s o : ByteArray} {n0 r0 a e : Int} {v : RV} (h : WI p o n0 r0 a a e v) (h0 : 0 ≤ a) (he : e ≤ n0) (hs : s ≠ o) : ∀ j : Nat, a + j ≤ e → gl s (wrN p o a j).2.vs = gl s p.2.vs
  | 0, _ => rfl
  | j + 1, hj => by
    have ih := wr_keep h h0 he hs j (by omega)
    obtain ⟨v', hw⟩ := wr_run h h0 he j (by omega)
    obtain ⟨_, _, v2, h2⟩ := wr_step hw h0 (by omega) (by omega) he
    show gl s (wr1 (wrN p o a j) o (a + j)).2.vs = _
    rw [← ih]
    have hg := hw.snd.rel.ok
    have h3 := h2.snd.rel
    have h4 := h2.at_
    unfold wr1 at h3 h4 ⊢
    split
    · rfl
    · rename_i q
      rw [if_neg q] at h3 h4
      cases hz : za (rCounts (wrN p o a j).2) with
      | nil => rfl
      | cons u us =>
        rw [hz] at h3 h4
        dsimp only at h3 h4 ⊢
        by_cases q2 : (rAssign (wrN p o a j).2 o ⟨a + j, 1, u⟩).2.2 = 0
        · exact asg_keep hg q2 hs
        · exfalso
          unfold rAssign at q2 h4
          cases hm : gl o (wrN p o a j).2.vs with
          | none => rw [hm] at h4; cases h4
          | some w =>
            rw [hm] at q2 h4
            dsimp only at q2 h4
            split at q2
            · exact q2 rfl
            · rename_i q3; rw [if_neg q3] at h4; cases h4
theorem pm_keep {p : Fam × RF} (h : Snd p) {t : St6} {s : ByteArray} (h1 : s ≠ nm t.v) (h2 : s ≠ nm t.o) : gl s (pm p t).2.vs = gl s p.2.vs := by
  unfold pm
  split
  · split
    · exact ap_keep h.rel h1 h2
    · rfl
  split
  · split
    · exact ap_keep h.rel h1 h2
    · rfl
  split
  · exact ap_keep h.rel h1 h2
  split
  · rename_i q
    obtain ⟨v, _, i1, i2, i3, hw, _⟩ := wi_start h q
    exact wr_keep hw i1 i3 h1 t.n.toNat (by omega)
  · rfl
theorem reserved_ok {g : RF} (h : GOk g) {s : ByteArray} {v : RV} (hm : gl s g.vs = some v) {a n : Int} (h0 : 0 ≤ a) (hn : 0 ≤ n) (he : a + n ≤ v.n) (hc : (rNeed g s a n).1 ≤ (rClaim g s).1 ∨ v.r = v.n) : rCanWrite g s a n = 0 := by
  have hv := h.vol v (gl_mem hm).1
  have hvn := hv.n
  have en := need_at h hm h0 hn he
  have ec := claim_at h (gl_mem hm).1
  rw [(gl_mem hm).2] at ec
  unfold rCanWrite
  rw [en, if_pos rfl, ec, if_neg]
  show ¬ clV (rCounts g) v + max 0 (rRoom g) < n - exH (rCounts g) (Xt.parts v.l a (a + n))
  rcases hc with hc | hc
  · rw [en, ec] at hc
    have hc : n - exH (rCounts g) (Xt.parts v.l a (a + n)) ≤ clV (rCounts g) v := hc
    omega
  · have s1 := exH_parts_split (cs := rCounts g) hv.ok (a := 0) (b := a) (c := v.n) h0 (by omega)
    have s2 := exH_parts_split (cs := rCounts g) hv.ok (a := a) (b := a + n) (c := v.n) (by omega) (by omega)
    rw [parts_full hv.ok fun x hx => (hv.inn x hx).1] at s1
    have b1 := (ex_bd h (gl_mem hm).1 (a := 0) (b := a) (by omega) h0 (by omega)).2
    have b2 := (ex_bd h (gl_mem hm).1 (a := a + n) (b := v.n) (by omega) (by omega) (by omega)).2
    have e : clV (rCounts g) v = max 0 (v.r - exH (rCounts g) v.l) := rfl
    omega
end Go.Proofs.YtjglgfnhgehpeaaGreat

/- Sizes and places of this program's types, each asked of the kernel. -/
namespace Go.Proofs.YtjglgfnhgehpeaaGreat
open Go.Fw
theorem ag_ef36_Family : aggs Tryz.prog 45 = some 2 := by kernel_rfl
theorem ag_ef36_Volume : aggs Tryz.prog 56 = some 4 := by kernel_rfl
theorem ei_s_tegularef36_Volume : elemInfo Tryz.prog 43 = some (56, 4, 56, 4) := by kernel_rfl
theorem el_s_tegularef36_Volume : elemSz Tryz.prog 43 = some 4 := by kernel_rfl
theorem fo_ef36_Family_0 : fieldOff Tryz.prog 45 0 = some 0 := by kernel_rfl
theorem fo_ef36_Family_1 : fieldOff Tryz.prog 45 1 = some 1 := by kernel_rfl
theorem fo_ef36_Volume_0 : fieldOff Tryz.prog 56 0 = some 0 := by kernel_rfl
theorem fo_ef36_Volume_1 : fieldOff Tryz.prog 56 1 = some 1 := by kernel_rfl
theorem fo_ef36_Volume_2 : fieldOff Tryz.prog 56 2 = some 2 := by kernel_rfl
theorem fo_ef36_Volume_3 : fieldOff Tryz.prog 56 3 = some 3 := by kernel_rfl
theorem pl_ef36_Family_0 : place Tryz.prog 45 0 = some (0, 1) := by kernel_rfl
theorem pl_ef36_Family_1 : place Tryz.prog 45 1 = some (1, 1) := by kernel_rfl
theorem pl_ef36_Volume_0 : place Tryz.prog 56 0 = some (0, 1) := by kernel_rfl
theorem pl_ef36_Volume_1 : place Tryz.prog 56 1 = some (1, 1) := by kernel_rfl
theorem pl_ef36_Volume_2 : place Tryz.prog 56 2 = some (2, 1) := by kernel_rfl
theorem ps_ef36_Family : (placesOf Tryz.prog 45).isSome = true := by kernel_rfl
theorem ps_ef36_Volume : (placesOf Tryz.prog 56).isSome = true := by kernel_rfl
theorem sc_s_tegularef36_Volume : scal Tryz.prog 43 = true := by kernel_rfl
theorem sc_string : scal Tryz.prog 9 = true := by kernel_rfl
theorem sz_ef36_Family : sizeT Tryz.prog 45 = some 2 := by kernel_rfl
theorem sz_ef36_Volume : sizeT Tryz.prog 56 = some 4 := by kernel_rfl
theorem sz_s_tegularef36_Volume : sizeT Tryz.prog 43 = some 1 := by kernel_rfl
theorem sz_string : sizeT Tryz.prog 9 = some 1 := by kernel_rfl
theorem us_s_bool : Tryz.prog.underlying 151 = some (.slice 4) := by kernel_rfl
theorem us_s_tegularef36_Volume : Tryz.prog.underlying 43 = some (.slice 56) := by kernel_rfl
theorem zr_ef36_Family : zeros Tryz.prog 45 = some [.int .i64 0, .slice none 0 0] := by kernel_rfl
theorem zr_ef36_Volume : zeros Tryz.prog 56 = some [.string ByteArray.empty, .int .i64 0, .int .i64 0, .slice none 0 0] := by kernel_rfl
end Go.Proofs.YtjglgfnhgehpeaaGreat

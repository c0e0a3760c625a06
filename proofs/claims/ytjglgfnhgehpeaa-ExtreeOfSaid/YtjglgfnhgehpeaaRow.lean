/- A law's row: its arguments as facts; they read behind the call as before it. No program in sight. -/
import Derived.Test.YtjglgfnhgehpeaaFwv
import Derived.WalkKit
import Derived.ProofKit
import Derived.OpenShut
import Derived.Deep.Slices
import Derived.Carry
namespace Go.Fw
open Go.RowKit Go.Proofs Go.ChangeShapes Go.WideShapes
set_option linter.unusedVariables false
set_option linter.unusedSimpArgs false
section
variable {H : Type} {enc : TypeId × Value → H} {P : Program}
theorem trodAll_stays (hl : laidOutB P = true) {W W' : World} {sp' : Nat → Bool} : ∀ {ts : List TypeId} {vs : List Value} {ds : List (DataW H)} {ps : List MemPlace}, (∀ t ∈ ts, P.readableRec t = true ∧ t < P.types.size) → DataW.TrodAll enc P W 0 (fun _ => true) true ts vs ds ps →
    (∀ p ∈ ps, W.sameAt W' p) → (∀ p ∈ ps, sp' p.block = true) → DataW.TrodAll enc P W' 0 sp' true ts vs ds ps
  | [], [], [], _, _, h, _, _ => h
  | t :: ts, v :: vs, d :: ds, ps, ht, ⟨p, q, h1, h2, e⟩, hs, hsp => by
    subst e
    exact ⟨p, q, WideElems.Trod_stays hl (ht t List.mem_cons_self).1 (ht t List.mem_cons_self).2 h1 (fun x hx => hs x (List.mem_append_left _ hx)) (fun x hx => hsp x (List.mem_append_left _ hx)),
      trodAll_stays hl (fun t ht' => ht t (List.mem_cons_of_mem _ ht')) h2 (fun x hx => hs x (List.mem_append_right _ hx)) (fun x hx => hsp x (List.mem_append_right _ hx)), rfl⟩

/-! ### structs of whole numbers and Bools -/
def skOk : Option IntKind → Value → Prop
  | none, v => ∃ b, v = .bool b
  | some k, v => ∃ n, v = .int k n ∧ (Lit.int k n).wf = true
def SkAll : List (Option IntKind) → List Value → Prop
  | [], [] => True
  | k :: ks, v :: vs => skOk k v ∧ SkAll ks vs
  | _, _ => False
def skField (P : Program) (i : Nat) (f : Field) (k : Option IntKind) : Bool := f.offset == i && P.cellsOf f.type == 1 && (match k, P.underlying f.type with | none, some .bool => true | some k, some (.int k') => k == k' | _, _ => false)
def skFields (P : Program) (e : TypeId) (ks : List (Option IntKind)) : Bool := match P.underlying e with
  | some (.struct fs) => decide (fs.size = ks.length) && decide (P.cellsOf e = ks.length) && (List.range ks.length).all fun i => match fs[i]?, ks[i]? with | some f, some k => skField P i f k | _, _ => false
  | _ => false
theorem SkAll.of_get : ∀ {ks : List (Option IntKind)} {cs : List Value}, cs.length = ks.length → (∀ (i : Nat) (k : Option IntKind) (v : Value), ks[i]? = some k → cs[i]? = some v → skOk k v) → SkAll ks cs
  | [], [], _, _ => trivial
  | k :: ks, [], h, _ => by simp at h
  | [], c :: cs, h, _ => by simp at h
  | k :: ks, c :: cs, h, hg => ⟨hg 0 k c rfl rfl, SkAll.of_get (by simpa using h) fun i k' v h1 h2 => hg (i + 1) k' v (by simpa using h1) (by simpa using h2)⟩
theorem sk_of_trod {w : World} {base : Nat} {spare : Nat → Bool} {held : Bool} {fuel : Nat} {e : TypeId} {ks : List (Option IntKind)} {cs : List Value} {x : DataW H × List MemPlace} (hk : skFields P e ks = true) (h : DataW.trod enc P w base spare held fuel e cs = some x) : SkAll ks cs := by
  unfold skFields at hk
  split at hk
  · rename_i fs hu
    simp only [Bool.and_eq_true, decide_eq_true_eq] at hk
    obtain ⟨⟨h1, h2⟩, h3⟩ := hk
    obtain ⟨xs, n, _, _, hl, hx, hf⟩ := DataW.trod_struct hu h
    refine SkAll.of_get (by omega) fun i k v hki hvi => ?_
    have hik := (List.getElem?_eq_some_iff.1 hki).1
    have h4 := List.all_eq_true.1 h3 i (List.mem_range.2 hik)
    rw [hki] at h4
    cases hfi : fs[i]? with
    | none => rw [hfi] at h4; cases h4
    | some f =>
      rw [hfi] at h4
      unfold skField at h4
      simp only [Bool.and_eq_true, beq_iff_eq] at h4
      obtain ⟨⟨h5, h6⟩, h7⟩ := h4
      have h8 := hf i f hfi
      have hxi : xs[i]? = some xs[i] := List.getElem?_eq_getElem (by omega)
      rw [hxi, h5, h6] at h8
      have h9 : (cs.drop i).take 1 = [v] := by
        have hlt := (List.getElem?_eq_some_iff.1 hvi).1
        rw [List.drop_eq_getElem_cons hlt, List.take_succ_cons, List.take_zero]
        rw [List.getElem?_eq_getElem hlt] at hvi
        cases hvi
        rfl
      rw [h9] at h8
      cases hq : P.underlying f.type with
      | none => rw [hq] at h7; cases k <;> cases h7
      | some dd =>
        rw [hq] at h7
        cases k with
        | none => cases dd <;> first | (cases h7; done) | (obtain ⟨b, h, _⟩ := DataW.trod_bool hq h8; cases h; exact ⟨b, rfl⟩)
        | some k => cases dd <;> first | (cases h7; done) | (rename_i k2; have hkk : k = k2 := by simpa using h7
                                                             subst hkk
                                                             obtain ⟨m, h, _, hw⟩ := DataW.trod_int hq h8; cases h; exact ⟨m, rfl, hw⟩)
  · cases hk
theorem SkAll.one : ∀ {ks : List (Option IntKind)} {cs : List Value}, SkAll ks cs → cs.all (·.oneCell') = true
  | [], [], _ => rfl
  | none :: ks, v :: vs, ⟨⟨b, h⟩, h2⟩ => by subst h; rw [List.all_cons, SkAll.one h2]; rfl
  | some k :: ks, v :: vs, ⟨⟨n, h, _⟩, h2⟩ => by subst h; rw [List.all_cons, SkAll.one h2]; rfl
/-- a slice of such structs among the arguments -/
theorem open_sl {α : Type} {W : World} {t e : TypeId} {A : Option Addr} {len cap : Nat} {d : DataW H} {p : List MemPlace} {ks : List (Option IntKind)} (encS : α → List Value) (U : α → Prop) (hdec : ∀ cs, SkAll ks cs → ∃ x, U x ∧ cs = encS x) (ht : P.underlying t = some (.slice e)) (hk : skFields P e ks = true) (hks : 0 < ks.length)
    (h : DataW.Trod enc P W 0 (fun _ => true) true t (.slice A len cap) d p) :
    ∃ xs : List α, (∀ x ∈ xs, U x) ∧ xs.length ≤ maxLen ∧ (sl ks.length (fun x => (encS x).map val) xs).h (.slice A len cap) W (fun _ => False) := by
  obtain ⟨fuel, hf⟩ := h
  rcases Go.Deep.open_slice ht hf with ⟨h1, _⟩ | ⟨a, len', cap', m, n, D, Pl, h1, hb, hl, hm, hmm, _, hel⟩
  · have h1 : [Value.slice A len cap] = [.slice none 0 0] := by simpa [Value.cells] using h1
    cases h1
    exact ⟨[], by simp, Nat.zero_le _, none, 0, rfl, Nat.le_refl _, .inl rfl⟩
  · have h1 : [Value.slice A len cap] = [.slice (some a) len' cap'] := by simpa [Value.cells] using h1
    cases h1
    have hm' : m = cap := by simpa using hmm
    subst hm'
    have hce : P.cellsOf e = ks.length := by
      unfold skFields at hk
      split at hk
      · simp only [Bool.and_eq_true, decide_eq_true_eq] at hk; exact hk.1.2
      · cases hk
    -- element by element
    have hex : ∀ i, i < len → ∃ x, U x ∧ W.cells? 0 (a.add (i * ks.length)) ks.length = some (encS x) ∧ (encS x).all (·.oneCell') = true := fun i hi => by
      obtain ⟨cs, g1, g2⟩ := hel i (by omega)
      have hs := sk_of_trod hk g2
      obtain ⟨x, hx, rfl⟩ := hdec cs hs
      rw [hce] at g1
      exact ⟨x, hx, g1, hs.one⟩
    have hlist : ∀ k, k ≤ len → ∃ xs : List α, xs.length = k ∧ ∀ (i : Nat) (x : α), xs[i]? = some x → U x ∧ W.cells? 0 (a.add (i * ks.length)) ks.length = some (encS x) ∧ (encS x).all (·.oneCell') = true := by
      intro k
      induction k with
      | zero => intro _; exact ⟨[], rfl, fun i x h => by simp at h⟩
      | succ k ih =>
        intro hk'
        obtain ⟨xs, l1, l2⟩ := ih (by omega)
        obtain ⟨x, q⟩ := hex k (by omega)
        refine ⟨xs ++ [x], by simp [l1], fun i y hy => ?_⟩
        by_cases e : i < xs.length
        · rw [List.getElem?_append_left e] at hy; exact l2 i y hy
        · rw [List.getElem?_append_right (by omega)] at hy
          have : i = k := by
            have := (List.getElem?_eq_some_iff.1 hy).1
            simp at this; omega
          subst this
          rw [l1] at hy
          simp at hy
          subst hy
          exact q
    obtain ⟨xs, l1, l2⟩ := hlist len (Nat.le_refl _)
    subst l1
    refine ⟨xs, fun x hx => ?_, by omega, some a, m, rfl, hl, ?_⟩
    · obtain ⟨i, hi⟩ := List.getElem?_of_mem hx
      exact (l2 i x hi).1
    · cases xs with
      | nil => exact .inl rfl
      | cons x0 xs =>
        right
        have hq := (l2 0 x0 rfl).2.1
        obtain ⟨_, hlen0, hq2⟩ := World.cells?_some hq
        have hc0 : ∃ v, W.cell? (a.add 0) = some v := by
          have := hq2 0 hks
          rw [Nat.zero_mul] at this
          cases hc : W.cell? ((a.add 0).add 0) with
          | some v => exact ⟨v, by simpa [Addr.add] using hc⟩
          | none =>
            rw [hc] at this
            have h0 : (encS x0)[0]? = none := this.symm
            rw [List.getElem?_eq_none_iff] at h0
            omega
        obtain ⟨v0, hv0⟩ := hc0
        obtain ⟨b, off, spot⟩ := a
        have hspot : spot = none := by simpa [Addr.add] using World.cell?_spot hv0
        subst hspot
        refine ⟨b, off, rfl, ?_, fun h => h, fun i x hx => ?_⟩
        · have := World.cells?_block hq hks
          rw [add_plain] at this
          exact this
        · obtain ⟨_, g1, g2⟩ := l2 i x hx
          obtain ⟨_, k1, k2⟩ := World.cells?_some g1
          rw [add_plain] at k2
          refine CellsAt.of_all2 (All2.vals g2) fun j v hj => ?_
          have hjl := (List.getElem?_eq_some_iff.1 hj).1
          have := k2 j (by omega)
          rw [add_plain] at this
          rw [this, hj]
end
end Go.Fw

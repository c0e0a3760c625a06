/- More: how a way goes on, loops, structs built, elements read. No program in sight. -/
import Derived.Test.YtjglgfnhgehpeaaFwr
namespace Go.Fw
open Go.RowKit Go.Proofs
set_option linter.unusedVariables false
set_option linter.unusedSimpArgs false
section
variable {P : Program} {w0 : World} {M0 : Mask} {n : Nat} {bs : List Box} {st : St} {ops : Array Oper} {l : List Oper} {Q : Exit → Act → World → Prop} {K : Act → World → Prop}

theorem le_ {a b : Nat} (h : Nat.ble a b = true) : a ≤ b := Nat.le_of_ble_eq_true h
/-- the state leads to what stands behind an exit -/
def Lead (w0 : World) (M0 : Mask) (n : Nat) (bs : List Box) (st : St) (e : Exit) (Q : Exit → Act → World → Prop) : Prop := ∀ a w, Ok w0 M0 n bs st a w → Q e a w
theorem Lead.thn {y : Code} (h : WP P w0 M0 n bs st y Q) : Lead w0 M0 n bs st .normal (Exit.then (y.wp P Q) Q) := h
theorem Lead.blk {id : Nat} (h : Lead w0 M0 n bs st .normal Q) : Lead w0 M0 n bs st .normal (Exit.inBlock id Q) := h
theorem Lead.rthn (h : Lead w0 M0 n bs st .ret Q) : Lead w0 M0 n bs st .ret (Exit.then K Q) := h
theorem Lead.rblk {id : Nat} (h : Lead w0 M0 n bs st .ret Q) : Lead w0 M0 n bs st .ret (Exit.inBlock id Q) := h
theorem Lead.xthn {id : Nat} (h : Lead w0 M0 n bs st (.exit id) Q) : Lead w0 M0 n bs st (.exit id) (Exit.then K Q) := h
theorem Lead.xin {id : Nat} (h : Lead w0 M0 n bs st .normal Q) : Lead w0 M0 n bs st (.exit id) (Exit.inBlock id Q) := fun a w hok => by simp only [Exit.inBlock, if_true]; exact h a w hok
theorem Lead.xblk {id id' : Nat} (hne : id' ≠ id) (h : Lead w0 M0 n bs st (.exit id') Q) : Lead w0 M0 n bs st (.exit id') (Exit.inBlock id Q) := fun a w hok => by simp only [Exit.inBlock, if_neg hne]; exact h a w hok
theorem WL.nl (h : Lead w0 M0 n bs st .normal Q) : WL P w0 M0 n bs st ops [] Q := WL.nil h
theorem WP.sk (h : Lead w0 M0 n bs st .normal Q) : WP P w0 M0 n bs st .skip Q := WP.skip h
theorem WP.rt (h : Lead w0 M0 n bs st .ret Q) : WP P w0 M0 n bs st .ret Q := WP.ret h
theorem WP.xt {id : Nat} (h : Lead w0 M0 n bs st (.exit id) Q) : WP P w0 M0 n bs st (.exit id) Q := WP.exit h
theorem Lead.r1 {fn : Func} {res : Rp} {i : Nat} {R : Rp} (hr : fn.results = #[.tmp i]) (hs : look st i = some R) (hR : ∀ v w M, R.h v w M → res.h v w M) (hd : defs bs = [] := by rfl) : Lead w0 M0 n bs st .ret (bodyPost P fn (Post res w0 M0)) := fun _ _ hok => fin1 hr hs hR hok hd
theorem Lead.r1' {fn : Func} {res : Rp} {i : Nat} {R : Rp} (hr : fn.results = #[.tmp i]) (hs : look st i = some R) (hR : ∀ v w M, R.h v w M → res.h v w M) (hd : defs bs = [] := by rfl) : Lead w0 M0 n bs st .normal (bodyPost P fn (Post res w0 M0)) := fun _ _ hok => fin1' hr hs hR hok hd
theorem Lead.rN {fn : Func} {res : Rp} {xs : List ResultVar} {Rs : List Rp} (hr : fn.results = xs.toArray) (hs : RVs P bs st xs Rs) (h2 : 2 ≤ Rs.length) (hR : ∀ v w M, (tup Rs).h v w M → res.h v w M) (hd : defs bs = [] := by rfl) : Lead w0 M0 n bs st .ret (bodyPost P fn (Post res w0 M0)) := fun _ _ hok => finN hr hs h2 hR hok hd
theorem Lead.rB {fn : Func} {res : Rp} {x : ResultVar} {R : Rp} (hr : fn.results = #[x]) (hs : RV P bs st x R) (hR : ∀ v w M, R.h v w M → res.h v w M) (hd : defs bs = [] := by rfl) : Lead w0 M0 n bs st .ret (bodyPost P fn (Post res w0 M0)) := fun _ _ hok => finB hr hs hR hok hd
theorem WP.condT {i : Nat} {x y : Code} (hs : look st i = some (val (.bool true))) (h : WP P w0 M0 n bs st x Q) : WP P w0 M0 n bs st (.cond (.tmp i) x y) Q := WP.cond hs (fun _ => h) (fun h => by cases h)
theorem WP.condF {i : Nat} {x y : Code} (hs : look st i = some (val (.bool false))) (h : WP P w0 M0 n bs st y Q) : WP P w0 M0 n bs st (.cond (.tmp i) x y) Q := WP.cond hs (fun h => by cases h) (fun _ => h)
/-- a test whose Bool is another's -/
theorem WP.condB {i : Nat} {b : Bool} (c : Bool) {x y : Code} (hs : look st i = some (val (.bool b))) (e : b = c) (ht : c = true → WP P w0 M0 n bs st x Q) (hf : c = false → WP P w0 M0 n bs st y Q) : WP P w0 M0 n bs st (.cond (.tmp i) x y) Q := by
  subst e; exact WP.cond hs ht hf

/-- one state says what another says -/
def Sub (w0 : World) (M0 : Mask) (n : Nat) (bs : List Box) (st : St) (bs' : List Box) (st' : St) : Prop := ∀ a w, Ok w0 M0 n bs st a w → Ok w0 M0 n bs' st' a w
theorem Sub.of {st' : St} (h : ∀ i R, look st' i = some R → ∃ R', look st i = some R' ∧ ∀ v w M, R'.h v w M → R.h v w M) : Sub w0 M0 n bs st bs st' := fun a w hok =>
  ⟨hok.defers, hok.size, fun i R hi => by obtain ⟨R', h1, h2⟩ := h i R hi; exact h2 _ _ _ (hok.facts i R' h1), hok.boxes, hok.nodup, hok.fresh, hok.below, hok.msk, hok.m0⟩
theorem Sub.nil : ∀ i R, look [] i = some R → ∃ R', look st i = some R' ∧ ∀ v w M, R'.h v w M → R.h v w M := fun _ _ h => by simp [look] at h
theorem Sub.cons {st' : St} {i : Nat} {R R' : Rp} (h1 : look st i = some R') (h2 : ∀ v w M, R'.h v w M → R.h v w M) (h : ∀ i R, look st' i = some R → ∃ R', look st i = some R' ∧ ∀ v w M, R'.h v w M → R.h v w M) :
    ∀ j R0, look ((i, R) :: st') j = some R0 → ∃ R', look st j = some R' ∧ ∀ v w M, R'.h v w M → R0.h v w M := fun j R0 hj => by
  simp only [look] at hj
  split at hj
  · rename_i e; subst e; cases hj; exact ⟨R', h1, h2⟩
  · exact h j R0 hj
theorem imp (R : Rp) : ∀ v w M, R.h v w M → R.h v w M := fun _ _ _ h => h
theorem imp_eq {R R' : Rp} (e : R = R') : ∀ v w M, R.h v w M → R'.h v w M := fun _ _ _ h => e ▸ h

theorem WP.cut {y : Code} {α : Type} (bx : α → List Box) (sx : α → St) (x : α) (hs : Sub w0 M0 n bs st (bx x) (sx x)) (h : WP P w0 M0 n (bx x) (sx x) y Q) : WP P w0 M0 n bs st y Q := WP.weak h hs

theorem ex_min {p : Nat → Prop} (h : ∃ m, p m) : ∃ m, p m ∧ ∀ k, p k → m ≤ k := by
  obtain ⟨m, hm⟩ := h
  induction m using Nat.strongRecOn with
  | _ m ih =>
    by_cases hlow : ∃ k, k < m ∧ p k
    · obtain ⟨k, h1, h2⟩ := hlow; exact ih k h1 h2
    · exact ⟨m, hm, fun k hk => Nat.le_of_not_lt fun hlt => hlow ⟨k, hlt, hk⟩⟩
noncomputable def sInfN {p : Nat → Prop} (h : ∃ m, p m) : Nat := (ex_min h).choose
theorem sInfN_spec {p : Nat → Prop} (h : ∃ m, p m) : p (sInfN h) := (ex_min h).choose_spec.1
theorem sInfN_le {p : Nat → Prop} (h : ∃ m, p m) {m : Nat} (hm : p m) : sInfN h ≤ m := (ex_min h).choose_spec.2 m hm
/-- a loop: a family of states -/
def Again {α : Type} (w0 : World) (M0 : Mask) (n : Nat) (bx : α → List Box) (sx : α → St) (I : α → Prop) (μ : α → Nat) (m : Nat) : Act → World → Prop := fun a w => ∃ x, I x ∧ Ok w0 M0 n (bx x) (sx x) a w ∧ μ x < m
open Classical in
theorem WP.loop {α : Type} {c : Code} (bx : α → List Box) (sx : α → St) (I : α → Prop) (μ : α → Nat) (x0 : α) (h0 : I x0) (hs : Sub w0 M0 n bs st (bx x0) (sx x0))
    (round : ∀ x, I x → WP P w0 M0 n (bx x) (sx x) c (Exit.then (Again w0 M0 n bx sx I μ (μ x)) Q)) : WP P w0 M0 n bs st (.loop c) Q := by
  intro a w hok
  have key : ∀ (k : Nat) (x : α), μ x ≤ k → I x → ∀ a w, Ok w0 M0 n (bx x) (sx x) a w → (Code.loop c).wp P Q a w := fun k x hk hI a w hok => by
    refine wp_loop (fun a w => ∃ x, I x ∧ Ok w0 M0 n (bx x) (sx x) a w) (fun a w => if h : ∃ m, ∃ x, μ x = m ∧ I x ∧ Ok w0 M0 n (bx x) (sx x) a w then sInfN h else 0) ⟨x, hI, hok⟩ fun a w ⟨y, hy, hoky⟩ => ?_
    have hex : ∃ m, ∃ x, μ x = m ∧ I x ∧ Ok w0 M0 n (bx x) (sx x) a w := ⟨_, y, rfl, hy, hoky⟩
    obtain ⟨z, hz1, hz2, hz3⟩ := sInfN_spec hex
    refine Code.wp_mono (fun e a' w' q => ?_) (round z hz2 a w hz3)
    cases e with
    | normal =>
      obtain ⟨x', h1, h2, h3⟩ := q
      have hex' : ∃ m, ∃ x, μ x = m ∧ I x ∧ Ok w0 M0 n (bx x) (sx x) a' w' := ⟨_, x', rfl, h1, h2⟩
      refine ⟨⟨x', h1, h2⟩, ?_⟩
      rw [dif_pos hex', dif_pos hex]
      have := sInfN_le hex' (m := μ x') ⟨x', rfl, h1, h2⟩
      omega
    | exit id => exact q
    | goto l => exact q
    | ret => exact q
    | panic ch => exact q
    | outgrown => exact q
  exact key _ x0 (Nat.le_refl _) h0 a w (hs a w hok)
theorem Lead.again {α : Type} {bx : α → List Box} {sx : α → St} {I : α → Prop} {μ : α → Nat} {m : Nat} (x : α) (hI : I x) (hμ : μ x < m) (hs : Sub w0 M0 n bs st (bx x) (sx x)) : Lead w0 M0 n bs st .normal (Exit.then (Again w0 M0 n bx sx I μ m) Q) :=
  fun a w hok => ⟨x, hI, hs a w hok, hμ⟩

/-! ### structs -/
def place (P : Program) (T : TypeId) (i : Nat) : Option (Nat × Nat) := match P.underlying T with
  | some (.struct fs) => (fs[i]?).bind fun f => (P.info? f.type).map fun ti => (f.offset, ti.size)
  | _ => none
inductive Parts (P : Program) (lk : Nat → Option Rp) (T : TypeId) : List (Nat × Operand) → List Rp → List Rp → Prop
  | n {acc : List Rp} : Parts P lk T [] acc acc
  | c {i off m : Nat} {x : Operand} {xs : List (Nat × Operand)} {R : Rp} {rs acc out : List Rp} : OF lk x R → Flat R rs → place P T i = some (off, m) → rs.length = m → off + m ≤ acc.length → Parts P lk T xs (setAt acc off rs) out → Parts P lk T ((i, x) :: xs) acc out
theorem ixd {α : Type} [Inhabited α] {T ty : TypeId} {x y : Operand} {lk : Nat → Option Rp} {sz : Nat} {f : α → List Rp} {xs : List α} {kd : IntKind} {i : Int} (hT : elemSz P T = some sz) (hx : OF lk x (sl sz f xs)) (hy : OF lk y (val (.int kd i))) (h0 : 0 ≤ i) (h1 : i < xs.length) :
    OpG P bs lk (.indexAddr T x y) ty (at_ (f (xs.getD i.toNat default))) :=
  ix hT hx hy h0 (by rw [List.getD_eq_getElem?_getD, List.getElem?_eq_getElem (by omega)]; rfl)
theorem boxi {T ty : TypeId} {x : Operand} {lk : Nat → Option Rp} {R : Rp} {rs : List Rp} (h : OF lk x R) (hfl : Flat R rs) : OpG P bs lk (.box T x) ty (at_ rs) := fun σ w M hm hf _ => by
  obtain ⟨cs, h1, h2⟩ := OpB.box (P := P) (bs := bs) (T := T) (ty := ty) h hfl σ w M hf
  rw [h2]
  have hb : Below w.heap.size w (w.alloc (.cells cs.toArray T)) := (Below.refl _ w).alloc (Nat.le_refl _) _
  refine ⟨⟨w.heap.size, 0, rfl, by simp, fun h => by have := hm _ h; omega, ?_⟩, hb⟩
  refine CellsAt.of_all2 (h1.keep (Kp.of_below M hb)) fun j v hv => ?_
  have h3 : w.heap[w.heap.size]? = none := by simp
  have h4 := heap_alloc_new w (.cells cs.toArray T)
  simp only [World.cell?, h4, Nat.zero_add]
  simpa using hv
theorem og2 {lk : Nat → Option Rp} {i : Nat} {c c0 : Prop} {R : Rp} (h : lk i = some (gd (c0 ∧ c) R)) (hc : c0) : OF lk (.tmp i) (gd c R) := fun σ w M hf =>
  (hf i _ rfl h).imp (fun h => ⟨h.1.2, h.2⟩) (fun h => ⟨fun hk => h.1 ⟨hc, hk⟩, h.2⟩)
theorem fill_parts {T : TypeId} {lk : Nat → Option Rp} {σ : Nat → Value} {w : World} {M : Mask} {fs : Array Field} (hu : P.underlying T = some (.struct fs)) {pl : List (Nat × Nat)} (hpl : ∀ i off m, place P T i = some (off, m) → pl.toArray[i]? = some (off, m)) :
    ∀ {xs : List (Nat × Operand)} {acc out : List Rp}, Parts P lk T xs acc out → (∀ x ∈ xs, ∀ i R', x.2 = .tmp i → lk i = some R' → R'.h (σ i) w M) → ∀ {cs : List Value}, All2 w M acc cs →
      ∃ os : List Value, Instr.fill (pl.toArray[·]?) cs.toArray (xs.map fun x => (x.1, ev σ x.2)) = some os.toArray ∧ All2 w M out os := by
  intro xs acc out hp
  induction hp with
  | n => intro _ cs hcs; exact ⟨cs, by simp [Instr.fill], hcs⟩
  | @c i off m x xs R rs acc out h1 h2 h3 h4 h5 _ ih =>
    intro hf cs hcs
    obtain ⟨vs, g1, g2⟩ := h2 _ _ _ (h1 σ w M (hf (i, x) (by simp)))
    have hlv := g2.length
    have hlc := hcs.length
    have hnew : All2 w M (setAt acc off rs) (cs.take off ++ vs ++ cs.drop (off + vs.length)) := by
      unfold setAt
      rw [hlv]
      exact ((hcs.take off).append g2).append (hcs.drop _)
    obtain ⟨os, k1, k2⟩ := ih (fun x hx => hf x (List.mem_cons_of_mem _ hx)) hnew
    refine ⟨os, ?_, k2⟩
    rw [List.map_cons]
    simp only [Instr.fill, hpl _ _ _ h3, g1]
    rw [if_neg (by simp; omega)]
    rw [← k1]
    congr 1
    have hfold : ∀ (vs : List Value) (j : Nat) (cs : List Value), off + j + vs.length ≤ cs.length → (vs.zipIdx j).foldl (fun cs (c, j) => cs.setIfInBounds (off + j) c) cs.toArray = (cs.take (off + j) ++ vs ++ cs.drop (off + j + vs.length)).toArray := by
      intro vs
      induction vs with
      | nil => intro j cs _; simp
      | cons v vs ihv =>
        intro j cs hl
        simp only [List.length_cons] at hl
        simp only [List.zipIdx_cons, List.foldl_cons, List.setIfInBounds_toArray]
        rw [ihv (j + 1) (cs.set (off + j) v) (by simp; omega)]
        congr 1
        apply List.ext_getElem?
        intro q
        simp only [List.getElem?_append, List.length_append, List.length_take, List.length_cons, List.length_set, List.getElem?_take, List.getElem?_drop, List.getElem?_set, List.length_drop]
        by_cases c1 : q < off + j
        · simp [show q < min (off + (j + 1)) cs.length from by omega, show q < min (off + j) cs.length from by omega, show q < min (off + (j + 1)) cs.length + vs.length from by omega, show q < min (off + j) cs.length + (vs.length + 1) from by omega, show q < off + (j + 1) from by omega, c1, show ¬ off + j = q from by omega]
        · by_cases c2 : q = off + j
          · subst c2
            simp [show off + j < min (off + (j + 1)) cs.length from by omega, show ¬ off + j < min (off + j) cs.length from by omega, show off + j < min (off + (j + 1)) cs.length + vs.length from by omega, show off + j < min (off + j) cs.length + (vs.length + 1) from by omega, show off + j < off + (j + 1) from by omega, show off + j - min (off + j) cs.length = 0 from by omega, show off + j < cs.length from by omega]
          · by_cases c3 : q < off + j + 1 + vs.length
            · simp [show ¬ q < min (off + (j + 1)) cs.length from by omega, show ¬ q < min (off + j) cs.length from by omega, show q < min (off + (j + 1)) cs.length + vs.length from by omega, show q < min (off + j) cs.length + (vs.length + 1) from by omega, show q - min (off + j) cs.length = (q - min (off + (j + 1)) cs.length) + 1 from by omega]
            · simp [show ¬ q < min (off + (j + 1)) cs.length from by omega, show ¬ q < min (off + j) cs.length from by omega, show ¬ q < min (off + (j + 1)) cs.length + vs.length from by omega, show ¬ q < min (off + j) cs.length + (vs.length + 1) from by omega,
                show off + (j + 1) + vs.length + (q - (min (off + (j + 1)) cs.length + vs.length)) = off + j + (vs.length + 1) + (q - (min (off + j) cs.length + (vs.length + 1))) from by omega, show ¬ off + j = off + j + (vs.length + 1) + (q - (min (off + j) cs.length + (vs.length + 1))) from by omega]
    have := hfold vs 0 cs (by omega)
    rw [Nat.add_zero] at this
    rw [← this]
    simp
def placesOf (P : Program) (T : TypeId) : Option (List (Nat × Nat)) := match P.underlying T with
  | some (.struct fs) => fs.toList.mapM fun f => (P.info? f.type).map fun i => (f.offset, i.size)
  | _ => none
theorem bld {T ty : TypeId} {lk : Nat → Option Rp} {xs : List (Nat × Operand)} {zs : List Value} {out : List Rp} (hz : zeros P T = some zs) (h1 : zs.all (·.oneCell') = true) (hne : (placesOf P T).isSome = true) (hp : Parts P lk T xs (zs.map val) out) :
    OpG P bs lk (.build T xs.toArray) ty (agg out) := OpG.pure fun σ w M hf _ => by
    cases hu : P.underlying T with
    | none => unfold placesOf at hne; rw [hu] at hne; simp at hne
    | some d =>
      cases d <;> try (unfold placesOf at hne; rw [hu] at hne; simp at hne; done)
      case struct fs =>
        unfold zeros at hz
        cases hi : P.info? T with
        | none => rw [hi] at hz; simp at hz
        | some ti =>
          cases hv : ti.zero with
          | none => rw [hi] at hz; simp [hv] at hz
          | some zv =>
            rw [hi] at hz
            simp only [Option.bind_some, hv, Option.map_some, Option.some.injEq] at hz
            have hpl : ∀ pl : List (Nat × Nat), fs.toList.mapM (fun f => (P.info? f.type).map fun i => (f.offset, i.size)) = some pl → ∀ i off m, place P T i = some (off, m) → pl.toArray[i]? = some (off, m) := by
              intro pl hpl i off m hpi
              unfold place at hpi
              rw [hu] at hpi
              simp only at hpi
              have : ∀ (fl : List Field) (pl : List (Nat × Nat)), fl.mapM (fun f => (P.info? f.type).map fun i => (f.offset, i.size)) = some pl → ∀ i : Nat, ((fl[i]?).bind fun f => (P.info? f.type).map fun ti => (f.offset, ti.size)) = some (off, m) → pl[i]? = some (off, m) := by
                intro fl
                induction fl with
                | nil => intro pl _ i h; simp at h
                | cons f fl ihf =>
                  intro pl h i hi
                  simp only [List.mapM_cons, Option.bind_eq_bind, Option.pure_def] at h
                  cases q1 : (P.info? f.type).map fun i => (f.offset, i.size) with
                  | none => rw [q1] at h; simp at h
                  | some p1 =>
                    cases q2 : fl.mapM (fun f => (P.info? f.type).map fun i => (f.offset, i.size)) with
                    | none => rw [q1, q2] at h; simp at h
                    | some p2 =>
                      rw [q1, q2] at h
                      simp at h
                      subst h
                      cases i with
                      | zero =>
                        simp only [List.getElem?_cons_zero, Option.bind_some] at hi ⊢
                        rw [q1] at hi; exact hi
                      | succ i => simpa using ihf p2 q2 i (by simpa using hi)
              have := this fs.toList pl hpl i (by simpa using hpi)
              simpa using this
            cases hq : fs.toList.mapM (fun f => (P.info? f.type).map fun i => (f.offset, i.size)) with
            | none => unfold placesOf at hne; rw [hu] at hne; simp only [hq] at hne; cases hne
            | some pl =>
              obtain ⟨os, k1, k2⟩ := fill_parts hu (hpl pl hq) hp (fun x hx i R' hxi hR => hf x.2 (by simp only [Op.operands]; exact List.mem_map.2 ⟨x, by simpa using hx, rfl⟩) i R' hxi hR) (All2.vals (w := w) (M := M) h1)
              refine ⟨.agg os.toArray, ?_, os, rfl, k2⟩
              have hrun := run_build (P := P) w T (xs.map fun x => (x.1, ev σ x.2)).toArray os.toArray (by
                unfold Program.built
                simp only [hi, hu, hv, hq]
                rw [← k1]
                have : zv.cells = zs.toArray := by rw [← hz]
                rw [this])
              simp only [execOp, Sem.run_bind]
              have hm : xs.toArray.map (fun y => match y with | (i, x) => (i, ev σ x)) = (xs.map fun x => (x.1, ev σ x.2)).toArray := by simp
              rw [hm, hrun]
              rfl
end
end Go.Fw

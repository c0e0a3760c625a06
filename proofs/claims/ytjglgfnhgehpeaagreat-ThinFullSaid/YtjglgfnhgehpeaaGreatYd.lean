/- Parts: Fws, Fwt, Fwu, Fwv, Fwx. -/
import Derived.Test.YtjglgfnhgehpeaaGreatYc
import Derived.Maps.AppendAt
import Derived.Laws.StructEq
import Derived.ChangeKeysEq
import Derived.RangeFuncKeeps
import Derived.RangeFuncBound
import Derived.RangeFuncLeaves
import Derived.RangeFuncFrom
import Derived.RangeFuncCalls
import Derived.TacticsIn
/- More: how a way goes on, loops, structs built, elements read. No program in sight. -/
namespace Go.Fw
open Go.RowKit Go.Proofs
set_option linter.unusedVariables false
set_option linter.unusedSimpArgs false
section
variable {P : Program} {w0 : World} {M0 : Mask} {n : Nat} {bs : List Box} {st : St} {ops : Array Oper} {l : List Oper} {Q : Exit → Act → World → Prop} {K : Act → World → Prop}

theorem le_ {a b : Nat} (h : Nat.ble a b = true) : a ≤ b := Nat.le_of_ble_eq_true h
def Lead (w0 : World) (M0 : Mask) (n : Nat) (bs : List Box) (st : St) (e : Exit) (Q : Exit → Act → World → Prop) : Prop := ∀ a w, Ok w0 M0 n bs st a w → Q e a w
theorem Lead.thn {y : Code} (h : WP P w0 M0 n bs st y Q) : Lead w0 M0 n bs st .normal (Exit.then (y.wp P Q) Q) := h
theorem Lead.blk {id : Nat} (h : Lead w0 M0 n bs st .normal Q) : Lead w0 M0 n bs st .normal (Exit.inBlock id Q) := h
theorem Lead.rthn (h : Lead w0 M0 n bs st .ret Q) : Lead w0 M0 n bs st .ret (Exit.then K Q) := h
theorem Lead.rblk {id : Nat} (h : Lead w0 M0 n bs st .ret Q) : Lead w0 M0 n bs st .ret (Exit.inBlock id Q) := h
theorem Lead.xthn {id : Nat} (h : Lead w0 M0 n bs st (.exit id) Q) : Lead w0 M0 n bs st (.exit id) (Exit.then K Q) := h
theorem Lead.xin {id : Nat} (h : Lead w0 M0 n bs st .normal Q) : Lead w0 M0 n bs st (.exit id) (Exit.inBlock id Q) := fun a w hok => by simp only [Exit.inBlock, if_true]; exact h a w hok
theorem WL.nl (h : Lead w0 M0 n bs st .normal Q) : WL P w0 M0 n bs st ops [] Q := WL.nil h
theorem WP.sk (h : Lead w0 M0 n bs st .normal Q) : WP P w0 M0 n bs st .skip Q := WP.skip h
theorem WP.rt (h : Lead w0 M0 n bs st .ret Q) : WP P w0 M0 n bs st .ret Q := WP.ret h
theorem WP.xt {id : Nat} (h : Lead w0 M0 n bs st (.exit id) Q) : WP P w0 M0 n bs st (.exit id) Q := WP.exit h
theorem Lead.r1 {fn : Func} {res : Rp} {i : Nat} {R : Rp} (hr : fn.results = #[.tmp i]) (hs : look st i = some R) (hR : ∀ v w M, R.h v w M → res.h v w M) (hd : defs bs = [] := by rfl) : Lead w0 M0 n bs st .ret (bodyPost P fn (Post res w0 M0)) := fun _ _ hok => fin1 hr hs hR hok hd
theorem Lead.rN {fn : Func} {res : Rp} {xs : List ResultVar} {Rs : List Rp} (hr : fn.results = xs.toArray) (hs : RVs P bs st xs Rs) (h2 : 2 ≤ Rs.length) (hR : ∀ v w M, (tup Rs).h v w M → res.h v w M) (hd : defs bs = [] := by rfl) : Lead w0 M0 n bs st .ret (bodyPost P fn (Post res w0 M0)) := fun _ _ hok => finN hr hs h2 hR hok hd
theorem Lead.rB {fn : Func} {res : Rp} {x : ResultVar} {R : Rp} (hr : fn.results = #[x]) (hs : RV P bs st x R) (hR : ∀ v w M, R.h v w M → res.h v w M) (hd : defs bs = [] := by rfl) : Lead w0 M0 n bs st .ret (bodyPost P fn (Post res w0 M0)) := fun _ _ hok => finB hr hs hR hok hd
theorem WP.condT {i : Nat} {x y : Code} (hs : look st i = some (val (.bool true))) (h : WP P w0 M0 n bs st x Q) : WP P w0 M0 n bs st (.cond (.tmp i) x y) Q := WP.cond hs (fun _ => h) (fun h => by cases h)
theorem WP.condF {i : Nat} {x y : Code} (hs : look st i = some (val (.bool false))) (h : WP P w0 M0 n bs st y Q) : WP P w0 M0 n bs st (.cond (.tmp i) x y) Q := WP.cond hs (fun h => by cases h) (fun _ => h)
theorem WP.condB {i : Nat} {b : Bool} (c : Bool) {x y : Code} (hs : look st i = some (val (.bool b))) (e : b = c) (ht : c = true → WP P w0 M0 n bs st x Q) (hf : c = false → WP P w0 M0 n bs st y Q) : WP P w0 M0 n bs st (.cond (.tmp i) x y) Q := by
  subst e; exact WP.cond hs ht hf

def Sub (w0 : World) (M0 : Mask) (n : Nat) (bs : List Box) (st : St) (bs' : List Box) (st' : St) : Prop := ∀ a w, Ok w0 M0 n bs st a w → Ok w0 M0 n bs' st' a w
theorem Sub.of {st' : St} (h : ∀ i R, look st' i = some R → ∃ R', look st i = some R' ∧ ∀ v w M, R'.h v w M → R.h v w M) : Sub w0 M0 n bs st bs st' := fun a w hok =>
  ⟨hok.defers, hok.size, fun i R hi => by obtain ⟨R', h1, h2⟩ := h i R hi; exact h2 _ _ _ (hok.facts i R' h1), hok.boxes, hok.nodup, hok.fresh, hok.below, hok.msk, hok.m0⟩
theorem Sub.nil : ∀ i R, look [] i = some R → ∃ R', look st i = some R' ∧ ∀ v w M, R'.h v w M → R.h v w M := fun _ _ h => by simp [look] at h
theorem Sub.cons {st' : St} {i : Nat} {R R' : Rp} (h1 : look st i = some R') (h2 : ∀ v w M, R'.h v w M → R.h v w M) (h : ∀ i R, look st' i = some R → ∃ R', look st i = some R' ∧ ∀ v w M, R'.h v w M → R.h v w M) :
    ∀ j R0, look ((i, R) :: st') j = some R0 → ∃ R', look st j = some R' ∧ ∀ v w M, R'.h v w M → R0.h v w M := fun j R0 hj => by
  simp only [look] at hj
  split at hj
  · rename_i e; subst e; cases hj; exact ⟨R', h1, h2⟩
  · exact h j R0 hj
theorem imp (R : Rp) : ∀ v w M, R.h v w M → R.h v w M := fun _ _ _ h => h
theorem imp_eq {R R' : Rp} (e : R = R') : ∀ v w M, R.h v w M → R'.h v w M := fun _ _ _ h => e ▸ h

theorem WP.cut {y : Code} {α : Type} (bx : α → List Box) (sx : α → St) (x : α) (hs : Sub w0 M0 n bs st (bx x) (sx x)) (h : WP P w0 M0 n (bx x) (sx x) y Q) : WP P w0 M0 n bs st y Q := WP.weak h hs

theorem ex_min {p : Nat → Prop} (h : ∃ m, p m) : ∃ m, p m ∧ ∀ k, p k → m ≤ k := by
  obtain ⟨m, hm⟩ := h
  induction m using Nat.strongRecOn with
  | _ m ih =>
    by_cases hlow : ∃ k, k < m ∧ p k
    · obtain ⟨k, h1, h2⟩ := hlow; exact ih k h1 h2
    · exact ⟨m, hm, fun k hk => Nat.le_of_not_lt fun hlt => hlow ⟨k, hlt, hk⟩⟩
noncomputable def sInfN {p : Nat → Prop} (h : ∃ m, p m) : Nat := (ex_min h).choose
theorem sInfN_spec {p : Nat → Prop} (h : ∃ m, p m) : p (sInfN h) := (ex_min h).choose_spec.1
theorem sInfN_le {p : Nat → Prop} (h : ∃ m, p m) {m : Nat} (hm : p m) : sInfN h ≤ m := (ex_min h).choose_spec.2 m hm
def Again {α : Type} (w0 : World) (M0 : Mask) (n : Nat) (bx : α → List Box) (sx : α → St) (I : α → Prop) (μ : α → Nat) (m : Nat) : Act → World → Prop := fun a w => ∃ x, I x ∧ Ok w0 M0 n (bx x) (sx x) a w ∧ μ x < m
open Classical in
theorem WP.loop {α : Type} {c : Code} (bx : α → List Box) (sx : α → St) (I : α → Prop) (μ : α → Nat) (x0 : α) (h0 : I x0) (hs : Sub w0 M0 n bs st (bx x0) (sx x0))
    (round : ∀ x, I x → WP P w0 M0 n (bx x) (sx x) c (Exit.then (Again w0 M0 n bx sx I μ (μ x)) Q)) : WP P w0 M0 n bs st (.loop c) Q := by
  intro a w hok
  have key : ∀ (k : Nat) (x : α), μ x ≤ k → I x → ∀ a w, Ok w0 M0 n (bx x) (sx x) a w → (Code.loop c).wp P Q a w := fun k x hk hI a w hok => by
    refine wp_loop (fun a w => ∃ x, I x ∧ Ok w0 M0 n (bx x) (sx x) a w) (fun a w => if h : ∃ m, ∃ x, μ x = m ∧ I x ∧ Ok w0 M0 n (bx x) (sx x) a w then sInfN h else 0) ⟨x, hI, hok⟩ fun a w ⟨y, hy, hoky⟩ => ?_
    have hex : ∃ m, ∃ x, μ x = m ∧ I x ∧ Ok w0 M0 n (bx x) (sx x) a w := ⟨_, y, rfl, hy, hoky⟩
    obtain ⟨z, hz1, hz2, hz3⟩ := sInfN_spec hex
    refine Code.wp_mono (fun e a' w' q => ?_) (round z hz2 a w hz3)
    cases e with
    | normal =>
      obtain ⟨x', h1, h2, h3⟩ := q
      have hex' : ∃ m, ∃ x, μ x = m ∧ I x ∧ Ok w0 M0 n (bx x) (sx x) a' w' := ⟨_, x', rfl, h1, h2⟩
      refine ⟨⟨x', h1, h2⟩, ?_⟩
      rw [dif_pos hex', dif_pos hex]
      have := sInfN_le hex' (m := μ x') ⟨x', rfl, h1, h2⟩
      omega
    | exit id => exact q
    | goto l => exact q
    | ret => exact q
    | panic ch => exact q
    | outgrown => exact q
  exact key _ x0 (Nat.le_refl _) h0 a w (hs a w hok)
theorem Lead.again {α : Type} {bx : α → List Box} {sx : α → St} {I : α → Prop} {μ : α → Nat} {m : Nat} (x : α) (hI : I x) (hμ : μ x < m) (hs : Sub w0 M0 n bs st (bx x) (sx x)) : Lead w0 M0 n bs st .normal (Exit.then (Again w0 M0 n bx sx I μ m) Q) :=
  fun a w hok => ⟨x, hI, hs a w hok, hμ⟩

def place (P : Program) (T : TypeId) (i : Nat) : Option (Nat × Nat) := match P.underlying T with
  | some (.struct fs) => (fs[i]?).bind fun f => (P.info? f.type).map fun ti => (f.offset, ti.size)
  | _ => none
inductive Parts (P : Program) (lk : Nat → Option Rp) (T : TypeId) : List (Nat × Operand) → List Rp → List Rp → Prop
  | n {acc : List Rp} : Parts P lk T [] acc acc
  | c {i off m : Nat} {x : Operand} {xs : List (Nat × Operand)} {R : Rp} {rs acc out : List Rp} : OF lk x R → Flat R rs → place P T i = some (off, m) → rs.length = m → off + m ≤ acc.length → Parts P lk T xs (setAt acc off rs) out → Parts P lk T ((i, x) :: xs) acc out
theorem ixd {α : Type} [Inhabited α] {T ty : TypeId} {x y : Operand} {lk : Nat → Option Rp} {sz : Nat} {f : α → List Rp} {xs : List α} {kd : IntKind} {i : Int} (hT : elemSz P T = some sz) (hx : OF lk x (sl sz f xs)) (hy : OF lk y (val (.int kd i))) (h0 : 0 ≤ i) (h1 : i < xs.length) :
    OpG P bs lk (.indexAddr T x y) ty (at_ (f (xs.getD i.toNat default))) :=
  ix hT hx hy h0 (by rw [List.getD_eq_getElem?_getD, List.getElem?_eq_getElem (by omega)]; rfl)
theorem boxi {T ty : TypeId} {x : Operand} {lk : Nat → Option Rp} {R : Rp} {rs : List Rp} (h : OF lk x R) (hfl : Flat R rs) : OpG P bs lk (.box T x) ty (at_ rs) := fun σ w M hm hf _ => by
  obtain ⟨cs, h1, h2⟩ := OpB.box (P := P) (bs := bs) (T := T) (ty := ty) h hfl σ w M hf
  rw [h2]
  have hb : Below w.heap.size w (w.alloc (.cells cs.toArray T)) := (Below.refl _ w).alloc (Nat.le_refl _) _
  refine ⟨⟨w.heap.size, 0, rfl, by simp, fun h => by have := hm _ h; omega, ?_⟩, hb⟩
  refine CellsAt.of_all2 (h1.keep (Kp.of_below M hb)) fun j v hv => ?_
  have h3 : w.heap[w.heap.size]? = none := by simp
  have h4 := heap_alloc_new w (.cells cs.toArray T)
  simp only [World.cell?, h4, Nat.zero_add]
  simpa using hv
theorem og2 {lk : Nat → Option Rp} {i : Nat} {c c0 : Prop} {R : Rp} (h : lk i = some (gd (c0 ∧ c) R)) (hc : c0) : OF lk (.tmp i) (gd c R) := fun σ w M hf =>
  (hf i _ rfl h).imp (fun h => ⟨h.1.2, h.2⟩) (fun h => ⟨fun hk => h.1 ⟨hc, hk⟩, h.2⟩)
theorem fill_parts {T : TypeId} {lk : Nat → Option Rp} {σ : Nat → Value} {w : World} {M : Mask} {fs : Array Field} (hu : P.underlying T = some (.struct fs)) {pl : List (Nat × Nat)} (hpl : ∀ i off m, place P T i = some (off, m) → pl.toArray[i]? = some (off, m)) :
    ∀ {xs : List (Nat × Operand)} {acc out : List Rp}, Parts P lk T xs acc out → (∀ x ∈ xs, ∀ i R', x.2 = .tmp i → lk i = some R' → R'.h (σ i) w M) → ∀ {cs : List Value}, All2 w M acc cs →
      ∃ os : List Value, Instr.fill (pl.toArray[·]?) cs.toArray (xs.map fun x => (x.1, ev σ x.2)) = some os.toArray ∧ All2 w M out os := by
  intro xs acc out hp
  induction hp with
  | n => intro _ cs hcs; exact ⟨cs, by simp [Instr.fill], hcs⟩
  | @c i off m x xs R rs acc out h1 h2 h3 h4 h5 _ ih =>
    intro hf cs hcs
    obtain ⟨vs, g1, g2⟩ := h2 _ _ _ (h1 σ w M (hf (i, x) (by simp)))
    have hlv := g2.length
    have hlc := hcs.length
    have hnew : All2 w M (setAt acc off rs) (cs.take off ++ vs ++ cs.drop (off + vs.length)) := by
      unfold setAt
      rw [hlv]
      exact ((hcs.take off).append g2).append (hcs.drop _)
    obtain ⟨os, k1, k2⟩ := ih (fun x hx => hf x (List.mem_cons_of_mem _ hx)) hnew
    refine ⟨os, ?_, k2⟩
    rw [List.map_cons]
    simp only [Instr.fill, hpl _ _ _ h3, g1]
    rw [if_neg (by simp; omega)]
    rw [← k1]
    congr 1
    have hfold : ∀ (vs : List Value) (j : Nat) (cs : List Value), off + j + vs.length ≤ cs.length → (vs.zipIdx j).foldl (fun cs (c, j) => cs.setIfInBounds (off + j) c) cs.toArray = (cs.take (off + j) ++ vs ++ cs.drop (off + j + vs.length)).toArray := by
      intro vs
      induction vs with
      | nil => intro j cs _; simp
      | cons v vs ihv =>
        intro j cs hl
        simp only [List.length_cons] at hl
        simp only [List.zipIdx_cons, List.foldl_cons, List.setIfInBounds_toArray]
        rw [ihv (j + 1) (cs.set (off + j) v) (by simp; omega)]
        congr 1
        apply List.ext_getElem?
        intro q
        simp only [List.getElem?_append, List.length_append, List.length_take, List.length_cons, List.length_set, List.getElem?_take, List.getElem?_drop, List.getElem?_set, List.length_drop]
        by_cases c1 : q < off + j
        · simp [show q < min (off + (j + 1)) cs.length from by omega, show q < min (off + j) cs.length from by omega, show q < min (off + (j + 1)) cs.length + vs.length from by omega, show q < min (off + j) cs.length + (vs.length + 1) from by omega, show q < off + (j + 1) from by omega, c1, show ¬ off + j = q from by omega]
        · by_cases c2 : q = off + j
          · subst c2
            simp [show off + j < min (off + (j + 1)) cs.length from by omega, show ¬ off + j < min (off + j) cs.length from by omega, show off + j < min (off + (j + 1)) cs.length + vs.length from by omega, show off + j < min (off + j) cs.length + (vs.length + 1) from by omega, show off + j < off + (j + 1) from by omega, show off + j - min (off + j) cs.length = 0 from by omega, show off + j < cs.length from by omega]
          · by_cases c3 : q < off + j + 1 + vs.length
            · simp [show ¬ q < min (off + (j + 1)) cs.length from by omega, show ¬ q < min (off + j) cs.length from by omega, show q < min (off + (j + 1)) cs.length + vs.length from by omega, show q < min (off + j) cs.length + (vs.length + 1) from by omega, show q - min (off + j) cs.length = (q - min (off + (j + 1)) cs.length) + 1 from by omega]
            · simp [show ¬ q < min (off + (j + 1)) cs.length from by omega, show ¬ q < min (off + j) cs.length from by omega, show ¬ q < min (off + (j + 1)) cs.length + vs.length from by omega, show ¬ q < min (off + j) cs.length + (vs.length + 1) from by omega,
                show off + (j + 1) + vs.length + (q - (min (off + (j + 1)) cs.length + vs.length)) = off + j + (vs.length + 1) + (q - (min (off + j) cs.length + (vs.length + 1))) from by omega, show ¬ off + j = off + j + (vs.length + 1) + (q - (min (off + j) cs.length + (vs.length + 1))) from by omega]
    have := hfold vs 0 cs (by omega)
    rw [Nat.add_zero] at this
    rw [← this]
    simp
def placesOf (P : Program) (T : TypeId) : Option (List (Nat × Nat)) := match P.underlying T with
  | some (.struct fs) => fs.toList.mapM fun f => (P.info? f.type).map fun i => (f.offset, i.size)
  | _ => none
theorem bld {T ty : TypeId} {lk : Nat → Option Rp} {xs : List (Nat × Operand)} {zs : List Value} {out : List Rp} (hz : zeros P T = some zs) (h1 : zs.all (·.oneCell') = true) (hne : (placesOf P T).isSome = true) (hp : Parts P lk T xs (zs.map val) out) :
    OpG P bs lk (.build T xs.toArray) ty (agg out) := OpG.pure fun σ w M hf _ => by
    cases hu : P.underlying T with
    | none => unfold placesOf at hne; rw [hu] at hne; simp at hne
    | some d =>
      cases d <;> try (unfold placesOf at hne; rw [hu] at hne; simp at hne; done)
      case struct fs =>
        unfold zeros at hz
        cases hi : P.info? T with
        | none => rw [hi] at hz; simp at hz
        | some ti =>
          cases hv : ti.zero with
          | none => rw [hi] at hz; simp [hv] at hz
          | some zv =>
            rw [hi] at hz
            simp only [Option.bind_some, hv, Option.map_some, Option.some.injEq] at hz
            have hpl : ∀ pl : List (Nat × Nat), fs.toList.mapM (fun f => (P.info? f.type).map fun i => (f.offset, i.size)) = some pl → ∀ i off m, place P T i = some (off, m) → pl.toArray[i]? = some (off, m) := by
              intro pl hpl i off m hpi
              unfold place at hpi
              rw [hu] at hpi
              simp only at hpi
              have : ∀ (fl : List Field) (pl : List (Nat × Nat)), fl.mapM (fun f => (P.info? f.type).map fun i => (f.offset, i.size)) = some pl → ∀ i : Nat, ((fl[i]?).bind fun f => (P.info? f.type).map fun ti => (f.offset, ti.size)) = some (off, m) → pl[i]? = some (off, m) := by
                intro fl
                induction fl with
                | nil => intro pl _ i h; simp at h
                | cons f fl ihf =>
                  intro pl h i hi
                  simp only [List.mapM_cons, Option.bind_eq_bind, Option.pure_def] at h
                  cases q1 : (P.info? f.type).map fun i => (f.offset, i.size) with
                  | none => rw [q1] at h; simp at h
                  | some p1 =>
                    cases q2 : fl.mapM (fun f => (P.info? f.type).map fun i => (f.offset, i.size)) with
                    | none => rw [q1, q2] at h; simp at h
                    | some p2 =>
                      rw [q1, q2] at h
                      simp at h
                      subst h
                      cases i with
                      | zero =>
                        simp only [List.getElem?_cons_zero, Option.bind_some] at hi ⊢
                        rw [q1] at hi; exact hi
                      | succ i => simpa using ihf p2 q2 i (by simpa using hi)
              have := this fs.toList pl hpl i (by simpa using hpi)
              simpa using this
            cases hq : fs.toList.mapM (fun f => (P.info? f.type).map fun i => (f.offset, i.size)) with
            | none => unfold placesOf at hne; rw [hu] at hne; simp only [hq] at hne; cases hne
            | some pl =>
              obtain ⟨os, k1, k2⟩ := fill_parts hu (hpl pl hq) hp (fun x hx i R' hxi hR => hf x.2 (by simp only [Op.operands]; exact List.mem_map.2 ⟨x, by simpa using hx, rfl⟩) i R' hxi hR) (All2.vals (w := w) (M := M) h1)
              refine ⟨.agg os.toArray, ?_, os, rfl, k2⟩
              have hrun := run_build (P := P) w T (xs.map fun x => (x.1, ev σ x.2)).toArray os.toArray (by
                unfold Program.built
                simp only [hi, hu, hv, hq]
                rw [← k1]
                have : zv.cells = zs.toArray := by rw [← hz]
                rw [this])
              simp only [execOp, Sem.run_bind]
              have hm : xs.toArray.map (fun y => match y with | (i, x) => (i, ev σ x)) = (xs.map fun x => (x.1, ev σ x.2)).toArray := by simp
              rw [hm, hrun]
              rfl
end
end Go.Fw

/- Slices of the call's own: appended to, read, written, handed on. No program in sight. -/
namespace Go.Fw
open Go.RowKit Go.Proofs
set_option linter.unusedVariables false
set_option linter.unusedSimpArgs false
abbrev nilS : Value := .slice none 0 0
section
variable {P : Program} {w0 : World} {M0 : Mask} {n : Nat} {bs : List Box} {st : St} {ops : Array Oper} {l : List Oper} {Q : Exit → Act → World → Prop} {c : Code}

theorem Ok.nilrow {a : Act} {w : World} (h : Ok w0 M0 n bs st a w) (e : TypeId) (sz : Nat) : Ok w0 M0 n (.r nilS e sz 0 [] :: bs) st a w :=
  ⟨h.defers.trans (defs_cons rfl bs).symm, h.size, h.facts, fun x hx => by
    rcases List.mem_cons.1 hx with rfl | hx
    · exact ⟨[], ⟨by simp, .inl ⟨rfl, rfl⟩⟩, trivial⟩
    · exact h.boxes x hx, h.nodup, h.fresh, h.below, h.msk, h.m0⟩
theorem WP.nilrow (e : TypeId) (sz : Nat) (h : WP P w0 M0 n (.r nilS e sz 0 [] :: bs) st c Q) : WP P w0 M0 n bs st c Q := fun a w hok => h a w (hok.nilrow e sz)
theorem WL.nilrow (e : TypeId) (sz : Nat) (h : WL P w0 M0 n (.r nilS e sz 0 [] :: bs) st ops l Q) : WL P w0 M0 n bs st ops l Q := fun a w hok => h a w (hok.nilrow e sz)

theorem OpG.weak {lk : Nat → Option Rp} {op : Op} {ty : TypeId} {R R' : Rp} (h : OpG P bs lk op ty R) (k : ∀ v w M, R.h v w M → R'.h v w M) : OpG P bs lk op ty R' := fun σ w M hm hf hb => (h σ w M hm hf hb).mono fun v w' ⟨h1, h2⟩ => ⟨k _ _ _ h1, h2⟩
theorem sl_nil {α : Type} {sz : Nat} {f : α → List Rp} : ∀ v w M, (val nilS).h v w M → (sl sz f []).h v w M := fun v w M h => by
  have h : v = nilS := h
  subst h
  exact ⟨none, 0, rfl, Nat.le_refl _, .inl rfl⟩
theorem flat_at {α : Type} {sz : Nat} {f : α → List Rp} (hf : ∀ x, (f x).length = sz) : ∀ (xs : List α) (i : Nat) (x : α), xs[i]? = some x → ((xs.flatMap f).drop (i * sz)).take sz = f x
  | [], i, x, h => by simp at h
  | y :: xs, 0, x, h => by simp at h; subst h; simp [List.flatMap_cons, hf y]
  | y :: xs, i + 1, x, h => by
    rw [List.flatMap_cons, show (i + 1) * sz = (f y).length + i * sz from by rw [hf, Nat.succ_mul]; omega, ← List.drop_drop, List.drop_left]
    exact flat_at hf xs i x (by simpa using h)
theorem flat_len {α : Type} {sz : Nat} {f : α → List Rp} (hf : ∀ x, (f x).length = sz) : ∀ xs : List α, (xs.flatMap f).length = xs.length * sz
  | [] => by simp
  | y :: xs => by rw [List.flatMap_cons, List.length_append, hf, flat_len hf xs, List.length_cons, Nat.succ_mul]; omega

theorem sl_of_own {α : Type} {sz base : Nat} {f : α → List Rp} (hf : ∀ x, (f x).length = sz) {xs : List α} {w : World} {M : Mask} {e : TypeId} {v : Value} {cs : List Value} (h : w.ownsRow base e sz v xs.length cs) (h2 : All2 w M (xs.flatMap f) cs) (hM : ∀ g, v.ownBlock = some g → ¬ M g) : (sl sz f xs).h v w M := by
  obtain ⟨h0, h1⟩ := h
  rcases h1 with ⟨rfl, h1⟩ | ⟨g, cap, cur, rfl, g1, g2, g3, g4, g5, g6⟩
  · have : xs = [] := List.eq_nil_of_length_eq_zero h1
    subst this
    exact ⟨none, 0, rfl, Nat.le_refl _, .inl rfl⟩
  · refine ⟨some ⟨g, 0, none⟩, cap, rfl, g3, .inr ⟨g, 0, rfl, (Array.getElem?_eq_some_iff.1 g2).1, hM g rfl, fun i x hx => ?_⟩⟩
    have hlt := (List.getElem?_eq_some_iff.1 hx).1
    have ha := (h2.drop (i * sz)).take sz
    rw [flat_at hf xs i x hx] at ha
    refine CellsAt.of_all2 ha fun j u hj => ?_
    rw [List.getElem?_take] at hj
    split at hj
    · rename_i hjs
      rw [List.getElem?_drop] at hj
      rw [← g6, List.getElem?_take] at hj
      split at hj
      · simp only [World.cell?, g2, Nat.zero_add]
        simpa using hj
      · cases hj
    · cases hj

theorem mem_blks_set {bs : List Box} {i : Nat} {y : Box} {g : Nat} (h : g ∈ blks (bs.set i y)) : y.blk = some g ∨ ∃ j z, j ≠ i ∧ bs[j]? = some z ∧ z.blk = some g := by
  obtain ⟨z, hz, e⟩ := List.mem_filterMap.1 h
  obtain ⟨j, hj⟩ := List.getElem?_of_mem hz
  rw [List.getElem?_set] at hj
  split at hj
  · split at hj
    · cases hj; exact .inl e
    · cases hj
  · rename_i hne; exact .inr ⟨j, z, Ne.symm hne, hj, e⟩
theorem blks_uniq : ∀ {bs : List Box} {i j : Nat} {x y : Box} {g : Nat}, (blks bs).Nodup → bs[i]? = some x → bs[j]? = some y → x.blk = some g → y.blk = some g → i = j := by
  intro bs
  induction bs with
  | nil => intro i j x y g _ h; simp at h
  | cons z bs ih =>
    intro i j x y g hnd hi hj hx hy
    have hnd' : (blks bs).Nodup := by
      unfold blks at *
      rw [List.filterMap_cons] at hnd
      cases hz : z.blk with
      | none => rw [hz] at hnd; exact hnd
      | some g => rw [hz] at hnd; exact (List.nodup_cons.1 hnd).2
    have hno : ∀ (k : Nat) (u : Box), z.blk = some g → bs[k]? = some u → u.blk = some g → False := fun k u hz hk hu => by
      unfold blks at hnd
      rw [List.filterMap_cons, hz] at hnd
      exact (List.nodup_cons.1 hnd).1 (mem_blks (List.mem_of_getElem? hk) hu)
    cases i with
    | zero => cases j with
      | zero => rfl
      | succ j => simp at hi; subst hi; exact (hno j y hx (by simpa using hj) hy).elim
    | succ i => cases j with
      | zero => simp at hj; subst hj; exact (hno i x hy (by simpa using hi) hx).elim
      | succ j => exact congrArg (· + 1) (ih (x := x) (y := y) (g := g) hnd' (by simpa using hi) (by simpa using hj) hx hy)
theorem nodup_set {bs : List Box} {i : Nat} {x y : Box} (hi : bs[i]? = some x) (hnd : (blks bs).Nodup) (hy : ∀ g, y.blk = some g → x.blk = some g ∨ g ∉ blks bs) : (blks (bs.set i y)).Nodup := by
  induction bs generalizing i with
  | nil => simp at hi
  | cons z bs ih =>
    have hnd' : (blks bs).Nodup := by
      unfold blks at *
      rw [List.filterMap_cons] at hnd
      cases hz : z.blk with
      | none => rw [hz] at hnd; exact hnd
      | some g => rw [hz] at hnd; exact (List.nodup_cons.1 hnd).2
    have hsub : ∀ g, g ∈ blks bs → g ∈ blks (z :: bs) := fun g hg => by
      obtain ⟨u, hu, e⟩ := List.mem_filterMap.1 hg
      exact mem_blks (List.mem_cons_of_mem _ hu) e
    cases i with
    | zero =>
      simp at hi; subst hi
      simp only [List.set_cons_zero]
      unfold blks
      rw [List.filterMap_cons]
      cases hyb : y.blk with
      | none => exact hnd'
      | some g =>
        refine List.nodup_cons.2 ⟨fun hm => ?_, hnd'⟩
        rcases hy g hyb with h | h
        · unfold blks at hnd
          rw [List.filterMap_cons, h] at hnd
          exact (List.nodup_cons.1 hnd).1 hm
        · exact h (hsub g hm)
    | succ i =>
      have ih' := ih (i := i) (by simpa using hi) hnd' fun g hg => (hy g hg).imp id fun h hm => h (hsub g hm)
      rw [List.set_cons_succ]
      unfold blks
      rw [List.filterMap_cons]
      cases hzb : z.blk with
      | none => exact ih'
      | some g =>
        refine List.nodup_cons.2 ⟨fun hm => ?_, ih'⟩
        rcases mem_blks_set hm with h | ⟨j, u, hj, hu, e⟩
        · rcases hy g h with h' | h'
          · have hxi := List.mem_of_getElem? (by simpa using hi : bs[i]? = some x)
            unfold blks at hnd
            rw [List.filterMap_cons, hzb] at hnd
            exact (List.nodup_cons.1 hnd).1 (mem_blks hxi h')
          · exact h' (mem_blks List.mem_cons_self hzb)
        · unfold blks at hnd
          rw [List.filterMap_cons, hzb] at hnd
          exact (List.nodup_cons.1 hnd).1 (mem_blks (List.mem_of_getElem? hu) e)

theorem Ok.change {a : Act} {w w' : World} (h : Ok w0 M0 n bs st a w) {i : Nat} {x y : Box} (hi : bs[i]? = some x) (hsame : ∀ g, g < w.heap.size → x.blk ≠ some g → w'.heap[g]? = w.heap[g]?) (hsz : w.heap.size ≤ w'.heap.size)
    (hos : w'.os = w.os) (htp : w'.tape = w.tape) (hout : w'.output = w.output) (hy : ∀ g, y.blk = some g → x.blk = some g ∨ w.heap.size ≤ g) (hlt : ∀ g, y.blk = some g → g < w'.heap.size)
    (hok : ∀ M, Kp w (mkM M0 bs) w' M → BoxOk w' M y) (hmk : x.mark = y.mark := by rfl) : Ok w0 M0 n (bs.set i y) st a w' := by
  have hxm : ∀ g, x.blk = some g → g ∈ blks bs := fun g hg => mem_blks (List.mem_of_getElem? hi) hg
  have hk : Kp w (mkM M0 bs) w' (mkM M0 (bs.set i y)) := ⟨fun g hg hm => hsame g hg fun e => hm (.inr (hxm g e)), hsz, fun g hg => by
    rcases hg with hg | hg
    · exact .inl (.inl hg)
    · rcases mem_blks_set hg with h1 | ⟨j, z, _, h1, h2⟩
      · exact (hy g h1).imp (fun h => .inr (hxm g h)) id
      · exact .inl (.inr (mem_blks (List.mem_of_getElem? h1) h2))⟩
  refine ⟨h.defers.trans (defs_set hi hmk).symm, h.size, fun t R ht => R.keep (h.facts t R ht) hk, fun z hz => ?_, ?_, fun g hg => ?_, ⟨hos.trans h.below.os, htp.trans h.below.tape, hout.trans h.below.output, Nat.le_trans h.below.size hsz, fun g hg => ?_⟩, fun g hg => ?_, fun g hg hm => ?_⟩
  · obtain ⟨j, hj⟩ := List.getElem?_of_mem hz
    rw [List.getElem?_set] at hj
    split at hj
    · split at hj
      · cases hj; exact hok _ hk
      · cases hj
    · rename_i hne
      exact (h.boxes z (List.mem_of_getElem? hj)).same (fun g hg hlt => hsame g hlt fun e => hne (blks_uniq h.nodup hi hj e hg)) hk
  · exact nodup_set hi h.nodup fun g hg => (hy g hg).imp id fun h1 hm => by have := h.msk g (.inr hm); omega
  · rcases mem_blks_set hg with h1 | ⟨j, z, _, h1, h2⟩
    · rcases hy g h1 with h2 | h2
      · exact h.fresh g (hxm g h2)
      · have := h.below.size; omega
    · exact h.fresh g (mem_blks (List.mem_of_getElem? h1) h2)
  · have hne : x.blk ≠ some g := fun e => by have := h.fresh g (hxm g e); omega
    rw [hsame g (by have := h.below.size; omega) hne]; exact h.below.block g hg
  · rcases hg with hg | hg
    · have := h.msk g (.inl hg); omega
    · rcases mem_blks_set hg with h1 | ⟨j, z, _, h1, h2⟩
      · exact hlt g h1
      · have := h.msk g (.inr (mem_blks (List.mem_of_getElem? h1) h2)); omega
  · rcases mem_blks_set hg with h1 | ⟨j, z, _, h1, h2⟩
    · rcases hy g h1 with h2 | h2
      · exact h.m0 g (hxm g h2) hm
      · have := h.msk g (.inl hm); omega
    · exact h.m0 g (mem_blks (List.mem_of_getElem? h1) h2) hm

theorem Ok.freeze {α : Type} {a : Act} {w : World} (h : Ok w0 M0 n bs st a w) {i t : Nat} {v : Value} {e : TypeId} {sz m : Nat} {rs : List Rp} (hi : bs[i]? = some (.r v e sz m rs)) {f : α → List Rp} (hf : ∀ x, (f x).length = sz) {xs : List α} (hm : m = xs.length) (hrs : rs = xs.flatMap f) (ht : look st t = some (val v)) :
    Ok w0 M0 n (bs.set i (.r nilS e sz 0 [])) ((t, sl sz f xs) :: st) a w := by
  have h1 : Ok w0 M0 n (bs.set i (.r nilS e sz 0 [])) st a w := h.change hi (fun _ _ _ => rfl) (Nat.le_refl _) rfl rfl rfl (fun g hg => by cases hg) (fun g hg => by cases hg) fun M _ => ⟨[], ⟨by simp, .inl ⟨rfl, rfl⟩⟩, trivial⟩
  refine ⟨h1.defers, h1.size, fun t' R ht' => ?_, h1.boxes, h1.nodup, h1.fresh, h1.below, h1.msk, h1.m0⟩
  simp only [look] at ht'
  split at ht'
  · rename_i e'; subst e'; cases ht'
    obtain ⟨cs, h2, h3⟩ := h.boxes _ (List.mem_of_getElem? hi)
    have hv : a.tmps.getD t' undef = v := h.facts t' _ ht
    rw [hv]
    subst hm; subst hrs
    have hle : ∀ b, mkM M0 (bs.set i (.r nilS e sz 0 [])) b → mkM M0 bs b := fun b hb => by
      rcases hb with hb | hb
      · exact .inl hb
      · rcases mem_blks_set hb with h4 | ⟨j, z, _, h4, h5⟩
        · cases h4
        · exact .inr (mem_blks (List.mem_of_getElem? h4) h5)
    refine sl_of_own hf h2 (h3.keep (Kp.less w hle)) fun g hg hm => ?_
    rcases hm with hm | hm
    · -- a block of the call's own is none of the caller's
      exact h.m0 g (mem_blks (List.mem_of_getElem? hi) hg) hm
    · rcases mem_blks_set hm with h4 | ⟨j, z, hj, h4, h5⟩
      · cases h4
      · exact hj (blks_uniq h.nodup h4 hi h5 hg)
  · exact h1.facts t' R ht'

theorem sl_cells {α : Type} {sz : Nat} {f : α → List Rp} (hf : ∀ x, (f x).length = sz) {w : World} {M : Mask} {b o : Nat} : ∀ {xs : List α} {j : Nat}, (∀ i x, xs[i]? = some x → CellsAt w M b (o + (j + i) * sz) (f x)) →
    ∃ cs : List Value, All2 w M (xs.flatMap f) cs ∧ cs.length = xs.length * sz ∧ ∀ q u, cs[q]? = some u → w.cell? ⟨b, o + j * sz + q, none⟩ = some u
  | [], j, _ => ⟨[], trivial, by simp, fun q u h => by simp at h⟩
  | x :: xs, j, h => by
    obtain ⟨c1, h1, h2⟩ := (h 0 x rfl).all2
    obtain ⟨cs, h3, h4, h5⟩ := sl_cells hf (xs := xs) (j := j + 1) fun i y hy => by
      have := h (i + 1) y (by simpa using hy)
      rwa [show j + (i + 1) = j + 1 + i from by omega] at this
    have hl1 : c1.length = sz := by rw [← h1.length, hf]
    refine ⟨c1 ++ cs, by rw [List.flatMap_cons]; exact h1.append h3, by rw [List.length_append, hl1, h4, List.length_cons, Nat.succ_mul]; omega, fun q u hq => ?_⟩
    rw [List.getElem?_append] at hq
    split at hq
    · have := h2 q u hq
      rwa [Nat.add_zero] at this
    · have := h5 _ u hq
      rw [hl1, Nat.succ_mul] at this
      rwa [show o + (j * sz + sz) + (q - sz) = o + j * sz + q from by omega] at this

def elemInfo (P : Program) (T : TypeId) : Option (TypeId × Nat × Nat × Nat) := match P.underlying T with
  | some (.slice e) => (P.info? e).bind fun i => i.zero.map fun z => (e, i.size, i.bytes, z.cells.size)
  | _ => none
theorem Ok.setFact {bs' : List Box} {a : Act} {w : World} (h : Ok w0 M0 n bs' st a w) {d : Nat} (hd : d < n) {v : Value} {R : Rp} (hR : R.h v w (mkM M0 bs')) : Ok w0 M0 n bs' ((d, R) :: st) (a.put (some d) v) w := h.put hd (Below.refl _ _) hR

theorem WL.app {α : Type} (i : Nat) {T ty e : TypeId} {sz bytes m d : Nat} {v : Value} {x y : Operand} {pos : String} {af : Array Edge} {rs : List Rp} {f : α → List Rp} {xs : List α} (hb : bs[i]? = some (.r v e sz m rs)) (hT : elemInfo P T = some (e, sz, bytes, sz)) (hsz : 0 < sz) (hx : OF (look st) x (val v)) (hy : OF (look st) y (sl sz f xs)) (hne : xs ≠ []) (hf : ∀ x, (f x).length = sz)
    (hl : m + xs.length ≤ 9223372036854775807) (hby : (m + xs.length) * bytes ≤ 140737488355328) (hd : d < n)
    (rest : ∀ v' : Value, v'.oneCell' = true → WL P w0 M0 n (bs.set i (.r v' e sz (m + xs.length) (rs ++ xs.flatMap f))) ((d, val v') :: st) ops l Q) :
    WL P w0 M0 n bs st ops (⟨some d, .call ⟨.builtin .append, #[x, y], #[T, T]⟩, ty, pos, af, none⟩ :: l) Q := by
  intro a w hok
  have h1 : ev (fun t => a.tmps.getD t undef) x = _ := hx _ w _ fun i R' _ hi => hok.facts i R' hi
  obtain ⟨A, c, h2, h3, h4⟩ := hy (fun t => a.tmps.getD t undef) w _ fun i R' _ hi => hok.facts i R' hi
  rcases h4 with h4 | ⟨b, o, rfl, g1, g2, g3⟩
  · exact absurd h4 hne
  obtain ⟨news, k1, k2, k3⟩ := sl_cells hf (o := o) (j := 0) (xs := xs) fun i x hx => by rw [Nat.zero_add]; exact g3 i x hx
  obtain ⟨cs, c1, c2⟩ := hok.boxes _ (List.mem_of_getElem? hb)
  unfold elemInfo at hT
  split at hT
  · rename_i e' hu
    cases hi : P.info? e' with
    | none => rw [hi] at hT; simp at hT
    | some ti =>
      cases hz : ti.zero with
      | none => rw [hi] at hT; simp [hz] at hT
      | some z =>
        rw [hi] at hT
        simp only [Option.bind_some, hz, Option.map_some, Option.some.injEq, Prod.mk.injEq] at hT
        obtain ⟨rfl, t1, t2, t3⟩ := hT
        obtain ⟨v', w', r1, r2, r3, _, r4⟩ := run_append_own_at (P := P) w 0 T ty e' ti z sz bytes hu hi hz t1 t2 t3 hsz v m cs c1 ⟨b, o, none⟩ xs.length c news k2 (fun j u hj => by rw [add_at]; have := k3 j u hj; rwa [Nat.zero_mul, Nat.add_zero] at this) k1.one (by unfold maxLen; omega) hby (Nat.zero_le _)
        refine wpList_plain rfl fun K hK => ?_
        unfold Oper.wp
        rw [eval_ev, exec_eq]
        have hrun : (execOp (ev fun t => a.tmps.getD t undef) ⟨none, .call ⟨.builtin .append, #[x, y], #[T, T]⟩, ty, "", #[], none⟩).run P w = .ok (.value v') w' := by
          simp only [execOp, resolve, invoke, builtin, Sem.run_bind, Sem.run_pure, Result.andThen_ok, List.map_toArray, List.map_cons, List.map_nil, h1, h2, r1]
        rw [hrun]
        have hkey : ∀ g, v'.ownBlock = some g → v.ownBlock = some g ∨ w.heap.size ≤ g := fun g hg => by
          rcases r4 with r4 | r4
          · exact .inl (r4.symm.trans hg)
          · rw [r4] at hg; cases hg; exact .inr (Nat.le_refl _)
        have hch := hok.change (y := .r v' e' sz (m + xs.length) (rs ++ xs.flatMap f)) hb (w' := w') (fun g hg hne' => r3.block g hg fun e => hne' e.symm) r3.size r3.os r3.tape r3.output hkey (fun g hg => by
          have hg : v'.ownBlock = some g := hg
          rcases r2.2 with ⟨rfl, _⟩ | ⟨g', _, _, rfl, _, g5, _⟩
          · cases hg
          · cases hg; exact (Array.getElem?_eq_some_iff.1 g5).1) fun M hM => ⟨_, r2, (c2.append k1).keep hM⟩
        exact hK _ _ (rest v' (by rcases r2.2 with ⟨h, _⟩ | ⟨_, _, _, h, _⟩ <;> rw [h] <;> rfl) _ _ (hch.setFact hd rfl))
  · cases hT

theorem WP.freeze {α : Type} (i t : Nat) {v : Value} {e : TypeId} {sz m : Nat} {rs : List Rp} (f : α → List Rp) (xs : List α) (hi : bs[i]? = some (.r v e sz m rs)) (hf : ∀ x, (f x).length = sz) (hm : m = xs.length) (hrs : rs = xs.flatMap f) (ht : look st t = some (val v))
    (h : WP P w0 M0 n (bs.set i (.r nilS e sz 0 [])) ((t, sl sz f xs) :: st) c Q) : WP P w0 M0 n bs st c Q := fun a w hok => h a w (hok.freeze hi hf hm hrs ht)
theorem WL.freeze {α : Type} (i t : Nat) {v : Value} {e : TypeId} {sz m : Nat} {rs : List Rp} (f : α → List Rp) (xs : List α) (hi : bs[i]? = some (.r v e sz m rs)) (hf : ∀ x, (f x).length = sz) (hm : m = xs.length) (hrs : rs = xs.flatMap f) (ht : look st t = some (val v))
    (h : WL P w0 M0 n (bs.set i (.r nilS e sz 0 [])) ((t, sl sz f xs) :: st) ops l Q) : WL P w0 M0 n bs st ops l Q := fun a w hok => h a w (hok.freeze hi hf hm hrs ht)
end
end Go.Fw

/- Calls that write what the caller lent; guards that are decided; slices written out. No program in sight. -/
namespace Go.Fw
open Go.RowKit Go.Proofs
set_option linter.unusedVariables false
set_option linter.unusedSimpArgs false
section
variable {P : Program} {w0 : World} {M0 : Mask} {n : Nat} {bs : List Box} {st : St} {ops : Array Oper} {l : List Oper} {Q : Exit → Act → World → Prop} {c : Code}

theorem Ok.mem {a : Act} {w : World} (h : Ok w0 M0 n bs st a w) : Mem w0 M0 bs w := ⟨h.boxes, h.nodup, h.fresh, h.below, h.msk, h.m0⟩
theorem Mem.ok {a : Act} {w w' : World} (h : Ok w0 M0 n bs st a w) {bs' : List Box} (hd : defs bs' = defs bs) (hm : Mem w0 M0 bs' w') (hk : Kp w (mkM M0 bs) w' (mkM M0 bs')) : Ok w0 M0 n bs' st a w' :=
  ⟨h.defers.trans hd.symm, h.size, fun i R hi => R.keep (h.facts i R hi) hk, hm.boxes, hm.nodup, hm.fresh, hm.below, hm.msk, hm.m0⟩

def since (w : World) (M : Mask) : Rp := ⟨fun _ w' M' => Kp w M w' M', fun h k => h.trans k⟩
abbrev sinceAt : Nat := 1000000
theorem look_app (s s' : St) (i : Nat) : look (s ++ s') i = (look s i).or (look s' i) := by
  induction s with
  | nil => rfl
  | cons x s ih =>
    obtain ⟨u, r⟩ := x
    simp only [List.cons_append, look]
    split
    · rfl
    · exact ih
theorem Ok.tail {x : Box} {a : Act} {w : World} (h : Ok w0 M0 n (x :: bs) st a w) (hx : x.mark = none) : Ok w0 M0 n bs st a w := by
  have hsub : ∀ g, g ∈ blks bs → g ∈ blks (x :: bs) := fun g hg => by
    obtain ⟨u, hu, e⟩ := List.mem_filterMap.1 hg
    exact mem_blks (List.mem_cons_of_mem _ hu) e
  have hk := Kp.less w (M := mkM M0 (x :: bs)) (M' := mkM M0 bs) fun b hb => hb.imp id (hsub b)
  refine ⟨h.defers.trans (defs_cons hx bs), h.size, fun i R hi => R.keep (h.facts i R hi) hk, fun y hy => (h.boxes y (List.mem_cons_of_mem _ hy)).same (fun _ _ _ => rfl) hk, ?_, fun g hg => h.fresh g (hsub g hg), h.below, fun b hb => h.msk b (hb.imp id (hsub b)), fun g hg => h.m0 g (hsub g hg)⟩
  have := h.nodup
  unfold blks at *
  rw [List.filterMap_cons] at this
  cases hxb : x.blk with
  | none => rw [hxb] at this; exact this
  | some g => rw [hxb] at this; exact (List.nodup_cons.1 this).2
abbrev noMark (bs : List Box) : Bool := bs.all fun x => x.mark.isNone
theorem Ok.drop {a : Act} {w : World} (k : Nat) (h : Ok w0 M0 n bs st a w) (hx : noMark (bs.take k) = true) : Ok w0 M0 n (bs.drop k) st a w := by
  induction k generalizing bs with
  | zero => exact h
  | succ k ih => cases bs with
    | nil => exact h
    | cons x bs =>
      simp only [noMark, List.take_succ_cons, List.all_cons, Bool.and_eq_true, Option.isNone_iff_eq_none] at hx
      exact ih (h.tail hx.1) hx.2
theorem Sub.ofD {st' : St} {bs' : List Box} (k : Nat) (hb : bs.drop k = bs') (h : ∀ i R, look st' i = some R → ∃ R', look st i = some R' ∧ ∀ v w M, R'.h v w M → R.h v w M) (hx : noMark (bs.take k) = true := by rfl) : Sub w0 M0 n bs st bs' st' := fun a w hok => by
  subst hb
  exact Sub.of h a w (hok.drop k hx)
theorem calls_lent {f : FuncId} {fn : Func} {args : List Rp} {R : Ending → World → Prop} (hf : P.funcs[f]? = some fn) (hb : fn.body = some c) (hn : fn.ntmps = n) (hl : args.length ≤ n) {w : World} {vs : List Value} (hm : Mem w0 M0 bs w) (hvs : TupAll w (mkM M0 bs) args vs)
    (h : WP P w0 M0 n bs (argst 0 args ++ [(sinceAt, since w (mkM M0 bs))]) c (bodyPost P fn R)) (hd : defs bs = [] := by rfl) : Calls P f vs.toArray w R := by
  refine calls_of_wp hf hb (h _ _ ⟨hd.symm, ?_, ?_, hm.boxes, hm.nodup, hm.fresh, hm.below, hm.msk, hm.m0⟩)
  · have := TupAll.length hvs
    simp; omega
  · intro t R ht
    rw [look_app] at ht
    cases hq : look (argst 0 args) t with
    | none =>
      rw [hq] at ht
      simp only [Option.none_or, look] at ht
      split at ht
      · cases ht; exact Kp.refl w _
      · cases ht
    | some R' =>
    rw [hq] at ht
    cases ht
    obtain ⟨v, h1, h2, h3⟩ := look_argst hvs t R hq
    have h4 : (vs.toArray ++ Array.replicate (fn.ntmps - vs.toArray.size) undef).getD t undef = v := by
      have hlt := (List.getElem?_eq_some_iff.1 h2).1
      simp only [Nat.sub_zero] at h2 hlt
      rw [Array.getD_eq_getD_getElem?, Array.getElem?_append_left (by simpa using hlt)]
      simp [h2]
    show R.h ((vs.toArray ++ Array.replicate (fn.ntmps - vs.toArray.size) undef).getD t undef) w _
    rw [h4]
    exact h3

def Lent {α : Type} (w0 : World) (M0 : Mask) (bs : List Box) (bx : α → List Box) (I : α → Prop) (R : α → Rp) (w : World) : Ending → World → Prop := fun e w' =>
  ∃ v y, e = .returned v ∧ I y ∧ (R y).h v w' (mkM M0 (bx y)) ∧ Mem w0 M0 (bx y) w' ∧ Kp w (mkM M0 bs) w' (mkM M0 (bx y))
theorem Lead.lent {α : Type} {bx : α → List Box} {I : α → Prop} {R : α → Rp} {w : World} {bs0 : List Box} {fn : Func} {i : Nat} {R0 : Rp} (hr : fn.results = #[.tmp i]) (hs : look st i = some R0) (hsin : look st sinceAt = some (since w (mkM M0 bs0))) (k : Nat) (y : α) (hI : I y) (hb : bs.drop k = bx y) (hR : ∀ v w M, R0.h v w M → (R y).h v w M) (hx : noMark (bs.take k) = true := by rfl) (hd : defs bs = [] := by rfl) :
    Lead w0 M0 n bs st .ret (bodyPost P fn (Lent w0 M0 bs0 bx I R w)) := fun a w' hok => by
  have h1 := hok.drop k hx
  rw [hb] at h1
  exact ⟨hok.defers.trans hd, _, results_tmp hr _ _ _, _, y, rfl, hI, hR _ _ _ (h1.facts i R0 hs), h1.mem, h1.facts _ _ hsin⟩
theorem WL.lent {α : Type} {bx : α → List Box} {I : α → Prop} {R : α → Rp} {d : Nat} {op : Op} {ty : TypeId} {pos : String} {af : Array Edge}
    (h : ∀ a w, Ok w0 M0 n bs st a w → ∃ f vs, (execOp a.eval ⟨none, op, ty, "", #[], none⟩).run P w = .ok (.enter f vs) w ∧ Calls P f vs w (Lent w0 M0 bs bx I R w)) (hd : d < n)
    (rest : ∀ y, I y → WL P w0 M0 n (bx y) ((d, R y) :: st) ops l Q) (hdf : ∀ y, defs (bx y) = defs bs := by intro y; rfl) : WL P w0 M0 n bs st ops (⟨some d, op, ty, pos, af, none⟩ :: l) Q := by
  intro a w hok
  obtain ⟨f, vs, h1, h2⟩ := h a w hok
  refine wpList_plain rfl fun K hK => wp_of_does rfl ?_
  rw [exec_eq, h1]
  refine Calls.mono h2 ?_
  rintro e w' ⟨v, y, rfl, hI, hR, hm, hk⟩
  exact ⟨v, rfl, hK _ _ (rest y hI _ _ ((Mem.ok hok (hdf y) hm hk).setFact hd hR))⟩
theorem run_callF {f : FuncId} (he : Enters P f) {xs : List Operand} {Rs : List Rp} {ats : Array TypeId} {ty : TypeId} (a : Act) (w : World) : (execOp a.eval ⟨none, .call ⟨.value (.func f), xs.toArray, ats⟩, ty, "", #[], none⟩).run P w = .ok (.enter f (xs.map a.eval).toArray) w := by
  have := he (xs.map a.eval).toArray w
  simp [execOp, resolve, Deferred.ofValue, Act.eval, invoke, this]
theorem run_callV {f : FuncId} (he : Enters P f) {i : Nat} {xs : List Operand} {cap : Array Value} {ats : Array TypeId} {ty : TypeId} (a : Act) (w : World) (hv : a.tmps.getD i undef = .func (.func f) #[] cap) : (execOp a.eval ⟨none, .call ⟨.value (.tmp i), xs.toArray, ats⟩, ty, "", #[], none⟩).run P w = .ok (.enter f ((xs.map a.eval).toArray ++ cap)) w := by
  have := he ((xs.map a.eval).toArray ++ cap) w
  have hv : a.eval (.tmp i) = .func (.func f) #[] cap := hv
  simp [execOp, resolve, Deferred.ofValue, hv, invoke, this]
theorem OFs.ok {xs : List Operand} {Rs : List Rp} (h : OFs (look st) xs Rs) {a : Act} {w : World} (hok : Ok w0 M0 n bs st a w) : TupAll w (mkM M0 bs) Rs (xs.map a.eval) := by
  rw [eval_ev]
  exact h.all fun x _ i R' _ hi => hok.facts i R' hi

theorem wanted_of {a : Act} {j dj : Nat} {b want : Bool} {d : Option Nat} {op : Op} {ty : TypeId} {pos : String} {af : Array Edge} (hj : ((ops[j]?).bind (·.dst)) = some dj) (hv : a.tmps.getD dj undef = .bool b) : Region.wanted ⟨d, op, ty, pos, af, some (j, want)⟩ (yielded ops a.tmps) = (b == want) := by
  unfold Region.wanted yielded
  simp only [hj, Option.bind_some]
  rw [Array.getD_eq_getD_getElem?] at hv
  cases hq : a.tmps[dj]? with
  | none => rw [hq] at hv; simp [undef] at hv
  | some u => rw [hq] at hv; simp at hv; subst hv; rfl
theorem WL.gT {d : Option Nat} {op : Op} {ty : TypeId} {pos : String} {af : Array Edge} {j dj : Nat} {want : Bool} (hj : ((ops[j]?).bind (·.dst)) = some dj) (hf : look st dj = some (val (.bool want))) (h : WL P w0 M0 n bs st ops (⟨d, op, ty, pos, af, none⟩ :: l) Q) :
    WL P w0 M0 n bs st ops (⟨d, op, ty, pos, af, some (j, want)⟩ :: l) Q := by
  intro a w hok
  have h1 := h a w hok
  have hw : Region.wanted ⟨d, op, ty, pos, af, some (j, want)⟩ (yielded ops a.tmps) = true := by rw [wanted_of hj (hok.facts dj _ hf)]; simp
  simp only [wpList] at h1 ⊢
  rw [if_pos (by simp [Region.wanted])] at h1
  rw [if_pos hw]
  refine h1.imp (fun h => ?_) (fun h => ?_)
  · unfold Oper.wp at *
    rw [exec_eq] at *
    exact h
  · refine ⟨?_, h.2⟩
    have := h.1
    unfold Oper.asks at *
    rw [exec_eq] at *
    exact this
theorem WL.gF {d : Nat} {op : Op} {ty : TypeId} {pos : String} {af : Array Edge} {j dj : Nat} {b want : Bool} (hj : ((ops[j]?).bind (·.dst)) = some dj) (hf : look st dj = some (val (.bool b))) (hb : b ≠ want) (hd : d < n) (h : WL P w0 M0 n bs ((d, val undef) :: st) ops l Q) :
    WL P w0 M0 n bs st ops (⟨some d, op, ty, pos, af, some (j, want)⟩ :: l) Q := by
  intro a w hok
  have hw : Region.wanted ⟨some d, op, ty, pos, af, some (j, want)⟩ (yielded ops a.tmps) = false := by rw [wanted_of hj (hok.facts dj _ hf)]; simpa using hb
  simp only [wpList]
  rw [if_neg (by rw [hw]; exact Bool.false_ne_true)]
  exact h _ _ (hok.setFact hd rfl)
theorem WL.gU {d : Nat} {op : Op} {ty : TypeId} {pos : String} {af : Array Edge} {j dj : Nat} {want : Bool} (hj : ((ops[j]?).bind (·.dst)) = some dj) (hf : look st dj = some (val undef)) (hd : d < n) (h : WL P w0 M0 n bs ((d, val undef) :: st) ops l Q) :
    WL P w0 M0 n bs st ops (⟨some d, op, ty, pos, af, some (j, want)⟩ :: l) Q := by
  intro a w hok
  have hv : a.tmps.getD dj undef = undef := hok.facts dj _ hf
  have hw : Region.wanted ⟨some d, op, ty, pos, af, some (j, want)⟩ (yielded ops a.tmps) = false := by
    unfold Region.wanted yielded
    simp only [hj, Option.bind_some]
    rw [Array.getD_eq_getD_getElem?] at hv
    cases hq : a.tmps[dj]? with
    | none => rfl
    | some u => rw [hq] at hv; simp at hv; subst hv; rfl
  simp only [wpList]
  rw [if_neg (by rw [hw]; exact Bool.false_ne_true)]
  exact h _ _ (hok.setFact hd rfl)
theorem WL.gd {d dj j : Nat} {op : Op} {ty : TypeId} {pos : String} {af : Array Edge} {R Rg : Rp} {want : Bool} {p : Prop} (hj : ((ops[j]?).bind (·.dst)) = some dj) (hg : look st dj = some Rg) (ht : Tells Rg want p) (h : p → OpG P bs (look st) op ty R) (hd : d < n)
    (rest : WL P w0 M0 n bs ((d, Fw.gd p R) :: st) ops l Q) : WL P w0 M0 n bs st ops (⟨some d, op, ty, pos, af, some (j, want)⟩ :: l) Q := by
  intro a w hok
  rcases ht _ _ _ (hok.facts dj _ hg) with ⟨hp, hv⟩ | ⟨hp, hv⟩
  · have key : WL P w0 M0 n bs st ops (⟨some d, op, ty, pos, af, none⟩ :: l) Q := WL.op (h hp) hd fun a' w' hok' => rest a' w' ⟨hok'.defers, hok'.size, fun t R' ht' => by
      simp only [look] at ht'
      split at ht'
      · rename_i e; subst e; cases ht'; exact .inl ⟨hp, hok'.facts t R (by simp [look])⟩
      · rename_i e; exact hok'.facts t R' (by simp only [look]; rw [if_neg e]; exact ht'), hok'.boxes, hok'.nodup, hok'.fresh, hok'.below, hok'.msk, hok'.m0⟩
    have h1 := key a w hok
    have hw : Region.wanted ⟨some d, op, ty, pos, af, some (j, want)⟩ (yielded ops a.tmps) = true := by rw [wanted_of hj hv]; simp
    simp only [wpList] at h1 ⊢
    rw [if_pos (by simp [Region.wanted])] at h1
    rw [if_pos hw]
    refine h1.imp (fun h => ?_) (fun h => ?_)
    · unfold Oper.wp at *
      rw [exec_eq] at *
      exact h
    · refine ⟨?_, h.2⟩
      have := h.1
      unfold Oper.asks at *
      rw [exec_eq] at *
      exact this
  · have hw : Region.wanted ⟨some d, op, ty, pos, af, some (j, want)⟩ (yielded ops a.tmps) = false := by
      unfold Region.wanted yielded
      simp only [hj, Option.bind_some]
      rw [Array.getD_eq_getD_getElem?] at hv
      cases hq : a.tmps[dj]? with
      | none => rfl
      | some u =>
        rw [hq] at hv
        cases u <;> first | rfl | (rename_i bb; have : bb ≠ want := fun e => hv (by rw [e]; rfl); cases bb <;> cases want <;> first | rfl | exact absurd rfl this)
    simp only [wpList]
    rw [if_neg (by rw [hw]; exact Bool.false_ne_true)]
    exact rest _ _ (hok.setFact hd (.inr ⟨hp, rfl⟩))
theorem pickT {lk : Nat → Option Rp} {x y z : Operand} {ty : TypeId} {R : Rp} (hx : OF lk x (val (.bool true))) (hy : OF lk y R) : OpG P bs lk (.pick x y z) ty R := OpG.pure fun σ w M hf _ => by
  have h1 : ev σ x = _ := hx σ w M (hf x (by simp [Op.operands]))
  exact ⟨_, by simp [execOp, h1, asBool], hy σ w M (hf y (by simp [Op.operands]))⟩
theorem pickF {lk : Nat → Option Rp} {x y z : Operand} {ty : TypeId} {R : Rp} (hx : OF lk x (val (.bool false))) (hz : OF lk z R) : OpG P bs lk (.pick x y z) ty R := OpG.pure fun σ w M hf _ => by
  have h1 : ev σ x = _ := hx σ w M (hf x (by simp [Op.operands]))
  exact ⟨_, by simp [execOp, h1, asBool], hz σ w M (hf z (by simp [Op.operands]))⟩

theorem mfn {lk : Nat → Option Rp} {f : FuncId} {i : Nat} {ty : TypeId} {p : Value} (hx : lk i = some (val p)) : OpG P bs lk (.makeFunc (.func f) #[] #[.tmp i]) ty (val (.func (.func f) #[] #[p])) := opr fun σ w M hf => by
  have h1 : σ i = p := hf (.tmp i) (by simp [Op.operands]) i _ rfl hx
  simp [execOp, Instr.makeFunc, ev, h1]
theorem bsl1 {α : Type} {lk : Nat → Option Rp} {T ty e : TypeId} {sz bytes : Nat} {x : Operand} {R : Rp} {f : α → List Rp} {el : α} (hT : elemInfo P T = some (e, sz, bytes, sz)) (hx : OF lk x R) (hfl : Flat R (f el)) (hf : (f el).length = sz) (h0 : 0 < sz) (h1 : sz ≤ 1000) :
    OpG P bs lk (.buildSlice T 1 #[(0, x)]) ty (sl sz f [el]) := fun σ w M hm hfa _ => by
  obtain ⟨vs, g1, g2⟩ := hfl _ _ _ (hx σ w M (hfa x (by simp [Op.operands])))
  have hlv := g2.length
  unfold elemInfo at hT
  split at hT
  · rename_i e' hu
    cases hi : P.info? e' with
    | none => rw [hi] at hT; simp at hT
    | some ti =>
      cases hz : ti.zero with
      | none => rw [hi] at hT; simp [hz] at hT
      | some z =>
        rw [hi] at hT
        simp only [Option.bind_some, hz, Option.map_some, Option.some.injEq, Prod.mk.injEq] at hT
        obtain ⟨rfl, t1, t2, t3⟩ := hT
        have hb : Below w.heap.size w (w.alloc (.cells vs.toArray e')) := (Below.refl _ w).alloc (Nat.le_refl _) _
        have hfold : ∀ (cs : List Value), cs.length = vs.length → (vs.zipIdx 0).foldl (fun cs (c, j) => cs.setIfInBounds (0 * sz + j) c) cs.toArray = vs.toArray := by
          have key : ∀ (vs pre suf : List Value), suf.length = vs.length → (vs.zipIdx pre.length).foldl (fun cs (c, j) => cs.setIfInBounds (0 * sz + j) c) (pre ++ suf).toArray = (pre ++ vs).toArray := by
            intro vs
            induction vs with
            | nil => intro pre suf h; have : suf = [] := List.eq_nil_of_length_eq_zero h; simp [this]
            | cons v vs ih =>
              intro pre suf h
              cases suf with
              | nil => simp at h
              | cons s suf =>
                simp only [List.zipIdx_cons, List.foldl_cons, List.setIfInBounds_toArray, Nat.zero_mul, Nat.zero_add]
                have hset : (pre ++ s :: suf).set pre.length v = (pre ++ [v]) ++ suf := by simp
                rw [hset]
                have := ih (pre ++ [v]) suf (by simpa using h)
                simp only [List.length_append, List.length_cons, List.length_nil, Nat.zero_add, Nat.zero_mul] at this
                rw [this]
                simp
          intro cs hc
          exact key vs [] cs hc
        have hrun : (Instr.buildSlice T 1 #[(0, ev σ x)]).run P w = .ok (.slice (some ⟨w.heap.size, 0, none⟩) 1 1) (w.alloc (.cells vs.toArray e')) := by
          have hfill : ∀ cs : Array Value, cs.size = sz → Instr.fill (fun i => some (i * sz, sz)) cs [(0, ev σ x)] = some vs.toArray := fun cs hc => by
            have e := hfold cs.toList (by simp; omega)
            simp only [Instr.fill, g1]
            rw [if_neg (by simp; omega)]
            refine congrArg some (Eq.trans ?_ e)
            simp
          unfold Instr.buildSlice
          have hsz : ti.size = sz := t1
          have h2 : ¬ (1 * sz > 2 ^ 24) := by omega
          have h3 : ¬ (1 * sz = 0) := by omega
          simp only [Sem.run_bind, run_underlying hu, Result.andThen_ok, sizeOf, typeInfo, run_program, hi, Sem.run_pure, hsz, Sem.run_ite, if_neg h2, if_neg h3, zeroValue, hz]
          rw [hfill _ (by simp)]
          simp [newRow]
        have : (execOp (ev σ) ⟨none, .buildSlice T 1 #[(0, x)], ty, "", #[], none⟩).run P w = .ok (.value (.slice (some ⟨w.heap.size, 0, none⟩) 1 1)) (w.alloc (.cells vs.toArray e')) := by
          simp [execOp, hrun]
        rw [this]
        refine ⟨⟨some ⟨w.heap.size, 0, none⟩, 1, rfl, Nat.le_refl _, .inr ⟨w.heap.size, 0, rfl, by simp, fun h => by have := hm _ h; omega, fun i y hy => ?_⟩⟩, hb⟩
        have hi0 : i = 0 ∧ y = el := by
          cases i with
          | zero => simp at hy; exact ⟨rfl, hy.symm⟩
          | succ i => simp at hy
        obtain ⟨rfl, rfl⟩ := hi0
        refine CellsAt.of_all2 (g2.keep (Kp.of_below M hb)) fun j v hv => ?_
        have h4 := heap_alloc_new w (.cells vs.toArray e')
        simp only [World.cell?, h4, Nat.zero_mul, Nat.zero_add]
        simpa using hv
  · cases hT
end
end Go.Fw

/- More operations: shifts, remainders, '==' of Bools and of structs of ints. No program in sight. -/
namespace Go.Fw
open Go.RowKit Go.Proofs
set_option linter.unusedVariables false
set_option linter.unusedSimpArgs false
section
variable {P : Program} {bs : List Box} {lk : Nat → Option Rp} {ty T T' : TypeId} {x y : Operand} {kd kd' : IntKind} {a b : Int}
theorem rem_ (hx : OF lk x (val (.int kd a))) (hy : OF lk y (val (.int kd b))) (h0 : 0 ≤ a) (h1 : 0 < b) : OpG P bs lk (.binOp .rem T x y T') ty (val (.int kd (a % b))) :=
  opr fun σ w M hf => by
    have e1 : ev σ x = _ := hx σ w M (hf x (by simp [Op.operands, Call.operands])); have e2 : ev σ y = _ := hy σ w M (hf y (by simp [Op.operands, Call.operands]))
    have e3 : ¬ b = 0 := by omega
    simp [execOp, e1, e2, binOp, eqGuard, Op.intDiv, e3, Int.tmod_eq_emod_of_nonneg h0]
theorem neb {c d : Bool} (hT : P.underlying T = some .bool) (hx : OF lk x (val (.bool c))) (hy : OF lk y (val (.bool d))) : OpG P bs lk (.binOp .neq T x y T') ty (val (.bool (!(c == d)))) :=
  opr fun σ w M hf => by
    have e1 : ev σ x = _ := hx σ w M (hf x (by simp [Op.operands, Call.operands])); have e2 : ev σ y = _ := hy σ w M (hf y (by simp [Op.operands, Call.operands]))
    simp [execOp, e1, e2, eqGuard, run_neq_bool w T c d hT]
def intFields (P : Program) (T : TypeId) (n : Nat) : Bool := match P.underlying T with
  | some (.struct fs) => decide (fs.size = n) && !P.stoodInHeld T && !P.eqGuardType P.depth T && fs.toList.zipIdx.all fun (f, i) => f.name != "_" && f.offset == i && P.plainKey f.type && (match P.underlying f.type with | some (.int .i64) => true | _ => false)
  | _ => false
end
end Go.Fw

/- Inside a round of a range over a function. No program in sight. -/
namespace Go.Fw
open Go.RowKit Go.Proofs
set_option linter.unusedVariables false
set_option linter.unusedSimpArgs false
section
variable {P : Program} {r m : Nat} {w0 : World} {M0 : Mask} {n : Nat} {bs : List Box} {st : St} {ops : Array Oper} {l : List Oper} {Q : Exit → Act → World → Prop}
abbrev FR (r : Nat) : Fence := Fence.wide.inRound r
theorem rowsIn_wide {row : String} {args : Array Value} {w : World} {R : Value → World → Prop} (h : Rows P row args w R) : RowsIn (FR r) m P row args w R := fun c cs _ =>
  let ⟨v, w', q, s⟩ := h c cs; ⟨v, w', q, (stepsIn_wide (P := P)).2 s⟩
theorem up_in {o : Oper} {a : Act} {K K' : Act → World → Prop} {Q Q' : Exit → Act → World → Prop} {res : Result Next} (hK : ∀ a w, K a w → K' a w) (hQ : ∀ e a w, e ≠ .normal → Q e a w → Q' e a w) (h : o.upon P a K Q res) : o.uponIn (FR r) m P a K' Q' res := by
  cases res with
  | ok x w =>
    cases x with
    | value v => exact hK _ _ h
    | skip => exact hK _ _ h
    | defer d => exact hK _ _ h
    | enter f args =>
      refine ⟨fun h => (by cases h), (callsIn_wide.2 (Calls.mono (h : Calls P f args w _) fun e w' q => ?_) : CallsIn Fence.wide (m - 1) P f args w _).inRound r⟩
      cases e with
      | returned v => exact hK _ _ q
      | panicked ch => exact hQ _ _ _ (by simp) q
      | outgrown => obtain ⟨a', w'', q⟩ := (q : LetsOut Q); exact ⟨a', w'', hQ _ _ _ (by simp) q⟩
    | row row args => exact ⟨fun h => (by cases h), rowsIn_wide (Rows.mono (h : Rows P row args w _) fun v w' q => hK _ _ q)⟩
    | round _ _ _ _ _ => exact (h : False).elim
    | _ => exact (h : False).elim
  | halt x w =>
    cases x with
    | panic v => exact hQ _ _ _ (by simp) h
    | _ => exact (h : False).elim
def WLI (P : Program) (r m : Nat) (w0 : World) (M0 : Mask) (n : Nat) (bs : List Box) (st : St) (ops : Array Oper) (l : List Oper) (Q : Exit → Act → World → Prop) : Prop := ∀ a w, Ok w0 M0 n bs st a w → wpListIn (FR r) m P ops Q l a w
def WPI (P : Program) (r m : Nat) (w0 : World) (M0 : Mask) (n : Nat) (bs : List Box) (st : St) (c : Code) (Q : Exit → Act → World → Prop) : Prop := ∀ a w, Ok w0 M0 n bs st a w → c.wpIn (FR r) m P Q a w
theorem WLI.of {β : Type} {bx : β → List Box} {sx : β → St} {C : β → Prop} {o : Oper} (hd : ∀ c, o.op ≠ .defer c) (h : WL P w0 M0 n bs st ops [o] (fun e a w => e = .normal ∧ ∃ y, C y ∧ Ok w0 M0 n (bx y) (sx y) a w)) (rest : ∀ y, C y → WLI P r m w0 M0 n (bx y) (sx y) ops l Q) :
    WLI P r m w0 M0 n bs st ops (o :: l) Q := by
  intro a w hok
  have h1 := h a w hok
  have fin : ∀ a w, wpList P ops (fun e a w => e = .normal ∧ ∃ y, C y ∧ Ok w0 M0 n (bx y) (sx y) a w) [] a w → wpListIn (FR r) m P ops Q l a w := fun a w q => by
    obtain ⟨_, y, hy, hok'⟩ := q
    exact rest y hy a w hok'
  rw [wpList] at h1
  rw [wpListIn]
  split at h1
  · rename_i hw
    rw [if_pos hw]
    rcases h1 with h1 | ⟨_, _, _, h1, _⟩
    · refine ⟨fun f _ => trivial, ?_⟩
      rw [Oper.semAt_eq _ _ _ hd]
      exact up_in fin (fun e a w he q => absurd q.1 he) h1
    · cases h1
  · rename_i hw
    rw [if_neg hw]
    exact ⟨fun f _ => trivial, fin _ _ h1⟩
theorem WLI.nl (h : Lead w0 M0 n bs st .normal Q) : WLI P r m w0 M0 n bs st ops [] Q := h
theorem WPI.region {id : Nat} {l : List Oper} (h : WLI P r m w0 M0 n bs st l.toArray l Q) : WPI P r m w0 M0 n bs st (.region id l.toArray false) Q := fun a w hok => wpIn_region_lit (h a w hok)
theorem WPI.seq {x y : Code} (h : WPI P r m w0 M0 n bs st x (Exit.then (y.wpIn (FR r) m P Q) Q)) : WPI P r m w0 M0 n bs st (.seq x y) Q := fun a w hok => wpIn_seq (h a w hok)
theorem WPI.cond {t : Nat} {b : Bool} {x y : Code} (hs : look st t = some (val (.bool b))) (ht : b = true → WPI P r m w0 M0 n bs st x Q) (hf : b = false → WPI P r m w0 M0 n bs st y Q) : WPI P r m w0 M0 n bs st (.cond (.tmp t) x y) Q :=
  fun a w hok => wpIn_cond_split (hok.facts t _ hs) (fun h => ht h a w hok) (fun h => hf h a w hok)
theorem WPI.block {id : Nat} {c : Code} (h : WPI P r m w0 M0 n bs st c (Exit.inBlock id Q)) : WPI P r m w0 M0 n bs st (.block id c) Q := fun a w hok => wpIn_block (h a w hok)
end
end Go.Fw

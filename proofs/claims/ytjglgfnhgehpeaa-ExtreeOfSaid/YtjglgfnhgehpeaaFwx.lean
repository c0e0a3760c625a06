/- Inside a round of a range over a function. No program in sight. -/
import Derived.Test.YtjglgfnhgehpeaaFwv
import Derived.RangeFuncKeeps
import Derived.RangeFuncBound
import Derived.RangeFuncLeaves
import Derived.RangeFuncFrom
import Derived.RangeFuncCalls
import Derived.TacticsIn
namespace Go.Fw
open Go.RowKit Go.Proofs
set_option linter.unusedVariables false
set_option linter.unusedSimpArgs false
section
variable {P : Program} {r m : Nat} {w0 : World} {M0 : Mask} {n : Nat} {bs : List Box} {st : St} {ops : Array Oper} {l : List Oper} {Q : Exit → Act → World → Prop}
/-- the fence of a round -/
abbrev FR (r : Nat) : Fence := Fence.wide.inRound r
theorem rowsIn_wide {row : String} {args : Array Value} {w : World} {R : Value → World → Prop} (h : Rows P row args w R) : RowsIn (FR r) m P row args w R := fun c cs _ =>
  let ⟨v, w', q, s⟩ := h c cs; ⟨v, w', q, (stepsIn_wide (P := P)).2 s⟩
theorem up_in {o : Oper} {a : Act} {K K' : Act → World → Prop} {Q Q' : Exit → Act → World → Prop} {res : Result Next} (hK : ∀ a w, K a w → K' a w) (hQ : ∀ e a w, e ≠ .normal → Q e a w → Q' e a w) (h : o.upon P a K Q res) : o.uponIn (FR r) m P a K' Q' res := by
  cases res with
  | ok x w =>
    cases x with
    | value v => exact hK _ _ h
    | skip => exact hK _ _ h
    | defer d => exact hK _ _ h
    | enter f args =>
      refine ⟨fun h => (by cases h), (callsIn_wide.2 (Calls.mono (h : Calls P f args w _) fun e w' q => ?_) : CallsIn Fence.wide (m - 1) P f args w _).inRound r⟩
      cases e with
      | returned v => exact hK _ _ q
      | panicked ch => exact hQ _ _ _ (by simp) q
      | outgrown => obtain ⟨a', w'', q⟩ := (q : LetsOut Q); exact ⟨a', w'', hQ _ _ _ (by simp) q⟩
    | row row args => exact ⟨fun h => (by cases h), rowsIn_wide (Rows.mono (h : Rows P row args w _) fun v w' q => hK _ _ q)⟩
    | round _ _ _ _ _ => exact (h : False).elim
    | _ => exact (h : False).elim
  | halt x w =>
    cases x with
    | panic v => exact hQ _ _ _ (by simp) h
    | _ => exact (h : False).elim
def WLI (P : Program) (r m : Nat) (w0 : World) (M0 : Mask) (n : Nat) (bs : List Box) (st : St) (ops : Array Oper) (l : List Oper) (Q : Exit → Act → World → Prop) : Prop := ∀ a w, Ok w0 M0 n bs st a w → wpListIn (FR r) m P ops Q l a w
def WPI (P : Program) (r m : Nat) (w0 : World) (M0 : Mask) (n : Nat) (bs : List Box) (st : St) (c : Code) (Q : Exit → Act → World → Prop) : Prop := ∀ a w, Ok w0 M0 n bs st a w → c.wpIn (FR r) m P Q a w
/-- one operation, by what is known of it outside of a round -/
theorem WLI.of {β : Type} {bx : β → List Box} {sx : β → St} {C : β → Prop} {o : Oper} (hd : ∀ c, o.op ≠ .defer c) (h : WL P w0 M0 n bs st ops [o] (fun e a w => e = .normal ∧ ∃ y, C y ∧ Ok w0 M0 n (bx y) (sx y) a w)) (rest : ∀ y, C y → WLI P r m w0 M0 n (bx y) (sx y) ops l Q) :
    WLI P r m w0 M0 n bs st ops (o :: l) Q := by
  intro a w hok
  have h1 := h a w hok
  have fin : ∀ a w, wpList P ops (fun e a w => e = .normal ∧ ∃ y, C y ∧ Ok w0 M0 n (bx y) (sx y) a w) [] a w → wpListIn (FR r) m P ops Q l a w := fun a w q => by
    obtain ⟨_, y, hy, hok'⟩ := q
    exact rest y hy a w hok'
  rw [wpList] at h1
  rw [wpListIn]
  split at h1
  · rename_i hw
    rw [if_pos hw]
    rcases h1 with h1 | ⟨_, _, _, h1, _⟩
    · refine ⟨fun f _ => trivial, ?_⟩
      rw [Oper.semAt_eq _ _ _ hd]
      exact up_in fin (fun e a w he q => absurd q.1 he) h1
    · cases h1
  · rename_i hw
    rw [if_neg hw]
    exact ⟨fun f _ => trivial, fin _ _ h1⟩
theorem WLI.nl (h : Lead w0 M0 n bs st .normal Q) : WLI P r m w0 M0 n bs st ops [] Q := h
theorem WPI.region {id : Nat} {l : List Oper} (h : WLI P r m w0 M0 n bs st l.toArray l Q) : WPI P r m w0 M0 n bs st (.region id l.toArray false) Q := fun a w hok => wpIn_region_lit (h a w hok)
theorem WPI.seq {x y : Code} (h : WPI P r m w0 M0 n bs st x (Exit.then (y.wpIn (FR r) m P Q) Q)) : WPI P r m w0 M0 n bs st (.seq x y) Q := fun a w hok => wpIn_seq (h a w hok)
theorem WPI.cond {t : Nat} {b : Bool} {x y : Code} (hs : look st t = some (val (.bool b))) (ht : b = true → WPI P r m w0 M0 n bs st x Q) (hf : b = false → WPI P r m w0 M0 n bs st y Q) : WPI P r m w0 M0 n bs st (.cond (.tmp t) x y) Q :=
  fun a w hok => wpIn_cond_split (hok.facts t _ hs) (fun h => ht h a w hok) (fun h => hf h a w hok)
theorem WPI.sk (h : Lead w0 M0 n bs st .normal Q) : WPI P r m w0 M0 n bs st .skip Q := fun a w hok => wpIn_skip (h a w hok)
theorem WPI.rt (h : Lead w0 M0 n bs st .ret Q) : WPI P r m w0 M0 n bs st .ret Q := fun a w hok => wpIn_ret (h a w hok)
theorem WPI.xt {id : Nat} (h : Lead w0 M0 n bs st (.exit id) Q) : WPI P r m w0 M0 n bs st (.exit id) Q := fun a w hok => wpIn_exit (h a w hok)
theorem WPI.block {id : Nat} {c : Code} (h : WPI P r m w0 M0 n bs st c (Exit.inBlock id Q)) : WPI P r m w0 M0 n bs st (.block id c) Q := fun a w hok => wpIn_block (h a w hok)
theorem Lead.thnI {y : Code} (h : WPI P r m w0 M0 n bs st y Q) : Lead w0 M0 n bs st .normal (Exit.then (y.wpIn (FR r) m P Q) Q) := h
end
end Go.Fw

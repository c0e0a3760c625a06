/- Parts: Cor, Fwl, Thn, T37. -/
import Derived.Test.YtjglgfnhgehpeaaGreatYx
import Derived.Test.YtjglgfnhgehpeaaGreatYy
import Derived.Test.YtjglgfnhgehpeaaGreatYr
import Derived.Test.YtjglgfnhgehpeaaGreatYd
import Derived.Test.YtjglgfnhgehpeaaGreatYu
/- Families: what the laws say, plainly. -/
set_option linter.unusedVariables false
set_option linter.unusedSimpArgs false
namespace Go.Proofs.YtjglgfnhgehpeaaGreat
open Go.RowKit Go.Fw Go.Xt
def sL {α : Type} (h : α → Int) : List α → Int
  | [] => 0
  | x :: l => h x + sL h l
section
variable {α : Type} {h : α → Int}
theorem sL_app : ∀ (a b : List α), sL h (a ++ b) = sL h a + sL h b
  | [], b => by simp [sL]
  | x :: a, b => by simp only [List.cons_append, sL, sL_app a b]; omega
theorem sL_take [Inhabited α] {l : List α} {i : Nat} (hi : i < l.length) : sL h (l.take (i + 1)) = sL h (l.take i) + h (l.getD (i : Int).toNat default) := by
  rw [List.take_add_one, List.getElem?_eq_getElem hi, sL_app, show ((i : Nat) : Int).toNat = i from by omega, List.getD_eq_getElem?_getD, List.getElem?_eq_getElem hi]
  simp [sL]
theorem sL_nn : ∀ {l : List α}, (∀ x ∈ l, 0 ≤ h x) → 0 ≤ sL h l
  | [], _ => Int.le_refl _
  | x :: l, q => by
    have := q x List.mem_cons_self
    have := sL_nn (l := l) fun y hy => q y (List.mem_cons_of_mem _ hy)
    simp only [sL]; omega
theorem sL_pre {l : List α} (q : ∀ x ∈ l, 0 ≤ h x) (i : Nat) : 0 ≤ sL h (l.take i) ∧ sL h (l.take i) ≤ sL h l := by
  have h1 := sL_nn (l := l.take i) fun x hx => q x (List.mem_of_mem_take hx)
  have h2 := sL_nn (l := l.drop i) fun x hx => q x (List.mem_of_mem_drop hx)
  have h3 := sL_app (h := h) (l.take i) (l.drop i)
  rw [List.take_append_drop] at h3
  omega
end
theorem sumN_sL : ∀ (L : List X), sumN L = sL (·.n) L
  | [] => rfl
  | x :: L => by show x.n + sumN L = _; rw [sumN_sL L]; rfl
theorem rstep_nn {acc : List X} {u : Int} (h : ∀ x ∈ acc, 0 ≤ x.n) : ∀ x ∈ rstep acc (un u), 0 ≤ x.n := by
  intro x hx
  unfold rstep at hx
  split at hx
  · rename_i q
    rcases List.mem_or_eq_of_mem_set hx with hx | rfl
    · exact h x hx
    · have : 0 ≤ (lastX acc).n := by
        rcases List.eq_nil_or_concat acc with rfl | ⟨L, y, rfl⟩
        · simp at q
        · rw [List.concat_eq_append] at h ⊢
          rw [lastX_snoc]
          exact h y (by simp)
      exact Int.le_trans this (Int.le_max_left ..)
  · rcases List.mem_append.1 hx with hx | hx
    · exact h x hx
    · rw [List.mem_singleton] at hx
      subst hx
      show (0 : Int) ≤ 1
      omega
theorem sumN_take {L : List X} {i : Nat} (hi : i < L.length) : sumN (L.take (i + 1)) = sumN (L.take i) + (L.getD (i : Int).toNat default).n := by rw [sumN_sL, sumN_sL, sL_take hi]
theorem sumN_pre {L : List X} (q : ∀ x ∈ L, 0 ≤ x.n) (i : Nat) : 0 ≤ sumN (L.take i) ∧ sumN (L.take i) ≤ sumN L := by rw [sumN_sL, sumN_sL]; exact sL_pre q i
theorem info_tup {g : RF} (h : GOk g) {v : RV} (hv : v ∈ g.vs) : tup [agg (FInf (rInfo g v.s).1), I (rInfo g v.s).2] = tup [agg [val (.string v.s), I v.n, I v.r, I (sumN v.l), I (exH (rCounts g) v.l)], I 0] := by
  have := info_at h hv
  exact congrArg (fun p : Inf × Int => tup [agg (FInf p.1), I p.2]) this
def cN (cs : List Int) (i : Nat) : Int := sumR (fun s => cs.getD s 0) i
def oN (cs : List Int) (i : Nat) : Int := sumR (fun s => if cs.getD s 0 = 1 then 1 else 0) i
def zN (cs : List Int) (i : Nat) : Int := sumR (fun s => if cs.getD s 0 = 0 then 1 else 0) i
theorem oN_bd (cs : List Int) (i : Nat) : 0 ≤ oN cs i ∧ oN cs i ≤ i := ⟨sumR_nn fun _ _ => by split <;> omega, sumR_ub fun _ _ => by split <;> omega⟩
theorem zN_bd (cs : List Int) (i : Nat) : 0 ≤ zN cs i ∧ zN cs i ≤ i := ⟨sumR_nn fun _ _ => by split <;> omega, sumR_ub fun _ _ => by split <;> omega⟩
theorem acc_free {g : RF} (h : GOk g) : zN (rCounts g) g.k = sumN (rFree g) := by
  show _ = sumN (mruns ((za (rCounts g)).map un))
  have := runs_sum (U := za (rCounts g)) (asc_lt _ _)
  rw [this, za_len]
  unfold frN zN
  rw [(counts_spec h).1]
theorem free_nn (g : RF) : ∀ x ∈ rFree g, 0 ≤ x.n := by
  have : ∀ (U : List Int) (acc : List X), (∀ x ∈ acc, 0 ≤ x.n) → ∀ x ∈ (U.map un).foldl rstep acc, 0 ≤ x.n := by
    intro U
    induction U with
    | nil => intro acc h; exact h
    | cons u U ih => intro acc h; exact ih _ (rstep_nn h)
  exact this _ [] fun x hx => by cases hx
end Go.Proofs.YtjglgfnhgehpeaaGreat

/- A closure over two variables; a call that returns nothing and writes what it was lent. No program in sight. -/
namespace Go.Fw
open Go.RowKit Go.Proofs Go.ChangeShapes Go.WideShapes
set_option linter.unusedVariables false
section
variable {P : Program} {bs : List Box} {st : St} {w0 : World} {M0 : Mask} {n : Nat}
theorem mfn2 {lk : Nat → Option Rp} {f : FuncId} {i j : Nat} {ty : TypeId} {p q : Value} (hx : lk i = some (val p)) (hy : lk j = some (val q)) : OpG P bs lk (.makeFunc (.func f) #[] #[.tmp i, .tmp j]) ty (val (.func (.func f) #[] #[p, q])) := opr fun σ w M hf => by
  have h1 : σ i = p := hf (.tmp i) (by simp [Op.operands]) i _ rfl hx
  have h2 : σ j = q := hf (.tmp j) (by simp [Op.operands]) j _ rfl hy
  simp [execOp, Instr.makeFunc, ev, h1, h2]
theorem Lead.lent0 {α : Type} {bx : α → List Box} {I : α → Prop} {w : World} {bs0 : List Box} {fn : Func} (hr : fn.results = #[]) (hsin : look st sinceAt = some (since w (mkM M0 bs0))) (k : Nat) (y : α) (hI : I y) (hb : bs.drop k = bx y) (hx : noMark (bs.take k) = true := by rfl) (hd : defs bs = [] := by rfl) :
    Lead w0 M0 n bs st .normal (bodyPost P fn (Lent w0 M0 bs0 bx I (fun _ => val (.tuple #[])) w)) := fun a w' hok => by
  have h1 := hok.drop k hx
  rw [hb] at h1
  exact ⟨hok.defers.trans hd, _, by rw [results_eq, hr]; simp, _, y, rfl, hI, rfl, h1.mem, h1.facts _ _ hsin⟩
end
end Go.Fw

/- Space accounting: what the walks need, plainly. -/
set_option linter.unusedVariables false
set_option linter.unusedSimpArgs false
namespace Go.Proofs.YtjglgfnhgehpeaaGreat
open Go.RowKit Go.Fw Go.Xt
section
variable {g : RF}
theorem info_bd (h : GOk g) (s : ByteArray) : (0 ≤ (rInfo g s).1.r ∧ (rInfo g s).1.r ≤ 65536) ∧ (0 ≤ (rInfo g s).1.e ∧ (rInfo g s).1.e ≤ 65536) := by
  cases hm : gl s g.vs with
  | none =>
    unfold rInfo
    rw [hm]
    exact ⟨⟨Int.le_refl 0, by show (0 : Int) ≤ 65536; omega⟩, Int.le_refl 0, by show (0 : Int) ≤ 65536; omega⟩
  | some v =>
    have hv := h.vol v (gl_mem hm).1
    have e := info_at h (gl_mem hm).1
    rw [(gl_mem hm).2] at e
    rw [e]
    have h1 := exH_nn (rCounts g) v.l
    have h2 := (ex_bd h (gl_mem hm).1 (a := 0) (b := v.n) (by omega) (by have := hv.n; omega) hv.n.2).2
    rw [parts_full hv.ok fun x hx => (hv.inn x hx).1] at h2
    have := hv.n
    have := hv.r
    exact ⟨⟨by show 0 ≤ v.r; omega, by show v.r ≤ 65536; omega⟩, h1, by show exH (rCounts g) v.l ≤ 65536; omega⟩
theorem claim_inf (g : RF) (s : ByteArray) : tup [I (max 0 ((rInfo g s).1.r - (rInfo g s).1.e)), I (rInfo g s).2] = tup [I (rClaim g s).1, I (rClaim g s).2] := by
  unfold rClaim
  by_cases q : (rInfo g s).2 = 0
  · rw [if_pos q, q]
  · rw [if_neg q]
    unfold rInfo at q ⊢
    cases hm : gl s g.vs with
    | none => rfl
    | some v => rw [hm] at q; exact absurd rfl q
theorem claim_bd (h : GOk g) (s : ByteArray) : 0 ≤ (rClaim g s).1 ∧ (rClaim g s).1 ≤ 65536 := by
  have := info_bd h s
  unfold rClaim
  split
  · dsimp only; omega
  · exact ⟨Int.le_refl 0, by show (0 : Int) ≤ 65536; omega⟩
def clT (g : RF) (i : Nat) : Int := (g.vs.take i).foldl (fun n v => n + (rClaim g v.s).1) 0
theorem clT_step {i : Nat} (hi : i < g.vs.length) : clT g (i + 1) = clT g i + (rClaim g (g.vs.getD (i : Int).toNat default).s).1 := foldl_step _ _ hi
theorem clT_bd (h : GOk g) : ∀ i : Nat, i ≤ g.vs.length → 0 ≤ clT g i ∧ clT g i ≤ 65536 * i
  | 0, _ => ⟨Int.le_refl _, Int.le_refl _⟩
  | i + 1, hi => by
    have h1 := clT_bd h i (by omega)
    have h2 := claim_bd h (g.vs.getD (i : Int).toNat default).s
    rw [clT_step (by omega)]
    omega
theorem clT_all : clT g g.vs.length = rClaims g := by unfold clT; rw [List.take_length]; rfl
theorem claims_bd (h : GOk g) : 0 ≤ rClaims g ∧ rClaims g ≤ 3000000 := by
  have := clT_bd h _ (Nat.le_refl _)
  have := h.num
  rw [clT_all] at *
  omega
theorem room_sum (h : GOk g) : -rClaims g + sumN (rFree g) = rRoom g := by
  have e := runs_sum (U := za (rCounts g)) (asc_lt _ _)
  have : sumN (rFree g) = frN (rCounts g) := by rw [← za_len]; exact e
  unfold rRoom
  rw [free_eq h, this]
  omega
theorem sumF_bd (h : GOk g) (i : Nat) : 0 ≤ sumN ((rFree g).take i) ∧ sumN ((rFree g).take i) ≤ 65536 := by
  have h1 := sumN_pre (free_nn g) i
  have h2 := acc_free h
  have h3 := zN_bd (rCounts g) g.k
  have := h.k
  omega
theorem range_facts (h : GOk g) {s : ByteArray} {a n : Int} (hz : (rRange g s a n).2 = 0) : (∀ x ∈ (rRange g s a n).1, 1 ≤ x.n ∧ 0 ≤ x.s ∧ x.s + x.n ≤ (rCounts g).length) ∧ Xt.Ok 0 (rRange g s a n).1 ∧ 0 ≤ n ∧ n ≤ 65536 := by
  cases hm : gl s g.vs with
  | none => unfold rRange at hz; rw [hm] at hz; cases hz
  | some v =>
    have hv := h.vol v (gl_mem hm).1
    have hvn := hv.n
    by_cases q : inB v.n a n = true
    · obtain ⟨h0, hn, he⟩ := inB_iff.1 q
      have er : (rRange g s a n).1 = Jn (Xt.parts v.l a (a + n)) := by
        unfold rRange
        rw [hm]
        dsimp only
        rw [if_pos q]
        unfold rCut
        rw [if_pos ⟨h0, hn, by omega, by omega⟩]
      rw [er]
      have hok := ok_parts hv.ok (lo' := 0) (f := a) (t := a + n) (by omega)
      refine ⟨?_, (jn_spec hok).1, hn, by omega⟩
      rw [(counts_spec h).1]
      refine mem_hits (jn_spec hok).1 fun t ht => ?_
      rw [hits_jn (ok_nn hok)]
      exact hits_out (parts_slots hv.ok h0 (by omega) (by omega) hv.slots) t ht
    · unfold rRange at hz
      rw [hm] at hz
      dsimp only at hz
      rw [if_neg q] at hz
      cases hz
end
end Go.Proofs.YtjglgfnhgehpeaaGreat

/- Space accounting: the code. -/
set_option linter.unusedVariables false
set_option linter.unusedSimpArgs false
set_option maxRecDepth 4000
namespace Go.Proofs.YtjglgfnhgehpeaaGreat
open Go.RowKit Go.Fw Go.Xt
theorem c_thin_claim {i : Inf} (h1 : 0 ≤ i.r ∧ i.r ≤ 65536) (h2 : 0 ≤ i.e ∧ i.e ≤ 65536) : PureC Tryz.prog 92 [agg (FInf i)] (I (max 0 (i.r - i.e))) := by
  refine PureC.of_wp Tryz.func92 (by kernel_rfl) rfl Tryz.ntmps92 (le_ rfl) (fun w0 M0 => ?_)
  refine WP.seq ?_
  refine WP.region ?_
  refine WL.box (ot rfl) (.agg _) (by decide) fun b1 => ?_
  refine WL.op (asg (oc _)) (by decide) ?_
  refine WL.nl (.thn ?_)
  refine WP.seq ?_
  refine WP.region ?_
  refine WL.op (fv fo_VolumeInfo_2 (ot rfl)) (by decide) ?_
  refine WL.op (lb 0 rfl sc_int (ot rfl) rfl) (by decide) ?_
  refine WL.op (fv fo_VolumeInfo_4 (ot rfl)) (by decide) ?_
  refine WL.op (lb 0 rfl sc_int (ot rfl) rfl) (by decide) ?_
  refine WL.op (sub (ot rfl) (ot rfl) (by omega)) (by decide) ?_
  refine WL.op (mx_ (oc _) (ot rfl)) (by decide) ?_
  refine WL.op (asg (ot rfl)) (by decide) ?_
  refine WL.nl (.thn ?_)
  exact WP.rt (.r1 rfl rfl (imp _))
theorem c_thin_Claim {f : Fam} {g : RF} (hr : Rel f g) {s : ByteArray} : PureC Tryz.prog 41 [eF f, val (.string s)] (tup [I (rClaim g s).1, I (rClaim g s).2]) := by
  refine PureC.of_wp Tryz.func41 (by kernel_rfl) rfl Tryz.ntmps41 (le_ rfl) (fun w0 M0 => ?_)
  refine WP.seq ?_
  refine WP.region ?_
  refine WL.box (ot rfl) (.agg _) (by decide) fun b2 => ?_
  refine WL.op (asg (oc _)) (by decide) ?_
  refine WL.op (asg (oc _)) (by decide) ?_
  refine WL.nl (.thn ?_)
  refine WP.seq ?_
  refine WP.region ?_
  refine WL.op (lbs 0 rfl ag_family_Family (ot rfl) (le_ rfl)) (by decide) ?_
  refine WL.op (mv (ot rfl)) (by decide) ?_
  refine WL.op (call (cr_Info hr) (.c (ot rfl) (.c (ot rfl) .n))) (by decide) ?_
  refine WL.op (mv (ot rfl)) (by decide) ?_
  refine WL.op (ex (ot rfl) rfl) (by decide) ?_
  refine WL.op (ex (ot rfl) rfl) (by decide) ?_
  refine WL.alloc zr_VolumeInfo rfl (by decide) fun b6 => ?_
  refine WL.store 0 rfl (ot rfl) (ot rfl) (.agg _) sz_VolumeInfo rfl (le_ rfl) ?_
  refine WL.op (asg (ot rfl)) (by decide) ?_
  refine WL.nl (.thn ?_)
  refine WP.seq ?_
  refine WP.region ?_
  refine WL.op (lbs 0 rfl ag_VolumeInfo (ot rfl) (le_ rfl)) (by decide) ?_
  refine WL.op (call (c_thin_claim (i := (rInfo g s).1) (info_bd hr.ok s).1 (info_bd hr.ok s).2) (.c (ot rfl) .n)) (by decide) ?_
  refine WL.op (mv (ot rfl)) (by decide) ?_
  refine WL.op (asg (ot rfl)) (by decide) ?_
  refine WL.op (asg (ot rfl)) (by decide) ?_
  refine WL.nl (.thn ?_)
  exact WP.rt (.rN rfl (.cons (.tm rfl) (.cons (.tm rfl) .nil)) (le_ rfl) (imp_eq (claim_inf g s)))
abbrev BC (B1 B3 : Nat) (f : Fam) (y : Int) : List Box := [.b B3 3 [I y], .b B1 28 [sl 1 FI f.cs, mp FV f.vs]]
theorem e_Claims_1 : Enters Tryz.prog 93 := enters_of Tryz.func93 rfl rfl
abbrev fvc (B1 B3 : Nat) : Value := .func (.func 93) #[] #[.pointer (some ⟨B1, 0, none⟩), .pointer (some ⟨B3, 0, none⟩)]

theorem l_Claims_1 {f : Fam} {g : RF} (hr : Rel f g) {w0 : World} {M0 : Mask} {B1 B3 : Nat} {y : Int} {s : ByteArray} {w : World} {vs : List Value} (hm : Mem w0 M0 (BC B1 B3 f y) w) (hvs : TupAll w (mkM M0 (BC B1 B3 f y)) [val (.string s), val (.pointer (some ⟨B1, 0, none⟩)), val (.pointer (some ⟨B3, 0, none⟩))] vs) (hy : 0 ≤ y ∧ y ≤ 3000000) :
    Calls Tryz.prog 93 vs.toArray w (Lent w0 M0 (BC B1 B3 f y) (BC B1 B3 f) (fun z => z = y + (rClaim g s).1) (fun _ => val (.tuple #[])) w) := by
  have hcb := claim_bd hr.ok s
  refine calls_lent Tryz.func93 rfl Tryz.ntmps93 (le_ rfl) hm hvs ?_
  refine WP.seq ?_
  refine WP.region ?_
  refine WL.op (lbs 1 rfl ag_family_Family (ot rfl) (le_ rfl)) (by decide) ?_
  refine WL.op (mv (ot rfl)) (by decide) ?_
  refine WL.op (call (c_thin_Claim hr) (.c (ot rfl) (.c (ot rfl) .n))) (by decide) ?_
  refine WL.op (mv (ot rfl)) (by decide) ?_
  refine WL.op (ex (ot rfl) rfl) (by decide) ?_
  refine WL.op (ex (ot rfl) rfl) (by decide) ?_
  refine WL.op (asg (ot rfl)) (by decide) ?_
  refine WL.op (asg (ot rfl)) (by decide) ?_
  refine WL.nl (.thn ?_)
  refine WP.region ?_
  refine WL.op (lb 0 rfl sc_int (ot rfl) rfl) (by decide) ?_
  refine WL.op (mv (ot rfl)) (by decide) ?_
  refine WL.op (add (ot rfl) (ot rfl) (by omega)) (by decide) ?_
  refine WL.store 0 rfl (ot rfl) (ot rfl) (.leaf (.val rfl)) sz_int rfl (le_ rfl) ?_
  exact WL.nl (Lead.lent0 rfl rfl 0 (y + (rClaim g s).1) rfl rfl)
theorem c_thin_Claims {f : Fam} {g : RF} (hr : Rel f g) : PureC Tryz.prog 43 [eF f] (I (rClaims g)) := by
  have hgn := hr.ok.num
  have hgk := hr.ok.k
  refine PureC.of_wp Tryz.func43 (by kernel_rfl) rfl Tryz.ntmps43 (le_ rfl) (fun w0 M0 => ?_)
  refine WP.seq ?_
  refine WP.region ?_
  refine WL.box (ot rfl) (.agg _) (by decide) fun b1 => ?_
  refine WL.op (asg (oc _)) (by decide) ?_
  refine WL.nl (.thn ?_)
  refine WP.seq ?_
  refine WP.region ?_
  refine WL.alloc zr_int rfl (by decide) fun b3 => ?_
  refine WL.store 0 rfl (ot rfl) (oc _) (.leaf (.val rfl)) sz_int rfl (le_ rfl) ?_
  refine WL.nl (.thn ?_)
  refine WP.seq ?_
  refine WP.region ?_
  refine WL.op (mfn2 rfl rfl) (by decide) ?_
  refine WL.op (asg (ot rfl)) (by decide) ?_
  refine WL.nl (.thn ?_)
  refine WP.seq ?_
  refine WP.seq ?_
  refine WP.region ?_
  refine WL.op (lbs 1 rfl ag_family_Family (ot rfl) (le_ rfl)) (by decide) ?_
  refine WL.op (call (cr_Names hr) (.c (ot rfl) .n)) (by decide) ?_
  refine WL.op (len_ us_s_string (ot rfl)) (by decide) ?_
  refine WL.op (mv (oc _)) (by decide) ?_
  refine WL.nl (.thn ?_)
  refine WP.block ?_
  refine WP.loop (fun y : Nat => (BC b1 b3 f (clT g y))) (fun y => [(11, I (y : Int)), (10, I (g.vs.length : Int)), (9, sl 1 FNm (nms g)), (4, val (fvc b1 b3)), (3, val (.pointer (some ⟨b3, 0, none⟩))), (1, val (.pointer (some ⟨b1, 0, none⟩)))]) (fun y => y ≤ g.vs.length) (fun y => g.vs.length - y) 0 (Nat.zero_le _) (Sub.ofD 0 rfl (Sub.cons rfl (imp_eq rfl) (Sub.cons rfl (imp_eq (congrArg I (by rw [List.length_map]))) (Sub.cons rfl (imp  _) (Sub.cons rfl (imp  _) (Sub.cons rfl (imp  _) (Sub.cons rfl (imp  _) Sub.nil))))))) (fun i hi => ?_)
  replace hi : i ≤ g.vs.length := hi
  show WP _ _ _ _ (BC b1 b3 f (clT g i)) [(11, I (i : Int)), (10, I (g.vs.length : Int)), (9, sl 1 FNm (nms g)), (4, val (fvc b1 b3)), (3, val (.pointer (some ⟨b3, 0, none⟩))), (1, val (.pointer (some ⟨b1, 0, none⟩)))] _ _
  refine WP.seq ?_
  refine WP.region ?_
  refine WL.op (lss (ot rfl) (ot rfl)) (by decide) ?_
  refine WL.nl (.thn ?_)
  refine WP.seq ?_
  refine WP.cond rfl (fun hc => ?_) (fun hc => ?_)
  · skip
    have hc1 : i < g.vs.length := by have := of_decide_eq_true hc; omega
    have hnl : (nms g).length = g.vs.length := List.length_map ..
    have hcl := clT_bd hr.ok i (by omega)
    have hcv := claim_bd hr.ok (g.vs.getD (i : Int).toNat default).s
    refine WP.sk (.thn ?_)
    refine WP.seq ?_
    refine WP.block ?_
    refine WP.seq ?_
    refine WP.region ?_
    refine WL.op (OpG.weak (R' := at_ (FNm (g.vs.getD (i : Int).toNat default).s)) (ixd el_s_string (ot rfl) (ot  rfl) (by omega) (by omega)) (imp_eq (congrArg (fun v => at_ (FNm v)) (names_at hc1)))) (by decide) ?_
    refine WL.op (ld sc_string (ot rfl)) (by decide) ?_
    refine WL.op (asg (ot rfl)) (by decide) ?_
    refine WL.nl (.thn ?_)
    refine WP.region ?_
    refine WL.op (mv (ot rfl)) (by decide) ?_
    refine WL.op (mv (ot rfl)) (by decide) ?_
    refine WL.lent (bx := BC b1 b3 f) (bs := BC b1 b3 f (clT g i)) (I := fun z => z = clT g i + (rClaim g (g.vs.getD (i : Int).toNat default).s).1) (R := fun _ => val (.tuple #[])) (fun a w hok => ?_) (by decide) ?_
    · have h1 : a.tmps.getD 15 undef = fvc b1 b3 := hok.facts 15 _ rfl
      have h2 : (val (.string (g.vs.getD (i : Int).toNat default).s)).h (a.tmps.getD 16 undef) w _ := hok.facts 16 _ rfl
      have h3 := l_Claims_1 hr (w := w) (s := (g.vs.getD (i : Int).toNat default).s) (y := clT g i) (B1 := b1) (B3 := b3) (vs := [a.eval (.tmp 16), .pointer (some ⟨b1, 0, none⟩), .pointer (some ⟨b3, 0, none⟩)]) hok.mem ⟨h2, rfl, rfl, trivial⟩ (by omega)
      have e : (([Operand.tmp 16].map a.eval).toArray ++ #[Value.pointer (some ⟨b1, 0, none⟩), Value.pointer (some ⟨b3, 0, none⟩)]) = [a.eval (.tmp 16), .pointer (some ⟨b1, 0, none⟩), .pointer (some ⟨b3, 0, none⟩)].toArray := by simp
      exact ⟨_, _, run_callV (xs := [_]) e_Claims_1 a w h1, by rw [e]; exact h3⟩
    rintro z hz
    have hz : z = clT g i + (rClaim g (g.vs.getD (i : Int).toNat default).s).1 := hz
    subst hz
    refine WL.nl (.blk (.thn ?_))
    refine WP.region ?_
    refine WL.op (add (ot rfl) (oc _) (by omega)) (by decide) ?_
    refine WL.op (mv (ot rfl)) (by decide) ?_
    exact WL.nl (.again (i + 1) hc1 (by omega) (Sub.ofD 0 (by rw [clT_step hc1]; rfl) (Sub.cons rfl (imp_eq (congrArg I (by omega))) (Sub.cons rfl (imp  _) (Sub.cons rfl (imp  _) (Sub.cons rfl (imp  _) (Sub.cons rfl (imp  _) (Sub.cons rfl (imp  _) Sub.nil))))))))
  · skip
    have hc1 : ¬ i < g.vs.length := by have := of_decide_eq_false hc; omega
    refine WP.xt (.xthn (.xthn (.xin (.thn ?_))))
    refine WP.seq ?_
    refine WP.region ?_
    refine WL.op (lb 0 rfl sc_int (ot rfl) rfl) (by decide) ?_
    refine WL.op (asg (ot rfl)) (by decide) ?_
    refine WL.nl (.thn ?_)
    exact WP.rt (.r1 rfl rfl (imp_eq (by rw [show i = g.vs.length from by omega, clT_all])))
theorem c_thin_Room {f : Fam} {g : RF} (hr : Rel f g) : PureC Tryz.prog 45 [eF f] (I (rRoom g)) := by
  have hgn := hr.ok.num
  have hgk := hr.ok.k
  have hfl := free_len hr.ok
  have hcb := claims_bd hr.ok
  refine PureC.of_wp Tryz.func45 (by kernel_rfl) rfl Tryz.ntmps45 (le_ rfl) (fun w0 M0 => ?_)
  refine WP.seq ?_
  refine WP.region ?_
  refine WL.box (ot rfl) (.agg _) (by decide) fun b1 => ?_
  refine WL.op (asg (oc _)) (by decide) ?_
  refine WL.nl (.thn ?_)
  refine WP.seq ?_
  refine WP.region ?_
  refine WL.op (lbs 0 rfl ag_family_Family (ot rfl) (le_ rfl)) (by decide) ?_
  refine WL.op (call (c_thin_Claims hr) (.c (ot rfl) .n)) (by decide) ?_
  refine WL.op (neg_ (ot rfl) (by omega)) (by decide) ?_
  refine WL.op (asg (ot rfl)) (by decide) ?_
  refine WL.nl (.thn ?_)
  refine WP.seq ?_
  refine WP.seq ?_
  refine WP.region ?_
  refine WL.op (lbs 0 rfl ag_family_Family (ot rfl) (le_ rfl)) (by decide) ?_
  refine WL.op (call (cr_Free hr) (.c (ot rfl) .n)) (by decide) ?_
  refine WL.op (len_ us_s_api_Extent (ot rfl)) (by decide) ?_
  refine WL.op (mv (oc _)) (by decide) ?_
  refine WL.nl (.thn ?_)
  refine WP.block ?_
  refine WP.loop (fun y : Nat => [.b b1 28 [sl 1 FI f.cs, mp FV f.vs]]) (fun y => [(12, I (y : Int)), (11, I ((rFree g).length : Int)), (10, sl 3 FX (rFree g)), (3, I (-rClaims g + sumN ((rFree g).take y)))]) (fun y => y ≤ (rFree g).length) (fun y => (rFree g).length - y) 0 (Nat.zero_le _) (Sub.ofD 0 rfl (Sub.cons rfl (imp_eq rfl) (Sub.cons rfl (imp  _) (Sub.cons rfl (imp  _) (Sub.cons rfl (imp_eq (congrArg I (by rw [List.take_zero]; simp [sumN]))) Sub.nil))))) (fun i hi => ?_)
  replace hi : i ≤ (rFree g).length := hi
  show WP _ _ _ _ [.b b1 28 [sl 1 FI f.cs, mp FV f.vs]] [(12, I (i : Int)), (11, I ((rFree g).length : Int)), (10, sl 3 FX (rFree g)), (3, I (-rClaims g + sumN ((rFree g).take i)))] _ _
  refine WP.seq ?_
  refine WP.region ?_
  refine WL.op (lss (ot rfl) (ot rfl)) (by decide) ?_
  refine WL.nl (.thn ?_)
  refine WP.seq ?_
  refine WP.cond rfl (fun hc => ?_) (fun hc => ?_)
  · skip
    have hc1 : i < (rFree g).length := by have := of_decide_eq_true hc; omega
    have hst := sumN_take hc1
    have hs1 := sumF_bd hr.ok i
    have hs2 := sumF_bd hr.ok (i + 1)
    refine WP.sk (.thn ?_)
    refine WP.seq ?_
    refine WP.block ?_
    refine WP.seq ?_
    refine WP.region ?_
    refine WL.op (ixd el_s_api_Extent (ot rfl) (ot rfl) (by omega) (by omega)) (by decide) ?_
    refine WL.op (ls ag_Extent (ot rfl) (le_ rfl)) (by decide) ?_
    refine WL.alloc zr_Extent rfl (by decide) fun b5 => ?_
    refine WL.store 0 rfl (ot rfl) (ot rfl) (.agg _) sz_Extent rfl (le_ rfl) ?_
    refine WL.nl (.thn ?_)
    refine WP.region ?_
    refine WL.op (mv (ot rfl)) (by decide) ?_
    refine WL.op (fv fo_Extent_1 (ot rfl)) (by decide) ?_
    refine WL.op (lb 0 rfl sc_int (ot rfl) rfl) (by decide) ?_
    refine WL.op (add (ot rfl) (ot rfl) (by omega)) (by decide) ?_
    refine WL.op (asg (ot rfl)) (by decide) ?_
    refine WL.nl (.blk (.thn ?_))
    refine WP.region ?_
    refine WL.op (add (ot rfl) (oc _) (by omega)) (by decide) ?_
    refine WL.op (mv (ot rfl)) (by decide) ?_
    exact WL.nl (.again (i + 1) hc1 (by omega) (Sub.ofD 1 rfl (Sub.cons rfl (imp_eq (congrArg I (by omega))) (Sub.cons rfl (imp  _) (Sub.cons rfl (imp  _) (Sub.cons rfl (imp_eq (congrArg I (by rw [hst]; omega))) Sub.nil))))))
  · skip
    have hc1 : ¬ i < (rFree g).length := by have := of_decide_eq_false hc; omega
    refine WP.xt (.xthn (.xthn (.xin (.thn ?_))))
    refine WP.seq ?_
    refine WP.region ?_
    refine WL.op (mv (ot rfl)) (by decide) ?_
    refine WL.op (asg (ot rfl)) (by decide) ?_
    refine WL.nl (.thn ?_)
    exact WP.rt (.r1 rfl rfl (imp_eq (by rw [List.take_of_length_le (by omega), room_sum hr.ok])))
theorem c_thin_enough {a b : Int} : PureC Tryz.prog 96 [I a, I b] (I (if b < a then 11 else 0)) := by
  refine PureC.of_wp Tryz.func96 (by kernel_rfl) rfl Tryz.ntmps96 (le_ rfl) (fun w0 M0 => ?_)
  refine WP.seq ?_
  refine WP.region ?_
  refine WL.op (asg (oc _)) (by decide) ?_
  refine WL.nl (.thn ?_)
  refine WP.seq ?_
  refine WP.seq ?_
  refine WP.region ?_
  refine WL.op (mv (ot rfl)) (by decide) ?_
  refine WL.op (mv (ot rfl)) (by decide) ?_
  refine WL.op (gtr (ot rfl) (ot rfl)) (by decide) ?_
  refine WL.nl (.thn ?_)
  refine WP.cond rfl (fun hc => ?_) (fun hc => ?_)
  · skip
    refine WP.seq ?_
    refine WP.region ?_
    refine WL.op (asg (oc _)) (by decide) ?_
    refine WL.nl (.thn ?_)
    exact WP.rt (.rthn (.r1 rfl rfl (imp_eq (congrArg I (if_pos (of_decide_eq_true hc)).symm))))
  · skip
    refine WP.sk (.thn ?_)
    refine WP.seq ?_
    refine WP.region ?_
    refine WL.op (asg (oc _)) (by decide) ?_
    refine WL.nl (.thn ?_)
    exact WP.rt (.r1 rfl rfl (imp_eq (congrArg I (if_neg (of_decide_eq_false hc)).symm)))
theorem c_thin_CanCreate {f : Fam} {g : RF} (hr : Rel f g) {n r : Int} : PureC Tryz.prog 53 [eF f, I n, I r] (I (rCanCreate g n r)) := by
  refine PureC.of_wp Tryz.func53 (by kernel_rfl) rfl Tryz.ntmps53 (le_ rfl) (fun w0 M0 => ?_)
  refine WP.seq ?_
  refine WP.region ?_
  refine WL.box (ot rfl) (.agg _) (by decide) fun b3 => ?_
  refine WL.op (asg (oc _)) (by decide) ?_
  refine WL.nl (.thn ?_)
  refine WP.seq ?_
  refine WP.seq ?_
  refine WP.region ?_
  refine WL.op (mv (ot rfl)) (by decide) ?_
  refine WL.op (lss (ot rfl) (oc _)) (by decide) ?_
  refine WL.op (mv (ot rfl)) (by decide) ?_
  refine WL.gd rfl rfl (Tells.v _ _) (fun hg => mv (ot rfl)) (by decide) ?_
  refine WL.gd rfl rfl (Tells.v _ _) (fun hg => gtr (og rfl hg) (oc _)) (by decide) ?_
  refine WL.op (or_ (ot rfl) (ot rfl)) (by decide) ?_
  refine WL.op (mv (ot rfl)) (by decide) ?_
  refine WL.gd rfl rfl (Tells.v _ _) (fun hg => mv (ot rfl)) (by decide) ?_
  refine WL.gd rfl rfl (Tells.v _ _) (fun hg => lss (og rfl hg) (oc _)) (by decide) ?_
  refine WL.op (or_ (ot rfl) (ot rfl)) (by decide) ?_
  refine WL.op (mv (ot rfl)) (by decide) ?_
  refine WL.gd rfl rfl (Tells.v _ _) (fun hg => mv (ot rfl)) (by decide) ?_
  refine WL.gd rfl rfl (Tells.v _ _) (fun hg => mv (ot rfl)) (by decide) ?_
  refine WL.gd rfl rfl (Tells.v _ _) (fun hg => gtr (og rfl hg) (og rfl hg)) (by decide) ?_
  refine WL.op (or_ (ot rfl) (ot rfl)) (by decide) ?_
  refine WL.nl (.thn ?_)
  refine WP.cond rfl (fun hc => ?_) (fun hc => ?_)
  · skip
    have hz : n < 1 ∨ 65536 < n ∨ r < 0 ∨ n < r := by simp only [Bool.or_eq_true, decide_eq_true_eq] at hc; omega
    refine WP.seq ?_
    refine WP.region ?_
    refine WL.op (asg (oc _)) (by decide) ?_
    refine WL.nl (.thn ?_)
    exact WP.rt (.rthn (.r1 rfl rfl (imp_eq (congrArg I (by unfold rCanCreate; rw [if_pos hz])))))
  · skip
    have hz : ¬ (n < 1 ∨ 65536 < n ∨ r < 0 ∨ n < r) := by simp only [Bool.or_eq_false_iff, decide_eq_false_iff_not] at hc; omega
    refine WP.sk (.thn ?_)
    refine WP.seq ?_
    refine WP.region ?_
    refine WL.op (mv (ot rfl)) (by decide) ?_
    refine WL.op (lbs 0 rfl ag_family_Family (ot rfl) (le_ rfl)) (by decide) ?_
    refine WL.op (call (c_thin_Room hr) (.c (ot rfl) .n)) (by decide) ?_
    refine WL.op (call c_thin_enough (.c (ot rfl) (.c (ot rfl) .n))) (by decide) ?_
    refine WL.op (asg (ot rfl)) (by decide) ?_
    refine WL.nl (.thn ?_)
    exact WP.rt (.r1 rfl rfl (imp_eq (congrArg I (by unfold rCanCreate; rw [if_neg hz]))))
theorem canClone_eq {g : RF} {s : ByteArray} (hz : (rInfo g s).2 = 0) : (if rRoom g < (rInfo g s).1.r - max 0 ((rInfo g s).1.r - (rInfo g s).1.e) then (11 : Int) else 0) = rCanClone g s := by
  unfold rCanClone rClaim
  rw [if_pos hz, if_pos hz]
  dsimp only
  split
  · rw [if_pos (by omega)]
  · rw [if_neg (by omega)]
theorem cnt_at2 {g : RF} (h : GOk g) {x : Int} {j : Nat} (h0 : 0 ≤ x) (h1 : x + j < g.k) : rCnt g (x + j) = (rCounts g).getD (x.toNat + j) 0 := by
  unfold rCnt
  rw [if_neg (by omega), show (x + (j : Int)).toNat = x.toNat + j from by omega]
theorem getX_mem {l : List X} {i : Nat} (hi : i < l.length) : l.getD (i : Int).toNat default ∈ l := by
  rw [show ((i : Nat) : Int).toNat = i from by omega, List.getD_eq_getElem?_getD, List.getElem?_eq_getElem hi]
  exact List.getElem_mem hi
theorem c_thin_CanClone {f : Fam} {g : RF} (hr : Rel f g) {s : ByteArray} : PureC Tryz.prog 51 [eF f, val (.string s)] (I (rCanClone g s)) := by
  have hib := info_bd hr.ok s
  have hib2 : -100000 ≤ (rInfo g s).1.r - (rInfo g s).1.e ∧ (rInfo g s).1.r - (rInfo g s).1.e ≤ 65536 := by omega
  refine PureC.of_wp Tryz.func51 (by kernel_rfl) rfl Tryz.ntmps51 (le_ rfl) (fun w0 M0 => ?_)
  refine WP.seq ?_
  refine WP.region ?_
  refine WL.box (ot rfl) (.agg _) (by decide) fun b2 => ?_
  refine WL.op (asg (oc _)) (by decide) ?_
  refine WL.nl (.thn ?_)
  refine WP.seq ?_
  refine WP.region ?_
  refine WL.op (lbs 0 rfl ag_family_Family (ot rfl) (le_ rfl)) (by decide) ?_
  refine WL.op (mv (ot rfl)) (by decide) ?_
  refine WL.op (call (cr_Info hr) (.c (ot rfl) (.c (ot rfl) .n))) (by decide) ?_
  refine WL.op (mv (ot rfl)) (by decide) ?_
  refine WL.op (ex (ot rfl) rfl) (by decide) ?_
  refine WL.op (ex (ot rfl) rfl) (by decide) ?_
  refine WL.alloc zr_VolumeInfo rfl (by decide) fun b5 => ?_
  refine WL.store 0 rfl (ot rfl) (ot rfl) (.agg _) sz_VolumeInfo rfl (le_ rfl) ?_
  refine WL.op (asg (ot rfl)) (by decide) ?_
  refine WL.nl (.thn ?_)
  refine WP.seq ?_
  refine WP.seq ?_
  refine WP.region ?_
  refine WL.op (mv (ot rfl)) (by decide) ?_
  refine WL.op (neq (ot rfl) (oc _)) (by decide) ?_
  refine WL.nl (.thn ?_)
  refine WP.cond rfl (fun hc => ?_) (fun hc => ?_)
  · skip
    have hz : ¬ (rInfo g s).2 = 0 := by simpa using hc
    refine WP.seq ?_
    refine WP.region ?_
    refine WL.op (mv (ot rfl)) (by decide) ?_
    refine WL.op (asg (ot rfl)) (by decide) ?_
    refine WL.nl (.thn ?_)
    exact WP.rt (.rthn (.r1 rfl rfl (imp_eq (congrArg I (by unfold rCanClone; rw [if_neg hz])))))
  · skip
    have hz : (rInfo g s).2 = 0 := by simpa using hc
    refine WP.sk (.thn ?_)
    refine WP.seq ?_
    refine WP.draws ?_
    refine RG.op (fv fo_VolumeInfo_2 (ot rfl)) ?_
    refine RG.op (lb 0 rfl sc_int (ot rfl) rfl) ?_
    refine RG.op (lbs 0 rfl ag_VolumeInfo (ot rfl) (le_ rfl)) ?_
    refine RG.op (call (c_thin_claim (i := (rInfo g s).1) hib.1 hib.2) (.c (ot rfl) .n)) ?_
    refine RG.op (sub (ot rfl) (ot rfl) (by omega)) ?_
    refine RG.op (lbs 1 rfl ag_family_Family (ot rfl) (le_ rfl)) ?_
    refine RG.op (call (c_thin_Room hr) (.c (ot rfl) .n)) ?_
    refine RG.op (call c_thin_enough (.c (ot rfl) (.c (ot rfl) .n))) ?_
    refine RG.op (asg (ot rfl)) ?_
    refine RG.fin HM (by kernel_rfl) ?_
    show WL _ _ _ _ _ _ _ _ _
    refine WL.nl (.thn ?_)
    exact WP.rt (.r1 rfl rfl (imp_eq (congrArg I (canClone_eq hz))))
theorem c_thin_Need {f : Fam} {g : RF} (hr : Rel f g) {s : ByteArray} {a n : Int} : PureC Tryz.prog 47 [eF f, val (.string s), I a, I n] (tup [I (rNeed g s a n).1, I (rNeed g s a n).2]) := by
  have hgn := hr.ok.num
  have hgk := hr.ok.k
  refine PureC.of_wp Tryz.func47 (by kernel_rfl) rfl Tryz.ntmps47 (le_ rfl) (fun w0 M0 => ?_)
  refine WP.seq ?_
  refine WP.region ?_
  refine WL.box (ot rfl) (.agg _) (by decide) fun b4 => ?_
  refine WL.op (asg (oc _)) (by decide) ?_
  refine WL.op (asg (oc _)) (by decide) ?_
  refine WL.nl (.thn ?_)
  refine WP.seq ?_
  refine WP.region ?_
  refine WL.op (lbs 0 rfl ag_family_Family (ot rfl) (le_ rfl)) (by decide) ?_
  refine WL.op (mv (ot rfl)) (by decide) ?_
  refine WL.op (mv (ot rfl)) (by decide) ?_
  refine WL.op (mv (ot rfl)) (by decide) ?_
  refine WL.op (call (cr_Range hr) (.c (ot rfl) (.c (ot rfl) (.c (ot rfl) (.c (ot rfl) .n))))) (by decide) ?_
  refine WL.op (mv (ot rfl)) (by decide) ?_
  refine WL.op (ex (ot rfl) rfl) (by decide) ?_
  refine WL.op (ex (ot rfl) rfl) (by decide) ?_
  refine WL.op (asg (ot rfl)) (by decide) ?_
  refine WL.op (asg (ot rfl)) (by decide) ?_
  refine WL.nl (.thn ?_)
  refine WP.seq ?_
  refine WP.seq ?_
  refine WP.region ?_
  refine WL.op (mv (ot rfl)) (by decide) ?_
  refine WL.op (neq (ot rfl) (oc _)) (by decide) ?_
  refine WL.nl (.thn ?_)
  refine WP.cond rfl (fun hc => ?_) (fun hc => ?_)
  · skip
    have hz : ¬ (rRange g s a n).2 = 0 := by simpa using hc
    refine WP.seq ?_
    refine WP.region ?_
    refine WL.op (mv (ot rfl)) (by decide) ?_
    refine WL.op (asg (oc _)) (by decide) ?_
    refine WL.op (asg (ot rfl)) (by decide) ?_
    refine WL.nl (.thn ?_)
    exact WP.rt (.rthn (.rN rfl (.cons (.tm rfl) (.cons (.tm rfl) .nil)) (le_ rfl) (imp_eq (by unfold rNeed; rw [if_neg hz]))))
  · skip
    have hz : (rRange g s a n).2 = 0 := by simpa using hc
    obtain ⟨hxs, hxo, hn0, hn1⟩ := range_facts hr.ok hz
    have hll := ok_len hxo
    refine WP.sk (.thn ?_)
    refine WP.seq ?_
    refine WP.seq ?_
    refine WP.region ?_
    refine WL.op (mv (ot rfl)) (by decide) ?_
    refine WL.op (len_ us_s_api_Extent (ot rfl)) (by decide) ?_
    refine WL.op (mv (oc _)) (by decide) ?_
    refine WL.nl (.thn ?_)
    refine WP.block ?_
    refine WP.loop (fun y : Nat => [.b b4 28 [sl 1 FI f.cs, mp FV f.vs]]) (fun y => [(28, I (y : Int)), (26, sl 3 FX (rRange g s a n).1), (27, I ((rRange g s a n).1.length : Int)), (4, val (.pointer (some ⟨b4, 0, none⟩))), (3, I (n - exE (rCounts g) ((rRange g s a n).1.take y)))]) (fun y => y ≤ (rRange g s a n).1.length) (fun y => (rRange g s a n).1.length - y) 0 (Nat.zero_le _) (Sub.ofD 0 rfl (Sub.cons rfl (imp_eq rfl) (Sub.cons rfl (imp  _) (Sub.cons rfl (imp  _) (Sub.cons rfl (imp  _) (Sub.cons rfl (imp_eq (congrArg I (by rw [List.take_zero]; simp [exE]))) Sub.nil)))))) (fun i hi => ?_)
    replace hi : i ≤ (rRange g s a n).1.length := hi
    show WP _ _ _ _ [.b b4 28 [sl 1 FI f.cs, mp FV f.vs]] [(28, I (i : Int)), (26, sl 3 FX (rRange g s a n).1), (27, I ((rRange g s a n).1.length : Int)), (4, val (.pointer (some ⟨b4, 0, none⟩))), (3, I (n - exE (rCounts g) ((rRange g s a n).1.take i)))] _ _
    refine WP.seq ?_
    refine WP.region ?_
    refine WL.op (lss (ot rfl) (ot rfl)) (by decide) ?_
    refine WL.nl (.thn ?_)
    refine WP.seq ?_
    refine WP.cond rfl (fun hc => ?_) (fun hc => ?_)
    · skip
      have hc1 : i < (rRange g s a n).1.length := by have := of_decide_eq_true hc; omega
      have hX := hxs _ (getX_mem hc1)
      have he1 := exE_bd hxs hxo i
      have hgc := (counts_spec hr.ok).1
      refine WP.sk (.thn ?_)
      refine WP.seq ?_
      refine WP.block ?_
      refine WP.seq ?_
      refine WP.region ?_
      refine WL.op (ixd el_s_api_Extent (ot rfl) (ot rfl) (by omega) (by omega)) (by decide) ?_
      refine WL.op (ls ag_Extent (ot rfl) (le_ rfl)) (by decide) ?_
      refine WL.alloc zr_Extent rfl (by decide) fun b13 => ?_
      refine WL.store 0 rfl (ot rfl) (ot rfl) (.agg _) sz_Extent rfl (le_ rfl) ?_
      refine WL.nl (.thn ?_)
      refine WP.seq ?_
      refine WP.region ?_
      refine WL.op (fv fo_Extent_2 (ot rfl)) (by decide) ?_
      refine WL.op (lb 0 rfl sc_int (ot rfl) rfl) (by decide) ?_
      refine WL.op (asg (ot rfl)) (by decide) ?_
      refine WL.nl (.thn ?_)
      refine WP.block ?_
      refine WP.loop (fun y : Nat => [.b b13 65 (FX ((rRange g s a n).1.getD (i : Int).toNat default)), .b b4 28 [sl 1 FI f.cs, mp FV f.vs]]) (fun y => [(14, I (((rRange g s a n).1.getD (i : Int).toNat default).s + (y : Int))), (13, val (.pointer (some ⟨b13, 0, none⟩))), (28, I (i : Int)), (26, sl 3 FX (rRange g s a n).1), (27, I ((rRange g s a n).1.length : Int)), (4, val (.pointer (some ⟨b4, 0, none⟩))), (3, I (n - exE (rCounts g) ((rRange g s a n).1.take i) - ex1 (rCounts g) ((rRange g s a n).1.getD (i : Int).toNat default) y))]) (fun y => y ≤ ((rRange g s a n).1.getD (i : Int).toNat default).n.toNat) (fun y => ((rRange g s a n).1.getD (i : Int).toNat default).n.toNat - y) 0 (Nat.zero_le _) (Sub.ofD 0 rfl (Sub.cons rfl (imp_eq (congrArg I (by omega))) (Sub.cons rfl (imp  _) (Sub.cons rfl (imp  _) (Sub.cons rfl (imp  _) (Sub.cons rfl (imp  _) (Sub.cons rfl (imp  _) (Sub.cons rfl (imp_eq (congrArg I (by simp [ex1, sumR]))) Sub.nil)))))))) (fun j hj => ?_)
      replace hj : j ≤ ((rRange g s a n).1.getD (i : Int).toNat default).n.toNat := hj
      show WP _ _ _ _ [.b b13 65 (FX ((rRange g s a n).1.getD (i : Int).toNat default)), .b b4 28 [sl 1 FI f.cs, mp FV f.vs]] [(14, I (((rRange g s a n).1.getD (i : Int).toNat default).s + (j : Int))), (13, val (.pointer (some ⟨b13, 0, none⟩))), (28, I (i : Int)), (26, sl 3 FX (rRange g s a n).1), (27, I ((rRange g s a n).1.length : Int)), (4, val (.pointer (some ⟨b4, 0, none⟩))), (3, I (n - exE (rCounts g) ((rRange g s a n).1.take i) - ex1 (rCounts g) ((rRange g s a n).1.getD (i : Int).toNat default) j))] _ _
      refine WP.seq ?_
      refine WP.seq ?_
      refine WP.region ?_
      refine WL.op (mv (ot rfl)) (by decide) ?_
      refine WL.op (fv fo_Extent_2 (ot rfl)) (by decide) ?_
      refine WL.op (lb 0 rfl sc_int (ot rfl) rfl) (by decide) ?_
      refine WL.op (fv fo_Extent_1 (ot rfl)) (by decide) ?_
      refine WL.op (lb 0 rfl sc_int (ot rfl) rfl) (by decide) ?_
      refine WL.op (add (ot rfl) (ot rfl) (by omega)) (by decide) ?_
      refine WL.op (lss (ot rfl) (ot rfl)) (by decide) ?_
      refine WL.nl (.thn ?_)
      refine WP.cond rfl (fun hc => ?_) (fun hc => ?_)
      · skip
        have hc2 : j < ((rRange g s a n).1.getD (i : Int).toNat default).n.toNat := by have := of_decide_eq_true hc; omega
        have hex := ex1_bd (rCounts g) ((rRange g s a n).1.getD (i : Int).toNat default) j
        refine WP.sk (.thn ?_)
        refine WP.seq ?_
        refine WP.block ?_
        refine WP.seq ?_
        refine WP.region ?_
        refine WL.op (lbs 1 rfl ag_family_Family (ot rfl) (le_ rfl)) (by decide) ?_
        refine WL.op (mv (ot rfl)) (by decide) ?_
        refine WL.op (OpG.weak (R' := I ((rCounts g).getD (((rRange g s a n).1.getD (i : Int).toNat default).s.toNat + j) 0)) (call (cr_Count hr) (.c (ot rfl) (.c (ot rfl) .n))) (imp_eq (congrArg I (cnt_at2 hr.ok (by omega) (by omega))))) (by decide) ?_
        refine WL.op (eql (ot rfl) (oc _)) (by decide) ?_
        refine WL.nl (.thn ?_)
        refine WP.cond rfl (fun hc => ?_) (fun hc => ?_)
        · skip
          have hq : (rCounts g).getD (((rRange g s a n).1.getD (i : Int).toNat default).s.toNat + j) 0 = 1 := of_decide_eq_true hc
          refine WP.region ?_
          refine WL.op (mv (ot rfl)) (by decide) ?_
          refine WL.op (sub (ot rfl) (oc _) (by omega)) (by decide) ?_
          refine WL.op (asg (ot rfl)) (by decide) ?_
          refine WL.nl (.blk (.thn ?_))
          refine WP.region ?_
          refine WL.op (mv (ot rfl)) (by decide) ?_
          refine WL.op (add (ot rfl) (oc _) (by omega)) (by decide) ?_
          refine WL.op (asg (ot rfl)) (by decide) ?_
          exact WL.nl (.again (j + 1) (by omega) (by omega) (Sub.ofD 0 rfl (Sub.cons rfl (imp_eq (congrArg I (by omega))) (Sub.cons rfl (imp  _) (Sub.cons rfl (imp  _) (Sub.cons rfl (imp  _) (Sub.cons rfl (imp  _) (Sub.cons rfl (imp  _) (Sub.cons rfl (imp_eq (congrArg I (by rw [ex1_step, if_pos hq]; omega))) Sub.nil)))))))))
        · skip
          have hq : ¬ (rCounts g).getD (((rRange g s a n).1.getD (i : Int).toNat default).s.toNat + j) 0 = 1 := of_decide_eq_false hc
          refine WP.sk (.blk (.thn ?_))
          refine WP.region ?_
          refine WL.op (mv (ot rfl)) (by decide) ?_
          refine WL.op (add (ot rfl) (oc _) (by omega)) (by decide) ?_
          refine WL.op (asg (ot rfl)) (by decide) ?_
          exact WL.nl (.again (j + 1) (by omega) (by omega) (Sub.ofD 0 rfl (Sub.cons rfl (imp_eq (congrArg I (by omega))) (Sub.cons rfl (imp  _) (Sub.cons rfl (imp  _) (Sub.cons rfl (imp  _) (Sub.cons rfl (imp  _) (Sub.cons rfl (imp  _) (Sub.cons rfl (imp_eq (congrArg I (by rw [ex1_step, if_neg hq]; omega))) Sub.nil)))))))))
      · skip
        have hc2 : ¬ j < ((rRange g s a n).1.getD (i : Int).toNat default).n.toNat := by have := of_decide_eq_false hc; omega
        refine WP.xt (.xthn (.xthn (.xin (.blk (.thn ?_)))))
        refine WP.region ?_
        refine WL.op (add (ot rfl) (oc _) (by omega)) (by decide) ?_
        refine WL.op (mv (ot rfl)) (by decide) ?_
        exact WL.nl (.again (i + 1) hc1 (by omega) (Sub.ofD 1 rfl (Sub.cons rfl (imp_eq (congrArg I (by omega))) (Sub.cons rfl (imp  _) (Sub.cons rfl (imp  _) (Sub.cons rfl (imp  _) (Sub.cons rfl (imp_eq (congrArg I (by rw [exE_step hc1, show ((rRange g s a n).1.getD (i : Int).toNat default).n.toNat = j from by omega]; omega))) Sub.nil)))))))
    · skip
      have hc1 : ¬ i < (rRange g s a n).1.length := by have := of_decide_eq_false hc; omega
      refine WP.xt (.xthn (.xthn (.xin (.thn ?_))))
      refine WP.seq ?_
      refine WP.region ?_
      refine WL.op (mv (ot rfl)) (by decide) ?_
      refine WL.op (asg (ot rfl)) (by decide) ?_
      refine WL.op (asg (oc _)) (by decide) ?_
      refine WL.nl (.thn ?_)
      exact WP.rt (.rN rfl (.cons (.tm rfl) (.cons (.tm rfl) .nil)) (le_ rfl) (imp_eq (by unfold rNeed; rw [if_pos hz, List.take_of_length_le (by omega)])))
theorem c_thin_CanWrite {f : Fam} {g : RF} (hr : Rel f g) {s : ByteArray} {a n : Int} : PureC Tryz.prog 49 [eF f, val (.string s), I a, I n] (I (rCanWrite g s a n)) := by
  have hcb := claim_bd hr.ok s
  have hrb := room_bd hr.ok
  refine PureC.of_wp Tryz.func49 (by kernel_rfl) rfl Tryz.ntmps49 (le_ rfl) (fun w0 M0 => ?_)
  refine WP.seq ?_
  refine WP.region ?_
  refine WL.box (ot rfl) (.agg _) (by decide) fun b4 => ?_
  refine WL.op (asg (oc _)) (by decide) ?_
  refine WL.nl (.thn ?_)
  refine WP.seq ?_
  refine WP.region ?_
  refine WL.op (lbs 0 rfl ag_family_Family (ot rfl) (le_ rfl)) (by decide) ?_
  refine WL.op (mv (ot rfl)) (by decide) ?_
  refine WL.op (mv (ot rfl)) (by decide) ?_
  refine WL.op (mv (ot rfl)) (by decide) ?_
  refine WL.op (call (c_thin_Need hr) (.c (ot rfl) (.c (ot rfl) (.c (ot rfl) (.c (ot rfl) .n))))) (by decide) ?_
  refine WL.op (mv (ot rfl)) (by decide) ?_
  refine WL.op (ex (ot rfl) rfl) (by decide) ?_
  refine WL.op (ex (ot rfl) rfl) (by decide) ?_
  refine WL.op (asg (ot rfl)) (by decide) ?_
  refine WL.op (asg (ot rfl)) (by decide) ?_
  refine WL.nl (.thn ?_)
  refine WP.seq ?_
  refine WP.seq ?_
  refine WP.region ?_
  refine WL.op (mv (ot rfl)) (by decide) ?_
  refine WL.op (neq (ot rfl) (oc _)) (by decide) ?_
  refine WL.nl (.thn ?_)
  refine WP.cond rfl (fun hc => ?_) (fun hc => ?_)
  · skip
    have hz : ¬ (rNeed g s a n).2 = 0 := by simpa using hc
    refine WP.seq ?_
    refine WP.region ?_
    refine WL.op (mv (ot rfl)) (by decide) ?_
    refine WL.op (asg (ot rfl)) (by decide) ?_
    refine WL.nl (.thn ?_)
    exact WP.rt (.rthn (.r1 rfl rfl (imp_eq (congrArg I (by unfold rCanWrite; rw [if_neg hz])))))
  · skip
    have hz : (rNeed g s a n).2 = 0 := by simpa using hc
    refine WP.sk (.thn ?_)
    refine WP.seq ?_
    refine WP.region ?_
    refine WL.op (lbs 0 rfl ag_family_Family (ot rfl) (le_ rfl)) (by decide) ?_
    refine WL.op (mv (ot rfl)) (by decide) ?_
    refine WL.op (call (c_thin_Claim hr) (.c (ot rfl) (.c (ot rfl) .n))) (by decide) ?_
    refine WL.op (mv (ot rfl)) (by decide) ?_
    refine WL.op (ex (ot rfl) rfl) (by decide) ?_
    refine WL.op (ex (ot rfl) rfl) (by decide) ?_
    refine WL.op (asg (ot rfl)) (by decide) ?_
    refine WL.op (asg (ot rfl)) (by decide) ?_
    refine WL.nl (.thn ?_)
    refine WP.seq ?_
    refine WP.region ?_
    refine WL.op (mv (ot rfl)) (by decide) ?_
    refine WL.op (mv (ot rfl)) (by decide) ?_
    refine WL.op (lbs 0 rfl ag_family_Family (ot rfl) (le_ rfl)) (by decide) ?_
    refine WL.op (call (c_thin_Room hr) (.c (ot rfl) .n)) (by decide) ?_
    refine WL.op (mx_ (oc _) (ot rfl)) (by decide) ?_
    refine WL.op (add (ot rfl) (ot rfl) (by omega)) (by decide) ?_
    refine WL.op (call c_thin_enough (.c (ot rfl) (.c (ot rfl) .n))) (by decide) ?_
    refine WL.op (asg (ot rfl)) (by decide) ?_
    refine WL.nl (.thn ?_)
    exact WP.rt (.r1 rfl rfl (imp_eq (congrArg I (by unfold rCanWrite; rw [if_pos hz]))))
end Go.Proofs.YtjglgfnhgehpeaaGreat

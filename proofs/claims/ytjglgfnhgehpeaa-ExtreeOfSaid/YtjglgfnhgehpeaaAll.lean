/- All extents of a tree by a range over its iterator. -/
import Derived.Test.YtjglgfnhgehpeaaFwy
import Derived.Test.YtjglgfnhgehpeaaIter
import Derived.Test.YtjglgfnhgehpeaaPutW
set_option linter.unusedVariables false
set_option linter.unusedSimpArgs false
set_option maxRecDepth 4000
namespace Go.Proofs.Ytjglgfnhgehpeaa
open Go.RowKit Go.Fw Go.Xt
abbrev evX (x : X) : Value := .agg #[.int .i64 x.a, .int .i64 x.n, .int .i64 x.s]
abbrev itR (t : Tr) : Rp := iterR Try.prog 53 (fun x => #[evX x]) t.list
theorem e_all1 : Enters Try.prog 53 := enters_of Try.func53 rfl rfl
theorem mfn_it {bs : List Box} {lk : Nat → Option Rp} {i : Nat} {ty : TypeId} {t : Tr} (hx : lk i = some (at_ [tree t])) : OpG Try.prog bs lk (.makeFunc (.func 53) #[] #[.tmp i]) ty (itR t) := OpG.pure fun σ w M hf _ => by
  obtain ⟨b, o, h1, h2, h3, h4⟩ := hf (.tmp i) (by simp [Op.operands]) i _ rfl hx
  refine ⟨.func (.func 53) #[] #[σ i], by simp [execOp, Instr.makeFunc, ev], #[σ i], rfl, e_all1, fun w' M' k => ?_⟩
  rw [h1]
  have h5 := h4.keep k h2 h3
  obtain ⟨⟨c, g1, _, g3⟩, _⟩ := h5
  obtain ⟨p0, rfl⟩ := tree_ptr g3
  exact all_stops Fence.wide rfl 1 trivial trivial rfl (fun b hb => .inr hb) g1 (Nat.lt_of_lt_of_le h2 k.size) (Rp.keep _ g3 ⟨fun b _ _ => rfl, Nat.le_refl _, fun b hb => hb⟩)
theorem c_x_Tree_All (t : Tr) : PureC Try.prog 24 [eT t] (itR t) := by
  refine PureC.of_wp Try.func24 (by kernel_rfl) rfl Try.ntmps24 (le_ rfl) (fun w0 M0 => ?_)
  refine WP.seq ?_
  refine WP.region ?_
  refine WL.op (boxi (ot rfl) (.agg _)) (by decide) ?_
  refine WL.op (asg (oc _)) (by decide) ?_
  refine WL.nl (.thn ?_)
  refine WP.seq ?_
  refine WP.region ?_
  refine WL.op (mfn_it rfl) (by decide) ?_
  refine WL.op (asg (ot rfl)) (by decide) ?_
  refine WL.nl (.thn ?_)
  exact WP.rt (.r1 rfl rfl (imp _))
theorem pl_FX (x : X) : ∀ R ∈ FX x, Pl R := fun R hR => by
  simp only [FX, List.mem_cons, List.not_mem_nil, or_false] at hR
  rcases hR with rfl | rfl | rfl <;> exact Pl.val _
theorem pl_FXs (xs : List X) : ∀ R ∈ xs.flatMap FX, Pl R := fun R hR => by
  obtain ⟨x, _, h⟩ := List.mem_flatMap.1 hR
  exact pl_FX x R h
abbrev B4 (b3 b2 b1 : Nat) (y : Value × List X) : List Box := [.r y.1 31 3 y.2.length (y.2.flatMap FX), .b b3 33 [val y.1], .b b2 33 [val nilS], .b b1 26 [any]]
theorem c_w33_all {t : Tr} (hl : t.list.length ≤ 2000) : PureC Try.prog 22 [eT t] (sl 3 FX t.list) := by
  refine PureC.of_wpM Try.func22 (by kernel_rfl) rfl Try.ntmps22 (le_ rfl) (fun w0 M0 => ?_)
  refine WP.seq ?_
  refine WP.region ?_
  refine WL.box (ot rfl) (.agg _) (by decide) fun b1 => ?_
  refine WL.alloc zr_s_api_Extent rfl (by decide) fun b2 => ?_
  refine WL.nl (.thn ?_)
  refine WP.seq ?_
  refine WP.region ?_
  refine WL.alloc zr_s_api_Extent rfl (by decide) fun b3 => ?_
  refine WL.nl (.thn ?_)
  refine WP.seq ?_
  refine WP.seq ?_
  refine WP.region ?_
  refine WL.op (lbs 2 rfl ag_Tree (ot rfl) (le_ rfl)) (by decide) ?_
  refine WL.op (call (c_x_Tree_Len t) (.c (ot rfl) .n)) (by decide) ?_
  refine WL.op (eql (ot rfl) (oc _)) (by decide) ?_
  refine WL.nl (.thn ?_)
  refine WP.cond rfl (fun hc => ?_) (fun hc => ?_)
  · have he : t.list = [] := by
      have := of_decide_eq_true hc
      rw [count_eq] at this
      exact List.eq_nil_of_length_eq_zero (by omega)
    refine WP.seq ?_
    refine WP.region ?_
    refine WL.op (lb 0 rfl sc_s_api_Extent (ot rfl) rfl) (by decide) ?_
    refine WL.store 1 rfl (ot rfl) (ot rfl) (.leaf (.val rfl)) sz_s_api_Extent rfl (le_ rfl) ?_
    refine WL.nl (.thn ?_)
    rw [he]
    exact WP.rt (.rthn (.ofM (.rB rfl (.sc 1 rfl rfl sc_s_api_Extent rfl) sl_nil)))
  · refine WP.sk (.thn ?_)
    refine WP.seq ?_
    refine WP.seq ?_
    refine WP.region ?_
    refine WL.op (lbs 2 rfl ag_Tree (ot rfl) (le_ rfl)) (by decide) ?_
    refine WL.op (call (c_x_Tree_All t) (.c (ot rfl) .n)) (by decide) ?_
    refine WL.nl (.thn ?_)
    refine WP.block ?_
    refine WP.nilrow 31 3 ?_
    refine WP.forget [3] ?_
    refine WP.rangeF (α := X) (β := Value × List X) (ε := Nat) (xs := t.list) rfl (by decide) (B4 b3 b2 b1) (fun pre y => y.2 = pre ∧ y.1.oneCell' = true) (fun _ _ _ => False) (nilS, []) ⟨rfl, rfl⟩ rfl ?hpl ?hdet
      [(3, val (.pointer (some ⟨b3, 0, none⟩)))] (Sub.cons rfl (imp _) Sub.nil) ?hpl0 ext (fun x w M => ⟨[.int .i64 x.a, .int .i64 x.n, .int .i64 x.s], rfl, ⟨rfl, rfl⟩, ⟨rfl, rfl⟩, ⟨rfl, rfl⟩, trivial⟩)
      (fun x e => [.b e 31 (FX x)]) (fun x e => [(4, val (.pointer (some ⟨e, 0, none⟩))), (3, val (.pointer (some ⟨b3, 0, none⟩)))]) ?hplx ?hassign ?hbody ?hdone ?hstop
    case hpl =>
      rintro ⟨v, pre⟩ x hx
      simp only [B4, List.mem_cons, List.not_mem_nil, or_false] at hx
      rcases hx with rfl | rfl | rfl | rfl
      · exact pl_FXs pre
      · intro R hR; rw [List.mem_singleton.1 hR]; exact Pl.val _
      · intro R hR; rw [List.mem_singleton.1 hR]; exact Pl.val _
      · intro R hR; rw [List.mem_singleton.1 hR]; exact fun _ _ _ _ _ h => h
    case hdet =>
      rintro ⟨v, pre⟩ ⟨v', pre'⟩ M W h h'
      obtain ⟨cs, h1, h2⟩ := h (.b b3 33 [val v]) (by simp [B4])
      obtain ⟨cs', h1', h2'⟩ := h' (.b b3 33 [val v']) (by simp [B4])
      rw [h1] at h1'
      have e : cs = cs' := by simpa using h1'
      subst e
      have : v = v' := by
        cases cs with
        | nil => exact h2.elim
        | cons c cs => exact h2.1.1.symm.trans h2'.1.1
      subst this
      rfl
    case hpl0 =>
      intro i R hR
      simp only [Fw.look] at hR
      split at hR
      · cases hR; exact Pl.val _
      · cases hR
    case hplx =>
      refine fun x e => ⟨fun b hb => ?_, fun i R hR => ?_⟩
      · rw [List.mem_singleton.1 hb]; exact pl_FX x
      · simp only [Fw.look] at hR
        split at hR
        · cases hR; exact Pl.val _
        · split at hR
          · cases hR; exact Pl.val _
          · cases hR
    case hassign =>
      rintro r m pre x ⟨v, pre'⟩ W Ma h
      refine WPI.region ?_
      refine WLI.alloc zr_Extent rfl (by decide) fun b4 => ?_
      refine WLI.store 0 rfl (ot rfl) (ot rfl) (.agg _) sz_Extent rfl (le_ rfl) ?_
      exact WLI.nl fun a w hok => ⟨rfl, b4, Sub.of (Sub.cons rfl (imp _) (Sub.cons rfl (imp _) Sub.nil)) a w hok, hok.facts sinceAt _ rfl⟩
    case hbody =>
      rintro r m pre x ⟨v, pre'⟩ b4 W Ma h hlen
      have h : pre' = pre := h.1
      subst h
      refine WPI.block ?_
      refine WPI.seq ?_
      refine WPI.region ?_
      refine WLI.op (lb 2 rfl sc_s_api_Extent (ot rfl) rfl) (by decide) ?_
      refine WLI.op (lbs 0 rfl ag_Extent (ot rfl) (le_ rfl)) (by decide) ?_
      refine WLI.op (bsl1 (f := FX) (el := x) ei_s_api_Extent (ot rfl) (.agg _) rfl (by decide) (by decide)) (by decide) ?_
      refine WLI.app 1 rfl ei_s_api_Extent (by decide) (ot rfl) (ot rfl) (by simp) (fun _ => rfl) (by simp; omega) (by simp; omega) (by decide) fun v7 h7 => ?_
      refine WLI.store 2 rfl (ot rfl) (ot rfl) (.leaf (.val h7)) sz_s_api_Extent rfl (le_ rfl) ?_
      refine WLI.nl (.thnI ?_)
      refine WPI.seq ?_
      refine WPI.region ?_
      refine WLI.op (lb 2 rfl sc_s_api_Extent (ot rfl) rfl) (by decide) ?_
      refine WLI.op (lenr 1 rfl us_s_api_Extent (ot rfl)) (by decide) ?_
      refine WLI.op (gtr (ot rfl) (oc _)) (by decide) ?_
      refine WLI.nl (.thnI ?_)
      refine WPI.cond rfl (fun hc => ?_) (fun hc => ?_)
      · exact absurd (of_decide_eq_true hc) (by simp; omega)
      · refine WPI.sk (.blk fun a w hok => ⟨(v7, pre' ++ [x]), [], ⟨rfl, h7⟩, ?_, ?_⟩)
        · have := Sub.of (st' := []) Sub.nil a w (hok.drop 1 rfl)
          simpa [B4, setAt] using this
        · have : Kp _ _ _ _ := (hok.drop 1 rfl).facts sinceAt _ rfl
          simpa [B4, setAt] using this
    case hdone =>
      rintro D ⟨v, pre⟩ h
      have hv : v.oneCell' = true := h.2
      have h : pre = t.list := h.1
      subst h
      refine .blk (.thn ?_)
      refine WP.seq ?_
      refine WP.region ?_
      refine WL.op (lb 2 rfl sc_s_api_Extent (ot rfl) rfl) (by decide) ?_
      refine WL.freeze 1 20 FX t.list rfl (fun _ => rfl) rfl rfl rfl ?_
      refine WL.store 3 rfl (ot rfl) (ot rfl) (.leaf (.sl _ _ _)) sz_s_api_Extent rfl (le_ rfl) ?_
      refine WL.nl (.thn ?_)
      exact WP.rt (.mk (.ofM (.rB rfl (.sc 2 rfl rfl sc_s_api_Extent rfl) (imp _))))
    case hstop => intro D c pre y _ h; exact h.elim
end Go.Proofs.Ytjglgfnhgehpeaa

/- ExtreeStops: what it computes. -/
import Derived.Test.YtjglgfnhgehpeaaLawD
import Derived.Test.YtjglgfnhgehpeaaAll
import Derived.Test.YtjglgfnhgehpeaaFwn
set_option linter.unusedVariables false
set_option linter.unusedSimpArgs false
set_option maxRecDepth 4000
namespace Go.Proofs.Ytjglgfnhgehpeaa
open Go.RowKit Go.Fw Go.Xt

abbrev B5 (b7 b5 b3 : Nat) (cs : List Value) (stop : Int) (y : Value × List X) : List Box := [.r y.1 31 3 y.2.length (y.2.flatMap FX), .b b7 33 [val y.1], .b b5 26 (cs.map val), .b b3 5 [val (.int .u8 stop)]]
theorem take_fit {α : Type} {xs pre : List α} {k : Nat} (h : pre <+: xs) (hl : pre.length = k) : pre = xs.take k := by
  obtain ⟨s, rfl⟩ := h
  rw [← hl, List.take_left]

theorem c_w33_ExtreeStops {xs : List Sp} {stop : Int} (hU : ∀ x ∈ xs, U8 x) (hs : 0 ≤ stop ∧ stop ≤ 255) : PureC Try.prog 6 [sl 4 FS xs, val (.int .u8 stop)] (val (.bool true)) := by
  obtain ⟨hw, hlo⟩ := run_ok hU
  refine PureC.of_wpM Try.func6 (by kernel_rfl) rfl Try.ntmps6 (le_ rfl) (fun w0 M0 => ?_)
  refine WP.seq ?_
  -- region 0 law.go:198
  refine WP.region ?_
  refine WL.box (ot rfl) (.leaf (.val rfl)) (by decide) fun b3 => ?_
  refine WL.op (asg (oc _)) (by decide) ?_
  refine WL.nl (.thn ?_)
  refine WP.seq ?_
  refine WP.seq ?_
  -- region 1 law.go:199
  refine WP.region ?_
  refine WL.op (call c_w33_awake .n) (by decide) ?_
  refine WL.op (not_ (ot rfl)) (by decide) ?_
  refine WL.nl (.thn ?_)
  -- law.go:199
  refine WP.condF rfl ?_
  refine WP.sk (.thn ?_)
  refine WP.seq ?_
  refine WP.seq ?_
  -- region 3 law.go:202
  refine WP.region ?_
  refine WL.op (mv (ot rfl)) (by decide) ?_
  refine WL.op (len_ us_s_tegularef33_Step (ot rfl)) (by decide) ?_
  refine WL.op (gtr (ot rfl) (oc _)) (by decide) ?_
  refine WL.nl (.thn ?_)
  -- law.go:202
  refine WP.cond rfl (fun hc => ?_) (fun hc => ?_)
  · skip
    refine WP.seq ?_
    -- region 4 law.go:203
    refine WP.region ?_
    refine WL.op (asg (oc _)) (by decide) ?_
    refine WL.nl (.thn ?_)
    exact WP.rt (.rthn (.ofM (.r1 rfl rfl (imp _))))
  · skip
    have hle : xs.length ≤ 40 := by have := of_decide_eq_false hc; omega
    refine WP.sk (.thn ?_)
    refine WP.seq ?_
    -- region 5 law.go:205
    refine WP.region ?_
    refine WL.op (mv (ot rfl)) (by decide) ?_
    refine WL.op (call (c_w33_build hU (by omega)) (.c (ot rfl) .n)) (by decide) ?_
    refine WL.op (mv (ot rfl)) (by decide) ?_
    refine WL.op (ex (ot rfl) rfl) (by decide) ?_
    refine WL.op (ex (ot rfl) rfl) (by decide) ?_
    refine WL.alloc zr_Tree rfl (by decide) fun b5 => ?_
    refine WL.store 0 rfl (ot rfl) (ot rfl) (.agg _) sz_Tree rfl (le_ rfl) ?_
    refine WL.op (asg (ot rfl)) (by decide) ?_
    refine WL.nl (.thn ?_)
    refine WP.seq ?_
    refine WP.seq ?_
    -- region 6 law.go:206
    refine WP.region ?_
    refine WL.op (lbs 0 rfl ag_Tree (ot rfl) (le_ rfl)) (by decide) ?_
    refine WL.op (call (c_x_Tree_Len _) (.c (ot rfl) .n)) (by decide) ?_
    refine WL.op (mv (ot rfl)) (by decide) ?_
    refine WL.op (len_ us_s_api_Extent (ot rfl)) (by decide) ?_
    refine WL.op (OpG.weak (R' := val (.bool false)) (neq  (ot rfl) (ot rfl)) (imp_eq (congrArg (fun b => val (.bool b)) (by rw [decide_eq_true (count_eq (run xs))]; rfl)))) (by decide) ?_
    refine WL.nl (.thn ?_)
    -- law.go:206
    refine WP.condF rfl ?_
    refine WP.sk (.thn ?_)
    refine WP.seq ?_
    refine WP.seq ?_
    -- region 8 law.go:209
    refine WP.region ?_
    refine WL.op (mv (ot rfl)) (by decide) ?_
    refine WL.op (len_ us_s_api_Extent (ot rfl)) (by decide) ?_
    refine WL.op (eql (ot rfl) (oc _)) (by decide) ?_
    refine WL.nl (.thn ?_)
    -- law.go:209
    refine WP.cond rfl (fun hc => ?_) (fun hc => ?_)
    · skip
      refine WP.seq ?_
      -- region 9 law.go:210
      refine WP.region ?_
      refine WL.op (asg (oc _)) (by decide) ?_
      refine WL.nl (.thn ?_)
      exact WP.rt (.rthn (.ofM (.r1 rfl rfl (imp _))))
    · skip
      refine WP.sk (.thn ?_)
      refine WP.seq ?_
      -- region 10 law.go:212
      refine WP.region ?_
      refine WL.alloc zr_s_api_Extent rfl (by decide) fun b7 => ?_
      refine WL.nl (.thn ?_)
      refine WP.seq ?_
      refine WP.seq ?_
      -- region 11 law.go:213
      refine WP.region ?_
      refine WL.op (lbs 1 rfl ag_Tree (ot rfl) (le_ rfl)) (by decide) ?_
      refine WL.op (call (c_x_Tree_All (run xs)) (.c (ot rfl) .n)) (by decide) ?_
      refine WL.nl (.thn ?_)
      refine WP.block ?_
      refine WP.nilrow 31 3 ?_
      refine WP.pin 2 2000000 rfl fun cs hcs => ?_
      refine WP.rangeF (α := X) (β := Value × List X) (ε := Nat) (xs := (run xs).list) rfl (by decide) (B5 b7 b5 b3 cs stop) (fun pre y => y.2 = pre ∧ y.1.oneCell' = true ∧ (pre.length : Int) ≤ stop) (fun c pre y => c = .exit 0 ∧ y.2 = pre ∧ y.1.oneCell' = true ∧ (pre.length : Int) = stop + 1) (nilS, []) ⟨rfl, rfl, by simp; omega⟩ rfl ?hpl ?hdet
        [(3, val (.pointer (some ⟨b3, 0, none⟩))), (7, val (.pointer (some ⟨b7, 0, none⟩)))] (Sub.cons rfl (imp _) (Sub.cons rfl (imp _) Sub.nil)) ?hpl0 ext (fun x w M => ⟨[.int .i64 x.a, .int .i64 x.n, .int .i64 x.s], rfl, ⟨rfl, rfl⟩, ⟨rfl, rfl⟩, ⟨rfl, rfl⟩, trivial⟩)
        (fun x e => [.b e 31 (FX x)]) (fun x e => [(8, val (.pointer (some ⟨e, 0, none⟩))), (3, val (.pointer (some ⟨b3, 0, none⟩))), (7, val (.pointer (some ⟨b7, 0, none⟩)))]) ?hplx ?hassign ?hbody ?hdone ?hstop
      case hpl =>
        rintro ⟨v, pre⟩ x hx
        simp only [B5, List.mem_cons, List.not_mem_nil, or_false] at hx
        rcases hx with rfl | rfl | rfl | rfl
        · exact pl_FXs pre
        · intro R hR; rw [List.mem_singleton.1 hR]; exact Pl.val _
        · intro R hR; obtain ⟨c, _, rfl⟩ := List.mem_map.1 hR; exact Pl.val _
        · intro R hR; rw [List.mem_singleton.1 hR]; exact Pl.val _
      case hdet =>
        rintro ⟨v, pre⟩ ⟨v', pre'⟩ M W h h'
        obtain ⟨cs, h1, h2⟩ := h (.b b7 33 [val v]) (by simp [B5])
        obtain ⟨cs', h1', h2'⟩ := h' (.b b7 33 [val v']) (by simp [B5])
        rw [h1] at h1'
        have e : cs = cs' := by simpa using h1'
        subst e
        have : v = v' := by
          cases cs with
          | nil => exact h2.elim
          | cons c cs => exact h2.1.1.symm.trans h2'.1.1
        subst this
        rfl
      case hpl0 =>
        intro i R hR
        simp only [Fw.look] at hR
        split at hR
        · cases hR; exact Pl.val _
        · split at hR
          · cases hR; exact Pl.val _
          · cases hR
      case hplx =>
        refine fun x e => ⟨fun b hb => ?_, fun i R hR => ?_⟩
        · rw [List.mem_singleton.1 hb]; exact pl_FX x
        · simp only [Fw.look] at hR
          split at hR
          · cases hR; exact Pl.val _
          · split at hR
            · cases hR; exact Pl.val _
            · split at hR
              · cases hR; exact Pl.val _
              · cases hR
      case hassign =>
        rintro r m pre x ⟨v, pre'⟩ W Ma h
        refine WPI.region ?_
        refine WLI.alloc zr_Extent rfl (by decide) fun b8 => ?_
        refine WLI.store 0 rfl (ot rfl) (ot rfl) (.agg _) sz_Extent rfl (le_ rfl) ?_
        exact WLI.nl fun a w hok => ⟨rfl, b8, Sub.of (Sub.cons rfl (imp _) (Sub.cons rfl (imp _) (Sub.cons rfl (imp _) Sub.nil))) a w hok, hok.facts sinceAt _ rfl⟩
      case hbody =>
        rintro r m pre x ⟨v, pre'⟩ b8 W Ma h hlen
        obtain ⟨h, hv1, hle⟩ := h
        have h : pre' = pre := h
        subst h
        have hll := low_600 hw hlo
        refine WPI.block ?_
        refine WPI.seq ?_
        refine WPI.region ?_
        refine WLI.op (lb 2 rfl sc_s_api_Extent (ot rfl) rfl) (by decide) ?_
        refine WLI.op (lbs 0 rfl ag_Extent (ot rfl) (le_ rfl)) (by decide) ?_
        refine WLI.op (bsl1 (f := FX) (el := x) ei_s_api_Extent (ot rfl) (.agg _) rfl (by decide) (by decide)) (by decide) ?_
        refine WLI.app 1 rfl ei_s_api_Extent (by decide) (ot rfl) (ot rfl) (by simp) (fun _ => rfl) (by simp; omega) (by simp; omega) (by decide) fun v7 h7 => ?_
        refine WLI.store 2 rfl (ot rfl) (ot rfl) (.leaf (.val h7)) sz_s_api_Extent rfl (le_ rfl) ?_
        refine WLI.nl (.thnI ?_)
        refine WPI.seq ?_
        refine WPI.region ?_
        refine WLI.op (lb 2 rfl sc_s_api_Extent (ot rfl) rfl) (by decide) ?_
        refine WLI.op (lenr 1 rfl us_s_api_Extent (ot rfl)) (by decide) ?_
        refine WLI.op (lb 4 rfl sc_uint8 (ot rfl) rfl) (by decide) ?_
        refine WLI.op (cv un_uint8 un_int (ot rfl) (IntWalk.i64_in _ (by omega))) (by decide) ?_
        refine WLI.op (gtr (ot rfl) (ot rfl)) (by decide) ?_
        refine WLI.nl (.thnI ?_)
        refine WPI.cond rfl (fun hc => ?_) (fun hc => ?_)
        · have hc2 := of_decide_eq_true hc
          refine WPI.xt (.xblk (by decide) fun a w hok => ⟨(v7, pre' ++ [x]), [], ⟨rfl, rfl, h7, by simp at hc2 ⊢; omega⟩, ?_, ?_⟩)
          · have := Sub.of (st' := []) Sub.nil a w (hok.drop 1 rfl)
            simpa [B5, setAt] using this
          · have : Kp _ _ _ _ := (hok.drop 1 rfl).facts sinceAt _ rfl
            simpa [B5, setAt] using this
        · have hc2 := of_decide_eq_false hc
          refine WPI.sk (.blk fun a w hok => ⟨(v7, pre' ++ [x]), [], ⟨rfl, h7, by simp at hc2 ⊢; omega⟩, ?_, ?_⟩)
          · have := Sub.of (st' := []) Sub.nil a w (hok.drop 1 rfl)
            simpa [B5, setAt] using this
          · have : Kp _ _ _ _ := (hok.drop 1 rfl).facts sinceAt _ rfl
            simpa [B5, setAt] using this
      case hdone =>
        rintro D ⟨v, pre⟩ h
        have hv : v.oneCell' = true := h.2.1
        have hle : (pre.length : Int) ≤ stop := by rw [show pre = (run xs).list from h.1]; exact h.2.2
        have h : pre = (run xs).list := h.1
        have hpre : pre = (run xs).list.take (min ((run xs).list.length : Int) (stop + 1)).toNat := by
          have hl3 : ((run xs).list.length : Int) ≤ stop := by rw [← h]; exact hle
          rw [List.take_of_length_le (by omega)]; exact h
        clear h
        refine .blk (.thn ?_)
        have hll := low_600 hw hlo
        refine WP.unpin 3 2000000 rfl rfl ?_
        refine WP.freezeB 1 2 FX pre rfl rfl (by decide) (fun _ => rfl) rfl rfl ?_
        refine WP.seq ?_
        -- region 15 draws law.go:219
        refine WP.draws ?_
        refine RG.op (lb 2 rfl sc_s_api_Extent (ot rfl) rfl) ?_
        refine RG.op (mv (ot rfl)) ?_
        refine RG.op (mv (ot rfl)) ?_
        refine RG.op (len_ us_s_api_Extent (ot rfl)) ?_
        refine RG.op (lb 4 rfl sc_uint8 (ot rfl) rfl) ?_
        refine RG.op (cv un_uint8 un_int (ot rfl) (IntWalk.i64_in _ (by omega))) ?_
        refine RG.op (add (ot rfl) (oc _) (by omega)) ?_
        refine RG.op (mn_ (ot rfl) (ot rfl)) ?_
        refine RG.op (slh us_s_api_Extent el_s_api_Extent (ot rfl) (ot rfl) (by omega) (by omega)) ?_
        refine RG.op (OpG.weak (R' := val (.bool true)) (call (c_r32_Same pre ((run xs).list.take (min ((run xs).list.length : Int) (stop + 1)).toNat) (by rw [hpre, List.length_take]; omega) (by rw [List.length_take]; omega)) (.c (ot rfl) (.c (ot rfl) .n))) (imp_eq (congrArg (fun b => val (.bool b)) (decide_eq_true hpre)))) ?_
        refine RG.op (mv (ot rfl)) ?_
        refine RG.gd rfl rfl (Tells.v _ _) (fun hg => lbs 3 rfl ag_Tree (ot rfl) (le_ rfl)) ?_
        refine RG.gd rfl rfl (Tells.v _ _) (fun hg => call (c_w33_all (t := run xs) (by omega)) (.c (og rfl hg) .n)) ?_
        refine RG.gd rfl rfl (Tells.v _ _) (fun hg => mv (ot rfl)) ?_
        refine RG.gd rfl rfl (Tells.v _ _) (fun hg => call (c_r32_Same (run xs).list (run xs).list (by omega) (by omega)) (.c (og rfl hg) (.c (og rfl hg) .n))) ?_
        refine RG.op (and_ (ot rfl) (ot rfl)) ?_
        refine RG.op (asg (ot rfl)) ?_
        refine RG.fin HM (by kernel_rfl) ?_
        show WL _ _ _ _ _ _ _ _ _
        refine WL.nl (.thn ?_)
        exact WP.rt (.mk (.ofM (.r1 rfl rfl (imp_eq (congrArg (fun b => val (.bool b)) (by simp))))))
      case hstop =>
        rintro D c pre0 ⟨v, pre⟩ hp h
        obtain ⟨hc0, h1, hv, hle⟩ := h
        subst hc0
        have h1 : pre = pre0 := h1
        subst h1
        have hv : v.oneCell' = true := hv
        have hl2 := hp.length_le
        have hpre : pre = (run xs).list.take (min ((run xs).list.length : Int) (stop + 1)).toNat := take_fit hp (by omega)
        refine WP.xt (.xin (.thn ?_))
        have hll := low_600 hw hlo
        refine WP.unpin 3 2000000 rfl rfl ?_
        refine WP.freezeB 1 2 FX pre rfl rfl (by decide) (fun _ => rfl) rfl rfl ?_
        refine WP.seq ?_
        -- region 15 draws law.go:219
        refine WP.draws ?_
        refine RG.op (lb 2 rfl sc_s_api_Extent (ot rfl) rfl) ?_
        refine RG.op (mv (ot rfl)) ?_
        refine RG.op (mv (ot rfl)) ?_
        refine RG.op (len_ us_s_api_Extent (ot rfl)) ?_
        refine RG.op (lb 4 rfl sc_uint8 (ot rfl) rfl) ?_
        refine RG.op (cv un_uint8 un_int (ot rfl) (IntWalk.i64_in _ (by omega))) ?_
        refine RG.op (add (ot rfl) (oc _) (by omega)) ?_
        refine RG.op (mn_ (ot rfl) (ot rfl)) ?_
        refine RG.op (slh us_s_api_Extent el_s_api_Extent (ot rfl) (ot rfl) (by omega) (by omega)) ?_
        refine RG.op (OpG.weak (R' := val (.bool true)) (call (c_r32_Same pre ((run xs).list.take (min ((run xs).list.length : Int) (stop + 1)).toNat) (by rw [hpre, List.length_take]; omega) (by rw [List.length_take]; omega)) (.c (ot rfl) (.c (ot rfl) .n))) (imp_eq (congrArg (fun b => val (.bool b)) (decide_eq_true hpre)))) ?_
        refine RG.op (mv (ot rfl)) ?_
        refine RG.gd rfl rfl (Tells.v _ _) (fun hg => lbs 3 rfl ag_Tree (ot rfl) (le_ rfl)) ?_
        refine RG.gd rfl rfl (Tells.v _ _) (fun hg => call (c_w33_all (t := run xs) (by omega)) (.c (og rfl hg) .n)) ?_
        refine RG.gd rfl rfl (Tells.v _ _) (fun hg => mv (ot rfl)) ?_
        refine RG.gd rfl rfl (Tells.v _ _) (fun hg => call (c_r32_Same (run xs).list (run xs).list (by omega) (by omega)) (.c (og rfl hg) (.c (og rfl hg) .n))) ?_
        refine RG.op (and_ (ot rfl) (ot rfl)) ?_
        refine RG.op (asg (ot rfl)) ?_
        refine RG.fin HM (by kernel_rfl) ?_
        show WL _ _ _ _ _ _ _ _ _
        refine WL.nl (.thn ?_)
        exact WP.rt (.mk (.ofM (.r1 rfl rfl (imp_eq (congrArg (fun b => val (.bool b)) (by simp))))))

end Go.Proofs.Ytjglgfnhgehpeaa

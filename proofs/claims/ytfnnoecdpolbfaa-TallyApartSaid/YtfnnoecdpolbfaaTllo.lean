/- Longest of the log. -/
import Derived.Test.YtfnnoecdpolbfaaTlsp
import Derived.RegionIn
import Derived.BigRegionIn
namespace Go.Proofs.Ytfnnoecdpolbfaa.Z
open Go.RowKit Go.Shelf Go.Proofs.YtfnnoecdpolbfaaW.PrintWords Go.Proofs.YtfnnoecdpolbfaaW.PrintLast Go.Proofs.YtfnnoecdpolbfaaW.PrintMore
attribute [local go_sem] Oper.semAt_some
set_option linter.unusedVariables false
set_option linter.unusedSimpArgs false
set_option maxHeartbeats 8000000 in
set_option maxRecDepth 100000 in
theorem longest_in (n : Nat) (hn : 5 ≤ n) (g base : Nat) (l : List Oc) (t : Int) (w : World) (h : LogAt w base g l) (hl : l.length ≤ 1000) :
    CallsIn Fence.wide n Try.prog 19 #[.pointer (some ⟨g, 0, none⟩), .int .i64 t] w fun e w' => e = .returned (.tuple #[.int .i64 (lonF t (ofWhy 1 l)).1, .bool (lonF t (ofWhy 1 l)).2]) ∧ Below w.heap.size w w' := by
  have h1 : 1 ≤ n := by omega
  have HL := Aside0.mk h
  clear h
  refine callsIn_of_wp_marks Try.func19 rfl trivial ?_ rfl
  simp only [Try.ntmps19, List.size_toArray, List.length_cons, List.length_nil, Nat.reduceAdd, Nat.reduceSub, Array.replicate_succ, Array.replicate_zero, List.push_toArray, List.append_toArray, List.nil_append, List.cons_append]
  gi_wp2_with (fail)
  refine ⟨trivial, ?_⟩
  have e1 := Blk.new w 3 [.int .i64 t]
  have e2 := Blk.new (w.alloc (.cells #[.int .i64 t] 3)) 2 [.int .i64 0]
  have e3 := Blk.new ((w.alloc (.cells #[.int .i64 t] 3)).alloc (.cells #[.int .i64 0] 2)) 4 [.bool false]
  simp only [World.size_alloc] at e2 e3
  have e1 : Blk (((w.alloc (.cells #[.int .i64 t] 3)).alloc (.cells #[.int .i64 0] 2)).alloc (.cells #[.bool false] 4)) _ _ _ := (e1.alloc _).alloc _
  have e2 : Blk (((w.alloc (.cells #[.int .i64 t] 3)).alloc (.cells #[.int .i64 0] 2)).alloc (.cells #[.bool false] 4)) _ _ _ := e2.alloc _
  have e3 : Blk (((w.alloc (.cells #[.int .i64 t] 3)).alloc (.cells #[.int .i64 0] 2)).alloc (.cells #[.bool false] 4)) _ _ _ := e3
  have hb0 : Below w.heap.size w (((w.alloc (.cells #[.int .i64 t] 3)).alloc (.cells #[.int .i64 0] 2)).alloc (.cells #[.bool false] 4)) := (((Below.refl _ w).alloc (Nat.le_refl _) _).alloc (by simp) _).alloc (by simp; omega) _
  generalize (((w.alloc (.cells #[.int .i64 t] 3)).alloc (.cells #[.int .i64 0] 2)).alloc (.cells #[.bool false] 4)) = w1 at *
  obtain ⟨q4, hq4⟩ : ∃ q, q = w.heap.size := ⟨_, rfl⟩
  obtain ⟨q5, hq5⟩ : ∃ q, q = w.heap.size + 1 := ⟨_, rfl⟩
  obtain ⟨q7, hq7⟩ : ∃ q, q = w.heap.size + 1 + 1 := ⟨_, rfl⟩
  rw [← hq4] at e1
  rw [← hq5] at e2
  rw [← hq7] at e3
  rw [← hq7, ← hq5, ← hq4]
  rw [← hq4] at hb0
  have n1 : q4 ≠ q7 := by omega
  have n2 : q4 ≠ q5 := by omega
  have n3 : q5 ≠ q7 := by omega
  have y5 : q4 ≤ q5 := by omega
  have y7 : q4 ≤ q7 := by omega
  have l1 := e1.lt
  have l2 := e2.lt
  have l3 := e3.lt
  obtain ⟨A, c, hgB, hCC⟩ : ∃ A c, Blk w1 g 58 [.slice A l.length c] ∧ ∀ V, (∀ b, b < q4 → V.heap[b]? = w1.heap[b]?) → Oc.kd.C V A l.length l := by
    obtain ⟨h0, v, h2, h3⟩ := HL.out
    obtain ⟨A, c, rfl⟩ := Kd.R_slice h3
    refine ⟨A, c, h2.below (by rw [hq4] at hb0; exact hb0), fun V hV => ?_⟩
    exact (Kd.R_reads' (Kd.R_step (w1 := V) (Kd.R_bound h3) (fun k hk hkl => (hV k (by omega)).trans (hb0.block k (by omega))))).2.2
  have HQ := Aside0.mk hq4
  have HGB := Aside0.mk hgB
  have HCC := Aside0.mk hCC
  have HB0 := Aside0.mk hb0
  have y0 : q4 ≤ w1.heap.size := by omega
  clear hq4 hq5 hq7 hgB hCC hb0 HL
  refine (callsIn_wide.2 (all_ok _ 1 _)).mono ?_
  rintro e w6 ⟨b1, b2, rfl, hb, hB1, hB2, m1, m2⟩
  have e1 := e1.below hb
  have e2 := e2.below hb
  have e3 := e3.below hb
  have hB6 := HB0.out.trans (hb.mono y0)
  have hsz := hb.size
  have hg6 := HGB.out.below hb
  have hC6 : ∀ V, BX w6.heap.size (fun b => b = q5 ∨ b = q7) w6 V → Oc.kd.C V A l.length l := fun V hV => HCC.out V (fun b hb' => (hV.block b (by omega) (by omega)).trans (hb.block b (by omega)))
  have HB6 := Aside0.mk hB6
  have y6 : q4 ≤ w6.heap.size := by omega
  have k1 : ¬ (b1 = q5 ∨ b1 = q7) := by omega
  have k2 : ¬ (b2 = q5 ∨ b2 = q7) := by omega
  clear hb hB6 HB0 HGB HCC
  gi_wp2_with (fail)
  apply wpIn_rangeFunc_ownH rfl h1 (gf := 29) (lb := #[.pointer (some ⟨b1, 0, none⟩), .pointer (some ⟨b2, 0, none⟩)]) rfl trivial (enters_of Try.func29 (by kernel_rfl) rfl)
    (log_seq (n - 1) (by omega) (fun b => b = q5 ∨ b = q7) b1 b2 g A c l 1 hl w6 hg6 hC6 hB1 hB2 k1 k2) bx_t (bx_b (Nat.le_refl _)) (Below.refl _ _) (fun _ => rfl)
    (fun pre W => Boxed W q5 2 (.int .i64 (lonF t pre).1) ∧ Boxed W q7 4 (.bool (lonF t pre).2) ∧ BX w6.heap.size (fun b => b = q5 ∨ b = q7) w6 W ∧ Below q4 w W)
    (fun _ _ _ => False)
    (Ax := fun x a' W => ∃ q, Blk W q 26 x.enc ∧ a' = { tmps := #[.pointer (some ⟨g, 0, none⟩), .int .i64 t, undef, .pointer (some ⟨q4, 0, none⟩), .int .i64 0, .bool false, .pointer (some ⟨q5, 0, none⟩), .pointer (some ⟨q7, 0, none⟩), .pointer (some ⟨q, 0, none⟩), .pointer (some ⟨g, 0, none⟩), .func (.func 29) #[] #[.pointer (some ⟨b1, 0, none⟩), .pointer (some ⟨b2, 0, none⟩)], x.val, undef, undef, undef, undef, undef, undef, undef, undef, undef, undef, undef, undef, undef, undef, undef, undef, undef], defers := [] })
  case hI => exact OwnFrom.and (Own.from (boxed_own q5 2 (fun pre : List Oc => .int .i64 (lonF t pre).1)) _) (OwnFrom.and (Own.from (boxed_own q7 4 (fun pre : List Oc => .bool (lonF t pre).2)) _) (OwnFrom.and (ownFrom_bx (Nat.le_refl _) (Nat.le_refl _)) (ownFrom_below (by rw [HQ.out]; exact Nat.le_refl _) y6)))
  case hIx => exact fun _ _ _ _ _ hs _ _ => hs
  case h0 => exact ⟨e2, e3, BX.refl _ _ _, HB6.out⟩
  case hAx =>
    rintro x a' _ X Y row ⟨q, hq, rfl⟩ hgr hrow
    exact ⟨q, (Own.from (blk_own q 26 x.enc) w6.heap.size) () X Y row hq hgr hrow, rfl⟩
  case hassign =>
    intro lp pre x W K hI hK
    have HI := Aside0.mk hI
    clear hI
    have hbox : Blk (W.alloc (.cells #[.int .u64 x.tk, .int .i64 x.tier, .int .i64 x.co, .int .u8 x.why, .int .i64 x.at_, .int .i64 x.so] 26)) W.heap.size 26 x.enc := Blk.new W 26 x.enc
    have HBOX := Aside0.mk hbox
    have hsz6 := HI.out.2.2.1.size
    have hKe := fun a' => hK a' (W.alloc (.cells #[.int .u64 x.tk, .int .i64 x.tier, .int .i64 x.co, .int .u8 x.why, .int .i64 x.at_, .int .i64 x.so] 26)) ((KeepsOthers.alloc _ _).from _) (BX.of_below ((Below.refl _ W).alloc hsz6 _)) ⟨HI.out.1.alloc _, HI.out.2.1.alloc _, HI.out.2.2.1.trans (BX.of_below ((Below.refl _ W).alloc hsz6 _)), HI.out.2.2.2.alloc (Nat.le_trans y6 hsz6) _⟩
    have HKE := Aside0.mk hKe
    clear hKe hbox hK
    unfold Oc.val
    gi_wp2
    exact HKE.out _ ⟨W.heap.size, HBOX.out, rfl⟩
  case hdone =>
    rintro D ys W hD rfl ⟨hbx, hbs, hbK, hB⟩ hK
    have c5 := hbx.cell
    have c7 := hbs.cell
    have HW := Aside0.mk (And.intro hbK hB)
    have HK := Aside0.mk hK
    have HDD := Aside0.mk hD
    clear hbx hbs hbK hB hK hD e1 e2 e3 hg6 hC6 hB1 hB2
    gi_wp2_with (fail)
    gi_region
    all_goals
      gi_wp2_with (fail)
      refine ⟨by simp, .inl ⟨_, _, rfl, run_takeDeferred (w := W.drew) HK.out, ?_⟩⟩
      refine ⟨_, results_tmp2 rfl _ _ _, rfl, ?_⟩
      have := (pw_below_drewN HW.out.2 1).trans (belowK_b (n₀ := q4) (w := w6) y6 W.drew D _ (.deferred none) HDD.out HK.out rfl rfl)
      rw [HQ.out] at this
      exact this
  case hstop =>
    rintro D c pre W _ _ h _
    exact h.elim
  case hbody =>
    rintro lp pre x a' W hlp _ ⟨hbx, hbs, hbK, hB⟩ ⟨q, hq, rfl⟩ hlt
    have x0 := hq.cell 0 rfl
    have x1 := hq.cell 1 rfl
    have x2 := hq.cell 2 rfl
    have x3 := hq.cell 3 rfl
    have x4 := hq.cell 4 rfl
    have x5 := hq.cell 5 rfl
    have c4 := (e1.bx hbK ⟨e1.lt, show ¬ (q4 = q5 ∨ q4 = q7) by omega⟩).cell 0 rfl
    have HW := Aside0.mk (And.intro hbx (And.intro hbs (And.intro hbK hB)))
    have hs6 := hbK.size
    have HQ2 := Aside0.mk hq
    clear hbx hbs hbK hB e1 e2 e3 hg6 hC6 hB1 hB2 hlt hq
    gi_wp2_with (fail)
    refine ⟨trivial, (fun h => by cases h), ?_⟩
    refine (CallsIn.inRound lp (callsIn_wide.2 (is_ok x t 1 _))).mono ?_
    rintro e w5 ⟨rfl, hb5⟩
    have hbx5 : Boxed w5 q5 2 (.int .i64 (lonF t pre).1) := (hb5.block q5 HW.out.1.lt).trans HW.out.1
    have hbs5 : Boxed w5 q7 4 (.bool (lonF t pre).2) := (hb5.block q7 HW.out.2.1.lt).trans HW.out.2.1
    have hbK5 : BX w6.heap.size (fun b => b = q5 ∨ b = q7) w6 w5 := HW.out.2.2.1.trans ⟨hb5.size, fun b h1 _ => hb5.block b (by omega)⟩
    have hk5 : BX w6.heap.size (fun b => b = q5 ∨ b = q7) W w5 := ⟨hb5.size, fun b h1 _ => hb5.block b (by omega)⟩
    have hB5 : Below q4 w w5 := HW.out.2.2.2.trans (hb5.mono (by omega))
    have hkf : KeepsFrom w6.heap.size W w5 := (KeepsOthers.of_grownBy (grown_of_below hb5 none) (fun j o h => by cases h)).from _
    have hq5' := HQ2.out.below hb5
    have hsn := lonF_snoc t pre x
    generalize hp : lonF t pre = p at *
    obtain ⟨f, s⟩ := p
    simp only at hbx5 hbs5 hsn
    have c5 := hbx5.cell
    have z5 := hbx5.frozen
    have c7 := hbs5.cell
    have z7 := hbs5.frozen
    have x5' := hq5'.cell 5 rfl
    have H5 := Aside0.mk (And.intro hbx5 (And.intro hbs5 (And.intro hbK5 (And.intro hB5 (And.intro hkf hk5)))))
    clear hbx5 hbs5 hbK5 hB5 hkf hk5 hb5 hq5' x0 x1 x2 x3 x4 x5 c4 HQ2 HW hp
    cases hb : isB x t 1 with
    | false =>
      rw [hb, Bool.false_and, if_neg (by simp)] at hsn
      have HSN := Aside0.mk hsn
      clear hsn hb
      gi_wp2_with (fail)
      exact ⟨H5.out.2.2.2.2.1, H5.out.2.2.2.2.2, by rw [HSN.out]; exact H5.out.1, by rw [HSN.out]; exact H5.out.2.1, H5.out.2.2.1, H5.out.2.2.2.1⟩
    | true =>
      rw [hb, Bool.true_and] at hsn
      cases s with
      | false =>
        simp only [Bool.not_false, Bool.true_or, if_true] at hsn
        have HSN := Aside0.mk hsn
        clear hsn hb
        gi_wp2_with (fail)
        exact ⟨H5.out.2.2.2.2.1.trans (((KeepsOthers.setCell _ _ _).trans (KeepsOthers.setCell _ _ _)).from _), bx_set (q := q7) (nx := fun b => b = q5 ∨ b = q7) (.inr rfl) (bx_set (q := q5) (nx := fun b => b = q5 ∨ b = q7) (.inl rfl) H5.out.2.2.2.2.2 _) _, by rw [HSN.out]; exact (H5.out.1.set _).other n3 _, by rw [HSN.out]; exact (H5.out.2.1.other n3.symm _).set _, bx_set (q := q7) (nx := fun b => b = q5 ∨ b = q7) (.inr rfl) (bx_set (q := q5) (nx := fun b => b = q5 ∨ b = q7) (.inl rfl) H5.out.2.2.1 _) _, (H5.out.2.2.2.1.setCell (p := ⟨q5, 0, none⟩) y5 _).setCell (p := ⟨q7, 0, none⟩) y7 _⟩
      | true =>
        simp only [Bool.not_true, Bool.false_or, decide_eq_true_eq] at hsn
        by_cases hgt : x.so > f
        · rw [if_pos hgt] at hsn
          have HSN := Aside0.mk hsn
          clear hsn hb
          gi_wp2_with (fail)
          exact ⟨H5.out.2.2.2.2.1.trans (((KeepsOthers.setCell _ _ _).trans (KeepsOthers.setCell _ _ _)).from _), bx_set (q := q7) (nx := fun b => b = q5 ∨ b = q7) (.inr rfl) (bx_set (q := q5) (nx := fun b => b = q5 ∨ b = q7) (.inl rfl) H5.out.2.2.2.2.2 _) _, by rw [HSN.out]; exact (H5.out.1.set _).other n3 _, by rw [HSN.out]; exact (H5.out.2.1.other n3.symm _).set _, bx_set (q := q7) (nx := fun b => b = q5 ∨ b = q7) (.inr rfl) (bx_set (q := q5) (nx := fun b => b = q5 ∨ b = q7) (.inl rfl) H5.out.2.2.1 _) _, (H5.out.2.2.2.1.setCell (p := ⟨q5, 0, none⟩) y5 _).setCell (p := ⟨q7, 0, none⟩) y7 _⟩
        · rw [if_neg hgt] at hsn
          have HSN := Aside0.mk hsn
          clear hsn hb
          gi_wp2_with (fail)
          exact ⟨H5.out.2.2.2.2.1, H5.out.2.2.2.2.2, by rw [HSN.out]; exact H5.out.1, by rw [HSN.out]; exact H5.out.2.1, H5.out.2.2.1, H5.out.2.2.2.1⟩
theorem longest_ok (g base : Nat) (l : List Oc) (t : Int) (w : World) (h : LogAt w base g l) (hl : l.length ≤ 1000) :
    Calls Try.prog 19 #[.pointer (some ⟨g, 0, none⟩), .int .i64 t] w fun e w' => e = .returned (.tuple #[.int .i64 (lonF t l).1, .bool (lonF t l).2]) ∧ Below w.heap.size w w' := by
  have := callsIn_wide.1 (longest_in 5 (by omega) g base l t w h hl)
  rwa [lon_why] at this
end Go.Proofs.Ytfnnoecdpolbfaa.Z

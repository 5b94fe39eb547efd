-- Laid by a program of this claim's session (wip/tools/myprint.py) over the kit's printer.
import Derived.Test.YtdgbehbiigggmaaGx0
import Derived.Test.YtdgbehbiigggmaaGx7
import Derived.Test.YtdgbehbiigggmaaGx8
namespace Go.Proofs.Ytdgbehbiigggmaa.G
open Go.RowKit Go.Proofs.YtdgbehbiigggmaaW.PrintWords Go.Proofs.YtdgbehbiigggmaaW.PrintLast Go.Proofs.YtdgbehbiigggmaaW.PrintMore
attribute [local go_sem] max2_int min2_int max_two min_two max_three min_three max_four min_four   -- for this text's walks alone
set_option linter.unusedVariables false
set_option linter.unusedSimpArgs false

/-! ### overfallref01_Div: function 17 -/
mutual
def overfallref01_Div.l0 : Nat → Int → Int → Int → Int → Int → Int → Int → Int → Int → Option (Int × Int × Int)
  | 0, _, _, _, _, _, _, _, _, _ => none
  | k + 1, x9, x213000, x213001, x215000, x215001, x216000, x216001, x217000, x217001 => if x9 ≥ 0 then ((overfallref01_Twice.f k x215000 x215001).bind fun bt217 => ((overfallref01_Twice.f k x216000 x216001).bind fun bt219 => ((overfallref01_Bit.f k x213000 x213001 x9).bind fun t221 => (if t221 = 1 then ((overfallref01_Add.f k bt219.1 bt219.2 0 1).bind fun bt222 => (overfallref01_Div.j1 k x9 x213000 x213001 bt217.1 bt217.2 bt222.1 bt222.2.1 x217000 x217001)) else (overfallref01_Div.j1 k x9 x213000 x213001 bt217.1 bt217.2 bt219.1 bt219.2 x217000 x217001))))) else (some (x215000, x215001, x216001))
def overfallref01_Div.j1 : Nat → Int → Int → Int → Int → Int → Int → Int → Int → Int → Option (Int × Int × Int)
  | 0, _, _, _, _, _, _, _, _, _ => none
  | k + 1, x9, x213000, x213001, x215000, x215001, x216000, x216001, x217000, x217001 => (overfallref01_Less.f x216000 x216001 x217000 x217001).bind fun t225 => (if t225 = true then (overfallref01_Div.l0 k (wrap64 (x9 - 1)) x213000 x213001 x215000 x215001 x216000 x216001 x217000 x217001) else ((overfallref01_Sub.f k x216000 x216001 x217000 x217001).bind fun bt226 => ((overfallref01_Add.f k x215000 x215001 0 1).bind fun bt229 => (overfallref01_Div.l0 k (wrap64 (x9 - 1)) x213000 x213001 bt229.1 bt229.2.1 bt226.1 bt226.2.1 x217000 x217001))))
end
def overfallref01_Div.f (k : Nat) (a0_0 : Int) (a0_1 : Int) (a1 : Int) : Option (Int × Int × Int) := if a1 = 0 then (some (0, 0, 0)) else (overfallref01_Div.l0 k 127 a0_0 a0_1 0 0 0 0 0 a1)
theorem overfallref01_Div.mono_l : ∀ k, (∀ y0 y1 y2 y3 y4 y5 y6 y7 y8, LeO (overfallref01_Div.l0 k y0 y1 y2 y3 y4 y5 y6 y7 y8) (overfallref01_Div.l0 (k + 1) y0 y1 y2 y3 y4 y5 y6 y7 y8)) ∧ (∀ y0 y1 y2 y3 y4 y5 y6 y7 y8, LeO (overfallref01_Div.j1 k y0 y1 y2 y3 y4 y5 y6 y7 y8) (overfallref01_Div.j1 (k + 1) y0 y1 y2 y3 y4 y5 y6 y7 y8))
  | 0 => ⟨fun _ _ _ _ _ _ _ _ _ r h => by simp [overfallref01_Div.l0] at h, fun _ _ _ _ _ _ _ _ _ r h => by simp [overfallref01_Div.j1] at h⟩
  | k + 1 => by
    obtain ⟨ih0, ih1⟩ := overfallref01_Div.mono_l k
    refine ⟨?_, ?_⟩
    · intro y0 y1 y2 y3 y4 y5 y6 y7 y8
      unfold overfallref01_Div.l0
      repeat' first
      | (with_reducible exact ih0 _ _ _ _ _ _ _ _ _)
      | (with_reducible exact ih1 _ _ _ _ _ _ _ _ _)
      | (with_reducible exact overfallref01_Add.mono _ _ _ _ _)
      | (with_reducible exact overfallref01_Bit.mono _ _ _ _)
      | (with_reducible exact overfallref01_Sub.mono _ _ _ _ _)
      | (with_reducible exact overfallref01_Twice.mono _ _ _)
      | (with_reducible exact LeO.refl _)
      | (with_reducible exact LeO.none _)
      | (with_reducible refine LeO.ite ?_ ?_)
      | (with_reducible refine LeO.bind ?_ (fun _ => ?_))
      | exact ih0 _ _ _ _ _ _ _ _ _
      | exact ih1 _ _ _ _ _ _ _ _ _
      | exact overfallref01_Add.mono _ _ _ _ _
      | exact overfallref01_Bit.mono _ _ _ _
      | exact overfallref01_Sub.mono _ _ _ _ _
      | exact overfallref01_Twice.mono _ _ _
      | exact LeO.none _
      | refine LeO.ite ?_ ?_
      | refine LeO.bind ?_ (fun _ => ?_)
    · intro y0 y1 y2 y3 y4 y5 y6 y7 y8
      unfold overfallref01_Div.j1
      repeat' first
      | (with_reducible exact ih0 _ _ _ _ _ _ _ _ _)
      | (with_reducible exact ih1 _ _ _ _ _ _ _ _ _)
      | (with_reducible exact overfallref01_Add.mono _ _ _ _ _)
      | (with_reducible exact overfallref01_Bit.mono _ _ _ _)
      | (with_reducible exact overfallref01_Sub.mono _ _ _ _ _)
      | (with_reducible exact overfallref01_Twice.mono _ _ _)
      | (with_reducible exact LeO.refl _)
      | (with_reducible exact LeO.none _)
      | (with_reducible refine LeO.ite ?_ ?_)
      | (with_reducible refine LeO.bind ?_ (fun _ => ?_))
      | exact ih0 _ _ _ _ _ _ _ _ _
      | exact ih1 _ _ _ _ _ _ _ _ _
      | exact overfallref01_Add.mono _ _ _ _ _
      | exact overfallref01_Bit.mono _ _ _ _
      | exact overfallref01_Sub.mono _ _ _ _ _
      | exact overfallref01_Twice.mono _ _ _
      | exact LeO.none _
      | refine LeO.ite ?_ ?_
      | refine LeO.bind ?_ (fun _ => ?_)
theorem overfallref01_Div.mono : ∀ a0 a1 a2 k, LeO (overfallref01_Div.f k a0 a1 a2) (overfallref01_Div.f (k + 1) a0 a1 a2) := by
  intro a0 a1 a2 k
  obtain ⟨ih0, ih1⟩ := overfallref01_Div.mono_l k
  unfold overfallref01_Div.f
  repeat' first
      | (with_reducible exact ih0 _ _ _ _ _ _ _ _ _)
      | (with_reducible exact ih1 _ _ _ _ _ _ _ _ _)
      | (with_reducible exact overfallref01_Add.mono _ _ _ _ _)
      | (with_reducible exact overfallref01_Bit.mono _ _ _ _)
      | (with_reducible exact overfallref01_Sub.mono _ _ _ _ _)
      | (with_reducible exact overfallref01_Twice.mono _ _ _)
      | (with_reducible exact LeO.refl _)
      | (with_reducible exact LeO.none _)
      | (with_reducible refine LeO.ite ?_ ?_)
      | (with_reducible refine LeO.bind ?_ (fun _ => ?_))
      | exact ih0 _ _ _ _ _ _ _ _ _
      | exact ih1 _ _ _ _ _ _ _ _ _
      | exact overfallref01_Add.mono _ _ _ _ _
      | exact overfallref01_Bit.mono _ _ _ _
      | exact overfallref01_Sub.mono _ _ _ _ _
      | exact overfallref01_Twice.mono _ _ _
      | exact LeO.none _
      | refine LeO.ite ?_ ?_
      | refine LeO.bind ?_ (fun _ => ?_)
set_option maxHeartbeats 8000000 in
set_option maxRecDepth 100000 in
theorem overfallref01_Div.calls (k : Nat) (a0_0 : Int) (a0_1 : Int) (a1 : Int) (r1 : Int) (r2 : Int) (r3 : Int) (w : World) (h : overfallref01_Div.f k a0_0 a0_1 a1 = some (r1, r2, r3)) :
    Calls Try.prog 17 #[.agg #[.int .u64 a0_0, .int .u64 a0_1], .int .u64 a1] w fun e w' => e = .returned (.tuple #[.agg #[.int .u64 r1, .int .u64 r2], .int .u64 r3]) ∧ Below w.heap.size w w' := by
  have hu29 := Try.underlying29
  have HB := Aside0.mk (Below.refl w.heap.size w)
  have H : (if a1 = 0 then (some (0, 0, 0)) else (overfallref01_Div.l0 k 127 a0_0 a0_1 0 0 0 0 0 a1)) = some (r1, r2, r3) := h
  clear h
  by_cases c3 : a1 = 0
  · rw [if_pos c3] at H
    have c3b0 : (a1 == 0) = true := beq_iff_eq.mpr c3
    have c3b1 : (a1 != 0) = false := bne_eq_false_iff_eq.mpr c3
    clear c3
    simp only [Option.some.injEq, Prod.mk.injEq] at H
    obtain ⟨rfl, rfl, rfl⟩ := H
    go_enter Try.func17, Try.ntmps17
    go_wp2_with (first | ((with_reducible refine gate_dst (N := 2) rfl ?_); refine box_event ?hg (N := 2) ?hd (cs := #[.int .u64 a0_0, .int .u64 a0_1]) (t := 29) ?hr ?_; (case hd => rfl); (case hg => rfl); (case hr => first | (go_simp; done) | (go_simp; rfl)); intro gb212 hg w4 hbox hb; have n0_ := Aside0.mk (below_step (by repeat (first | (with_reducible first | exact HB.out | apply below_alloc | apply pw_below_drewN | apply below_drew1) | exact HB.out)) hb); have n1_ := Aside0.mk (hbox); have n2_ := Aside0.mk ((by rw [hg]; exact (below_size (by repeat (first | (with_reducible first | exact HB.out | apply below_alloc | apply pw_below_drewN | apply below_drew1) | exact HB.out))) : w.heap.size ≤ gb212)); have n3_ := Aside0.mk ((by rw [hg]; exact (below_size (by repeat (first | (with_reducible first | exact HB.out | apply below_alloc | apply pw_below_drewN | apply below_drew1) | exact HB.out))) : w.heap.size ≤ gb212)); clear HB; have HB := n0_; have BK212 := n1_; have GW212 := n2_; have GE212 := n3_; clear n0_ n1_ n2_ n3_; clear hb hbox hg) | ((with_reducible refine gate_dst (N := 4) rfl ?_); refine box_event ?hg (N := 4) ?hd (cs := #[.int .u64 0, .int .u64 0]) (t := 29) ?hr ?_; (case hd => rfl); (case hg => rfl); (case hr => first | (go_simp; done) | (go_simp; rfl)); intro gb213 hg w5 hbox hb; have n0_ := Aside0.mk (blk_below (g := gb212) (o := .cells #[.int .u64 a0_0, .int .u64 a0_1] 29 (0, 0)) (by exact BK212.out) hb); have n1_ := Aside0.mk (below_step (by repeat (first | (with_reducible first | exact HB.out | apply below_alloc | apply pw_below_drewN | apply below_drew1 | refine below_set ?_ GE212.out) | exact HB.out)) hb); have n2_ := Aside0.mk (hbox); have n3_ := Aside0.mk ((by rw [hg]; exact (below_size (by repeat (first | (with_reducible first | exact HB.out | apply below_alloc | apply pw_below_drewN | apply below_drew1 | refine below_set ?_ GE212.out) | exact HB.out))) : w.heap.size ≤ gb213)); have n4_ := Aside0.mk ((by rw [hg]; exact (below_size (by repeat (first | (with_reducible first | exact HB.out | apply below_alloc | apply pw_below_drewN | apply below_drew1 | refine below_set ?_ GE212.out) | exact HB.out))) : w.heap.size ≤ gb213)); have n5_ := Aside0.mk ((by rw [hg]; exact Nat.ne_of_lt (blk_lt (g := gb212) (o := .cells #[.int .u64 a0_0, .int .u64 a0_1] 29 (0, 0)) (by exact BK212.out)) : gb212 ≠ gb213)); have n6_ := Aside0.mk ((by rw [hg]; exact Nat.ne_of_gt (blk_lt (g := gb212) (o := .cells #[.int .u64 a0_0, .int .u64 a0_1] 29 (0, 0)) (by exact BK212.out)) : gb213 ≠ gb212)); clear BK212; clear HB; have BK212 := n0_; have HB := n1_; have BK213 := n2_; have GW213 := n3_; have GE213 := n4_; have NB212_213 := n5_; have NB213_212 := n6_; clear n0_ n1_ n2_ n3_ n4_ n5_ n6_; clear hb hbox hg; have hnb6 := NB213_212.out; have hnc6 := NB212_213.out; have hcz7_0 : w5.cell? ⟨gb213, 0, none⟩ = some (.int .u64 0) := (blk_cell BK213.out 0).trans rfl; have hcz7_1 : w5.cell? ⟨gb213, 1, none⟩ = some (.int .u64 0) := (blk_cell BK213.out 1).trans rfl; have hfz7_0 := blk_frozen BK213.out 0; have hfz7_1 := blk_frozen BK213.out 1))
    refine bodyPost_ret (results_ct rfl _ _ gb213 29 #[.int .u64 0, .int .u64 0] (0, 0) _ rfl (by refine blk_put (cs := #[.int .u64 0, .int .u64 0]) ?_ 1 _ rfl; refine blk_put (cs := #[.int .u64 0, .int .u64 0]) ?_ 0 _ rfl; exact BK213.out) Try.underlying29 rfl (by kernel_rfl)) rfl ?_
    exact ⟨by first | rfl | (simp [errW_none, errW_some] <;> rfl) | (simp [*, errW_none, errW_some] <;> rfl), by repeat (first | (with_reducible first | exact HB.out | apply below_alloc | apply pw_below_drewN | apply below_drew1 | refine below_set ?_ GE212.out | refine below_set ?_ GE213.out) | exact HB.out)⟩
  · rw [if_neg c3] at H
    have c3b0 : (a1 == 0) = false := beq_eq_false_iff_ne.mpr c3
    have c3b1 : (a1 != 0) = true := bne_iff_ne.mpr c3
    have H' := Aside0.mk H
    clear H
    go_enter Try.func17, Try.ntmps17
    go_wp2_with (first | ((with_reducible refine gate_dst (N := 2) rfl ?_); refine box_event ?hg (N := 2) ?hd (cs := #[.int .u64 a0_0, .int .u64 a0_1]) (t := 29) ?hr ?_; (case hd => rfl); (case hg => rfl); (case hr => first | (go_simp; done) | (go_simp; rfl)); intro gb212 hg w8 hbox hb; have n0_ := Aside0.mk (below_step (by repeat (first | (with_reducible first | exact HB.out | apply below_alloc | apply pw_below_drewN | apply below_drew1) | exact HB.out)) hb); have n1_ := Aside0.mk (hbox); have n2_ := Aside0.mk ((by rw [hg]; exact (below_size (by repeat (first | (with_reducible first | exact HB.out | apply below_alloc | apply pw_below_drewN | apply below_drew1) | exact HB.out))) : w.heap.size ≤ gb212)); have n3_ := Aside0.mk ((by rw [hg]; exact (below_size (by repeat (first | (with_reducible first | exact HB.out | apply below_alloc | apply pw_below_drewN | apply below_drew1) | exact HB.out))) : w.heap.size ≤ gb212)); clear HB; have HB := n0_; have BK212 := n1_; have GW212 := n2_; have GE212 := n3_; clear n0_ n1_ n2_ n3_; clear hb hbox hg) | ((with_reducible refine gate_dst (N := 4) rfl ?_); refine box_event ?hg (N := 4) ?hd (cs := #[.int .u64 0, .int .u64 0]) (t := 29) ?hr ?_; (case hd => rfl); (case hg => rfl); (case hr => first | (go_simp; done) | (go_simp; rfl)); intro gb213 hg w9 hbox hb; have n0_ := Aside0.mk (blk_below (g := gb212) (o := .cells #[.int .u64 a0_0, .int .u64 a0_1] 29 (0, 0)) (by exact BK212.out) hb); have n1_ := Aside0.mk (below_step (by repeat (first | (with_reducible first | exact HB.out | apply below_alloc | apply pw_below_drewN | apply below_drew1 | refine below_set ?_ GE212.out) | exact HB.out)) hb); have n2_ := Aside0.mk (hbox); have n3_ := Aside0.mk ((by rw [hg]; exact (below_size (by repeat (first | (with_reducible first | exact HB.out | apply below_alloc | apply pw_below_drewN | apply below_drew1 | refine below_set ?_ GE212.out) | exact HB.out))) : w.heap.size ≤ gb213)); have n4_ := Aside0.mk ((by rw [hg]; exact (below_size (by repeat (first | (with_reducible first | exact HB.out | apply below_alloc | apply pw_below_drewN | apply below_drew1 | refine below_set ?_ GE212.out) | exact HB.out))) : w.heap.size ≤ gb213)); have n5_ := Aside0.mk ((by rw [hg]; exact Nat.ne_of_lt (blk_lt (g := gb212) (o := .cells #[.int .u64 a0_0, .int .u64 a0_1] 29 (0, 0)) (by exact BK212.out)) : gb212 ≠ gb213)); have n6_ := Aside0.mk ((by rw [hg]; exact Nat.ne_of_gt (blk_lt (g := gb212) (o := .cells #[.int .u64 a0_0, .int .u64 a0_1] 29 (0, 0)) (by exact BK212.out)) : gb213 ≠ gb212)); clear BK212; clear HB; have BK212 := n0_; have HB := n1_; have BK213 := n2_; have GW213 := n3_; have GE213 := n4_; have NB212_213 := n5_; have NB213_212 := n6_; clear n0_ n1_ n2_ n3_ n4_ n5_ n6_; clear hb hbox hg) | ((with_reducible refine gate_dst (N := 6) rfl ?_); refine box_event ?hg (N := 6) ?hd (cs := #[.int .u64 0, .int .u64 0]) (t := 29) ?hr ?_; (case hd => rfl); (case hg => rfl); (case hr => first | (go_simp; done) | (go_simp; rfl)); intro gb214 hg w10 hbox hb; have n0_ := Aside0.mk (blk_below (g := gb212) (o := .cells #[.int .u64 a0_0, .int .u64 a0_1] 29 (0, 0)) (by exact BK212.out) hb); have n1_ := Aside0.mk (blk_below (g := gb213) (o := .cells #[.int .u64 0, .int .u64 0] 29 (0, 0)) (by exact BK213.out) hb); have n2_ := Aside0.mk (below_step (by repeat (first | (with_reducible first | exact HB.out | apply below_alloc | apply pw_below_drewN | apply below_drew1 | refine below_set ?_ GE212.out | refine below_set ?_ GE213.out) | exact HB.out)) hb); have n3_ := Aside0.mk (hbox); have n4_ := Aside0.mk ((by rw [hg]; exact (below_size (by repeat (first | (with_reducible first | exact HB.out | apply below_alloc | apply pw_below_drewN | apply below_drew1 | refine below_set ?_ GE212.out | refine below_set ?_ GE213.out) | exact HB.out))) : w.heap.size ≤ gb214)); have n5_ := Aside0.mk ((by rw [hg]; exact (below_size (by repeat (first | (with_reducible first | exact HB.out | apply below_alloc | apply pw_below_drewN | apply below_drew1 | refine below_set ?_ GE212.out | refine below_set ?_ GE213.out) | exact HB.out))) : w.heap.size ≤ gb214)); have n6_ := Aside0.mk ((by rw [hg]; exact Nat.ne_of_lt (blk_lt (g := gb212) (o := .cells #[.int .u64 a0_0, .int .u64 a0_1] 29 (0, 0)) (by exact BK212.out)) : gb212 ≠ gb214)); have n7_ := Aside0.mk ((by rw [hg]; exact Nat.ne_of_gt (blk_lt (g := gb212) (o := .cells #[.int .u64 a0_0, .int .u64 a0_1] 29 (0, 0)) (by exact BK212.out)) : gb214 ≠ gb212)); have n8_ := Aside0.mk ((by rw [hg]; exact Nat.ne_of_lt (blk_lt (g := gb213) (o := .cells #[.int .u64 0, .int .u64 0] 29 (0, 0)) (by exact BK213.out)) : gb213 ≠ gb214)); have n9_ := Aside0.mk ((by rw [hg]; exact Nat.ne_of_gt (blk_lt (g := gb213) (o := .cells #[.int .u64 0, .int .u64 0] 29 (0, 0)) (by exact BK213.out)) : gb214 ≠ gb213)); clear BK212; clear BK213; clear HB; have BK212 := n0_; have BK213 := n1_; have HB := n2_; have BK214 := n3_; have GW214 := n4_; have GE214 := n5_; have NB212_214 := n6_; have NB214_212 := n7_; have NB213_214 := n8_; have NB214_213 := n9_; clear n0_ n1_ n2_ n3_ n4_ n5_ n6_ n7_ n8_ n9_; clear hb hbox hg) | ((with_reducible refine gate_dst (N := 7) rfl ?_); refine box_event ?hg (N := 7) ?hd (cs := #[.int .u64 0, .int .u64 0]) (t := 29) ?hr ?_; (case hd => rfl); (case hg => rfl); (case hr => first | (go_simp; done) | (go_simp; rfl)); intro gb215 hg w11 hbox hb; have n0_ := Aside0.mk (blk_below (g := gb212) (o := .cells #[.int .u64 a0_0, .int .u64 a0_1] 29 (0, 0)) (by exact BK212.out) hb); have n1_ := Aside0.mk (blk_below (g := gb213) (o := .cells #[.int .u64 0, .int .u64 0] 29 (0, 0)) (by exact BK213.out) hb); have n2_ := Aside0.mk (blk_below (g := gb214) (o := .cells #[.int .u64 0, .int .u64 0] 29 (0, 0)) (by exact BK214.out) hb); have n3_ := Aside0.mk (below_step (by repeat (first | (with_reducible first | exact HB.out | apply below_alloc | apply pw_below_drewN | apply below_drew1 | refine below_set ?_ GE212.out | refine below_set ?_ GE213.out | refine below_set ?_ GE214.out) | exact HB.out)) hb); have n4_ := Aside0.mk (hbox); have n5_ := Aside0.mk ((by rw [hg]; exact (below_size (by repeat (first | (with_reducible first | exact HB.out | apply below_alloc | apply pw_below_drewN | apply below_drew1 | refine below_set ?_ GE212.out | refine below_set ?_ GE213.out | refine below_set ?_ GE214.out) | exact HB.out))) : w.heap.size ≤ gb215)); have n6_ := Aside0.mk ((by rw [hg]; exact (below_size (by repeat (first | (with_reducible first | exact HB.out | apply below_alloc | apply pw_below_drewN | apply below_drew1 | refine below_set ?_ GE212.out | refine below_set ?_ GE213.out | refine below_set ?_ GE214.out) | exact HB.out))) : w.heap.size ≤ gb215)); have n7_ := Aside0.mk ((by rw [hg]; exact Nat.ne_of_lt (blk_lt (g := gb212) (o := .cells #[.int .u64 a0_0, .int .u64 a0_1] 29 (0, 0)) (by exact BK212.out)) : gb212 ≠ gb215)); have n8_ := Aside0.mk ((by rw [hg]; exact Nat.ne_of_gt (blk_lt (g := gb212) (o := .cells #[.int .u64 a0_0, .int .u64 a0_1] 29 (0, 0)) (by exact BK212.out)) : gb215 ≠ gb212)); have n9_ := Aside0.mk ((by rw [hg]; exact Nat.ne_of_lt (blk_lt (g := gb213) (o := .cells #[.int .u64 0, .int .u64 0] 29 (0, 0)) (by exact BK213.out)) : gb213 ≠ gb215)); have n10_ := Aside0.mk ((by rw [hg]; exact Nat.ne_of_gt (blk_lt (g := gb213) (o := .cells #[.int .u64 0, .int .u64 0] 29 (0, 0)) (by exact BK213.out)) : gb215 ≠ gb213)); have n11_ := Aside0.mk ((by rw [hg]; exact Nat.ne_of_lt (blk_lt (g := gb214) (o := .cells #[.int .u64 0, .int .u64 0] 29 (0, 0)) (by exact BK214.out)) : gb214 ≠ gb215)); have n12_ := Aside0.mk ((by rw [hg]; exact Nat.ne_of_gt (blk_lt (g := gb214) (o := .cells #[.int .u64 0, .int .u64 0] 29 (0, 0)) (by exact BK214.out)) : gb215 ≠ gb214)); clear BK212; clear BK213; clear BK214; clear HB; have BK212 := n0_; have BK213 := n1_; have BK214 := n2_; have HB := n3_; have BK215 := n4_; have GW215 := n5_; have GE215 := n6_; have NB212_215 := n7_; have NB215_212 := n8_; have NB213_215 := n9_; have NB215_213 := n10_; have NB214_215 := n11_; have NB215_214 := n12_; clear n0_ n1_ n2_ n3_ n4_ n5_ n6_ n7_ n8_ n9_ n10_ n11_ n12_; clear hb hbox hg; have hnb12 := NB214_212.out; have hnc12 := NB212_214.out; have hnb13 := NB214_213.out; have hnc13 := NB213_214.out; have hnb14 := NB214_215.out; have hnc14 := NB215_214.out; have hcz15_0 : w11.cell? ⟨gb214, 0, none⟩ = some (.int .u64 0) := (blk_cell BK214.out 0).trans rfl; have hcz15_1 : w11.cell? ⟨gb214, 1, none⟩ = some (.int .u64 0) := (blk_cell BK214.out 1).trans rfl; have hfz15_0 := blk_frozen BK214.out 0; have hfz15_1 := blk_frozen BK214.out 1; have hnb16 := NB215_212.out; have hnc16 := NB212_215.out; have hnb17 := NB215_213.out; have hnc17 := NB213_215.out; have hcz18_0 : w11.cell? ⟨gb215, 0, none⟩ = some (.int .u64 0) := (blk_cell BK215.out 0).trans rfl; have hcz18_1 : w11.cell? ⟨gb215, 1, none⟩ = some (.int .u64 0) := (blk_cell BK215.out 1).trans rfl; have hfz18_0 := blk_frozen BK215.out 0; have hfz18_1 := blk_frozen BK215.out 1) | ((with_reducible refine gate_dst (N := 8) rfl ?_); refine box_event ?hg (N := 8) ?hd (cs := #[.int .u64 0, .int .u64 0]) (t := 29) ?hr ?_; (case hd => rfl); (case hg => rfl); (case hr => first | (go_simp; done) | (go_simp; rfl)); intro gb216 hg w19 hbox hb; have n0_ := Aside0.mk (blk_below (g := gb212) (o := .cells #[.int .u64 a0_0, .int .u64 a0_1] 29 (0, 0)) (by refine blk_far ?_ NB212_215.out _; refine blk_far ?_ NB212_215.out _; refine blk_far ?_ NB212_214.out _; refine blk_far ?_ NB212_214.out _; exact BK212.out) hb); have n1_ := Aside0.mk (blk_below (g := gb213) (o := .cells #[.int .u64 0, .int .u64 0] 29 (0, 0)) (by refine blk_far ?_ NB213_215.out _; refine blk_far ?_ NB213_215.out _; refine blk_far ?_ NB213_214.out _; refine blk_far ?_ NB213_214.out _; exact BK213.out) hb); have n2_ := Aside0.mk (blk_below (g := gb214) (o := .cells #[.int .u64 0, .int .u64 0] 29 (0, 0)) (by refine blk_far ?_ NB214_215.out _; refine blk_far ?_ NB214_215.out _; refine blk_put (cs := #[.int .u64 0, .int .u64 0]) ?_ 1 _ rfl; refine blk_put (cs := #[.int .u64 0, .int .u64 0]) ?_ 0 _ rfl; exact BK214.out) hb); have n3_ := Aside0.mk (blk_below (g := gb215) (o := .cells #[.int .u64 0, .int .u64 0] 29 (0, 0)) (by refine blk_put (cs := #[.int .u64 0, .int .u64 0]) ?_ 1 _ rfl; refine blk_put (cs := #[.int .u64 0, .int .u64 0]) ?_ 0 _ rfl; refine blk_far ?_ NB215_214.out _; refine blk_far ?_ NB215_214.out _; exact BK215.out) hb); have n4_ := Aside0.mk (below_step (by repeat (first | (with_reducible first | exact HB.out | apply below_alloc | apply pw_below_drewN | apply below_drew1 | refine below_set ?_ GE212.out | refine below_set ?_ GE213.out | refine below_set ?_ GE214.out | refine below_set ?_ GE215.out) | exact HB.out)) hb); have n5_ := Aside0.mk (hbox); have n6_ := Aside0.mk ((by rw [hg]; exact (below_size (by repeat (first | (with_reducible first | exact HB.out | apply below_alloc | apply pw_below_drewN | apply below_drew1 | refine below_set ?_ GE212.out | refine below_set ?_ GE213.out | refine below_set ?_ GE214.out | refine below_set ?_ GE215.out) | exact HB.out))) : w.heap.size ≤ gb216)); have n7_ := Aside0.mk ((by rw [hg]; exact (below_size (by repeat (first | (with_reducible first | exact HB.out | apply below_alloc | apply pw_below_drewN | apply below_drew1 | refine below_set ?_ GE212.out | refine below_set ?_ GE213.out | refine below_set ?_ GE214.out | refine below_set ?_ GE215.out) | exact HB.out))) : w.heap.size ≤ gb216)); have n8_ := Aside0.mk ((by rw [hg]; exact Nat.ne_of_lt (blk_lt (g := gb212) (o := .cells #[.int .u64 a0_0, .int .u64 a0_1] 29 (0, 0)) (by refine blk_far ?_ NB212_215.out _; refine blk_far ?_ NB212_215.out _; refine blk_far ?_ NB212_214.out _; refine blk_far ?_ NB212_214.out _; exact BK212.out)) : gb212 ≠ gb216)); have n9_ := Aside0.mk ((by rw [hg]; exact Nat.ne_of_gt (blk_lt (g := gb212) (o := .cells #[.int .u64 a0_0, .int .u64 a0_1] 29 (0, 0)) (by refine blk_far ?_ NB212_215.out _; refine blk_far ?_ NB212_215.out _; refine blk_far ?_ NB212_214.out _; refine blk_far ?_ NB212_214.out _; exact BK212.out)) : gb216 ≠ gb212)); have n10_ := Aside0.mk ((by rw [hg]; exact Nat.ne_of_lt (blk_lt (g := gb213) (o := .cells #[.int .u64 0, .int .u64 0] 29 (0, 0)) (by refine blk_far ?_ NB213_215.out _; refine blk_far ?_ NB213_215.out _; refine blk_far ?_ NB213_214.out _; refine blk_far ?_ NB213_214.out _; exact BK213.out)) : gb213 ≠ gb216)); have n11_ := Aside0.mk ((by rw [hg]; exact Nat.ne_of_gt (blk_lt (g := gb213) (o := .cells #[.int .u64 0, .int .u64 0] 29 (0, 0)) (by refine blk_far ?_ NB213_215.out _; refine blk_far ?_ NB213_215.out _; refine blk_far ?_ NB213_214.out _; refine blk_far ?_ NB213_214.out _; exact BK213.out)) : gb216 ≠ gb213)); have n12_ := Aside0.mk ((by rw [hg]; exact Nat.ne_of_lt (blk_lt (g := gb214) (o := .cells #[.int .u64 0, .int .u64 0] 29 (0, 0)) (by refine blk_far ?_ NB214_215.out _; refine blk_far ?_ NB214_215.out _; refine blk_put (cs := #[.int .u64 0, .int .u64 0]) ?_ 1 _ rfl; refine blk_put (cs := #[.int .u64 0, .int .u64 0]) ?_ 0 _ rfl; exact BK214.out)) : gb214 ≠ gb216)); have n13_ := Aside0.mk ((by rw [hg]; exact Nat.ne_of_gt (blk_lt (g := gb214) (o := .cells #[.int .u64 0, .int .u64 0] 29 (0, 0)) (by refine blk_far ?_ NB214_215.out _; refine blk_far ?_ NB214_215.out _; refine blk_put (cs := #[.int .u64 0, .int .u64 0]) ?_ 1 _ rfl; refine blk_put (cs := #[.int .u64 0, .int .u64 0]) ?_ 0 _ rfl; exact BK214.out)) : gb216 ≠ gb214)); have n14_ := Aside0.mk ((by rw [hg]; exact Nat.ne_of_lt (blk_lt (g := gb215) (o := .cells #[.int .u64 0, .int .u64 0] 29 (0, 0)) (by refine blk_put (cs := #[.int .u64 0, .int .u64 0]) ?_ 1 _ rfl; refine blk_put (cs := #[.int .u64 0, .int .u64 0]) ?_ 0 _ rfl; refine blk_far ?_ NB215_214.out _; refine blk_far ?_ NB215_214.out _; exact BK215.out)) : gb215 ≠ gb216)); have n15_ := Aside0.mk ((by rw [hg]; exact Nat.ne_of_gt (blk_lt (g := gb215) (o := .cells #[.int .u64 0, .int .u64 0] 29 (0, 0)) (by refine blk_put (cs := #[.int .u64 0, .int .u64 0]) ?_ 1 _ rfl; refine blk_put (cs := #[.int .u64 0, .int .u64 0]) ?_ 0 _ rfl; refine blk_far ?_ NB215_214.out _; refine blk_far ?_ NB215_214.out _; exact BK215.out)) : gb216 ≠ gb215)); clear BK212; clear BK213; clear BK214; clear BK215; clear HB; have BK212 := n0_; have BK213 := n1_; have BK214 := n2_; have BK215 := n3_; have HB := n4_; have BK216 := n5_; have GW216 := n6_; have GE216 := n7_; have NB212_216 := n8_; have NB216_212 := n9_; have NB213_216 := n10_; have NB216_213 := n11_; have NB214_216 := n12_; have NB216_214 := n13_; have NB215_216 := n14_; have NB216_215 := n15_; clear n0_ n1_ n2_ n3_ n4_ n5_ n6_ n7_ n8_ n9_ n10_ n11_ n12_ n13_ n14_ n15_; clear hb hbox hg; have hnb20 := NB216_212.out; have hnc20 := NB212_216.out; have hnb21 := NB216_213.out; have hnc21 := NB213_216.out; have hnb22 := NB216_214.out; have hnc22 := NB214_216.out; have hnb23 := NB216_215.out; have hnc23 := NB215_216.out; have hcz24_0 : w19.cell? ⟨gb216, 0, none⟩ = some (.int .u64 0) := (blk_cell BK216.out 0).trans rfl; have hcz24_1 : w19.cell? ⟨gb216, 1, none⟩ = some (.int .u64 0) := (blk_cell BK216.out 1).trans rfl; have hfz24_0 := blk_frozen BK216.out 0; have hfz24_1 := blk_frozen BK216.out 1))
    go_loopg [9] k (fun kq v9 w' => ∃ (x9_1 : Int) (x215000_1 : Int) (x215001_1 : Int) (x216000_1 : Int) (x216001_1 : Int), v9 = .int .i64 x9_1 ∧ Aside0 (overfallref01_Div.l0 kq x9_1 a0_0 a0_1 x215000_1 x215001_1 x216000_1 x216001_1 0 a1 = some (r1, r2, r3)) ∧ Aside0 (kq ≤ k) ∧ Aside0 (w'.heap[gb212]? = some (.cells #[.int .u64 a0_0, .int .u64 a0_1] 29 (0, 0))) ∧ Aside0 (w'.heap[gb213]? = some (.cells #[.int .u64 0, .int .u64 0] 29 (0, 0))) ∧ Aside0 (w'.heap[gb214]? = some (.cells #[.int .u64 x215000_1, .int .u64 x215001_1] 29 (0, 0))) ∧ Aside0 (w'.heap[gb215]? = some (.cells #[.int .u64 x216000_1, .int .u64 x216001_1] 29 (0, 0))) ∧ Aside0 (w'.heap[gb216]? = some (.cells #[.int .u64 0, .int .u64 a1] 29 (0, 0))) ∧ Aside0 (Below w.heap.size w w'))
    case atStart => exact ⟨(127), (0), (0), (0), (0), (by first | rfl | (simp; done) | (simp [*]; done)), H', ⟨Nat.le_refl _⟩, ⟨by refine blk_far ?_ NB212_216.out _; refine blk_far ?_ NB212_216.out _; exact BK212.out⟩, ⟨by refine blk_far ?_ NB213_216.out _; refine blk_far ?_ NB213_216.out _; exact BK213.out⟩, ⟨by refine blk_far ?_ NB214_216.out _; refine blk_far ?_ NB214_216.out _; exact BK214.out⟩, ⟨by refine blk_far ?_ NB215_216.out _; refine blk_far ?_ NB215_216.out _; exact BK215.out⟩, ⟨by refine blk_put (cs := #[.int .u64 0, .int .u64 0]) ?_ 1 _ rfl; refine blk_put (cs := #[.int .u64 0, .int .u64 0]) ?_ 0 _ rfl; exact BK216.out⟩, ⟨by repeat (first | (with_reducible first | exact HB.out | apply below_alloc | apply pw_below_drewN | apply below_drew1 | refine below_set ?_ GE212.out | refine below_set ?_ GE213.out | refine below_set ?_ GE214.out | refine below_set ?_ GE215.out | refine below_set ?_ GE216.out) | exact HB.out)⟩⟩
    case round =>
      clear H'
      try clear c1
      try clear c2
      try clear p2
      try clear c3
      try clear c3b0
      try clear c3b1
      try clear c6
      try clear c12
      try clear c13
      try clear c14
      try clear c16
      try clear c17
      try clear c20
      try clear c21
      try clear c22
      try clear c23
      try clear hcz15_0
      try clear hcz15_1
      try clear hcz18_0
      try clear hcz18_1
      try clear hcz24_0
      try clear hcz24_1
      try clear hcz7_0
      try clear hcz7_1
      try clear hfz15_0
      try clear hfz15_1
      try clear hfz18_0
      try clear hfz18_1
      try clear hfz24_0
      try clear hfz24_1
      try clear hfz7_0
      try clear hfz7_1
      obtain ⟨x9_1, x215000_1, x215001_1, x216000_1, x216001_1, rfl, HA, HK1, BK212, BK213, BK214, BK215, BK216, HB⟩ := hrel
      cases gk with
      | zero => exact absurd HA.out (by simp [overfallref01_Div.l0])
      | succ k1 =>
        have H := HA.out
        clear HA
        simp only [overfallref01_Div.l0] at H
        by_cases c25 : x9_1 ≥ 0
        · rw [if_pos c25] at H
          have c25b0 : decide (0 ≤ x9_1) = true := decide_eq_true c25
          clear c25
          replace H := Option.bind_eq_some_iff.mp H
          obtain ⟨⟨t217, t218⟩, A260, H⟩ := H
          replace H : ((overfallref01_Twice.f k1 x216000_1 x216001_1).bind fun bt219 => ((overfallref01_Bit.f k1 a0_0 a0_1 x9_1).bind fun t221 => (if t221 = 1 then ((overfallref01_Add.f k1 bt219.1 bt219.2 0 1).bind fun bt222 => (overfallref01_Div.j1 k1 x9_1 a0_0 a0_1 t217 t218 bt222.1 bt222.2.1 0 a1)) else (overfallref01_Div.j1 k1 x9_1 a0_0 a0_1 t217 t218 bt219.1 bt219.2 0 a1)))) = some (r1, r2, r3) := H
          have A26 := Aside0.mk A260
          clear A260
          replace H := Option.bind_eq_some_iff.mp H
          obtain ⟨⟨t219, t220⟩, A270, H⟩ := H
          replace H : ((overfallref01_Bit.f k1 a0_0 a0_1 x9_1).bind fun t221 => (if t221 = 1 then ((overfallref01_Add.f k1 t219 t220 0 1).bind fun bt222 => (overfallref01_Div.j1 k1 x9_1 a0_0 a0_1 t217 t218 bt222.1 bt222.2.1 0 a1)) else (overfallref01_Div.j1 k1 x9_1 a0_0 a0_1 t217 t218 t219 t220 0 a1))) = some (r1, r2, r3) := H
          have A27 := Aside0.mk A270
          clear A270
          replace H := Option.bind_eq_some_iff.mp H
          obtain ⟨t221, A280, H⟩ := H
          replace H : (if t221 = 1 then ((overfallref01_Add.f k1 t219 t220 0 1).bind fun bt222 => (overfallref01_Div.j1 k1 x9_1 a0_0 a0_1 t217 t218 bt222.1 bt222.2.1 0 a1)) else (overfallref01_Div.j1 k1 x9_1 a0_0 a0_1 t217 t218 t219 t220 0 a1)) = some (r1, r2, r3) := H
          have A28 := Aside0.mk A280
          clear A280
          have HC29 := Aside0.mk H
          clear H
          try go_wp2
          have n0_ := Aside0.mk (blk_drew BK212.out)
          have n1_ := Aside0.mk (blk_drew BK213.out)
          have n2_ := Aside0.mk (blk_drew BK214.out)
          have n3_ := Aside0.mk (blk_drew BK215.out)
          have n4_ := Aside0.mk (blk_drew BK216.out)
          have n5_ := Aside0.mk (below_drew1 HB.out)
          clear BK212
          clear BK213
          clear BK214
          clear BK215
          clear BK216
          clear HB
          have BK212 := n0_
          have BK213 := n1_
          have BK214 := n2_
          have BK215 := n3_
          have BK216 := n4_
          have HB := n5_
          clear n0_ n1_ n2_ n3_ n4_ n5_
          refine start_ (n := 6) (S := fun w' => w'.cell? ⟨gb214, 0, none⟩ = some (.int .u64 x215000_1) ∧ w'.cell? ⟨gb214, 1, none⟩ = some (.int .u64 x215001_1) ∧ w'.cell? ⟨gb215, 0, none⟩ = some (.int .u64 x216000_1) ∧ w'.cell? ⟨gb215, 1, none⟩ = some (.int .u64 x216001_1)) (ds := [4, 5]) #[false, false, false, false, false, false] (by kernel_rfl) rfl rfl ⟨(blk_cell BK214.out 0).trans rfl, (blk_cell BK214.out 1).trans rfl, (blk_cell BK215.out 0).trans rfl, (blk_cell BK215.out 1).trans rfl⟩ (fun hHeld => ?_)
          generalize wr.drew = w30 at BK212 BK213 BK214 BK215 BK216 HB hHeld ⊢
          refine take_ (i := 0) (N := some 21) (v := ?_) (a' := ?_) #[true, false, false, false, false, false] rfl rfl (by kernel_rfl) (fun _ _ _ h => h) (Or.inl ⟨by rfl, ?_⟩) hHeld ?_ ?_
          rotate_left
          · rintro w' ⟨s0, s1, s2, s3⟩
            go_simp
            with_reducible rfl
          rotate_left
          · simp only [Act.put, List.setIfInBounds_toArray, List.set_cons_zero, List.set_cons_succ, i64_w, i32_w]
            rfl
          refine take_ (i := 2) (N := some 23) (v := ?_) (a' := ?_) #[true, false, true, false, false, false] rfl rfl (by kernel_rfl) (fun _ _ _ h => h) (Or.inl ⟨by rfl, ?_⟩) hHeld ?_ ?_
          rotate_left
          · rintro w' ⟨s0, s1, s2, s3⟩
            go_simp
            with_reducible rfl
          rotate_left
          · simp only [Act.put, List.setIfInBounds_toArray, List.set_cons_zero, List.set_cons_succ, i64_w, i32_w]
            rfl
          refine one_ (i := 1) (N := some 22) #[true, true, true, false, false, false] rfl rfl (by kernel_rfl) (by decide) (fun K hK => ?_)
          refine goes_ Try.func38 (by kernel_rfl) rfl #[.agg #[.int .u64 x215000_1, .int .u64 x215001_1]] (by rfl) rfl rfl (by (try simp only [List.map_toArray, List.map_cons, List.map_nil]); first | done | rfl | (simp only [List.length_drop, List.length_take]; rfl)) ?_
          with_reducible refine (overfallref01_Twice.calls k1 x215000_1 x215001_1 t217 t218 _ A26.out).mono ?_
          rintro e w31 ⟨rfl, hb⟩
          refine ⟨_, rfl, ?_⟩
          have n0_ := Aside0.mk (blk_below (g := gb212) (o := .cells #[.int .u64 a0_0, .int .u64 a0_1] 29 (0, 0)) (by exact BK212.out) hb)
          have n1_ := Aside0.mk (blk_below (g := gb213) (o := .cells #[.int .u64 0, .int .u64 0] 29 (0, 0)) (by exact BK213.out) hb)
          have n2_ := Aside0.mk (blk_below (g := gb214) (o := .cells #[.int .u64 x215000_1, .int .u64 x215001_1] 29 (0, 0)) (by exact BK214.out) hb)
          have n3_ := Aside0.mk (blk_below (g := gb215) (o := .cells #[.int .u64 x216000_1, .int .u64 x216001_1] 29 (0, 0)) (by exact BK215.out) hb)
          have n4_ := Aside0.mk (blk_below (g := gb216) (o := .cells #[.int .u64 0, .int .u64 a1] 29 (0, 0)) (by exact BK216.out) hb)
          have n5_ := Aside0.mk (below_step (by repeat (first | (with_reducible first | exact HB.out | apply below_alloc | apply pw_below_drewN | apply below_drew1 | refine below_set ?_ GE212.out | refine below_set ?_ GE213.out | refine below_set ?_ GE214.out | refine below_set ?_ GE215.out | refine below_set ?_ GE216.out) | exact HB.out)) hb)
          clear BK212
          clear BK213
          clear BK214
          clear BK215
          clear BK216
          clear HB
          have BK212 := n0_
          have BK213 := n1_
          have BK214 := n2_
          have BK215 := n3_
          have BK216 := n4_
          have HB := n5_
          clear n0_ n1_ n2_ n3_ n4_ n5_
          (try clear hb)
          (try clear hb2)
          (try clear hk)
          (try clear hi)
          refine hK.out _ _ ⟨(blk_cell BK214.out 0).trans rfl, (blk_cell BK214.out 1).trans rfl, (blk_cell BK215.out 0).trans rfl, (blk_cell BK215.out 1).trans rfl⟩ (fun hHeld => ?_)
          clear hK K
          refine norm_ (a' := ?_) ?_ ?_
          rotate_left
          · show Act.put _ (some 22) _ = _
            simp only [Act.put, List.setIfInBounds_toArray, List.set_cons_zero, List.set_cons_succ, i64_w, i32_w]
            rfl
          refine one_ (i := 3) (N := some 24) #[true, true, true, true, false, false] rfl rfl (by kernel_rfl) (by decide) (fun K hK => ?_)
          refine goes_ Try.func38 (by kernel_rfl) rfl #[.agg #[.int .u64 x216000_1, .int .u64 x216001_1]] (by rfl) rfl rfl (by (try simp only [List.map_toArray, List.map_cons, List.map_nil]); first | done | rfl | (simp only [List.length_drop, List.length_take]; rfl)) ?_
          with_reducible refine (overfallref01_Twice.calls k1 x216000_1 x216001_1 t219 t220 _ A27.out).mono ?_
          rintro e w32 ⟨rfl, hb⟩
          refine ⟨_, rfl, ?_⟩
          have n0_ := Aside0.mk (blk_below (g := gb212) (o := .cells #[.int .u64 a0_0, .int .u64 a0_1] 29 (0, 0)) (by exact BK212.out) hb)
          have n1_ := Aside0.mk (blk_below (g := gb213) (o := .cells #[.int .u64 0, .int .u64 0] 29 (0, 0)) (by exact BK213.out) hb)
          have n2_ := Aside0.mk (blk_below (g := gb214) (o := .cells #[.int .u64 x215000_1, .int .u64 x215001_1] 29 (0, 0)) (by exact BK214.out) hb)
          have n3_ := Aside0.mk (blk_below (g := gb215) (o := .cells #[.int .u64 x216000_1, .int .u64 x216001_1] 29 (0, 0)) (by exact BK215.out) hb)
          have n4_ := Aside0.mk (blk_below (g := gb216) (o := .cells #[.int .u64 0, .int .u64 a1] 29 (0, 0)) (by exact BK216.out) hb)
          have n5_ := Aside0.mk (below_step (by repeat (first | (with_reducible first | exact HB.out | apply below_alloc | apply pw_below_drewN | apply below_drew1 | refine below_set ?_ GE212.out | refine below_set ?_ GE213.out | refine below_set ?_ GE214.out | refine below_set ?_ GE215.out | refine below_set ?_ GE216.out) | exact HB.out)) hb)
          clear BK212
          clear BK213
          clear BK214
          clear BK215
          clear BK216
          clear HB
          have BK212 := n0_
          have BK213 := n1_
          have BK214 := n2_
          have BK215 := n3_
          have BK216 := n4_
          have HB := n5_
          clear n0_ n1_ n2_ n3_ n4_ n5_
          (try clear hb)
          (try clear hb2)
          (try clear hk)
          (try clear hi)
          refine hK.out _ _ ⟨(blk_cell BK214.out 0).trans rfl, (blk_cell BK214.out 1).trans rfl, (blk_cell BK215.out 0).trans rfl, (blk_cell BK215.out 1).trans rfl⟩ (fun hHeld => ?_)
          clear hK K
          refine norm_ (a' := ?_) ?_ ?_
          rotate_left
          · show Act.put _ (some 24) _ = _
            simp only [Act.put, List.setIfInBounds_toArray, List.set_cons_zero, List.set_cons_succ, i64_w, i32_w]
            rfl
          refine last_ (i := 4) (N := none) #[true, true, true, true, true, false] rfl rfl (by kernel_rfl) (by decide) (fun K hK => ?_)
          have hs33 : w32.cell? ⟨gb214, 0, none⟩ = some (.int .u64 x215000_1) := (blk_cell BK214.out 0).trans rfl
          have hfs33 := blk_frozen BK214.out 0
          have hns33_0 := NB212_214.out
          have hns33_1 := NB213_214.out
          have hns33_3 := NB215_214.out
          have hns33_4 := NB216_214.out
          have hms33_0 := NB214_212.out
          have hms33_1 := NB214_213.out
          have hms33_3 := NB214_215.out
          have hms33_4 := NB214_216.out
          have hs34 : w32.cell? ⟨gb214, 1, none⟩ = some (.int .u64 x215001_1) := (blk_cell BK214.out 1).trans rfl
          have hfs34 := blk_frozen BK214.out 1
          have hns34_0 := NB212_214.out
          have hns34_1 := NB213_214.out
          have hns34_3 := NB215_214.out
          have hns34_4 := NB216_214.out
          have hms34_0 := NB214_212.out
          have hms34_1 := NB214_213.out
          have hms34_3 := NB214_215.out
          have hms34_4 := NB214_216.out
          refine skip_ (w1 := ?_) (by rfl) rfl ?_ ?_
          rotate_left
          · go_simp
            rfl
          refine hK.out _ _ ?_
          clear hK K
          refine last_ (i := 5) (N := none) #[true, true, true, true, true, true] rfl rfl (by kernel_rfl) (by decide) (fun K hK => ?_)
          have hs35 : w32.cell? ⟨gb215, 0, none⟩ = some (.int .u64 x216000_1) := (blk_cell BK215.out 0).trans rfl
          have hfs35 := blk_frozen BK215.out 0
          have hns35_0 := NB212_215.out
          have hns35_1 := NB213_215.out
          have hns35_2 := NB214_215.out
          have hns35_4 := NB216_215.out
          have hms35_0 := NB215_212.out
          have hms35_1 := NB215_213.out
          have hms35_2 := NB215_214.out
          have hms35_4 := NB215_216.out
          have hs36 : w32.cell? ⟨gb215, 1, none⟩ = some (.int .u64 x216001_1) := (blk_cell BK215.out 1).trans rfl
          have hfs36 := blk_frozen BK215.out 1
          have hns36_0 := NB212_215.out
          have hns36_1 := NB213_215.out
          have hns36_2 := NB214_215.out
          have hns36_4 := NB216_215.out
          have hms36_0 := NB215_212.out
          have hms36_1 := NB215_213.out
          have hms36_2 := NB215_214.out
          have hms36_4 := NB215_216.out
          refine skip_ (w1 := ?_) (by rfl) rfl ?_ ?_
          rotate_left
          · go_simp
            rfl
          refine hK.out _ _ ?_
          clear hK K
          refine done_ (by kernel_rfl) ?_
          have hnb37 := NB212_213.out
          have hnc37 := NB213_212.out
          have hnb38 := NB212_214.out
          have hnc38 := NB214_212.out
          have hnb39 := NB212_215.out
          have hnc39 := NB215_212.out
          have hnb40 := NB212_216.out
          have hnc40 := NB216_212.out
          have hcz41_0 : w32.cell? ⟨gb212, 0, none⟩ = some (.int .u64 a0_0) := (blk_cell BK212.out 0).trans rfl
          have hcz41_1 : w32.cell? ⟨gb212, 1, none⟩ = some (.int .u64 a0_1) := (blk_cell BK212.out 1).trans rfl
          have hfz41_0 := blk_frozen BK212.out 0
          have hfz41_1 := blk_frozen BK212.out 1
          go_upto_if 28 with (first | ((with_reducible refine gate_callee (f := 39) rfl ?_); refine goesL_ (some 27) rfl rfl Try.func39 (by kernel_rfl) rfl #[.agg #[.int .u64 a0_0, .int .u64 a0_1], .int .i64 x9_1] rfl (by (try simp only [List.map_toArray, List.map_cons, List.map_nil]); first | done | rfl | (simp only [List.length_drop, List.length_take]; rfl)) ?_; (with_reducible refine (overfallref01_Bit.calls k1 a0_0 a0_1 x9_1 t221 _ A28.out).mono ?_); rintro e w42 ⟨rfl, hb⟩; refine ⟨_, rfl, ?_⟩; have n0_ := Aside0.mk (blk_below (g := gb212) (o := .cells #[.int .u64 a0_0, .int .u64 a0_1] 29 (0, 0)) (by refine blk_far ?_ NB212_215.out _; refine blk_far ?_ NB212_215.out _; refine blk_far ?_ NB212_214.out _; refine blk_far ?_ NB212_214.out _; exact BK212.out) hb); have n1_ := Aside0.mk (blk_below (g := gb213) (o := .cells #[.int .u64 0, .int .u64 0] 29 (0, 0)) (by refine blk_far ?_ NB213_215.out _; refine blk_far ?_ NB213_215.out _; refine blk_far ?_ NB213_214.out _; refine blk_far ?_ NB213_214.out _; exact BK213.out) hb); have n2_ := Aside0.mk (blk_below (g := gb214) (o := .cells #[.int .u64 t217, .int .u64 t218] 29 (0, 0)) (by refine blk_far ?_ NB214_215.out _; refine blk_far ?_ NB214_215.out _; refine blk_put (cs := #[.int .u64 t217, .int .u64 x215001_1]) ?_ 1 _ rfl; refine blk_put (cs := #[.int .u64 x215000_1, .int .u64 x215001_1]) ?_ 0 _ rfl; exact BK214.out) hb); have n3_ := Aside0.mk (blk_below (g := gb215) (o := .cells #[.int .u64 t219, .int .u64 t220] 29 (0, 0)) (by refine blk_put (cs := #[.int .u64 t219, .int .u64 x216001_1]) ?_ 1 _ rfl; refine blk_put (cs := #[.int .u64 x216000_1, .int .u64 x216001_1]) ?_ 0 _ rfl; refine blk_far ?_ NB215_214.out _; refine blk_far ?_ NB215_214.out _; exact BK215.out) hb); have n4_ := Aside0.mk (blk_below (g := gb216) (o := .cells #[.int .u64 0, .int .u64 a1] 29 (0, 0)) (by refine blk_far ?_ NB216_215.out _; refine blk_far ?_ NB216_215.out _; refine blk_far ?_ NB216_214.out _; refine blk_far ?_ NB216_214.out _; exact BK216.out) hb); have n5_ := Aside0.mk (below_step (by repeat (first | (with_reducible first | exact HB.out | apply below_alloc | apply pw_below_drewN | apply below_drew1 | refine below_set ?_ GE212.out | refine below_set ?_ GE213.out | refine below_set ?_ GE214.out | refine below_set ?_ GE215.out | refine below_set ?_ GE216.out) | exact HB.out)) hb); clear BK212; clear BK213; clear BK214; clear BK215; clear BK216; clear HB; have BK212 := n0_; have BK213 := n1_; have BK214 := n2_; have BK215 := n3_; have BK216 := n4_; have HB := n5_; clear n0_ n1_ n2_ n3_ n4_ n5_; (try clear hb); (try clear hb2); (try clear hk); (try clear hi)))
          (try simp only [Act.put, List.setIfInBounds_toArray, List.set_cons_zero, List.set_cons_succ])
          go_cut [] (fun wc => ∃ (kq : Nat) (x216000_28 : Int) (x216001_28 : Int), Aside0 (overfallref01_Div.j1 kq x9_1 a0_0 a0_1 t217 t218 x216000_28 x216001_28 0 a1 = some (r1, r2, r3)) ∧ Aside0 (kq ≤ k1) ∧ Aside0 (wc.heap[gb212]? = some (.cells #[.int .u64 a0_0, .int .u64 a0_1] 29 (0, 0))) ∧ Aside0 (wc.heap[gb213]? = some (.cells #[.int .u64 0, .int .u64 0] 29 (0, 0))) ∧ Aside0 (wc.heap[gb214]? = some (.cells #[.int .u64 t217, .int .u64 t218] 29 (0, 0))) ∧ Aside0 (wc.heap[gb215]? = some (.cells #[.int .u64 x216000_28, .int .u64 x216001_28] 29 (0, 0))) ∧ Aside0 (wc.heap[gb216]? = some (.cells #[.int .u64 0, .int .u64 a1] 29 (0, 0))) ∧ Aside0 (Below w.heap.size w wc))
          case first =>
            have H := HC29.out
            clear HC29
            by_cases c43 : t221 = 1
            · rw [if_pos c43] at H
              have c43b0 : (t221 == 1) = true := beq_iff_eq.mpr c43
              have c43b1 : (t221 != 1) = false := bne_eq_false_iff_eq.mpr c43
              clear c43
              (first | rw [c43b0] | (simp only [i64_w, i32_w]; rw [c43b0]) | skip)
              replace H := Option.bind_eq_some_iff.mp H
              obtain ⟨⟨t222, t223, t224⟩, A440, H⟩ := H
              replace H : (overfallref01_Div.j1 k1 x9_1 a0_0 a0_1 t217 t218 t222 t223 0 a1) = some (r1, r2, r3) := H
              have A44 := Aside0.mk A440
              clear A440
              have H' := Aside0.mk H
              clear H
              have hnb45 := NB215_212.out
              have hnc45 := NB212_215.out
              have hnb46 := NB215_213.out
              have hnc46 := NB213_215.out
              have hnb47 := NB215_214.out
              have hnc47 := NB214_215.out
              have hnb48 := NB215_216.out
              have hnc48 := NB216_215.out
              have hcz49_0 : w42.cell? ⟨gb215, 0, none⟩ = some (.int .u64 t219) := (blk_cell BK215.out 0).trans rfl
              have hcz49_1 : w42.cell? ⟨gb215, 1, none⟩ = some (.int .u64 t220) := (blk_cell BK215.out 1).trans rfl
              have hfz49_0 := blk_frozen BK215.out 0
              have hfz49_1 := blk_frozen BK215.out 1
              go_wp2_with (first | ((with_reducible refine gate_callee (f := 24) rfl ?_); refine goesL_ (some 32) rfl rfl Try.func24 (by kernel_rfl) rfl #[.agg #[.int .u64 t219, .int .u64 t220], .agg #[.int .u64 0, .int .u64 1]] rfl (by (try simp only [List.map_toArray, List.map_cons, List.map_nil]); first | done | rfl | (simp only [List.length_drop, List.length_take]; rfl)) ?_; (with_reducible refine (overfallref01_Add.calls k1 t219 t220 0 1 t222 t223 t224 _ A44.out).mono ?_); rintro e w50 ⟨rfl, hb⟩; refine ⟨_, rfl, ?_⟩; have n0_ := Aside0.mk (blk_below (g := gb212) (o := .cells #[.int .u64 a0_0, .int .u64 a0_1] 29 (0, 0)) (by exact BK212.out) hb); have n1_ := Aside0.mk (blk_below (g := gb213) (o := .cells #[.int .u64 0, .int .u64 0] 29 (0, 0)) (by exact BK213.out) hb); have n2_ := Aside0.mk (blk_below (g := gb214) (o := .cells #[.int .u64 t217, .int .u64 t218] 29 (0, 0)) (by exact BK214.out) hb); have n3_ := Aside0.mk (blk_below (g := gb215) (o := .cells #[.int .u64 t219, .int .u64 t220] 29 (0, 0)) (by exact BK215.out) hb); have n4_ := Aside0.mk (blk_below (g := gb216) (o := .cells #[.int .u64 0, .int .u64 a1] 29 (0, 0)) (by exact BK216.out) hb); have n5_ := Aside0.mk (below_step (by repeat (first | (with_reducible first | exact HB.out | apply below_alloc | apply pw_below_drewN | apply below_drew1 | refine below_set ?_ GE212.out | refine below_set ?_ GE213.out | refine below_set ?_ GE214.out | refine below_set ?_ GE215.out | refine below_set ?_ GE216.out) | exact HB.out)) hb); clear BK212; clear BK213; clear BK214; clear BK215; clear BK216; clear HB; have BK212 := n0_; have BK213 := n1_; have BK214 := n2_; have BK215 := n3_; have BK216 := n4_; have HB := n5_; clear n0_ n1_ n2_ n3_ n4_ n5_; (try clear hb); (try clear hb2); (try clear hk); (try clear hi); have hcz51_0 : w50.cell? ⟨gb215, 0, none⟩ = some (.int .u64 t219) := (blk_cell BK215.out 0).trans rfl; have hcz51_1 : w50.cell? ⟨gb215, 1, none⟩ = some (.int .u64 t220) := (blk_cell BK215.out 1).trans rfl; have hfz51_0 := blk_frozen BK215.out 0; have hfz51_1 := blk_frozen BK215.out 1))
              go_meet
              case rel => exact ⟨_, (t222), (t223), H', ⟨by have := HK1.out; first | omega | exact Nat.le_refl _⟩, ⟨by refine blk_far ?_ NB212_215.out _; refine blk_far ?_ NB212_215.out _; exact BK212.out⟩, ⟨by refine blk_far ?_ NB213_215.out _; refine blk_far ?_ NB213_215.out _; exact BK213.out⟩, ⟨by refine blk_far ?_ NB214_215.out _; refine blk_far ?_ NB214_215.out _; exact BK214.out⟩, ⟨by refine blk_put (cs := #[.int .u64 t222, .int .u64 t220]) ?_ 1 _ rfl; refine blk_put (cs := #[.int .u64 t219, .int .u64 t220]) ?_ 0 _ rfl; exact BK215.out⟩, ⟨by refine blk_far ?_ NB216_215.out _; refine blk_far ?_ NB216_215.out _; exact BK216.out⟩, ⟨by repeat (first | (with_reducible first | exact HB.out | apply below_alloc | apply pw_below_drewN | apply below_drew1 | refine below_set ?_ GE212.out | refine below_set ?_ GE213.out | refine below_set ?_ GE214.out | refine below_set ?_ GE215.out | refine below_set ?_ GE216.out) | exact HB.out)⟩⟩
            · rw [if_neg c43] at H
              have c43b0 : (t221 == 1) = false := beq_eq_false_iff_ne.mpr c43
              have c43b1 : (t221 != 1) = true := bne_iff_ne.mpr c43
              (first | rw [c43b0] | (simp only [i64_w, i32_w]; rw [c43b0]) | skip)
              have H' := Aside0.mk H
              clear H
              go_wp2
              go_meet
              case rel => exact ⟨_, (t219), (t220), H', ⟨by have := HK1.out; first | omega | exact Nat.le_refl _⟩, ⟨by exact BK212.out⟩, ⟨by exact BK213.out⟩, ⟨by exact BK214.out⟩, ⟨by exact BK215.out⟩, ⟨by exact BK216.out⟩, ⟨by repeat (first | (with_reducible first | exact HB.out | apply below_alloc | apply pw_below_drewN | apply below_drew1 | refine below_set ?_ GE212.out | refine below_set ?_ GE213.out | refine below_set ?_ GE214.out | refine below_set ?_ GE215.out | refine below_set ?_ GE216.out) | exact HB.out)⟩⟩
          case rest =>
            clear HC29
            try clear c1
            try clear c2
            try clear p2
            try clear c3
            try clear c3b0
            try clear c3b1
            try clear c4
            try clear c6
            try clear c12
            try clear c13
            try clear c14
            try clear c16
            try clear c17
            try clear c20
            try clear c21
            try clear c22
            try clear c23
            try clear c24
            try clear c25
            try clear c25b0
            try clear c37
            try clear c38
            try clear c39
            try clear c40
            try clear c43
            try clear c43b0
            try clear c43b1
            try clear c45
            try clear c46
            try clear c47
            try clear c48
            try clear hcz15_0
            try clear hcz15_1
            try clear hcz18_0
            try clear hcz18_1
            try clear hcz24_0
            try clear hcz24_1
            try clear hcz41_0
            try clear hcz41_1
            try clear hcz49_0
            try clear hcz49_1
            try clear hcz51_0
            try clear hcz51_1
            try clear hcz7_0
            try clear hcz7_1
            try clear hfz15_0
            try clear hfz15_1
            try clear hfz18_0
            try clear hfz18_1
            try clear hfz24_0
            try clear hfz24_1
            try clear hfz41_0
            try clear hfz41_1
            try clear hfz49_0
            try clear hfz49_1
            try clear hfz51_0
            try clear hfz51_1
            try clear hfz7_0
            try clear hfz7_1
            try clear p2
            obtain ⟨kq, x216000_28, x216001_28, HA, HJ28, BK212, BK213, BK214, BK215, BK216, HB⟩ := hcut
            cases kq with
            | zero => exact absurd HA.out (by simp [overfallref01_Div.j1])
            | succ kj28 =>
              have H := HA.out
              clear HA
              simp only [overfallref01_Div.j1] at H
              replace H := Option.bind_eq_some_iff.mp H
              obtain ⟨t225, A520, H⟩ := H
              replace H : (if t225 = true then (overfallref01_Div.l0 kj28 (wrap64 (x9_1 - 1)) a0_0 a0_1 t217 t218 x216000_28 x216001_28 0 a1) else ((overfallref01_Sub.f kj28 x216000_28 x216001_28 0 a1).bind fun bt226 => ((overfallref01_Add.f kj28 t217 t218 0 1).bind fun bt229 => (overfallref01_Div.l0 kj28 (wrap64 (x9_1 - 1)) a0_0 a0_1 bt229.1 bt229.2.1 bt226.1 bt226.2.1 0 a1)))) = some (r1, r2, r3) := H
              have A52 := Aside0.mk A520
              clear A520
              by_cases c53 : t225 = true
              · subst c53
                have H1 : (overfallref01_Div.l0 kj28 (wrap64 (x9_1 - 1)) a0_0 a0_1 t217 t218 x216000_28 x216001_28 0 a1) = some (r1, r2, r3) := by rw [if_pos rfl] at H; exact H
                clear H
                have H := H1
                clear H1
                have H' := Aside0.mk H
                clear H
                have hnb54 := NB215_212.out
                have hnc54 := NB212_215.out
                have hnb55 := NB215_213.out
                have hnc55 := NB213_215.out
                have hnb56 := NB215_214.out
                have hnc56 := NB214_215.out
                have hnb57 := NB215_216.out
                have hnc57 := NB216_215.out
                have hcz58_0 : wc.cell? ⟨gb215, 0, none⟩ = some (.int .u64 x216000_28) := (blk_cell BK215.out 0).trans rfl
                have hcz58_1 : wc.cell? ⟨gb215, 1, none⟩ = some (.int .u64 x216001_28) := (blk_cell BK215.out 1).trans rfl
                have hfz58_0 := blk_frozen BK215.out 0
                have hfz58_1 := blk_frozen BK215.out 1
                have hnb59 := NB216_212.out
                have hnc59 := NB212_216.out
                have hnb60 := NB216_213.out
                have hnc60 := NB213_216.out
                have hnb61 := NB216_214.out
                have hnc61 := NB214_216.out
                have hcz62_0 : wc.cell? ⟨gb216, 0, none⟩ = some (.int .u64 0) := (blk_cell BK216.out 0).trans rfl
                have hcz62_1 : wc.cell? ⟨gb216, 1, none⟩ = some (.int .u64 a1) := (blk_cell BK216.out 1).trans rfl
                have hfz62_0 := blk_frozen BK216.out 0
                have hfz62_1 := blk_frozen BK216.out 1
                go_wp2_with (first | ((with_reducible refine gate_callee (f := 31) rfl ?_); refine goesL_ (some 37) rfl rfl Try.func31 (by kernel_rfl) rfl #[.agg #[.int .u64 x216000_28, .int .u64 x216001_28], .agg #[.int .u64 0, .int .u64 a1]] rfl (by (try simp only [List.map_toArray, List.map_cons, List.map_nil]); first | done | rfl | (simp only [List.length_drop, List.length_take]; rfl)) ?_; (with_reducible refine (overfallref01_Less.calls x216000_28 x216001_28 0 a1 true _ A52.out).mono ?_); rintro e w63 ⟨rfl, hb⟩; refine ⟨_, rfl, ?_⟩; have n0_ := Aside0.mk (blk_below (g := gb212) (o := .cells #[.int .u64 a0_0, .int .u64 a0_1] 29 (0, 0)) (by exact BK212.out) hb); have n1_ := Aside0.mk (blk_below (g := gb213) (o := .cells #[.int .u64 0, .int .u64 0] 29 (0, 0)) (by exact BK213.out) hb); have n2_ := Aside0.mk (blk_below (g := gb214) (o := .cells #[.int .u64 t217, .int .u64 t218] 29 (0, 0)) (by exact BK214.out) hb); have n3_ := Aside0.mk (blk_below (g := gb215) (o := .cells #[.int .u64 x216000_28, .int .u64 x216001_28] 29 (0, 0)) (by exact BK215.out) hb); have n4_ := Aside0.mk (blk_below (g := gb216) (o := .cells #[.int .u64 0, .int .u64 a1] 29 (0, 0)) (by exact BK216.out) hb); have n5_ := Aside0.mk (below_step (by repeat (first | (with_reducible first | exact HB.out | apply below_alloc | apply pw_below_drewN | apply below_drew1 | refine below_set ?_ GE212.out | refine below_set ?_ GE213.out | refine below_set ?_ GE214.out | refine below_set ?_ GE215.out | refine below_set ?_ GE216.out) | exact HB.out)) hb); clear BK212; clear BK213; clear BK214; clear BK215; clear BK216; clear HB; have BK212 := n0_; have BK213 := n1_; have BK214 := n2_; have BK215 := n3_; have BK216 := n4_; have HB := n5_; clear n0_ n1_ n2_ n3_ n4_ n5_; (try clear hb); (try clear hb2); (try clear hk); (try clear hi)))
                go_roundg kj28
                case measure => have := HK1.out; have := HJ28.out; omega
                case rel => exact ⟨(wrap64 (x9_1 - 1)), (t217), (t218), (x216000_28), (x216001_28), (by first | rfl | (simp; done) | (simp [*]; done)), H', ⟨by have := HK1.out; have := HJ28.out; omega⟩, ⟨by exact BK212.out⟩, ⟨by exact BK213.out⟩, ⟨by exact BK214.out⟩, ⟨by exact BK215.out⟩, ⟨by exact BK216.out⟩, ⟨by repeat (first | (with_reducible first | exact HB.out | apply below_alloc | apply pw_below_drewN | apply below_drew1 | refine below_set ?_ GE212.out | refine below_set ?_ GE213.out | refine below_set ?_ GE214.out | refine below_set ?_ GE215.out | refine below_set ?_ GE216.out) | exact HB.out)⟩⟩
              · replace c53 := Bool.eq_false_iff.mpr c53
                subst c53
                have H1 : ((overfallref01_Sub.f kj28 x216000_28 x216001_28 0 a1).bind fun bt226 => ((overfallref01_Add.f kj28 t217 t218 0 1).bind fun bt229 => (overfallref01_Div.l0 kj28 (wrap64 (x9_1 - 1)) a0_0 a0_1 bt229.1 bt229.2.1 bt226.1 bt226.2.1 0 a1))) = some (r1, r2, r3) := by rw [if_neg (show ¬ (false = true) by decide)] at H; exact H
                clear H
                have H := H1
                clear H1
                replace H := Option.bind_eq_some_iff.mp H
                obtain ⟨⟨t226, t227, t228⟩, A640, H⟩ := H
                replace H : ((overfallref01_Add.f kj28 t217 t218 0 1).bind fun bt229 => (overfallref01_Div.l0 kj28 (wrap64 (x9_1 - 1)) a0_0 a0_1 bt229.1 bt229.2.1 t226 t227 0 a1)) = some (r1, r2, r3) := H
                have A64 := Aside0.mk A640
                clear A640
                replace H := Option.bind_eq_some_iff.mp H
                obtain ⟨⟨t229, t230, t231⟩, A650, H⟩ := H
                replace H : (overfallref01_Div.l0 kj28 (wrap64 (x9_1 - 1)) a0_0 a0_1 t229 t230 t226 t227 0 a1) = some (r1, r2, r3) := H
                have A65 := Aside0.mk A650
                clear A650
                have H' := Aside0.mk H
                clear H
                have hnb66 := NB215_212.out
                have hnc66 := NB212_215.out
                have hnb67 := NB215_213.out
                have hnc67 := NB213_215.out
                have hnb68 := NB215_214.out
                have hnc68 := NB214_215.out
                have hnb69 := NB215_216.out
                have hnc69 := NB216_215.out
                have hcz70_0 : wc.cell? ⟨gb215, 0, none⟩ = some (.int .u64 x216000_28) := (blk_cell BK215.out 0).trans rfl
                have hcz70_1 : wc.cell? ⟨gb215, 1, none⟩ = some (.int .u64 x216001_28) := (blk_cell BK215.out 1).trans rfl
                have hfz70_0 := blk_frozen BK215.out 0
                have hfz70_1 := blk_frozen BK215.out 1
                have hnb71 := NB216_212.out
                have hnc71 := NB212_216.out
                have hnb72 := NB216_213.out
                have hnc72 := NB213_216.out
                have hnb73 := NB216_214.out
                have hnc73 := NB214_216.out
                have hcz74_0 : wc.cell? ⟨gb216, 0, none⟩ = some (.int .u64 0) := (blk_cell BK216.out 0).trans rfl
                have hcz74_1 : wc.cell? ⟨gb216, 1, none⟩ = some (.int .u64 a1) := (blk_cell BK216.out 1).trans rfl
                have hfz74_0 := blk_frozen BK216.out 0
                have hfz74_1 := blk_frozen BK216.out 1
                go_wp2_with (first | ((with_reducible refine gate_callee (f := 31) rfl ?_); refine goesL_ (some 37) rfl rfl Try.func31 (by kernel_rfl) rfl #[.agg #[.int .u64 x216000_28, .int .u64 x216001_28], .agg #[.int .u64 0, .int .u64 a1]] rfl (by (try simp only [List.map_toArray, List.map_cons, List.map_nil]); first | done | rfl | (simp only [List.length_drop, List.length_take]; rfl)) ?_; (with_reducible refine (overfallref01_Less.calls x216000_28 x216001_28 0 a1 false _ A52.out).mono ?_); rintro e w75 ⟨rfl, hb⟩; refine ⟨_, rfl, ?_⟩; have n0_ := Aside0.mk (blk_below (g := gb212) (o := .cells #[.int .u64 a0_0, .int .u64 a0_1] 29 (0, 0)) (by exact BK212.out) hb); have n1_ := Aside0.mk (blk_below (g := gb213) (o := .cells #[.int .u64 0, .int .u64 0] 29 (0, 0)) (by exact BK213.out) hb); have n2_ := Aside0.mk (blk_below (g := gb214) (o := .cells #[.int .u64 t217, .int .u64 t218] 29 (0, 0)) (by exact BK214.out) hb); have n3_ := Aside0.mk (blk_below (g := gb215) (o := .cells #[.int .u64 x216000_28, .int .u64 x216001_28] 29 (0, 0)) (by exact BK215.out) hb); have n4_ := Aside0.mk (blk_below (g := gb216) (o := .cells #[.int .u64 0, .int .u64 a1] 29 (0, 0)) (by exact BK216.out) hb); have n5_ := Aside0.mk (below_step (by repeat (first | (with_reducible first | exact HB.out | apply below_alloc | apply pw_below_drewN | apply below_drew1 | refine below_set ?_ GE212.out | refine below_set ?_ GE213.out | refine below_set ?_ GE214.out | refine below_set ?_ GE215.out | refine below_set ?_ GE216.out) | exact HB.out)) hb); clear BK212; clear BK213; clear BK214; clear BK215; clear BK216; clear HB; have BK212 := n0_; have BK213 := n1_; have BK214 := n2_; have BK215 := n3_; have BK216 := n4_; have HB := n5_; clear n0_ n1_ n2_ n3_ n4_ n5_; (try clear hb); (try clear hb2); (try clear hk); (try clear hi); have hcz76_0 : w75.cell? ⟨gb215, 0, none⟩ = some (.int .u64 x216000_28) := (blk_cell BK215.out 0).trans rfl; have hcz76_1 : w75.cell? ⟨gb215, 1, none⟩ = some (.int .u64 x216001_28) := (blk_cell BK215.out 1).trans rfl; have hfz76_0 := blk_frozen BK215.out 0; have hfz76_1 := blk_frozen BK215.out 1; have hcz77_0 : w75.cell? ⟨gb216, 0, none⟩ = some (.int .u64 0) := (blk_cell BK216.out 0).trans rfl; have hcz77_1 : w75.cell? ⟨gb216, 1, none⟩ = some (.int .u64 a1) := (blk_cell BK216.out 1).trans rfl; have hfz77_0 := blk_frozen BK216.out 0; have hfz77_1 := blk_frozen BK216.out 1) | ((with_reducible refine gate_callee (f := 25) rfl ?_); refine goesL_ (some 42) rfl rfl Try.func25 (by kernel_rfl) rfl #[.agg #[.int .u64 x216000_28, .int .u64 x216001_28], .agg #[.int .u64 0, .int .u64 a1]] rfl (by (try simp only [List.map_toArray, List.map_cons, List.map_nil]); first | done | rfl | (simp only [List.length_drop, List.length_take]; rfl)) ?_; (with_reducible refine (overfallref01_Sub.calls kj28 x216000_28 x216001_28 0 a1 t226 t227 t228 _ A64.out).mono ?_); rintro e w78 ⟨rfl, hb⟩; refine ⟨_, rfl, ?_⟩; have n0_ := Aside0.mk (blk_below (g := gb212) (o := .cells #[.int .u64 a0_0, .int .u64 a0_1] 29 (0, 0)) (by exact BK212.out) hb); have n1_ := Aside0.mk (blk_below (g := gb213) (o := .cells #[.int .u64 0, .int .u64 0] 29 (0, 0)) (by exact BK213.out) hb); have n2_ := Aside0.mk (blk_below (g := gb214) (o := .cells #[.int .u64 t217, .int .u64 t218] 29 (0, 0)) (by exact BK214.out) hb); have n3_ := Aside0.mk (blk_below (g := gb215) (o := .cells #[.int .u64 x216000_28, .int .u64 x216001_28] 29 (0, 0)) (by exact BK215.out) hb); have n4_ := Aside0.mk (blk_below (g := gb216) (o := .cells #[.int .u64 0, .int .u64 a1] 29 (0, 0)) (by exact BK216.out) hb); have n5_ := Aside0.mk (below_step (by repeat (first | (with_reducible first | exact HB.out | apply below_alloc | apply pw_below_drewN | apply below_drew1 | refine below_set ?_ GE212.out | refine below_set ?_ GE213.out | refine below_set ?_ GE214.out | refine below_set ?_ GE215.out | refine below_set ?_ GE216.out) | exact HB.out)) hb); clear BK212; clear BK213; clear BK214; clear BK215; clear BK216; clear HB; have BK212 := n0_; have BK213 := n1_; have BK214 := n2_; have BK215 := n3_; have BK216 := n4_; have HB := n5_; clear n0_ n1_ n2_ n3_ n4_ n5_; (try clear hb); (try clear hb2); (try clear hk); (try clear hi); have hcz79_0 : w78.cell? ⟨gb215, 0, none⟩ = some (.int .u64 x216000_28) := (blk_cell BK215.out 0).trans rfl; have hcz79_1 : w78.cell? ⟨gb215, 1, none⟩ = some (.int .u64 x216001_28) := (blk_cell BK215.out 1).trans rfl; have hfz79_0 := blk_frozen BK215.out 0; have hfz79_1 := blk_frozen BK215.out 1; have hnb80 := NB214_212.out; have hnc80 := NB212_214.out; have hnb81 := NB214_213.out; have hnc81 := NB213_214.out; have hcz82_0 : w78.cell? ⟨gb214, 0, none⟩ = some (.int .u64 t217) := (blk_cell BK214.out 0).trans rfl; have hcz82_1 : w78.cell? ⟨gb214, 1, none⟩ = some (.int .u64 t218) := (blk_cell BK214.out 1).trans rfl; have hfz82_0 := blk_frozen BK214.out 0; have hfz82_1 := blk_frozen BK214.out 1) | ((with_reducible refine gate_callee (f := 24) rfl ?_); refine goesL_ (some 48) rfl rfl Try.func24 (by kernel_rfl) rfl #[.agg #[.int .u64 t217, .int .u64 t218], .agg #[.int .u64 0, .int .u64 1]] rfl (by (try simp only [List.map_toArray, List.map_cons, List.map_nil]); first | done | rfl | (simp only [List.length_drop, List.length_take]; rfl)) ?_; (with_reducible refine (overfallref01_Add.calls kj28 t217 t218 0 1 t229 t230 t231 _ A65.out).mono ?_); rintro e w83 ⟨rfl, hb⟩; refine ⟨_, rfl, ?_⟩; have n0_ := Aside0.mk (blk_below (g := gb212) (o := .cells #[.int .u64 a0_0, .int .u64 a0_1] 29 (0, 0)) (by refine blk_far ?_ NB212_215.out _; refine blk_far ?_ NB212_215.out _; exact BK212.out) hb); have n1_ := Aside0.mk (blk_below (g := gb213) (o := .cells #[.int .u64 0, .int .u64 0] 29 (0, 0)) (by refine blk_far ?_ NB213_215.out _; refine blk_far ?_ NB213_215.out _; exact BK213.out) hb); have n2_ := Aside0.mk (blk_below (g := gb214) (o := .cells #[.int .u64 t217, .int .u64 t218] 29 (0, 0)) (by refine blk_far ?_ NB214_215.out _; refine blk_far ?_ NB214_215.out _; exact BK214.out) hb); have n3_ := Aside0.mk (blk_below (g := gb215) (o := .cells #[.int .u64 t226, .int .u64 t227] 29 (0, 0)) (by refine blk_put (cs := #[.int .u64 t226, .int .u64 x216001_28]) ?_ 1 _ rfl; refine blk_put (cs := #[.int .u64 x216000_28, .int .u64 x216001_28]) ?_ 0 _ rfl; exact BK215.out) hb); have n4_ := Aside0.mk (blk_below (g := gb216) (o := .cells #[.int .u64 0, .int .u64 a1] 29 (0, 0)) (by refine blk_far ?_ NB216_215.out _; refine blk_far ?_ NB216_215.out _; exact BK216.out) hb); have n5_ := Aside0.mk (below_step (by repeat (first | (with_reducible first | exact HB.out | apply below_alloc | apply pw_below_drewN | apply below_drew1 | refine below_set ?_ GE212.out | refine below_set ?_ GE213.out | refine below_set ?_ GE214.out | refine below_set ?_ GE215.out | refine below_set ?_ GE216.out) | exact HB.out)) hb); clear BK212; clear BK213; clear BK214; clear BK215; clear BK216; clear HB; have BK212 := n0_; have BK213 := n1_; have BK214 := n2_; have BK215 := n3_; have BK216 := n4_; have HB := n5_; clear n0_ n1_ n2_ n3_ n4_ n5_; (try clear hb); (try clear hb2); (try clear hk); (try clear hi); have hcz84_0 : w83.cell? ⟨gb214, 0, none⟩ = some (.int .u64 t217) := (blk_cell BK214.out 0).trans rfl; have hcz84_1 : w83.cell? ⟨gb214, 1, none⟩ = some (.int .u64 t218) := (blk_cell BK214.out 1).trans rfl; have hfz84_0 := blk_frozen BK214.out 0; have hfz84_1 := blk_frozen BK214.out 1))
                go_roundg kj28
                case measure => have := HK1.out; have := HJ28.out; omega
                case rel => exact ⟨(wrap64 (x9_1 - 1)), (t229), (t230), (t226), (t227), (by first | rfl | (simp; done) | (simp [*]; done)), H', ⟨by have := HK1.out; have := HJ28.out; omega⟩, ⟨by refine blk_far ?_ NB212_214.out _; refine blk_far ?_ NB212_214.out _; exact BK212.out⟩, ⟨by refine blk_far ?_ NB213_214.out _; refine blk_far ?_ NB213_214.out _; exact BK213.out⟩, ⟨by refine blk_put (cs := #[.int .u64 t229, .int .u64 t218]) ?_ 1 _ rfl; refine blk_put (cs := #[.int .u64 t217, .int .u64 t218]) ?_ 0 _ rfl; exact BK214.out⟩, ⟨by refine blk_far ?_ NB215_214.out _; refine blk_far ?_ NB215_214.out _; exact BK215.out⟩, ⟨by refine blk_far ?_ NB216_214.out _; refine blk_far ?_ NB216_214.out _; exact BK216.out⟩, ⟨by repeat (first | (with_reducible first | exact HB.out | apply below_alloc | apply pw_below_drewN | apply below_drew1 | refine below_set ?_ GE212.out | refine below_set ?_ GE213.out | refine below_set ?_ GE214.out | refine below_set ?_ GE215.out | refine below_set ?_ GE216.out) | exact HB.out)⟩⟩
        · rw [if_neg c25] at H
          have c25b0 : decide (0 ≤ x9_1) = false := decide_eq_false c25
          clear c25
          simp only [Option.some.injEq, Prod.mk.injEq] at H
          obtain ⟨rfl, rfl, rfl⟩ := H
          try go_wp2
          have n0_ := Aside0.mk (blk_drew BK212.out)
          have n1_ := Aside0.mk (blk_drew BK213.out)
          have n2_ := Aside0.mk (blk_drew BK214.out)
          have n3_ := Aside0.mk (blk_drew BK215.out)
          have n4_ := Aside0.mk (blk_drew BK216.out)
          have n5_ := Aside0.mk (below_drew1 HB.out)
          clear BK212
          clear BK213
          clear BK214
          clear BK215
          clear BK216
          clear HB
          have BK212 := n0_
          have BK213 := n1_
          have BK214 := n2_
          have BK215 := n3_
          have BK216 := n4_
          have HB := n5_
          clear n0_ n1_ n2_ n3_ n4_ n5_
          refine start_ (n := 5) (S := fun w' => w'.cell? ⟨gb214, 0, none⟩ = some (.int .u64 x215000_1) ∧ w'.cell? ⟨gb214, 1, none⟩ = some (.int .u64 x215001_1) ∧ w'.cell? ⟨gb215, 0, none⟩ = some (.int .u64 x216000_1) ∧ w'.cell? ⟨gb215, 1, none⟩ = some (.int .u64 x216001_1)) (ds := []) #[false, false, false, false, false] (by kernel_rfl) rfl rfl ⟨(blk_cell BK214.out 0).trans rfl, (blk_cell BK214.out 1).trans rfl, (blk_cell BK215.out 0).trans rfl, (blk_cell BK215.out 1).trans rfl⟩ (fun hHeld => ?_)
          generalize wr.drew = w85 at BK212 BK213 BK214 BK215 BK216 HB hHeld ⊢
          refine pure_ (i := 1) (N := some 52) (v := ?_) (a' := ?_) #[false, true, false, false, false] rfl rfl (by kernel_rfl) (fun _ _ _ h => h) (Or.inl ⟨by rfl, ?_⟩) ?_ ?_
          rotate_left
          · intro w'
            go_simp
            with_reducible rfl
          rotate_left
          · simp only [Act.put, List.setIfInBounds_toArray, List.set_cons_zero, List.set_cons_succ, i64_w, i32_w]
            rfl
          refine take_ (i := 0) (N := some 51) (v := ?_) (a' := ?_) #[true, true, false, false, false] rfl rfl (by kernel_rfl) (fun _ _ _ h => h) (Or.inl ⟨by rfl, ?_⟩) hHeld ?_ ?_
          rotate_left
          · rintro w' ⟨s0, s1, s2, s3⟩
            go_simp
            with_reducible rfl
          rotate_left
          · simp only [Act.put, List.setIfInBounds_toArray, List.set_cons_zero, List.set_cons_succ, i64_w, i32_w]
            rfl
          refine take_ (i := 2) (N := some 53) (v := ?_) (a' := ?_) #[true, true, true, false, false] rfl rfl (by kernel_rfl) (fun _ _ _ h => h) (Or.inl ⟨by rfl, ?_⟩) hHeld ?_ ?_
          rotate_left
          · rintro w' ⟨s0, s1, s2, s3⟩
            go_simp
            with_reducible rfl
          rotate_left
          · simp only [Act.put, List.setIfInBounds_toArray, List.set_cons_zero, List.set_cons_succ, i64_w, i32_w]
            rfl
          refine one_ (i := 3) (N := none) #[true, true, true, true, false] rfl rfl (by kernel_rfl) (by decide) (fun K hK => ?_)
          have hs86 : w85.cell? ⟨gb213, 0, none⟩ = some (.int .u64 0) := (blk_cell BK213.out 0).trans rfl
          have hfs86 := blk_frozen BK213.out 0
          have hns86_0 := NB212_213.out
          have hns86_2 := NB214_213.out
          have hns86_3 := NB215_213.out
          have hns86_4 := NB216_213.out
          have hms86_0 := NB213_212.out
          have hms86_2 := NB213_214.out
          have hms86_3 := NB213_215.out
          have hms86_4 := NB213_216.out
          have hs87 : w85.cell? ⟨gb213, 1, none⟩ = some (.int .u64 0) := (blk_cell BK213.out 1).trans rfl
          have hfs87 := blk_frozen BK213.out 1
          have hns87_0 := NB212_213.out
          have hns87_2 := NB214_213.out
          have hns87_3 := NB215_213.out
          have hns87_4 := NB216_213.out
          have hms87_0 := NB213_212.out
          have hms87_2 := NB213_214.out
          have hms87_3 := NB213_215.out
          have hms87_4 := NB213_216.out
          refine skip_ (w1 := ?_) (by rfl) rfl ?_ ?_
          rotate_left
          · go_simp
            rfl
          refine hK.out _ _ ⟨((cell_far (p := ⟨gb213, _, none⟩) NB214_213.out _).trans (((cell_far (p := ⟨gb213, _, none⟩) NB214_213.out _).trans (hHeld.1)))), ((cell_far (p := ⟨gb213, _, none⟩) NB214_213.out _).trans (((cell_far (p := ⟨gb213, _, none⟩) NB214_213.out _).trans (hHeld.2.1)))), ((cell_far (p := ⟨gb213, _, none⟩) NB215_213.out _).trans (((cell_far (p := ⟨gb213, _, none⟩) NB215_213.out _).trans (hHeld.2.2.1)))), ((cell_far (p := ⟨gb213, _, none⟩) NB215_213.out _).trans (((cell_far (p := ⟨gb213, _, none⟩) NB215_213.out _).trans (hHeld.2.2.2))))⟩ (fun hHeld => ?_)
          clear hK K
          refine pure_ (i := 4) (N := some 5) (v := ?_) (a' := ?_) #[true, true, true, true, true] rfl rfl (by kernel_rfl) (fun _ _ _ h => h) (Or.inl ⟨by rfl, ?_⟩) ?_ ?_
          rotate_left
          · intro w'
            go_simp
            with_reducible rfl
          rotate_left
          · simp only [Act.put, List.setIfInBounds_toArray, List.set_cons_zero, List.set_cons_succ, i64_w, i32_w]
            rfl
          refine done_ (by kernel_rfl) ?_
          try go_wp2
          refine bodyPost_ret (results_ct rfl _ _ gb213 29 #[.int .u64 x215000_1, .int .u64 x215001_1] (0, 0) _ rfl (by refine blk_put (cs := #[.int .u64 x215000_1, .int .u64 0]) ?_ 1 _ rfl; refine blk_put (cs := #[.int .u64 0, .int .u64 0]) ?_ 0 _ rfl; exact BK213.out) Try.underlying29 rfl (by kernel_rfl)) rfl ?_
          exact ⟨by first | rfl | (simp [errW_none, errW_some] <;> rfl) | (simp [*, errW_none, errW_some] <;> rfl), by repeat (first | (with_reducible first | exact HB.out | apply below_alloc | apply pw_below_drewN | apply below_drew1 | refine below_set ?_ GE212.out | refine below_set ?_ GE213.out | refine below_set ?_ GE214.out | refine below_set ?_ GE215.out | refine below_set ?_ GE216.out) | exact HB.out)⟩

-- NOT PRINTED: function 40 (bits_Add64)

/-! ### wide_Num_Add: function 18 -/
def wide_Num_Add.f (a0_0 : Int) (a0_1 : Int) (a1_0 : Int) (a1_1 : Int) : Option (Int × Int × Bool) :=
  if (0 ≤ a0_0 ∧ a0_0 ≤ 18446744073709551615) ∧ (0 ≤ a0_1 ∧ a0_1 ≤ 18446744073709551615) ∧ (0 ≤ a1_0 ∧ a1_0 ≤ 18446744073709551615) ∧ (0 ≤ a1_1 ∧ a1_1 ≤ 18446744073709551615) then
    some ((a0_0 + a1_0 + (a0_1 + a1_1) / 18446744073709551616) % 18446744073709551616, (a0_1 + a1_1) % 18446744073709551616, decide ((a0_0 + a1_0 + (a0_1 + a1_1) / 18446744073709551616) / 18446744073709551616 ≠ 0))
  else none
theorem wide_Num_Add.entry (x y c : Int) (hx : 0 ≤ x) (hy : 0 ≤ y) (hc0 : 0 ≤ c) (hc : c ≤ 1) (w : World) :
    (callFunc 40 #[.int .u64 x, .int .u64 y, .int .u64 c]).run Try.prog w =
      .ok (.value (.tuple #[.int .u64 ((x + y + c) % 18446744073709551616), .int .u64 ((x + y + c) / 18446744073709551616)])) w := by
  rw [run_callFunc_extern (e := add64Entry) Try.func40 (by kernel_rfl) (by kernel_rfl) (by kernel_rfl) (by kernel_rfl), run_add64 x y c hx hy hc0 hc w]
  rfl
set_option maxHeartbeats 8000000 in
set_option maxRecDepth 100000 in
theorem wide_Num_Add.walk (a0_0 a0_1 a1_0 a1_1 s0 c0 s1 c1 : Int) (w : World)
    (e1 : ∀ w, (callFunc 40 #[.int .u64 a0_1, .int .u64 a1_1, .int .u64 0]).run Try.prog w = .ok (.value (.tuple #[.int .u64 s0, .int .u64 c0])) w)
    (e2 : ∀ w, (callFunc 40 #[.int .u64 a0_0, .int .u64 a1_0, .int .u64 c0]).run Try.prog w = .ok (.value (.tuple #[.int .u64 s1, .int .u64 c1])) w) :
    Calls Try.prog 18 #[.agg #[.int .u64 a0_0, .int .u64 a0_1], .agg #[.int .u64 a1_0, .int .u64 a1_1]] w fun e w' => e = .returned (.tuple #[.agg #[.int .u64 s1, .int .u64 s0], .bool (c1 != 0)]) ∧ Below w.heap.size w w' := by
  go_enter Try.func18, Try.ntmps18
  go_wp2
  refine bodyPost_ret (v := .tuple #[.agg #[.int .u64 s1, .int .u64 s0], .bool (c1 != 0)]) (by simp [results, Try.results18, go_sem]) rfl ⟨rfl, ?_⟩
  exact (((Below.refl _ _).alloc (Nat.le_refl _) _).alloc (by simp) _).alloc (by simp; omega) _
theorem wide_Num_Add.calls (a0_0 : Int) (a0_1 : Int) (a1_0 : Int) (a1_1 : Int) (r1 : Int) (r2 : Int) (r3 : Bool) (w : World) (h : wide_Num_Add.f a0_0 a0_1 a1_0 a1_1 = some (r1, r2, r3)) :
    Calls Try.prog 18 #[.agg #[.int .u64 a0_0, .int .u64 a0_1], .agg #[.int .u64 a1_0, .int .u64 a1_1]] w fun e w' => e = .returned (.tuple #[.agg #[.int .u64 r1, .int .u64 r2], .bool r3]) ∧ Below w.heap.size w w' := by
  unfold wide_Num_Add.f at h
  split at h
  · rename_i hb
    obtain ⟨⟨b0, b1⟩, ⟨b2, b3⟩, ⟨b4, b5⟩, b6, b7⟩ := hb
    simp only [Option.some.injEq, Prod.mk.injEq] at h
    obtain ⟨rfl, rfl, rfl⟩ := h
    have hk := wide_Num_Add.walk a0_0 a0_1 a1_0 a1_1 _ _ _ _ w (fun w => by simpa using wide_Num_Add.entry a0_1 a1_1 0 b2 b6 (by omega) (by omega) w) (fun w => wide_Num_Add.entry a0_0 a1_0 _ b0 b4 (by omega) (by omega) w)
    refine hk.mono fun e w' ⟨he, hw⟩ => ⟨?_, hw⟩
    rw [he]
    congr 6
    rw [Bool.eq_iff_iff]
    simp
  · simp at h

end Go.Proofs.Ytdgbehbiigggmaa.G

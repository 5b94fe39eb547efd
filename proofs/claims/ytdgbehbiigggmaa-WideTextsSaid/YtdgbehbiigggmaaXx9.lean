-- Laid by a program of this claim's session (wip/tools/myprint.py) over the kit's printer.
import Derived.Test.YtdgbehbiigggmaaXx0
import Derived.Test.YtdgbehbiigggmaaXx1
import Derived.Test.YtdgbehbiigggmaaXx2
import Derived.Test.YtdgbehbiigggmaaXx4
import Derived.Test.YtdgbehbiigggmaaXx6
import Derived.Test.YtdgbehbiigggmaaXx7
import Derived.Test.YtdgbehbiigggmaaXx8
namespace Go.Proofs.Ytdgbehbiigggmaa.X
open Go.RowKit Go.Proofs.YtdgbehbiigggmaaW.PrintWords Go.Proofs.YtdgbehbiigggmaaW.PrintLast Go.Proofs.YtdgbehbiigggmaaW.PrintMore
attribute [local go_sem] max2_int min2_int max_two min_two max_three min_three max_four min_four   -- for this text's walks alone
set_option linter.unusedVariables false
set_option linter.unusedSimpArgs false

attribute [local go_sem high] eqA25 eqA29
/-! ### overfallref01_Div: function 17 -/
mutual
def overfallref01_Div.l0 : Nat → Int → Int → Int → Int → Int → Int → Int → Int → Int → Option (Int × Int × Int)
 | 0, _, _, _, _, _, _, _, _, _ => none
 | k + 1, x9, x198000, x198001, x200000, x200001, x201000, x201001, x202000, x202001 => if x9 ≥ 0 then ((overfallref01_Twice.f k x200000 x200001).bind fun bt202 => ((overfallref01_Twice.f k x201000 x201001).bind fun bt204 => ((overfallref01_Bit.f k x198000 x198001 x9).bind fun t206 => (if t206 = 1 then ((overfallref01_Add.f k bt204.1 bt204.2 0 1).bind fun bt207 => (overfallref01_Div.j1 k x9 x198000 x198001 bt202.1 bt202.2 bt207.1 bt207.2.1 x202000 x202001)) else (overfallref01_Div.j1 k x9 x198000 x198001 bt202.1 bt202.2 bt204.1 bt204.2 x202000 x202001))))) else (some (x200000, x200001, x201001))
def overfallref01_Div.j1 : Nat → Int → Int → Int → Int → Int → Int → Int → Int → Int → Option (Int × Int × Int)
 | 0, _, _, _, _, _, _, _, _, _ => none
 | k + 1, x9, x198000, x198001, x200000, x200001, x201000, x201001, x202000, x202001 => (overfallref01_Less.f x201000 x201001 x202000 x202001).bind fun t210 => (if t210 = true then (overfallref01_Div.l0 k (wrap64 (x9 - 1)) x198000 x198001 x200000 x200001 x201000 x201001 x202000 x202001) else ((overfallref01_Sub.f k x201000 x201001 x202000 x202001).bind fun bt211 => ((overfallref01_Add.f k x200000 x200001 0 1).bind fun bt214 => (overfallref01_Div.l0 k (wrap64 (x9 - 1)) x198000 x198001 bt214.1 bt214.2.1 bt211.1 bt211.2.1 x202000 x202001))))
end
def overfallref01_Div.f (k : Nat) (a0_0 : Int) (a0_1 : Int) (a1 : Int) : Option (Int × Int × Int) := if a1 = 0 then (some (0, 0, 0)) else (overfallref01_Div.l0 k 127 a0_0 a0_1 0 0 0 0 0 a1)
theorem overfallref01_Div.mono_l : ∀ k, (∀ y0 y1 y2 y3 y4 y5 y6 y7 y8, LeO (overfallref01_Div.l0 k y0 y1 y2 y3 y4 y5 y6 y7 y8) (overfallref01_Div.l0 (k + 1) y0 y1 y2 y3 y4 y5 y6 y7 y8)) ∧ (∀ y0 y1 y2 y3 y4 y5 y6 y7 y8, LeO (overfallref01_Div.j1 k y0 y1 y2 y3 y4 y5 y6 y7 y8) (overfallref01_Div.j1 (k + 1) y0 y1 y2 y3 y4 y5 y6 y7 y8))
 | 0 => ⟨fun _ _ _ _ _ _ _ _ _ r h => by simp [overfallref01_Div.l0] at h, fun _ _ _ _ _ _ _ _ _ r h => by simp [overfallref01_Div.j1] at h⟩
 | k + 1 => by
  obtain ⟨ih0, ih1⟩ := overfallref01_Div.mono_l k
  refine ⟨?_, ?_⟩
  ·intro y0 y1 y2 y3 y4 y5 y6 y7 y8
   unfold overfallref01_Div.l0
   repeat' first
   | (with_reducible exact ih0 _ _ _ _ _ _ _ _ _)
   | (with_reducible exact ih1 _ _ _ _ _ _ _ _ _)
   | (with_reducible exact overfallref01_Add.mono _ _ _ _ _)
   | (with_reducible exact overfallref01_Bit.mono _ _ _ _)
   | (with_reducible exact overfallref01_Sub.mono _ _ _ _ _)
   | (with_reducible exact overfallref01_Twice.mono _ _ _)
   | (with_reducible exact LeO.refl _)
   | (with_reducible exact LeO.none _)
   | (with_reducible refine LeO.ite ?_ ?_)
   | (with_reducible refine LeO.bind ?_ (fun _ => ?_))
   | exact ih0 _ _ _ _ _ _ _ _ _
   | exact ih1 _ _ _ _ _ _ _ _ _
   | exact overfallref01_Add.mono _ _ _ _ _
   | exact overfallref01_Bit.mono _ _ _ _
   | exact overfallref01_Sub.mono _ _ _ _ _
   | exact overfallref01_Twice.mono _ _ _
   | exact LeO.none _
   | refine LeO.ite ?_ ?_
   | refine LeO.bind ?_ (fun _ => ?_)
  ·intro y0 y1 y2 y3 y4 y5 y6 y7 y8
   unfold overfallref01_Div.j1
   repeat' first
   | (with_reducible exact ih0 _ _ _ _ _ _ _ _ _)
   | (with_reducible exact ih1 _ _ _ _ _ _ _ _ _)
   | (with_reducible exact overfallref01_Add.mono _ _ _ _ _)
   | (with_reducible exact overfallref01_Bit.mono _ _ _ _)
   | (with_reducible exact overfallref01_Sub.mono _ _ _ _ _)
   | (with_reducible exact overfallref01_Twice.mono _ _ _)
   | (with_reducible exact LeO.refl _)
   | (with_reducible exact LeO.none _)
   | (with_reducible refine LeO.ite ?_ ?_)
   | (with_reducible refine LeO.bind ?_ (fun _ => ?_))
   | exact ih0 _ _ _ _ _ _ _ _ _
   | exact ih1 _ _ _ _ _ _ _ _ _
   | exact overfallref01_Add.mono _ _ _ _ _
   | exact overfallref01_Bit.mono _ _ _ _
   | exact overfallref01_Sub.mono _ _ _ _ _
   | exact overfallref01_Twice.mono _ _ _
   | exact LeO.none _
   | refine LeO.ite ?_ ?_
   | refine LeO.bind ?_ (fun _ => ?_)
theorem overfallref01_Div.mono : ∀ a0 a1 a2 k, LeO (overfallref01_Div.f k a0 a1 a2) (overfallref01_Div.f (k + 1) a0 a1 a2) := by
 intro a0 a1 a2 k
 obtain ⟨ih0, ih1⟩ := overfallref01_Div.mono_l k
 unfold overfallref01_Div.f
 repeat' first
   | (with_reducible exact ih0 _ _ _ _ _ _ _ _ _)
   | (with_reducible exact ih1 _ _ _ _ _ _ _ _ _)
   | (with_reducible exact overfallref01_Add.mono _ _ _ _ _)
   | (with_reducible exact overfallref01_Bit.mono _ _ _ _)
   | (with_reducible exact overfallref01_Sub.mono _ _ _ _ _)
   | (with_reducible exact overfallref01_Twice.mono _ _ _)
   | (with_reducible exact LeO.refl _)
   | (with_reducible exact LeO.none _)
   | (with_reducible refine LeO.ite ?_ ?_)
   | (with_reducible refine LeO.bind ?_ (fun _ => ?_))
   | exact ih0 _ _ _ _ _ _ _ _ _
   | exact ih1 _ _ _ _ _ _ _ _ _
   | exact overfallref01_Add.mono _ _ _ _ _
   | exact overfallref01_Bit.mono _ _ _ _
   | exact overfallref01_Sub.mono _ _ _ _ _
   | exact overfallref01_Twice.mono _ _ _
   | exact LeO.none _
   | refine LeO.ite ?_ ?_
   | refine LeO.bind ?_ (fun _ => ?_)
set_option maxHeartbeats 8000000 in
set_option maxRecDepth 100000 in
theorem overfallref01_Div.calls (k : Nat) (a0_0 : Int) (a0_1 : Int) (a1 : Int) (r1 : Int) (r2 : Int) (r3 : Int) (w : World) (h : overfallref01_Div.f k a0_0 a0_1 a1 = some (r1, r2, r3)) :
  Calls Try.prog 17 #[.agg #[.int .u64 a0_0, .int .u64 a0_1], .int .u64 a1] w fun e w' => e = .returned (.tuple #[.agg #[.int .u64 r1, .int .u64 r2], .int .u64 r3]) ∧ Below w.heap.size w w' := by
 have hu29 := Try.underlying29
 have HB := Aside0.mk (Below.refl w.heap.size w)
 have H : (if a1 = 0 then (some (0, 0, 0)) else (overfallref01_Div.l0 k 127 a0_0 a0_1 0 0 0 0 0 a1)) = some (r1, r2, r3) := h
 clear h
 by_cases c3 : a1 = 0
 ·rw [if_pos c3] at H
  have c3b0 : (a1 == 0) = true := beq_iff_eq.mpr c3
  have c3b1 : (a1 != 0) = false := bne_eq_false_iff_eq.mpr c3
  clear c3
  simp only [Option.some.injEq, Prod.mk.injEq] at H
  obtain ⟨rfl, rfl, rfl⟩ := H
  go_enter Try.func17, Try.ntmps17
  go_wp2_with (first | ((with_reducible refine gate_dst (N := 2) rfl ?_); refine box_event ?hg (N := 2) ?hd (cs := #[.int .u64 a0_0, .int .u64 a0_1]) (t := 29) ?hr ?_; (case hd => rfl); (case hg => rfl); (case hr => first | (go_simp; done) | (go_simp; rfl)); intro gb197 hg w4 hbox hb; have n0_ := Aside0.mk (below_step (by repeat (first | (with_reducible first | exact HB.out | apply below_alloc | apply pw_below_drewN | apply below_drew1) | exact HB.out)) hb); have n1_ := Aside0.mk (hbox); have n2_ := Aside0.mk ((by rw [hg]; exact (below_size (by repeat (first | (with_reducible first | exact HB.out | apply below_alloc | apply pw_below_drewN | apply below_drew1) | exact HB.out))) : w.heap.size ≤ gb197)); have n3_ := Aside0.mk ((by rw [hg]; exact (below_size (by repeat (first | (with_reducible first | exact HB.out | apply below_alloc | apply pw_below_drewN | apply below_drew1) | exact HB.out))) : w.heap.size ≤ gb197)); clear HB; have HB := n0_; have BK197 := n1_; have GW197 := n2_; have GE197 := n3_; clear n0_ n1_ n2_ n3_; clear hb hbox hg) | ((with_reducible refine gate_dst (N := 4) rfl ?_); refine box_event ?hg (N := 4) ?hd (cs := #[.int .u64 0, .int .u64 0]) (t := 29) ?hr ?_; (case hd => rfl); (case hg => rfl); (case hr => first | (go_simp; done) | (go_simp; rfl)); intro gb198 hg w5 hbox hb; have n0_ := Aside0.mk (blk_below (by exact BK197.out) hb); have n1_ := Aside0.mk (below_step (by repeat (first | (with_reducible first | exact HB.out | apply below_alloc | apply pw_below_drewN | apply below_drew1 | refine below_set ?_ GE197.out) | exact HB.out)) hb); have n2_ := Aside0.mk (hbox); have n3_ := Aside0.mk ((by rw [hg]; exact (below_size (by repeat (first | (with_reducible first | exact HB.out | apply below_alloc | apply pw_below_drewN | apply below_drew1 | refine below_set ?_ GE197.out) | exact HB.out))) : w.heap.size ≤ gb198)); have n4_ := Aside0.mk ((by rw [hg]; exact (below_size (by repeat (first | (with_reducible first | exact HB.out | apply below_alloc | apply pw_below_drewN | apply below_drew1 | refine below_set ?_ GE197.out) | exact HB.out))) : w.heap.size ≤ gb198)); have n5_ := Aside0.mk ((by rw [hg]; exact Nat.ne_of_lt (blk_lt (by exact BK197.out)) : gb197 ≠ gb198)); have n6_ := Aside0.mk ((by rw [hg]; exact Nat.ne_of_gt (blk_lt (by exact BK197.out)) : gb198 ≠ gb197)); clear BK197; clear HB; have BK197 := n0_; have HB := n1_; have BK198 := n2_; have GW198 := n3_; have GE198 := n4_; have NB197_198 := n5_; have NB198_197 := n6_; clear n0_ n1_ n2_ n3_ n4_ n5_ n6_; clear hb hbox hg; have hnb6 := NB198_197.out; have hnc6 := NB197_198.out; have hcz7_0 : w5.cell? ⟨gb198, 0, none⟩ = some (.int .u64 0) := (blk_cell BK198.out 0).trans rfl; have hcz7_1 : w5.cell? ⟨gb198, 1, none⟩ = some (.int .u64 0) := (blk_cell BK198.out 1).trans rfl; have hfz7_0 := blk_frozen BK198.out 0; have hfz7_1 := blk_frozen BK198.out 1))
  refine bodyPost_ret (results_ct rfl _ _ gb198 29 #[.int .u64 0, .int .u64 0] (0, 0) _ rfl (by refine blk_put (cs := #[.int .u64 0, .int .u64 0]) ?_ 1 _ rfl; refine blk_put (cs := #[.int .u64 0, .int .u64 0]) ?_ 0 _ rfl; exact BK198.out) Try.underlying29 rfl (by kernel_rfl)) rfl ?_
  exact ⟨by first | rfl | (simp [errW_none, errW_some] <;> rfl) | (simp [*, errW_none, errW_some] <;> rfl), by repeat (first | (with_reducible first | exact HB.out | apply below_alloc | apply pw_below_drewN | apply below_drew1 | refine below_set ?_ GE197.out | refine below_set ?_ GE198.out) | exact HB.out)⟩
 ·rw [if_neg c3] at H
  have c3b0 : (a1 == 0) = false := beq_eq_false_iff_ne.mpr c3
  have c3b1 : (a1 != 0) = true := bne_iff_ne.mpr c3
  have H' := Aside0.mk H
  clear H
  go_enter Try.func17, Try.ntmps17
  go_wp2_with (first | ((with_reducible refine gate_dst (N := 2) rfl ?_); refine box_event ?hg (N := 2) ?hd (cs := #[.int .u64 a0_0, .int .u64 a0_1]) (t := 29) ?hr ?_; (case hd => rfl); (case hg => rfl); (case hr => first | (go_simp; done) | (go_simp; rfl)); intro gb197 hg w8 hbox hb; have n0_ := Aside0.mk (below_step (by repeat (first | (with_reducible first | exact HB.out | apply below_alloc | apply pw_below_drewN | apply below_drew1) | exact HB.out)) hb); have n1_ := Aside0.mk (hbox); have n2_ := Aside0.mk ((by rw [hg]; exact (below_size (by repeat (first | (with_reducible first | exact HB.out | apply below_alloc | apply pw_below_drewN | apply below_drew1) | exact HB.out))) : w.heap.size ≤ gb197)); have n3_ := Aside0.mk ((by rw [hg]; exact (below_size (by repeat (first | (with_reducible first | exact HB.out | apply below_alloc | apply pw_below_drewN | apply below_drew1) | exact HB.out))) : w.heap.size ≤ gb197)); clear HB; have HB := n0_; have BK197 := n1_; have GW197 := n2_; have GE197 := n3_; clear n0_ n1_ n2_ n3_; clear hb hbox hg) | ((with_reducible refine gate_dst (N := 4) rfl ?_); refine box_event ?hg (N := 4) ?hd (cs := #[.int .u64 0, .int .u64 0]) (t := 29) ?hr ?_; (case hd => rfl); (case hg => rfl); (case hr => first | (go_simp; done) | (go_simp; rfl)); intro gb198 hg w9 hbox hb; have n0_ := Aside0.mk (blk_below (by exact BK197.out) hb); have n1_ := Aside0.mk (below_step (by repeat (first | (with_reducible first | exact HB.out | apply below_alloc | apply pw_below_drewN | apply below_drew1 | refine below_set ?_ GE197.out) | exact HB.out)) hb); have n2_ := Aside0.mk (hbox); have n3_ := Aside0.mk ((by rw [hg]; exact (below_size (by repeat (first | (with_reducible first | exact HB.out | apply below_alloc | apply pw_below_drewN | apply below_drew1 | refine below_set ?_ GE197.out) | exact HB.out))) : w.heap.size ≤ gb198)); have n4_ := Aside0.mk ((by rw [hg]; exact (below_size (by repeat (first | (with_reducible first | exact HB.out | apply below_alloc | apply pw_below_drewN | apply below_drew1 | refine below_set ?_ GE197.out) | exact HB.out))) : w.heap.size ≤ gb198)); have n5_ := Aside0.mk ((by rw [hg]; exact Nat.ne_of_lt (blk_lt (by exact BK197.out)) : gb197 ≠ gb198)); have n6_ := Aside0.mk ((by rw [hg]; exact Nat.ne_of_gt (blk_lt (by exact BK197.out)) : gb198 ≠ gb197)); clear BK197; clear HB; have BK197 := n0_; have HB := n1_; have BK198 := n2_; have GW198 := n3_; have GE198 := n4_; have NB197_198 := n5_; have NB198_197 := n6_; clear n0_ n1_ n2_ n3_ n4_ n5_ n6_; clear hb hbox hg) | ((with_reducible refine gate_dst (N := 6) rfl ?_); refine box_event ?hg (N := 6) ?hd (cs := #[.int .u64 0, .int .u64 0]) (t := 29) ?hr ?_; (case hd => rfl); (case hg => rfl); (case hr => first | (go_simp; done) | (go_simp; rfl)); intro gb199 hg w10 hbox hb; have n0_ := Aside0.mk (blk_below (by exact BK197.out) hb); have n1_ := Aside0.mk (blk_below (by exact BK198.out) hb); have n2_ := Aside0.mk (below_step (by repeat (first | (with_reducible first | exact HB.out | apply below_alloc | apply pw_below_drewN | apply below_drew1 | refine below_set ?_ GE197.out | refine below_set ?_ GE198.out) | exact HB.out)) hb); have n3_ := Aside0.mk (hbox); have n4_ := Aside0.mk ((by rw [hg]; exact (below_size (by repeat (first | (with_reducible first | exact HB.out | apply below_alloc | apply pw_below_drewN | apply below_drew1 | refine below_set ?_ GE197.out | refine below_set ?_ GE198.out) | exact HB.out))) : w.heap.size ≤ gb199)); have n5_ := Aside0.mk ((by rw [hg]; exact (below_size (by repeat (first | (with_reducible first | exact HB.out | apply below_alloc | apply pw_below_drewN | apply below_drew1 | refine below_set ?_ GE197.out | refine below_set ?_ GE198.out) | exact HB.out))) : w.heap.size ≤ gb199)); have n6_ := Aside0.mk ((by rw [hg]; exact Nat.ne_of_lt (blk_lt (by exact BK197.out)) : gb197 ≠ gb199)); have n7_ := Aside0.mk ((by rw [hg]; exact Nat.ne_of_gt (blk_lt (by exact BK197.out)) : gb199 ≠ gb197)); have n8_ := Aside0.mk ((by rw [hg]; exact Nat.ne_of_lt (blk_lt (by exact BK198.out)) : gb198 ≠ gb199)); have n9_ := Aside0.mk ((by rw [hg]; exact Nat.ne_of_gt (blk_lt (by exact BK198.out)) : gb199 ≠ gb198)); clear BK197; clear BK198; clear HB; have BK197 := n0_; have BK198 := n1_; have HB := n2_; have BK199 := n3_; have GW199 := n4_; have GE199 := n5_; have NB197_199 := n6_; have NB199_197 := n7_; have NB198_199 := n8_; have NB199_198 := n9_; clear n0_ n1_ n2_ n3_ n4_ n5_ n6_ n7_ n8_ n9_; clear hb hbox hg) | ((with_reducible refine gate_dst (N := 7) rfl ?_); refine box_event ?hg (N := 7) ?hd (cs := #[.int .u64 0, .int .u64 0]) (t := 29) ?hr ?_; (case hd => rfl); (case hg => rfl); (case hr => first | (go_simp; done) | (go_simp; rfl)); intro gb200 hg w11 hbox hb; have n0_ := Aside0.mk (blk_below (by exact BK197.out) hb); have n1_ := Aside0.mk (blk_below (by exact BK198.out) hb); have n2_ := Aside0.mk (blk_below (by exact BK199.out) hb); have n3_ := Aside0.mk (below_step (by repeat (first | (with_reducible first | exact HB.out | apply below_alloc | apply pw_below_drewN | apply below_drew1 | refine below_set ?_ GE197.out | refine below_set ?_ GE198.out | refine below_set ?_ GE199.out) | exact HB.out)) hb); have n4_ := Aside0.mk (hbox); have n5_ := Aside0.mk ((by rw [hg]; exact (below_size (by repeat (first | (with_reducible first | exact HB.out | apply below_alloc | apply pw_below_drewN | apply below_drew1 | refine below_set ?_ GE197.out | refine below_set ?_ GE198.out | refine below_set ?_ GE199.out) | exact HB.out))) : w.heap.size ≤ gb200)); have n6_ := Aside0.mk ((by rw [hg]; exact (below_size (by repeat (first | (with_reducible first | exact HB.out | apply below_alloc | apply pw_below_drewN | apply below_drew1 | refine below_set ?_ GE197.out | refine below_set ?_ GE198.out | refine below_set ?_ GE199.out) | exact HB.out))) : w.heap.size ≤ gb200)); have n7_ := Aside0.mk ((by rw [hg]; exact Nat.ne_of_lt (blk_lt (by exact BK197.out)) : gb197 ≠ gb200)); have n8_ := Aside0.mk ((by rw [hg]; exact Nat.ne_of_gt (blk_lt (by exact BK197.out)) : gb200 ≠ gb197)); have n9_ := Aside0.mk ((by rw [hg]; exact Nat.ne_of_lt (blk_lt (by exact BK198.out)) : gb198 ≠ gb200)); have n10_ := Aside0.mk ((by rw [hg]; exact Nat.ne_of_gt (blk_lt (by exact BK198.out)) : gb200 ≠ gb198)); have n11_ := Aside0.mk ((by rw [hg]; exact Nat.ne_of_lt (blk_lt (by exact BK199.out)) : gb199 ≠ gb200)); have n12_ := Aside0.mk ((by rw [hg]; exact Nat.ne_of_gt (blk_lt (by exact BK199.out)) : gb200 ≠ gb199)); clear BK197; clear BK198; clear BK199; clear HB; have BK197 := n0_; have BK198 := n1_; have BK199 := n2_; have HB := n3_; have BK200 := n4_; have GW200 := n5_; have GE200 := n6_; have NB197_200 := n7_; have NB200_197 := n8_; have NB198_200 := n9_; have NB200_198 := n10_; have NB199_200 := n11_; have NB200_199 := n12_; clear n0_ n1_ n2_ n3_ n4_ n5_ n6_ n7_ n8_ n9_ n10_ n11_ n12_; clear hb hbox hg; have hnb12 := NB199_197.out; have hnc12 := NB197_199.out; have hnb13 := NB199_198.out; have hnc13 := NB198_199.out; have hnb14 := NB199_200.out; have hnc14 := NB200_199.out; have hcz15_0 : w11.cell? ⟨gb199, 0, none⟩ = some (.int .u64 0) := (blk_cell BK199.out 0).trans rfl; have hcz15_1 : w11.cell? ⟨gb199, 1, none⟩ = some (.int .u64 0) := (blk_cell BK199.out 1).trans rfl; have hfz15_0 := blk_frozen BK199.out 0; have hfz15_1 := blk_frozen BK199.out 1; have hnb16 := NB200_197.out; have hnc16 := NB197_200.out; have hnb17 := NB200_198.out; have hnc17 := NB198_200.out; have hcz18_0 : w11.cell? ⟨gb200, 0, none⟩ = some (.int .u64 0) := (blk_cell BK200.out 0).trans rfl; have hcz18_1 : w11.cell? ⟨gb200, 1, none⟩ = some (.int .u64 0) := (blk_cell BK200.out 1).trans rfl; have hfz18_0 := blk_frozen BK200.out 0; have hfz18_1 := blk_frozen BK200.out 1) | ((with_reducible refine gate_dst (N := 8) rfl ?_); refine box_event ?hg (N := 8) ?hd (cs := #[.int .u64 0, .int .u64 0]) (t := 29) ?hr ?_; (case hd => rfl); (case hg => rfl); (case hr => first | (go_simp; done) | (go_simp; rfl)); intro gb201 hg w19 hbox hb; have n0_ := Aside0.mk (blk_below (g := gb197) (o := .cells #[.int .u64 a0_0, .int .u64 a0_1] 29 (0, 0)) (by refine blk_far ?_ NB197_200.out _; refine blk_far ?_ NB197_200.out _; refine blk_far ?_ NB197_199.out _; refine blk_far ?_ NB197_199.out _; exact BK197.out) hb); have n1_ := Aside0.mk (blk_below (g := gb198) (o := .cells #[.int .u64 0, .int .u64 0] 29 (0, 0)) (by refine blk_far ?_ NB198_200.out _; refine blk_far ?_ NB198_200.out _; refine blk_far ?_ NB198_199.out _; refine blk_far ?_ NB198_199.out _; exact BK198.out) hb); have n2_ := Aside0.mk (blk_below (g := gb199) (o := .cells #[.int .u64 0, .int .u64 0] 29 (0, 0)) (by refine blk_far ?_ NB199_200.out _; refine blk_far ?_ NB199_200.out _; refine blk_put (cs := #[.int .u64 0, .int .u64 0]) ?_ 1 _ rfl; refine blk_put (cs := #[.int .u64 0, .int .u64 0]) ?_ 0 _ rfl; exact BK199.out) hb); have n3_ := Aside0.mk (blk_below (g := gb200) (o := .cells #[.int .u64 0, .int .u64 0] 29 (0, 0)) (by refine blk_put (cs := #[.int .u64 0, .int .u64 0]) ?_ 1 _ rfl; refine blk_put (cs := #[.int .u64 0, .int .u64 0]) ?_ 0 _ rfl; refine blk_far ?_ NB200_199.out _; refine blk_far ?_ NB200_199.out _; exact BK200.out) hb); have n4_ := Aside0.mk (below_step (by repeat (first | (with_reducible first | exact HB.out | apply below_alloc | apply pw_below_drewN | apply below_drew1 | refine below_set ?_ GE197.out | refine below_set ?_ GE198.out | refine below_set ?_ GE199.out | refine below_set ?_ GE200.out) | exact HB.out)) hb); have n5_ := Aside0.mk (hbox); have n6_ := Aside0.mk ((by rw [hg]; exact (below_size (by repeat (first | (with_reducible first | exact HB.out | apply below_alloc | apply pw_below_drewN | apply below_drew1 | refine below_set ?_ GE197.out | refine below_set ?_ GE198.out | refine below_set ?_ GE199.out | refine below_set ?_ GE200.out) | exact HB.out))) : w.heap.size ≤ gb201)); have n7_ := Aside0.mk ((by rw [hg]; exact (below_size (by repeat (first | (with_reducible first | exact HB.out | apply below_alloc | apply pw_below_drewN | apply below_drew1 | refine below_set ?_ GE197.out | refine below_set ?_ GE198.out | refine below_set ?_ GE199.out | refine below_set ?_ GE200.out) | exact HB.out))) : w.heap.size ≤ gb201)); have n8_ := Aside0.mk ((by rw [hg]; exact Nat.ne_of_lt (blk_lt (g := gb197) (o := .cells #[.int .u64 a0_0, .int .u64 a0_1] 29 (0, 0)) (by refine blk_far ?_ NB197_200.out _; refine blk_far ?_ NB197_200.out _; refine blk_far ?_ NB197_199.out _; refine blk_far ?_ NB197_199.out _; exact BK197.out)) : gb197 ≠ gb201)); have n9_ := Aside0.mk ((by rw [hg]; exact Nat.ne_of_gt (blk_lt (g := gb197) (o := .cells #[.int .u64 a0_0, .int .u64 a0_1] 29 (0, 0)) (by refine blk_far ?_ NB197_200.out _; refine blk_far ?_ NB197_200.out _; refine blk_far ?_ NB197_199.out _; refine blk_far ?_ NB197_199.out _; exact BK197.out)) : gb201 ≠ gb197)); have n10_ := Aside0.mk ((by rw [hg]; exact Nat.ne_of_lt (blk_lt (g := gb198) (o := .cells #[.int .u64 0, .int .u64 0] 29 (0, 0)) (by refine blk_far ?_ NB198_200.out _; refine blk_far ?_ NB198_200.out _; refine blk_far ?_ NB198_199.out _; refine blk_far ?_ NB198_199.out _; exact BK198.out)) : gb198 ≠ gb201)); have n11_ := Aside0.mk ((by rw [hg]; exact Nat.ne_of_gt (blk_lt (g := gb198) (o := .cells #[.int .u64 0, .int .u64 0] 29 (0, 0)) (by refine blk_far ?_ NB198_200.out _; refine blk_far ?_ NB198_200.out _; refine blk_far ?_ NB198_199.out _; refine blk_far ?_ NB198_199.out _; exact BK198.out)) : gb201 ≠ gb198)); have n12_ := Aside0.mk ((by rw [hg]; exact Nat.ne_of_lt (blk_lt (g := gb199) (o := .cells #[.int .u64 0, .int .u64 0] 29 (0, 0)) (by refine blk_far ?_ NB199_200.out _; refine blk_far ?_ NB199_200.out _; refine blk_put (cs := #[.int .u64 0, .int .u64 0]) ?_ 1 _ rfl; refine blk_put (cs := #[.int .u64 0, .int .u64 0]) ?_ 0 _ rfl; exact BK199.out)) : gb199 ≠ gb201)); have n13_ := Aside0.mk ((by rw [hg]; exact Nat.ne_of_gt (blk_lt (g := gb199) (o := .cells #[.int .u64 0, .int .u64 0] 29 (0, 0)) (by refine blk_far ?_ NB199_200.out _; refine blk_far ?_ NB199_200.out _; refine blk_put (cs := #[.int .u64 0, .int .u64 0]) ?_ 1 _ rfl; refine blk_put (cs := #[.int .u64 0, .int .u64 0]) ?_ 0 _ rfl; exact BK199.out)) : gb201 ≠ gb199)); have n14_ := Aside0.mk ((by rw [hg]; exact Nat.ne_of_lt (blk_lt (g := gb200) (o := .cells #[.int .u64 0, .int .u64 0] 29 (0, 0)) (by refine blk_put (cs := #[.int .u64 0, .int .u64 0]) ?_ 1 _ rfl; refine blk_put (cs := #[.int .u64 0, .int .u64 0]) ?_ 0 _ rfl; refine blk_far ?_ NB200_199.out _; refine blk_far ?_ NB200_199.out _; exact BK200.out)) : gb200 ≠ gb201)); have n15_ := Aside0.mk ((by rw [hg]; exact Nat.ne_of_gt (blk_lt (g := gb200) (o := .cells #[.int .u64 0, .int .u64 0] 29 (0, 0)) (by refine blk_put (cs := #[.int .u64 0, .int .u64 0]) ?_ 1 _ rfl; refine blk_put (cs := #[.int .u64 0, .int .u64 0]) ?_ 0 _ rfl; refine blk_far ?_ NB200_199.out _; refine blk_far ?_ NB200_199.out _; exact BK200.out)) : gb201 ≠ gb200)); clear BK197; clear BK198; clear BK199; clear BK200; clear HB; have BK197 := n0_; have BK198 := n1_; have BK199 := n2_; have BK200 := n3_; have HB := n4_; have BK201 := n5_; have GW201 := n6_; have GE201 := n7_; have NB197_201 := n8_; have NB201_197 := n9_; have NB198_201 := n10_; have NB201_198 := n11_; have NB199_201 := n12_; have NB201_199 := n13_; have NB200_201 := n14_; have NB201_200 := n15_; clear n0_ n1_ n2_ n3_ n4_ n5_ n6_ n7_ n8_ n9_ n10_ n11_ n12_ n13_ n14_ n15_; clear hb hbox hg; have hnb20 := NB201_197.out; have hnc20 := NB197_201.out; have hnb21 := NB201_198.out; have hnc21 := NB198_201.out; have hnb22 := NB201_199.out; have hnc22 := NB199_201.out; have hnb23 := NB201_200.out; have hnc23 := NB200_201.out; have hcz24_0 : w19.cell? ⟨gb201, 0, none⟩ = some (.int .u64 0) := (blk_cell BK201.out 0).trans rfl; have hcz24_1 : w19.cell? ⟨gb201, 1, none⟩ = some (.int .u64 0) := (blk_cell BK201.out 1).trans rfl; have hfz24_0 := blk_frozen BK201.out 0; have hfz24_1 := blk_frozen BK201.out 1))
  go_loopg [9] k (fun kq v9 w' => ∃ (x9_1 : Int) (x200000_1 : Int) (x200001_1 : Int) (x201000_1 : Int) (x201001_1 : Int), v9 = .int .i64 x9_1 ∧ Aside0 (overfallref01_Div.l0 kq x9_1 a0_0 a0_1 x200000_1 x200001_1 x201000_1 x201001_1 0 a1 = some (r1, r2, r3)) ∧ Aside0 (kq ≤ k) ∧ Aside0 (w'.heap[gb197]? = some (.cells #[.int .u64 a0_0, .int .u64 a0_1] 29 (0, 0))) ∧ Aside0 (w'.heap[gb198]? = some (.cells #[.int .u64 0, .int .u64 0] 29 (0, 0))) ∧ Aside0 (w'.heap[gb199]? = some (.cells #[.int .u64 x200000_1, .int .u64 x200001_1] 29 (0, 0))) ∧ Aside0 (w'.heap[gb200]? = some (.cells #[.int .u64 x201000_1, .int .u64 x201001_1] 29 (0, 0))) ∧ Aside0 (w'.heap[gb201]? = some (.cells #[.int .u64 0, .int .u64 a1] 29 (0, 0))) ∧ Aside0 (Below w.heap.size w w'))
  case atStart => exact ⟨(127), (0), (0), (0), (0), (by first | rfl | (simp; done) | (simp [*]; done)), H', ⟨Nat.le_refl _⟩, ⟨by refine blk_far ?_ NB197_201.out _; refine blk_far ?_ NB197_201.out _; exact BK197.out⟩, ⟨by refine blk_far ?_ NB198_201.out _; refine blk_far ?_ NB198_201.out _; exact BK198.out⟩, ⟨by refine blk_far ?_ NB199_201.out _; refine blk_far ?_ NB199_201.out _; exact BK199.out⟩, ⟨by refine blk_far ?_ NB200_201.out _; refine blk_far ?_ NB200_201.out _; exact BK200.out⟩, ⟨by refine blk_put (cs := #[.int .u64 0, .int .u64 0]) ?_ 1 _ rfl; refine blk_put (cs := #[.int .u64 0, .int .u64 0]) ?_ 0 _ rfl; exact BK201.out⟩, ⟨by repeat (first | (with_reducible first | exact HB.out | apply below_alloc | apply pw_below_drewN | apply below_drew1 | refine below_set ?_ GE197.out | refine below_set ?_ GE198.out | refine below_set ?_ GE199.out | refine below_set ?_ GE200.out | refine below_set ?_ GE201.out) | exact HB.out)⟩⟩
  case round =>
   clear H'
   try clear c1
   try clear c2
   try clear p2
   try clear c3
   try clear c3b0
   try clear c3b1
   try clear c6
   try clear c12
   try clear c13
   try clear c14
   try clear c16
   try clear c17
   try clear c20
   try clear c21
   try clear c22
   try clear c23
   try clear hcz15_0
   try clear hcz15_1
   try clear hcz18_0
   try clear hcz18_1
   try clear hcz24_0
   try clear hcz24_1
   try clear hcz7_0
   try clear hcz7_1
   try clear hfz15_0
   try clear hfz15_1
   try clear hfz18_0
   try clear hfz18_1
   try clear hfz24_0
   try clear hfz24_1
   try clear hfz7_0
   try clear hfz7_1
   obtain ⟨x9_1, x200000_1, x200001_1, x201000_1, x201001_1, rfl, HA, HK1, BK197, BK198, BK199, BK200, BK201, HB⟩ := hrel
   cases gk with
   | zero => exact absurd HA.out (by simp [overfallref01_Div.l0])
   | succ k1 =>
    have H := HA.out
    clear HA
    simp only [overfallref01_Div.l0] at H
    by_cases c25 : x9_1 ≥ 0
    ·rw [if_pos c25] at H
     have c25b0 : decide (0 ≤ x9_1) = true := decide_eq_true c25
     clear c25
     replace H := Option.bind_eq_some_iff.mp H
     obtain ⟨⟨t202, t203⟩, A260, H⟩ := H
     replace H : ((overfallref01_Twice.f k1 x201000_1 x201001_1).bind fun bt204 => ((overfallref01_Bit.f k1 a0_0 a0_1 x9_1).bind fun t206 => (if t206 = 1 then ((overfallref01_Add.f k1 bt204.1 bt204.2 0 1).bind fun bt207 => (overfallref01_Div.j1 k1 x9_1 a0_0 a0_1 t202 t203 bt207.1 bt207.2.1 0 a1)) else (overfallref01_Div.j1 k1 x9_1 a0_0 a0_1 t202 t203 bt204.1 bt204.2 0 a1)))) = some (r1, r2, r3) := H
     have A26 := Aside0.mk A260
     clear A260
     replace H := Option.bind_eq_some_iff.mp H
     obtain ⟨⟨t204, t205⟩, A270, H⟩ := H
     replace H : ((overfallref01_Bit.f k1 a0_0 a0_1 x9_1).bind fun t206 => (if t206 = 1 then ((overfallref01_Add.f k1 t204 t205 0 1).bind fun bt207 => (overfallref01_Div.j1 k1 x9_1 a0_0 a0_1 t202 t203 bt207.1 bt207.2.1 0 a1)) else (overfallref01_Div.j1 k1 x9_1 a0_0 a0_1 t202 t203 t204 t205 0 a1))) = some (r1, r2, r3) := H
     have A27 := Aside0.mk A270
     clear A270
     replace H := Option.bind_eq_some_iff.mp H
     obtain ⟨t206, A280, H⟩ := H
     replace H : (if t206 = 1 then ((overfallref01_Add.f k1 t204 t205 0 1).bind fun bt207 => (overfallref01_Div.j1 k1 x9_1 a0_0 a0_1 t202 t203 bt207.1 bt207.2.1 0 a1)) else (overfallref01_Div.j1 k1 x9_1 a0_0 a0_1 t202 t203 t204 t205 0 a1)) = some (r1, r2, r3) := H
     have A28 := Aside0.mk A280
     clear A280
     have HC29 := Aside0.mk H
     clear H
     try go_wp2
     have n0_ := Aside0.mk (blk_drew BK197.out)
     have n1_ := Aside0.mk (blk_drew BK198.out)
     have n2_ := Aside0.mk (blk_drew BK199.out)
     have n3_ := Aside0.mk (blk_drew BK200.out)
     have n4_ := Aside0.mk (blk_drew BK201.out)
     have n5_ := Aside0.mk (below_drew1 HB.out)
     clear BK197
     clear BK198
     clear BK199
     clear BK200
     clear BK201
     clear HB
     have BK197 := n0_
     have BK198 := n1_
     have BK199 := n2_
     have BK200 := n3_
     have BK201 := n4_
     have HB := n5_
     clear n0_ n1_ n2_ n3_ n4_ n5_
     refine start_ (n := 6) (S := fun w' => w'.cell? ⟨gb199, 0, none⟩ = some (.int .u64 x200000_1) ∧ w'.cell? ⟨gb199, 1, none⟩ = some (.int .u64 x200001_1) ∧ w'.cell? ⟨gb200, 0, none⟩ = some (.int .u64 x201000_1) ∧ w'.cell? ⟨gb200, 1, none⟩ = some (.int .u64 x201001_1)) (ds := [4, 5]) #[false, false, false, false, false, false] (by kernel_rfl) rfl rfl ⟨(blk_cell BK199.out 0).trans rfl, (blk_cell BK199.out 1).trans rfl, (blk_cell BK200.out 0).trans rfl, (blk_cell BK200.out 1).trans rfl⟩ (fun hHeld => ?_)
     generalize wr.drew = w30 at BK197 BK198 BK199 BK200 BK201 HB hHeld ⊢
     refine take_ (i := 0) (N := some 21) (v := ?_) (a' := ?_) #[true, false, false, false, false, false] rfl rfl (by kernel_rfl) (fun _ _ _ h => h) (Or.inl ⟨by rfl, ?_⟩) hHeld ?_ ?_
     rotate_left
     ·rintro w' ⟨s0, s1, s2, s3⟩
      go_simp
      with_reducible rfl
     rotate_left
     ·simp only [Act.put, List.setIfInBounds_toArray, List.set_cons_zero, List.set_cons_succ, i64_w, i32_w]
      rfl
     refine take_ (i := 2) (N := some 23) (v := ?_) (a' := ?_) #[true, false, true, false, false, false] rfl rfl (by kernel_rfl) (fun _ _ _ h => h) (Or.inl ⟨by rfl, ?_⟩) hHeld ?_ ?_
     rotate_left
     ·rintro w' ⟨s0, s1, s2, s3⟩
      go_simp
      with_reducible rfl
     rotate_left
     ·simp only [Act.put, List.setIfInBounds_toArray, List.set_cons_zero, List.set_cons_succ, i64_w, i32_w]
      rfl
     refine one_ (i := 1) (N := some 22) #[true, true, true, false, false, false] rfl rfl (by kernel_rfl) (by decide) (fun K hK => ?_)
     refine goes_ Try.func38 (by kernel_rfl) rfl #[.agg #[.int .u64 x200000_1, .int .u64 x200001_1]] (by rfl) rfl rfl (by (try simp only [List.map_toArray, List.map_cons, List.map_nil]); first | done | rfl | (simp only [List.length_drop, List.length_take]; rfl)) ?_
     with_reducible refine (overfallref01_Twice.calls k1 x200000_1 x200001_1 t202 t203 _ A26.out).mono ?_
     rintro e w31 ⟨rfl, hb⟩
     refine ⟨_, rfl, ?_⟩
     have n0_ := Aside0.mk (blk_below (by exact BK197.out) hb)
     have n1_ := Aside0.mk (blk_below (by exact BK198.out) hb)
     have n2_ := Aside0.mk (blk_below (by exact BK199.out) hb)
     have n3_ := Aside0.mk (blk_below (by exact BK200.out) hb)
     have n4_ := Aside0.mk (blk_below (by exact BK201.out) hb)
     have n5_ := Aside0.mk (below_step (by repeat (first | (with_reducible first | exact HB.out | apply below_alloc | apply pw_below_drewN | apply below_drew1 | refine below_set ?_ GE197.out | refine below_set ?_ GE198.out | refine below_set ?_ GE199.out | refine below_set ?_ GE200.out | refine below_set ?_ GE201.out) | exact HB.out)) hb)
     clear BK197
     clear BK198
     clear BK199
     clear BK200
     clear BK201
     clear HB
     have BK197 := n0_
     have BK198 := n1_
     have BK199 := n2_
     have BK200 := n3_
     have BK201 := n4_
     have HB := n5_
     clear n0_ n1_ n2_ n3_ n4_ n5_
     (try clear hb)
     (try clear hb2)
     (try clear hk)
     (try clear hi)
     refine hK.out _ _ ⟨(blk_cell BK199.out 0).trans rfl, (blk_cell BK199.out 1).trans rfl, (blk_cell BK200.out 0).trans rfl, (blk_cell BK200.out 1).trans rfl⟩ (fun hHeld => ?_)
     clear hK K
     refine norm_ (a' := ?_) ?_ ?_
     rotate_left
     ·show Act.put _ (some 22) _ = _
      simp only [Act.put, List.setIfInBounds_toArray, List.set_cons_zero, List.set_cons_succ, i64_w, i32_w]
      rfl
     refine one_ (i := 3) (N := some 24) #[true, true, true, true, false, false] rfl rfl (by kernel_rfl) (by decide) (fun K hK => ?_)
     refine goes_ Try.func38 (by kernel_rfl) rfl #[.agg #[.int .u64 x201000_1, .int .u64 x201001_1]] (by rfl) rfl rfl (by (try simp only [List.map_toArray, List.map_cons, List.map_nil]); first | done | rfl | (simp only [List.length_drop, List.length_take]; rfl)) ?_
     with_reducible refine (overfallref01_Twice.calls k1 x201000_1 x201001_1 t204 t205 _ A27.out).mono ?_
     rintro e w32 ⟨rfl, hb⟩
     refine ⟨_, rfl, ?_⟩
     have n0_ := Aside0.mk (blk_below (by exact BK197.out) hb)
     have n1_ := Aside0.mk (blk_below (by exact BK198.out) hb)
     have n2_ := Aside0.mk (blk_below (by exact BK199.out) hb)
     have n3_ := Aside0.mk (blk_below (by exact BK200.out) hb)
     have n4_ := Aside0.mk (blk_below (by exact BK201.out) hb)
     have n5_ := Aside0.mk (below_step (by repeat (first | (with_reducible first | exact HB.out | apply below_alloc | apply pw_below_drewN | apply below_drew1 | refine below_set ?_ GE197.out | refine below_set ?_ GE198.out | refine below_set ?_ GE199.out | refine below_set ?_ GE200.out | refine below_set ?_ GE201.out) | exact HB.out)) hb)
     clear BK197
     clear BK198
     clear BK199
     clear BK200
     clear BK201
     clear HB
     have BK197 := n0_
     have BK198 := n1_
     have BK199 := n2_
     have BK200 := n3_
     have BK201 := n4_
     have HB := n5_
     clear n0_ n1_ n2_ n3_ n4_ n5_
     (try clear hb)
     (try clear hb2)
     (try clear hk)
     (try clear hi)
     refine hK.out _ _ ⟨(blk_cell BK199.out 0).trans rfl, (blk_cell BK199.out 1).trans rfl, (blk_cell BK200.out 0).trans rfl, (blk_cell BK200.out 1).trans rfl⟩ (fun hHeld => ?_)
     clear hK K
     refine norm_ (a' := ?_) ?_ ?_
     rotate_left
     ·show Act.put _ (some 24) _ = _
      simp only [Act.put, List.setIfInBounds_toArray, List.set_cons_zero, List.set_cons_succ, i64_w, i32_w]
      rfl
     refine last_ (i := 4) (N := none) #[true, true, true, true, true, false] rfl rfl (by kernel_rfl) (by decide) (fun K hK => ?_)
     have hs33 : w32.cell? ⟨gb199, 0, none⟩ = some (.int .u64 x200000_1) := (blk_cell BK199.out 0).trans rfl
     have hfs33 := blk_frozen BK199.out 0
     have hns33_0 := NB197_199.out
     have hns33_1 := NB198_199.out
     have hns33_3 := NB200_199.out
     have hns33_4 := NB201_199.out
     have hms33_0 := NB199_197.out
     have hms33_1 := NB199_198.out
     have hms33_3 := NB199_200.out
     have hms33_4 := NB199_201.out
     have hs34 : w32.cell? ⟨gb199, 1, none⟩ = some (.int .u64 x200001_1) := (blk_cell BK199.out 1).trans rfl
     have hfs34 := blk_frozen BK199.out 1
     have hns34_0 := NB197_199.out
     have hns34_1 := NB198_199.out
     have hns34_3 := NB200_199.out
     have hns34_4 := NB201_199.out
     have hms34_0 := NB199_197.out
     have hms34_1 := NB199_198.out
     have hms34_3 := NB199_200.out
     have hms34_4 := NB199_201.out
     refine skip_ (w1 := ?_) (by rfl) rfl ?_ ?_
     rotate_left
     ·go_simp
      rfl
     refine hK.out _ _ ?_
     clear hK K
     refine last_ (i := 5) (N := none) #[true, true, true, true, true, true] rfl rfl (by kernel_rfl) (by decide) (fun K hK => ?_)
     have hs35 : w32.cell? ⟨gb200, 0, none⟩ = some (.int .u64 x201000_1) := (blk_cell BK200.out 0).trans rfl
     have hfs35 := blk_frozen BK200.out 0
     have hns35_0 := NB197_200.out
     have hns35_1 := NB198_200.out
     have hns35_2 := NB199_200.out
     have hns35_4 := NB201_200.out
     have hms35_0 := NB200_197.out
     have hms35_1 := NB200_198.out
     have hms35_2 := NB200_199.out
     have hms35_4 := NB200_201.out
     have hs36 : w32.cell? ⟨gb200, 1, none⟩ = some (.int .u64 x201001_1) := (blk_cell BK200.out 1).trans rfl
     have hfs36 := blk_frozen BK200.out 1
     have hns36_0 := NB197_200.out
     have hns36_1 := NB198_200.out
     have hns36_2 := NB199_200.out
     have hns36_4 := NB201_200.out
     have hms36_0 := NB200_197.out
     have hms36_1 := NB200_198.out
     have hms36_2 := NB200_199.out
     have hms36_4 := NB200_201.out
     refine skip_ (w1 := ?_) (by rfl) rfl ?_ ?_
     rotate_left
     ·go_simp
      rfl
     refine hK.out _ _ ?_
     clear hK K
     refine done_ (by kernel_rfl) ?_
     have hnb37 := NB197_198.out
     have hnc37 := NB198_197.out
     have hnb38 := NB197_199.out
     have hnc38 := NB199_197.out
     have hnb39 := NB197_200.out
     have hnc39 := NB200_197.out
     have hnb40 := NB197_201.out
     have hnc40 := NB201_197.out
     have hcz41_0 : w32.cell? ⟨gb197, 0, none⟩ = some (.int .u64 a0_0) := (blk_cell BK197.out 0).trans rfl
     have hcz41_1 : w32.cell? ⟨gb197, 1, none⟩ = some (.int .u64 a0_1) := (blk_cell BK197.out 1).trans rfl
     have hfz41_0 := blk_frozen BK197.out 0
     have hfz41_1 := blk_frozen BK197.out 1
     go_upto_if 28 with (first | ((with_reducible refine gate_callee (f := 39) rfl ?_); refine goesL_ (some 27) rfl rfl Try.func39 (by kernel_rfl) rfl #[.agg #[.int .u64 a0_0, .int .u64 a0_1], .int .i64 x9_1] rfl (by (try simp only [List.map_toArray, List.map_cons, List.map_nil]); first | done | rfl | (simp only [List.length_drop, List.length_take]; rfl)) ?_; (with_reducible refine (overfallref01_Bit.calls k1 a0_0 a0_1 x9_1 t206 _ A28.out).mono ?_); rintro e w42 ⟨rfl, hb⟩; refine ⟨_, rfl, ?_⟩; have n0_ := Aside0.mk (blk_below (g := gb197) (o := .cells #[.int .u64 a0_0, .int .u64 a0_1] 29 (0, 0)) (by refine blk_far ?_ NB197_200.out _; refine blk_far ?_ NB197_200.out _; refine blk_far ?_ NB197_199.out _; refine blk_far ?_ NB197_199.out _; exact BK197.out) hb); have n1_ := Aside0.mk (blk_below (g := gb198) (o := .cells #[.int .u64 0, .int .u64 0] 29 (0, 0)) (by refine blk_far ?_ NB198_200.out _; refine blk_far ?_ NB198_200.out _; refine blk_far ?_ NB198_199.out _; refine blk_far ?_ NB198_199.out _; exact BK198.out) hb); have n2_ := Aside0.mk (blk_below (g := gb199) (o := .cells #[.int .u64 t202, .int .u64 t203] 29 (0, 0)) (by refine blk_far ?_ NB199_200.out _; refine blk_far ?_ NB199_200.out _; refine blk_put (cs := #[.int .u64 t202, .int .u64 x200001_1]) ?_ 1 _ rfl; refine blk_put (cs := #[.int .u64 x200000_1, .int .u64 x200001_1]) ?_ 0 _ rfl; exact BK199.out) hb); have n3_ := Aside0.mk (blk_below (g := gb200) (o := .cells #[.int .u64 t204, .int .u64 t205] 29 (0, 0)) (by refine blk_put (cs := #[.int .u64 t204, .int .u64 x201001_1]) ?_ 1 _ rfl; refine blk_put (cs := #[.int .u64 x201000_1, .int .u64 x201001_1]) ?_ 0 _ rfl; refine blk_far ?_ NB200_199.out _; refine blk_far ?_ NB200_199.out _; exact BK200.out) hb); have n4_ := Aside0.mk (blk_below (g := gb201) (o := .cells #[.int .u64 0, .int .u64 a1] 29 (0, 0)) (by refine blk_far ?_ NB201_200.out _; refine blk_far ?_ NB201_200.out _; refine blk_far ?_ NB201_199.out _; refine blk_far ?_ NB201_199.out _; exact BK201.out) hb); have n5_ := Aside0.mk (below_step (by repeat (first | (with_reducible first | exact HB.out | apply below_alloc | apply pw_below_drewN | apply below_drew1 | refine below_set ?_ GE197.out | refine below_set ?_ GE198.out | refine below_set ?_ GE199.out | refine below_set ?_ GE200.out | refine below_set ?_ GE201.out) | exact HB.out)) hb); clear BK197; clear BK198; clear BK199; clear BK200; clear BK201; clear HB; have BK197 := n0_; have BK198 := n1_; have BK199 := n2_; have BK200 := n3_; have BK201 := n4_; have HB := n5_; clear n0_ n1_ n2_ n3_ n4_ n5_; (try clear hb); (try clear hb2); (try clear hk); (try clear hi)))
     (try simp only [Act.put, List.setIfInBounds_toArray, List.set_cons_zero, List.set_cons_succ])
     go_cut [] (fun wc => ∃ (kq : Nat) (x201000_28 : Int) (x201001_28 : Int), Aside0 (overfallref01_Div.j1 kq x9_1 a0_0 a0_1 t202 t203 x201000_28 x201001_28 0 a1 = some (r1, r2, r3)) ∧ Aside0 (kq ≤ k1) ∧ Aside0 (wc.heap[gb197]? = some (.cells #[.int .u64 a0_0, .int .u64 a0_1] 29 (0, 0))) ∧ Aside0 (wc.heap[gb198]? = some (.cells #[.int .u64 0, .int .u64 0] 29 (0, 0))) ∧ Aside0 (wc.heap[gb199]? = some (.cells #[.int .u64 t202, .int .u64 t203] 29 (0, 0))) ∧ Aside0 (wc.heap[gb200]? = some (.cells #[.int .u64 x201000_28, .int .u64 x201001_28] 29 (0, 0))) ∧ Aside0 (wc.heap[gb201]? = some (.cells #[.int .u64 0, .int .u64 a1] 29 (0, 0))) ∧ Aside0 (Below w.heap.size w wc))
     case first =>
      have H := HC29.out
      clear HC29
      by_cases c43 : t206 = 1
      ·rw [if_pos c43] at H
       have c43b0 : (t206 == 1) = true := beq_iff_eq.mpr c43
       have c43b1 : (t206 != 1) = false := bne_eq_false_iff_eq.mpr c43
       clear c43
       (first | rw [c43b0] | (simp only [i64_w, i32_w]; rw [c43b0]) | skip)
       replace H := Option.bind_eq_some_iff.mp H
       obtain ⟨⟨t207, t208, t209⟩, A440, H⟩ := H
       replace H : (overfallref01_Div.j1 k1 x9_1 a0_0 a0_1 t202 t203 t207 t208 0 a1) = some (r1, r2, r3) := H
       have A44 := Aside0.mk A440
       clear A440
       have H' := Aside0.mk H
       clear H
       have hnb45 := NB200_197.out
       have hnc45 := NB197_200.out
       have hnb46 := NB200_198.out
       have hnc46 := NB198_200.out
       have hnb47 := NB200_199.out
       have hnc47 := NB199_200.out
       have hnb48 := NB200_201.out
       have hnc48 := NB201_200.out
       have hcz49_0 : w42.cell? ⟨gb200, 0, none⟩ = some (.int .u64 t204) := (blk_cell BK200.out 0).trans rfl
       have hcz49_1 : w42.cell? ⟨gb200, 1, none⟩ = some (.int .u64 t205) := (blk_cell BK200.out 1).trans rfl
       have hfz49_0 := blk_frozen BK200.out 0
       have hfz49_1 := blk_frozen BK200.out 1
       go_wp2_with (first | ((with_reducible refine gate_callee (f := 24) rfl ?_); refine goesL_ (some 32) rfl rfl Try.func24 (by kernel_rfl) rfl #[.agg #[.int .u64 t204, .int .u64 t205], .agg #[.int .u64 0, .int .u64 1]] rfl (by (try simp only [List.map_toArray, List.map_cons, List.map_nil]); first | done | rfl | (simp only [List.length_drop, List.length_take]; rfl)) ?_; (with_reducible refine (overfallref01_Add.calls k1 t204 t205 0 1 t207 t208 t209 _ A44.out).mono ?_); rintro e w50 ⟨rfl, hb⟩; refine ⟨_, rfl, ?_⟩; have n0_ := Aside0.mk (blk_below (by exact BK197.out) hb); have n1_ := Aside0.mk (blk_below (by exact BK198.out) hb); have n2_ := Aside0.mk (blk_below (by exact BK199.out) hb); have n3_ := Aside0.mk (blk_below (by exact BK200.out) hb); have n4_ := Aside0.mk (blk_below (by exact BK201.out) hb); have n5_ := Aside0.mk (below_step (by repeat (first | (with_reducible first | exact HB.out | apply below_alloc | apply pw_below_drewN | apply below_drew1 | refine below_set ?_ GE197.out | refine below_set ?_ GE198.out | refine below_set ?_ GE199.out | refine below_set ?_ GE200.out | refine below_set ?_ GE201.out) | exact HB.out)) hb); clear BK197; clear BK198; clear BK199; clear BK200; clear BK201; clear HB; have BK197 := n0_; have BK198 := n1_; have BK199 := n2_; have BK200 := n3_; have BK201 := n4_; have HB := n5_; clear n0_ n1_ n2_ n3_ n4_ n5_; (try clear hb); (try clear hb2); (try clear hk); (try clear hi); have hcz51_0 : w50.cell? ⟨gb200, 0, none⟩ = some (.int .u64 t204) := (blk_cell BK200.out 0).trans rfl; have hcz51_1 : w50.cell? ⟨gb200, 1, none⟩ = some (.int .u64 t205) := (blk_cell BK200.out 1).trans rfl; have hfz51_0 := blk_frozen BK200.out 0; have hfz51_1 := blk_frozen BK200.out 1))
       go_meet
       case rel => exact ⟨_, (t207), (t208), H', ⟨by have := HK1.out; first | omega | exact Nat.le_refl _⟩, ⟨by refine blk_far ?_ NB197_200.out _; refine blk_far ?_ NB197_200.out _; exact BK197.out⟩, ⟨by refine blk_far ?_ NB198_200.out _; refine blk_far ?_ NB198_200.out _; exact BK198.out⟩, ⟨by refine blk_far ?_ NB199_200.out _; refine blk_far ?_ NB199_200.out _; exact BK199.out⟩, ⟨by refine blk_put (cs := #[.int .u64 t207, .int .u64 t205]) ?_ 1 _ rfl; refine blk_put (cs := #[.int .u64 t204, .int .u64 t205]) ?_ 0 _ rfl; exact BK200.out⟩, ⟨by refine blk_far ?_ NB201_200.out _; refine blk_far ?_ NB201_200.out _; exact BK201.out⟩, ⟨by repeat (first | (with_reducible first | exact HB.out | apply below_alloc | apply pw_below_drewN | apply below_drew1 | refine below_set ?_ GE197.out | refine below_set ?_ GE198.out | refine below_set ?_ GE199.out | refine below_set ?_ GE200.out | refine below_set ?_ GE201.out) | exact HB.out)⟩⟩
      ·rw [if_neg c43] at H
       have c43b0 : (t206 == 1) = false := beq_eq_false_iff_ne.mpr c43
       have c43b1 : (t206 != 1) = true := bne_iff_ne.mpr c43
       (first | rw [c43b0] | (simp only [i64_w, i32_w]; rw [c43b0]) | skip)
       have H' := Aside0.mk H
       clear H
       go_wp2
       go_meet
       case rel => exact ⟨_, (t204), (t205), H', ⟨by have := HK1.out; first | omega | exact Nat.le_refl _⟩, ⟨by exact BK197.out⟩, ⟨by exact BK198.out⟩, ⟨by exact BK199.out⟩, ⟨by exact BK200.out⟩, ⟨by exact BK201.out⟩, ⟨by repeat (first | (with_reducible first | exact HB.out | apply below_alloc | apply pw_below_drewN | apply below_drew1 | refine below_set ?_ GE197.out | refine below_set ?_ GE198.out | refine below_set ?_ GE199.out | refine below_set ?_ GE200.out | refine below_set ?_ GE201.out) | exact HB.out)⟩⟩
     case rest =>
      clear HC29
      try clear c1
      try clear c2
      try clear p2
      try clear c3
      try clear c3b0
      try clear c3b1
      try clear c4
      try clear c6
      try clear c12
      try clear c13
      try clear c14
      try clear c16
      try clear c17
      try clear c20
      try clear c21
      try clear c22
      try clear c23
      try clear c24
      try clear c25
      try clear c25b0
      try clear c37
      try clear c38
      try clear c39
      try clear c40
      try clear c43
      try clear c43b0
      try clear c43b1
      try clear c45
      try clear c46
      try clear c47
      try clear c48
      try clear hcz15_0
      try clear hcz15_1
      try clear hcz18_0
      try clear hcz18_1
      try clear hcz24_0
      try clear hcz24_1
      try clear hcz41_0
      try clear hcz41_1
      try clear hcz49_0
      try clear hcz49_1
      try clear hcz51_0
      try clear hcz51_1
      try clear hcz7_0
      try clear hcz7_1
      try clear hfz15_0
      try clear hfz15_1
      try clear hfz18_0
      try clear hfz18_1
      try clear hfz24_0
      try clear hfz24_1
      try clear hfz41_0
      try clear hfz41_1
      try clear hfz49_0
      try clear hfz49_1
      try clear hfz51_0
      try clear hfz51_1
      try clear hfz7_0
      try clear hfz7_1
      try clear p2
      (try clear BK197); (try clear BK198); (try clear BK199); (try clear BK200); (try clear BK201); (try clear HB)
      obtain ⟨kq, x201000_28, x201001_28, HA, HJ28, BK197, BK198, BK199, BK200, BK201, HB⟩ := hcut
      cases kq with
      | zero => exact absurd HA.out (by simp [overfallref01_Div.j1])
      | succ kj28 =>
       have H := HA.out
       clear HA
       simp only [overfallref01_Div.j1] at H
       replace H := Option.bind_eq_some_iff.mp H
       obtain ⟨t210, A520, H⟩ := H
       replace H : (if t210 = true then (overfallref01_Div.l0 kj28 (wrap64 (x9_1 - 1)) a0_0 a0_1 t202 t203 x201000_28 x201001_28 0 a1) else ((overfallref01_Sub.f kj28 x201000_28 x201001_28 0 a1).bind fun bt211 => ((overfallref01_Add.f kj28 t202 t203 0 1).bind fun bt214 => (overfallref01_Div.l0 kj28 (wrap64 (x9_1 - 1)) a0_0 a0_1 bt214.1 bt214.2.1 bt211.1 bt211.2.1 0 a1)))) = some (r1, r2, r3) := H
       have A52 := Aside0.mk A520
       clear A520
       by_cases c53 : t210 = true
       ·subst c53
        have H1 : (overfallref01_Div.l0 kj28 (wrap64 (x9_1 - 1)) a0_0 a0_1 t202 t203 x201000_28 x201001_28 0 a1) = some (r1, r2, r3) := by rw [if_pos rfl] at H; exact H
        clear H
        have H := H1
        clear H1
        have H' := Aside0.mk H
        clear H
        have hnb54 := NB200_197.out
        have hnc54 := NB197_200.out
        have hnb55 := NB200_198.out
        have hnc55 := NB198_200.out
        have hnb56 := NB200_199.out
        have hnc56 := NB199_200.out
        have hnb57 := NB200_201.out
        have hnc57 := NB201_200.out
        have hcz58_0 : wc.cell? ⟨gb200, 0, none⟩ = some (.int .u64 x201000_28) := (blk_cell BK200.out 0).trans rfl
        have hcz58_1 : wc.cell? ⟨gb200, 1, none⟩ = some (.int .u64 x201001_28) := (blk_cell BK200.out 1).trans rfl
        have hfz58_0 := blk_frozen BK200.out 0
        have hfz58_1 := blk_frozen BK200.out 1
        have hnb59 := NB201_197.out
        have hnc59 := NB197_201.out
        have hnb60 := NB201_198.out
        have hnc60 := NB198_201.out
        have hnb61 := NB201_199.out
        have hnc61 := NB199_201.out
        have hcz62_0 : wc.cell? ⟨gb201, 0, none⟩ = some (.int .u64 0) := (blk_cell BK201.out 0).trans rfl
        have hcz62_1 : wc.cell? ⟨gb201, 1, none⟩ = some (.int .u64 a1) := (blk_cell BK201.out 1).trans rfl
        have hfz62_0 := blk_frozen BK201.out 0
        have hfz62_1 := blk_frozen BK201.out 1
        go_wp2_with (first | ((with_reducible refine gate_callee (f := 31) rfl ?_); refine goesL_ (some 37) rfl rfl Try.func31 (by kernel_rfl) rfl #[.agg #[.int .u64 x201000_28, .int .u64 x201001_28], .agg #[.int .u64 0, .int .u64 a1]] rfl (by (try simp only [List.map_toArray, List.map_cons, List.map_nil]); first | done | rfl | (simp only [List.length_drop, List.length_take]; rfl)) ?_; (with_reducible refine (overfallref01_Less.calls x201000_28 x201001_28 0 a1 true _ A52.out).mono ?_); rintro e w63 ⟨rfl, hb⟩; refine ⟨_, rfl, ?_⟩; have n0_ := Aside0.mk (blk_below (by exact BK197.out) hb); have n1_ := Aside0.mk (blk_below (by exact BK198.out) hb); have n2_ := Aside0.mk (blk_below (by exact BK199.out) hb); have n3_ := Aside0.mk (blk_below (by exact BK200.out) hb); have n4_ := Aside0.mk (blk_below (by exact BK201.out) hb); have n5_ := Aside0.mk (below_step (by repeat (first | (with_reducible first | exact HB.out | apply below_alloc | apply pw_below_drewN | apply below_drew1 | refine below_set ?_ GE197.out | refine below_set ?_ GE198.out | refine below_set ?_ GE199.out | refine below_set ?_ GE200.out | refine below_set ?_ GE201.out) | exact HB.out)) hb); clear BK197; clear BK198; clear BK199; clear BK200; clear BK201; clear HB; have BK197 := n0_; have BK198 := n1_; have BK199 := n2_; have BK200 := n3_; have BK201 := n4_; have HB := n5_; clear n0_ n1_ n2_ n3_ n4_ n5_; (try clear hb); (try clear hb2); (try clear hk); (try clear hi)))
        go_roundg kj28
        case measure => have := HK1.out; have := HJ28.out; omega
        case rel => exact ⟨(wrap64 (x9_1 - 1)), (t202), (t203), (x201000_28), (x201001_28), (by first | rfl | (simp; done) | (simp [*]; done)), H', ⟨by have := HK1.out; have := HJ28.out; omega⟩, ⟨by exact BK197.out⟩, ⟨by exact BK198.out⟩, ⟨by exact BK199.out⟩, ⟨by exact BK200.out⟩, ⟨by exact BK201.out⟩, ⟨by repeat (first | (with_reducible first | exact HB.out | apply below_alloc | apply pw_below_drewN | apply below_drew1 | refine below_set ?_ GE197.out | refine below_set ?_ GE198.out | refine below_set ?_ GE199.out | refine below_set ?_ GE200.out | refine below_set ?_ GE201.out) | exact HB.out)⟩⟩
       ·replace c53 := Bool.eq_false_iff.mpr c53
        subst c53
        have H1 : ((overfallref01_Sub.f kj28 x201000_28 x201001_28 0 a1).bind fun bt211 => ((overfallref01_Add.f kj28 t202 t203 0 1).bind fun bt214 => (overfallref01_Div.l0 kj28 (wrap64 (x9_1 - 1)) a0_0 a0_1 bt214.1 bt214.2.1 bt211.1 bt211.2.1 0 a1))) = some (r1, r2, r3) := by rw [if_neg (show ¬ (false = true) by decide)] at H; exact H
        clear H
        have H := H1
        clear H1
        replace H := Option.bind_eq_some_iff.mp H
        obtain ⟨⟨t211, t212, t213⟩, A640, H⟩ := H
        replace H : ((overfallref01_Add.f kj28 t202 t203 0 1).bind fun bt214 => (overfallref01_Div.l0 kj28 (wrap64 (x9_1 - 1)) a0_0 a0_1 bt214.1 bt214.2.1 t211 t212 0 a1)) = some (r1, r2, r3) := H
        have A64 := Aside0.mk A640
        clear A640
        replace H := Option.bind_eq_some_iff.mp H
        obtain ⟨⟨t214, t215, t216⟩, A650, H⟩ := H
        replace H : (overfallref01_Div.l0 kj28 (wrap64 (x9_1 - 1)) a0_0 a0_1 t214 t215 t211 t212 0 a1) = some (r1, r2, r3) := H
        have A65 := Aside0.mk A650
        clear A650
        have H' := Aside0.mk H
        clear H
        have hnb66 := NB200_197.out
        have hnc66 := NB197_200.out
        have hnb67 := NB200_198.out
        have hnc67 := NB198_200.out
        have hnb68 := NB200_199.out
        have hnc68 := NB199_200.out
        have hnb69 := NB200_201.out
        have hnc69 := NB201_200.out
        have hcz70_0 : wc.cell? ⟨gb200, 0, none⟩ = some (.int .u64 x201000_28) := (blk_cell BK200.out 0).trans rfl
        have hcz70_1 : wc.cell? ⟨gb200, 1, none⟩ = some (.int .u64 x201001_28) := (blk_cell BK200.out 1).trans rfl
        have hfz70_0 := blk_frozen BK200.out 0
        have hfz70_1 := blk_frozen BK200.out 1
        have hnb71 := NB201_197.out
        have hnc71 := NB197_201.out
        have hnb72 := NB201_198.out
        have hnc72 := NB198_201.out
        have hnb73 := NB201_199.out
        have hnc73 := NB199_201.out
        have hcz74_0 : wc.cell? ⟨gb201, 0, none⟩ = some (.int .u64 0) := (blk_cell BK201.out 0).trans rfl
        have hcz74_1 : wc.cell? ⟨gb201, 1, none⟩ = some (.int .u64 a1) := (blk_cell BK201.out 1).trans rfl
        have hfz74_0 := blk_frozen BK201.out 0
        have hfz74_1 := blk_frozen BK201.out 1
        go_wp2_with (first | ((with_reducible refine gate_callee (f := 31) rfl ?_); refine goesL_ (some 37) rfl rfl Try.func31 (by kernel_rfl) rfl #[.agg #[.int .u64 x201000_28, .int .u64 x201001_28], .agg #[.int .u64 0, .int .u64 a1]] rfl (by (try simp only [List.map_toArray, List.map_cons, List.map_nil]); first | done | rfl | (simp only [List.length_drop, List.length_take]; rfl)) ?_; (with_reducible refine (overfallref01_Less.calls x201000_28 x201001_28 0 a1 false _ A52.out).mono ?_); rintro e w75 ⟨rfl, hb⟩; refine ⟨_, rfl, ?_⟩; have n0_ := Aside0.mk (blk_below (by exact BK197.out) hb); have n1_ := Aside0.mk (blk_below (by exact BK198.out) hb); have n2_ := Aside0.mk (blk_below (by exact BK199.out) hb); have n3_ := Aside0.mk (blk_below (by exact BK200.out) hb); have n4_ := Aside0.mk (blk_below (by exact BK201.out) hb); have n5_ := Aside0.mk (below_step (by repeat (first | (with_reducible first | exact HB.out | apply below_alloc | apply pw_below_drewN | apply below_drew1 | refine below_set ?_ GE197.out | refine below_set ?_ GE198.out | refine below_set ?_ GE199.out | refine below_set ?_ GE200.out | refine below_set ?_ GE201.out) | exact HB.out)) hb); clear BK197; clear BK198; clear BK199; clear BK200; clear BK201; clear HB; have BK197 := n0_; have BK198 := n1_; have BK199 := n2_; have BK200 := n3_; have BK201 := n4_; have HB := n5_; clear n0_ n1_ n2_ n3_ n4_ n5_; (try clear hb); (try clear hb2); (try clear hk); (try clear hi); have hcz76_0 : w75.cell? ⟨gb200, 0, none⟩ = some (.int .u64 x201000_28) := (blk_cell BK200.out 0).trans rfl; have hcz76_1 : w75.cell? ⟨gb200, 1, none⟩ = some (.int .u64 x201001_28) := (blk_cell BK200.out 1).trans rfl; have hfz76_0 := blk_frozen BK200.out 0; have hfz76_1 := blk_frozen BK200.out 1; have hcz77_0 : w75.cell? ⟨gb201, 0, none⟩ = some (.int .u64 0) := (blk_cell BK201.out 0).trans rfl; have hcz77_1 : w75.cell? ⟨gb201, 1, none⟩ = some (.int .u64 a1) := (blk_cell BK201.out 1).trans rfl; have hfz77_0 := blk_frozen BK201.out 0; have hfz77_1 := blk_frozen BK201.out 1) | ((with_reducible refine gate_callee (f := 25) rfl ?_); refine goesL_ (some 42) rfl rfl Try.func25 (by kernel_rfl) rfl #[.agg #[.int .u64 x201000_28, .int .u64 x201001_28], .agg #[.int .u64 0, .int .u64 a1]] rfl (by (try simp only [List.map_toArray, List.map_cons, List.map_nil]); first | done | rfl | (simp only [List.length_drop, List.length_take]; rfl)) ?_; (with_reducible refine (overfallref01_Sub.calls kj28 x201000_28 x201001_28 0 a1 t211 t212 t213 _ A64.out).mono ?_); rintro e w78 ⟨rfl, hb⟩; refine ⟨_, rfl, ?_⟩; have n0_ := Aside0.mk (blk_below (by exact BK197.out) hb); have n1_ := Aside0.mk (blk_below (by exact BK198.out) hb); have n2_ := Aside0.mk (blk_below (by exact BK199.out) hb); have n3_ := Aside0.mk (blk_below (by exact BK200.out) hb); have n4_ := Aside0.mk (blk_below (by exact BK201.out) hb); have n5_ := Aside0.mk (below_step (by repeat (first | (with_reducible first | exact HB.out | apply below_alloc | apply pw_below_drewN | apply below_drew1 | refine below_set ?_ GE197.out | refine below_set ?_ GE198.out | refine below_set ?_ GE199.out | refine below_set ?_ GE200.out | refine below_set ?_ GE201.out) | exact HB.out)) hb); clear BK197; clear BK198; clear BK199; clear BK200; clear BK201; clear HB; have BK197 := n0_; have BK198 := n1_; have BK199 := n2_; have BK200 := n3_; have BK201 := n4_; have HB := n5_; clear n0_ n1_ n2_ n3_ n4_ n5_; (try clear hb); (try clear hb2); (try clear hk); (try clear hi); have hcz79_0 : w78.cell? ⟨gb200, 0, none⟩ = some (.int .u64 x201000_28) := (blk_cell BK200.out 0).trans rfl; have hcz79_1 : w78.cell? ⟨gb200, 1, none⟩ = some (.int .u64 x201001_28) := (blk_cell BK200.out 1).trans rfl; have hfz79_0 := blk_frozen BK200.out 0; have hfz79_1 := blk_frozen BK200.out 1; have hnb80 := NB199_197.out; have hnc80 := NB197_199.out; have hnb81 := NB199_198.out; have hnc81 := NB198_199.out; have hcz82_0 : w78.cell? ⟨gb199, 0, none⟩ = some (.int .u64 t202) := (blk_cell BK199.out 0).trans rfl; have hcz82_1 : w78.cell? ⟨gb199, 1, none⟩ = some (.int .u64 t203) := (blk_cell BK199.out 1).trans rfl; have hfz82_0 := blk_frozen BK199.out 0; have hfz82_1 := blk_frozen BK199.out 1) | ((with_reducible refine gate_callee (f := 24) rfl ?_); refine goesL_ (some 48) rfl rfl Try.func24 (by kernel_rfl) rfl #[.agg #[.int .u64 t202, .int .u64 t203], .agg #[.int .u64 0, .int .u64 1]] rfl (by (try simp only [List.map_toArray, List.map_cons, List.map_nil]); first | done | rfl | (simp only [List.length_drop, List.length_take]; rfl)) ?_; (with_reducible refine (overfallref01_Add.calls kj28 t202 t203 0 1 t214 t215 t216 _ A65.out).mono ?_); rintro e w83 ⟨rfl, hb⟩; refine ⟨_, rfl, ?_⟩; have n0_ := Aside0.mk (blk_below (g := gb197) (o := .cells #[.int .u64 a0_0, .int .u64 a0_1] 29 (0, 0)) (by refine blk_far ?_ NB197_200.out _; refine blk_far ?_ NB197_200.out _; exact BK197.out) hb); have n1_ := Aside0.mk (blk_below (g := gb198) (o := .cells #[.int .u64 0, .int .u64 0] 29 (0, 0)) (by refine blk_far ?_ NB198_200.out _; refine blk_far ?_ NB198_200.out _; exact BK198.out) hb); have n2_ := Aside0.mk (blk_below (g := gb199) (o := .cells #[.int .u64 t202, .int .u64 t203] 29 (0, 0)) (by refine blk_far ?_ NB199_200.out _; refine blk_far ?_ NB199_200.out _; exact BK199.out) hb); have n3_ := Aside0.mk (blk_below (g := gb200) (o := .cells #[.int .u64 t211, .int .u64 t212] 29 (0, 0)) (by refine blk_put (cs := #[.int .u64 t211, .int .u64 x201001_28]) ?_ 1 _ rfl; refine blk_put (cs := #[.int .u64 x201000_28, .int .u64 x201001_28]) ?_ 0 _ rfl; exact BK200.out) hb); have n4_ := Aside0.mk (blk_below (g := gb201) (o := .cells #[.int .u64 0, .int .u64 a1] 29 (0, 0)) (by refine blk_far ?_ NB201_200.out _; refine blk_far ?_ NB201_200.out _; exact BK201.out) hb); have n5_ := Aside0.mk (below_step (by repeat (first | (with_reducible first | exact HB.out | apply below_alloc | apply pw_below_drewN | apply below_drew1 | refine below_set ?_ GE197.out | refine below_set ?_ GE198.out | refine below_set ?_ GE199.out | refine below_set ?_ GE200.out | refine below_set ?_ GE201.out) | exact HB.out)) hb); clear BK197; clear BK198; clear BK199; clear BK200; clear BK201; clear HB; have BK197 := n0_; have BK198 := n1_; have BK199 := n2_; have BK200 := n3_; have BK201 := n4_; have HB := n5_; clear n0_ n1_ n2_ n3_ n4_ n5_; (try clear hb); (try clear hb2); (try clear hk); (try clear hi); have hcz84_0 : w83.cell? ⟨gb199, 0, none⟩ = some (.int .u64 t202) := (blk_cell BK199.out 0).trans rfl; have hcz84_1 : w83.cell? ⟨gb199, 1, none⟩ = some (.int .u64 t203) := (blk_cell BK199.out 1).trans rfl; have hfz84_0 := blk_frozen BK199.out 0; have hfz84_1 := blk_frozen BK199.out 1))
        go_roundg kj28
        case measure => have := HK1.out; have := HJ28.out; omega
        case rel => exact ⟨(wrap64 (x9_1 - 1)), (t214), (t215), (t211), (t212), (by first | rfl | (simp; done) | (simp [*]; done)), H', ⟨by have := HK1.out; have := HJ28.out; omega⟩, ⟨by refine blk_far ?_ NB197_199.out _; refine blk_far ?_ NB197_199.out _; exact BK197.out⟩, ⟨by refine blk_far ?_ NB198_199.out _; refine blk_far ?_ NB198_199.out _; exact BK198.out⟩, ⟨by refine blk_put (cs := #[.int .u64 t214, .int .u64 t203]) ?_ 1 _ rfl; refine blk_put (cs := #[.int .u64 t202, .int .u64 t203]) ?_ 0 _ rfl; exact BK199.out⟩, ⟨by refine blk_far ?_ NB200_199.out _; refine blk_far ?_ NB200_199.out _; exact BK200.out⟩, ⟨by refine blk_far ?_ NB201_199.out _; refine blk_far ?_ NB201_199.out _; exact BK201.out⟩, ⟨by repeat (first | (with_reducible first | exact HB.out | apply below_alloc | apply pw_below_drewN | apply below_drew1 | refine below_set ?_ GE197.out | refine below_set ?_ GE198.out | refine below_set ?_ GE199.out | refine below_set ?_ GE200.out | refine below_set ?_ GE201.out) | exact HB.out)⟩⟩
    ·rw [if_neg c25] at H
     have c25b0 : decide (0 ≤ x9_1) = false := decide_eq_false c25
     clear c25
     simp only [Option.some.injEq, Prod.mk.injEq] at H
     obtain ⟨rfl, rfl, rfl⟩ := H
     try go_wp2
     have n0_ := Aside0.mk (blk_drew BK197.out)
     have n1_ := Aside0.mk (blk_drew BK198.out)
     have n2_ := Aside0.mk (blk_drew BK199.out)
     have n3_ := Aside0.mk (blk_drew BK200.out)
     have n4_ := Aside0.mk (blk_drew BK201.out)
     have n5_ := Aside0.mk (below_drew1 HB.out)
     clear BK197
     clear BK198
     clear BK199
     clear BK200
     clear BK201
     clear HB
     have BK197 := n0_
     have BK198 := n1_
     have BK199 := n2_
     have BK200 := n3_
     have BK201 := n4_
     have HB := n5_
     clear n0_ n1_ n2_ n3_ n4_ n5_
     refine start_ (n := 5) (S := fun w' => w'.cell? ⟨gb199, 0, none⟩ = some (.int .u64 x200000_1) ∧ w'.cell? ⟨gb199, 1, none⟩ = some (.int .u64 x200001_1) ∧ w'.cell? ⟨gb200, 0, none⟩ = some (.int .u64 x201000_1) ∧ w'.cell? ⟨gb200, 1, none⟩ = some (.int .u64 x201001_1)) (ds := []) #[false, false, false, false, false] (by kernel_rfl) rfl rfl ⟨(blk_cell BK199.out 0).trans rfl, (blk_cell BK199.out 1).trans rfl, (blk_cell BK200.out 0).trans rfl, (blk_cell BK200.out 1).trans rfl⟩ (fun hHeld => ?_)
     generalize wr.drew = w85 at BK197 BK198 BK199 BK200 BK201 HB hHeld ⊢
     refine pure_ (i := 1) (N := some 52) (v := ?_) (a' := ?_) #[false, true, false, false, false] rfl rfl (by kernel_rfl) (fun _ _ _ h => h) (Or.inl ⟨by rfl, ?_⟩) ?_ ?_
     rotate_left
     ·intro w'
      go_simp
      with_reducible rfl
     rotate_left
     ·simp only [Act.put, List.setIfInBounds_toArray, List.set_cons_zero, List.set_cons_succ, i64_w, i32_w]
      rfl
     refine take_ (i := 0) (N := some 51) (v := ?_) (a' := ?_) #[true, true, false, false, false] rfl rfl (by kernel_rfl) (fun _ _ _ h => h) (Or.inl ⟨by rfl, ?_⟩) hHeld ?_ ?_
     rotate_left
     ·rintro w' ⟨s0, s1, s2, s3⟩
      go_simp
      with_reducible rfl
     rotate_left
     ·simp only [Act.put, List.setIfInBounds_toArray, List.set_cons_zero, List.set_cons_succ, i64_w, i32_w]
      rfl
     refine take_ (i := 2) (N := some 53) (v := ?_) (a' := ?_) #[true, true, true, false, false] rfl rfl (by kernel_rfl) (fun _ _ _ h => h) (Or.inl ⟨by rfl, ?_⟩) hHeld ?_ ?_
     rotate_left
     ·rintro w' ⟨s0, s1, s2, s3⟩
      go_simp
      with_reducible rfl
     rotate_left
     ·simp only [Act.put, List.setIfInBounds_toArray, List.set_cons_zero, List.set_cons_succ, i64_w, i32_w]
      rfl
     refine one_ (i := 3) (N := none) #[true, true, true, true, false] rfl rfl (by kernel_rfl) (by decide) (fun K hK => ?_)
     have hs86 : w85.cell? ⟨gb198, 0, none⟩ = some (.int .u64 0) := (blk_cell BK198.out 0).trans rfl
     have hfs86 := blk_frozen BK198.out 0
     have hns86_0 := NB197_198.out
     have hns86_2 := NB199_198.out
     have hns86_3 := NB200_198.out
     have hns86_4 := NB201_198.out
     have hms86_0 := NB198_197.out
     have hms86_2 := NB198_199.out
     have hms86_3 := NB198_200.out
     have hms86_4 := NB198_201.out
     have hs87 : w85.cell? ⟨gb198, 1, none⟩ = some (.int .u64 0) := (blk_cell BK198.out 1).trans rfl
     have hfs87 := blk_frozen BK198.out 1
     have hns87_0 := NB197_198.out
     have hns87_2 := NB199_198.out
     have hns87_3 := NB200_198.out
     have hns87_4 := NB201_198.out
     have hms87_0 := NB198_197.out
     have hms87_2 := NB198_199.out
     have hms87_3 := NB198_200.out
     have hms87_4 := NB198_201.out
     refine skip_ (w1 := ?_) (by rfl) rfl ?_ ?_
     rotate_left
     ·go_simp
      rfl
     refine hK.out _ _ ⟨((cell_far (p := ⟨gb198, _, none⟩) NB199_198.out _).trans (((cell_far (p := ⟨gb198, _, none⟩) NB199_198.out _).trans (hHeld.1)))), ((cell_far (p := ⟨gb198, _, none⟩) NB199_198.out _).trans (((cell_far (p := ⟨gb198, _, none⟩) NB199_198.out _).trans (hHeld.2.1)))), ((cell_far (p := ⟨gb198, _, none⟩) NB200_198.out _).trans (((cell_far (p := ⟨gb198, _, none⟩) NB200_198.out _).trans (hHeld.2.2.1)))), ((cell_far (p := ⟨gb198, _, none⟩) NB200_198.out _).trans (((cell_far (p := ⟨gb198, _, none⟩) NB200_198.out _).trans (hHeld.2.2.2))))⟩ (fun hHeld => ?_)
     clear hK K
     refine pure_ (i := 4) (N := some 5) (v := ?_) (a' := ?_) #[true, true, true, true, true] rfl rfl (by kernel_rfl) (fun _ _ _ h => h) (Or.inl ⟨by rfl, ?_⟩) ?_ ?_
     rotate_left
     ·intro w'
      go_simp
      with_reducible rfl
     rotate_left
     ·simp only [Act.put, List.setIfInBounds_toArray, List.set_cons_zero, List.set_cons_succ, i64_w, i32_w]
      rfl
     refine done_ (by kernel_rfl) ?_
     try go_wp2
     refine bodyPost_ret (results_ct rfl _ _ gb198 29 #[.int .u64 x200000_1, .int .u64 x200001_1] (0, 0) _ rfl (by refine blk_put (cs := #[.int .u64 x200000_1, .int .u64 0]) ?_ 1 _ rfl; refine blk_put (cs := #[.int .u64 0, .int .u64 0]) ?_ 0 _ rfl; exact BK198.out) Try.underlying29 rfl (by kernel_rfl)) rfl ?_
     exact ⟨by first | rfl | (simp [errW_none, errW_some] <;> rfl) | (simp [*, errW_none, errW_some] <;> rfl), by repeat (first | (with_reducible first | exact HB.out | apply below_alloc | apply pw_below_drewN | apply below_drew1 | refine below_set ?_ GE197.out | refine below_set ?_ GE198.out | refine below_set ?_ GE199.out | refine below_set ?_ GE200.out | refine below_set ?_ GE201.out) | exact HB.out)⟩

/-! ### overfallref01_Text: function 29 -/
def overfallref01_Text.f : Nat → Int → Int → Option (ByteArray)
 | 0, _, _ => none
 | k + 1, a0_0, a0_1 => (overfallref01_Div.f k a0_0 a0_1 10).bind fun bt218 => (if 0 ≤ bt218.2.2 then (if bt218.2.2 ≤ (IntKind.u64.wrap (bt218.2.2 + 1)) then (if (IntKind.u64.wrap (bt218.2.2 + 1)) ≤ 10 then (if (bt218.1 == 0 && (bt218.2.1 == 0)) = true then (some ((⟨#[48, 49, 50, 51, 52, 53, 54, 55, 56, 57]⟩ : ByteArray).extract (bt218.2.2 : Int).toNat ((IntKind.u64.wrap (bt218.2.2 + 1)) : Int).toNat)) else ((overfallref01_Text.f k bt218.1 bt218.2.1).bind fun t222 => (if t222.size + ((⟨#[48, 49, 50, 51, 52, 53, 54, 55, 56, 57]⟩ : ByteArray).extract (bt218.2.2 : Int).toNat ((IntKind.u64.wrap (bt218.2.2 + 1)) : Int).toNat).size ≤ 9223372036854775807 then (some (t222 ++ ((⟨#[48, 49, 50, 51, 52, 53, 54, 55, 56, 57]⟩ : ByteArray).extract (bt218.2.2 : Int).toNat ((IntKind.u64.wrap (bt218.2.2 + 1)) : Int).toNat))) else (none)))) else (none)) else (none)) else (none))
theorem overfallref01_Text.mono_l : ∀ k, (∀ y0 y1, LeO (overfallref01_Text.f k y0 y1) (overfallref01_Text.f (k + 1) y0 y1))
 | 0 => fun _ _ r h => by simp [overfallref01_Text.f] at h
 | k + 1 => by
  have ih0 := overfallref01_Text.mono_l k
  ·intro y0 y1
   unfold overfallref01_Text.f
   repeat' first
   | (with_reducible exact ih0 _ _)
   | (with_reducible exact overfallref01_Div.mono _ _ _ _)
   | (with_reducible exact LeO.refl _)
   | (with_reducible exact LeO.none _)
   | (with_reducible refine LeO.ite ?_ ?_)
   | (with_reducible refine LeO.bind ?_ (fun _ => ?_))
   | exact ih0 _ _
   | exact overfallref01_Div.mono _ _ _ _
   | exact LeO.none _
   | refine LeO.ite ?_ ?_
   | refine LeO.bind ?_ (fun _ => ?_)
theorem overfallref01_Text.mono : ∀ a0 a1 k, LeO (overfallref01_Text.f k a0 a1) (overfallref01_Text.f (k + 1) a0 a1) := by
 intro a0 a1 k
 have ih0 := overfallref01_Text.mono_l k
 exact ih0 a0 a1
set_option maxHeartbeats 8000000 in
set_option maxRecDepth 100000 in
theorem overfallref01_Text.calls (k : Nat) : ∀ (a0_0 : Int) (a0_1 : Int) (r : ByteArray) (w : World) (h : overfallref01_Text.f k a0_0 a0_1 = some r),
  Calls Try.prog 29 #[.agg #[.int .u64 a0_0, .int .u64 a0_1]] w fun e w' => e = .returned (.string r) ∧ Below w.heap.size w w' := by
 induction k using Nat.strongRecOn with
 | _ k ih =>
 intro a0_0 a0_1 r w h
 cases k with
 | zero => exact absurd h (by simp [overfallref01_Text.f])
 | succ k =>
 simp only [overfallref01_Text.f] at h
 have hu29 := Try.underlying29
 have HB := Aside0.mk (Below.refl w.heap.size w)
 have H : ((overfallref01_Div.f k a0_0 a0_1 10).bind fun bt218 => (if 0 ≤ bt218.2.2 then (if bt218.2.2 ≤ (IntKind.u64.wrap (bt218.2.2 + 1)) then (if (IntKind.u64.wrap (bt218.2.2 + 1)) ≤ 10 then (if (bt218.1 == 0 && (bt218.2.1 == 0)) = true then (some ((⟨#[48, 49, 50, 51, 52, 53, 54, 55, 56, 57]⟩ : ByteArray).extract (bt218.2.2 : Int).toNat ((IntKind.u64.wrap (bt218.2.2 + 1)) : Int).toNat)) else ((overfallref01_Text.f k bt218.1 bt218.2.1).bind fun t222 => (if t222.size + ((⟨#[48, 49, 50, 51, 52, 53, 54, 55, 56, 57]⟩ : ByteArray).extract (bt218.2.2 : Int).toNat ((IntKind.u64.wrap (bt218.2.2 + 1)) : Int).toNat).size ≤ 9223372036854775807 then (some (t222 ++ ((⟨#[48, 49, 50, 51, 52, 53, 54, 55, 56, 57]⟩ : ByteArray).extract (bt218.2.2 : Int).toNat ((IntKind.u64.wrap (bt218.2.2 + 1)) : Int).toNat))) else (none)))) else (none)) else (none)) else (none))) = some r := h
 clear h
 replace H := Option.bind_eq_some_iff.mp H
 obtain ⟨⟨t218, t219, t220⟩, A20, H⟩ := H
 replace H : (if 0 ≤ t220 then (if t220 ≤ (IntKind.u64.wrap (t220 + 1)) then (if (IntKind.u64.wrap (t220 + 1)) ≤ 10 then (if (t218 == 0 && (t219 == 0)) = true then (some ((⟨#[48, 49, 50, 51, 52, 53, 54, 55, 56, 57]⟩ : ByteArray).extract (t220 : Int).toNat ((IntKind.u64.wrap (t220 + 1)) : Int).toNat)) else ((overfallref01_Text.f k t218 t219).bind fun t222 => (if t222.size + ((⟨#[48, 49, 50, 51, 52, 53, 54, 55, 56, 57]⟩ : ByteArray).extract (t220 : Int).toNat ((IntKind.u64.wrap (t220 + 1)) : Int).toNat).size ≤ 9223372036854775807 then (some (t222 ++ ((⟨#[48, 49, 50, 51, 52, 53, 54, 55, 56, 57]⟩ : ByteArray).extract (t220 : Int).toNat ((IntKind.u64.wrap (t220 + 1)) : Int).toNat))) else (none)))) else (none)) else (none)) else (none)) = some r := H
 have A2 := Aside0.mk A20
 clear A20
 by_cases c3 : 0 ≤ t220
 ·rw [if_pos c3] at H
  have c3b0 := eq_true c3
  have c3b1 : decide (0 ≤ t220) = true := decide_eq_true c3
  clear c3
  by_cases c4 : t220 ≤ (IntKind.u64.wrap (t220 + 1))
  ·rw [if_pos c4] at H
   have c4b0 := eq_true c4
   have c4b1 : decide (t220 ≤ (IntKind.u64.wrap (t220 + 1))) = true := decide_eq_true c4
   by_cases c5 : (IntKind.u64.wrap (t220 + 1)) ≤ 10
   ·rw [if_pos c5] at H
    have c5b0 := eq_true c5
    have c5b1 : decide ((IntKind.u64.wrap (t220 + 1)) ≤ 10) = true := decide_eq_true c5
    by_cases c6 : (t218 == 0 && (t219 == 0)) = true
    ·rw [if_pos c6] at H
     have c6b0 : (t218 == 0 && (t219 == 0)) = true := c6
     (try (have c6b1 : decide (t218 = 0 && (t219 == 0)) = true := by simpa using c6))
     (try (have c6b2 : (t218 == 0 && (t219 == 0)) = true := by simpa using c6))
     clear c6
     obtain rfl := Option.some.inj H
     go_enter Try.func29, Try.ntmps29
     go_wp2_with (first | ((with_reducible refine gate_dst (N := 1) rfl ?_); refine box_event ?hg (N := 1) ?hd (cs := #[.int .u64 a0_0, .int .u64 a0_1]) (t := 29) ?hr ?_; (case hd => rfl); (case hg => rfl); (case hr => first | (go_simp; done) | (go_simp; rfl)); intro gb217 hg w7 hbox hb; have n0_ := Aside0.mk (below_step (by repeat (first | (with_reducible first | exact HB.out | apply below_alloc | apply pw_below_drewN | apply below_drew1) | exact HB.out)) hb); have n1_ := Aside0.mk (hbox); have n2_ := Aside0.mk ((by rw [hg]; exact (below_size (by repeat (first | (with_reducible first | exact HB.out | apply below_alloc | apply pw_below_drewN | apply below_drew1) | exact HB.out))) : w.heap.size ≤ gb217)); have n3_ := Aside0.mk ((by rw [hg]; exact (below_size (by repeat (first | (with_reducible first | exact HB.out | apply below_alloc | apply pw_below_drewN | apply below_drew1) | exact HB.out))) : w.heap.size ≤ gb217)); clear HB; have HB := n0_; have BK217 := n1_; have GW217 := n2_; have GE217 := n3_; clear n0_ n1_ n2_ n3_; clear hb hbox hg; have hcz8_0 : w7.cell? ⟨gb217, 0, none⟩ = some (.int .u64 a0_0) := (blk_cell BK217.out 0).trans rfl; have hcz8_1 : w7.cell? ⟨gb217, 1, none⟩ = some (.int .u64 a0_1) := (blk_cell BK217.out 1).trans rfl; have hfz8_0 := blk_frozen BK217.out 0; have hfz8_1 := blk_frozen BK217.out 1) | ((with_reducible refine gate_callee (f := 17) rfl ?_); refine goesL_ (some 8) rfl rfl Try.func17 (by kernel_rfl) rfl #[.agg #[.int .u64 a0_0, .int .u64 a0_1], .int .u64 10] rfl (by (try simp only [List.map_toArray, List.map_cons, List.map_nil]); first | done | rfl | (simp only [List.length_drop, List.length_take]; rfl)) ?_; (with_reducible refine (overfallref01_Div.calls k a0_0 a0_1 10 t218 t219 t220 _ A2.out).mono ?_); rintro e w9 ⟨rfl, hb⟩; refine ⟨_, rfl, ?_⟩; have n0_ := Aside0.mk (blk_below (by exact BK217.out) hb); have n1_ := Aside0.mk (below_step (by repeat (first | (with_reducible first | exact HB.out | apply below_alloc | apply pw_below_drewN | apply below_drew1 | refine below_set ?_ GE217.out) | exact HB.out)) hb); clear BK217; clear HB; have BK217 := n0_; have HB := n1_; clear n0_ n1_; (try clear hb); (try clear hb2); (try clear hk); (try clear hi)) | ((with_reducible refine gate_dst (N := 3) rfl ?_); refine box_event ?hg (N := 3) ?hd (cs := #[.int .u64 0, .int .u64 0]) (t := 29) ?hr ?_; (case hd => rfl); (case hg => rfl); (case hr => first | (go_simp; done) | (go_simp; rfl)); intro gb221 hg w10 hbox hb; have n0_ := Aside0.mk (blk_below (by exact BK217.out) hb); have n1_ := Aside0.mk (below_step (by repeat (first | (with_reducible first | exact HB.out | apply below_alloc | apply pw_below_drewN | apply below_drew1 | refine below_set ?_ GE217.out) | exact HB.out)) hb); have n2_ := Aside0.mk (hbox); have n3_ := Aside0.mk ((by rw [hg]; exact (below_size (by repeat (first | (with_reducible first | exact HB.out | apply below_alloc | apply pw_below_drewN | apply below_drew1 | refine below_set ?_ GE217.out) | exact HB.out))) : w.heap.size ≤ gb221)); have n4_ := Aside0.mk ((by rw [hg]; exact (below_size (by repeat (first | (with_reducible first | exact HB.out | apply below_alloc | apply pw_below_drewN | apply below_drew1 | refine below_set ?_ GE217.out) | exact HB.out))) : w.heap.size ≤ gb221)); have n5_ := Aside0.mk ((by rw [hg]; exact Nat.ne_of_lt (blk_lt (by exact BK217.out)) : gb217 ≠ gb221)); have n6_ := Aside0.mk ((by rw [hg]; exact Nat.ne_of_gt (blk_lt (by exact BK217.out)) : gb221 ≠ gb217)); clear BK217; clear HB; have BK217 := n0_; have HB := n1_; have BK221 := n2_; have GW221 := n3_; have GE221 := n4_; have NB217_221 := n5_; have NB221_217 := n6_; clear n0_ n1_ n2_ n3_ n4_ n5_ n6_; clear hb hbox hg; have hnb11 := NB221_217.out; have hnc11 := NB217_221.out; have hcz12_0 : w10.cell? ⟨gb221, 0, none⟩ = some (.int .u64 0) := (blk_cell BK221.out 0).trans rfl; have hcz12_1 : w10.cell? ⟨gb221, 1, none⟩ = some (.int .u64 0) := (blk_cell BK221.out 1).trans rfl; have hfz12_0 := blk_frozen BK221.out 0; have hfz12_1 := blk_frozen BK221.out 1))
     go_ret
     exact ⟨by first | rfl | (simp [errW_none, errW_some] <;> rfl) | (simp [*, errW_none, errW_some] <;> rfl), by repeat (first | (with_reducible first | exact HB.out | apply below_alloc | apply pw_below_drewN | apply below_drew1 | refine below_set ?_ GE217.out | refine below_set ?_ GE221.out) | exact HB.out)⟩
    ·rw [if_neg c6] at H
     have c6b0 : (t218 == 0 && (t219 == 0)) = false := by simpa using c6
     (try (have c6b1 : decide (t218 = 0 && (t219 == 0)) = false := by simpa using c6))
     (try (have c6b2 : (t218 == 0 && (t219 == 0)) = false := by simpa using c6))
     (try (have c6b3 : ¬ (t218 = 0 && (t219 == 0)) := by simpa using c6))
     clear c6
     replace H := Option.bind_eq_some_iff.mp H
     obtain ⟨t222, A130, H⟩ := H
     replace H : (if t222.size + ((⟨#[48, 49, 50, 51, 52, 53, 54, 55, 56, 57]⟩ : ByteArray).extract (t220 : Int).toNat ((IntKind.u64.wrap (t220 + 1)) : Int).toNat).size ≤ 9223372036854775807 then (some (t222 ++ ((⟨#[48, 49, 50, 51, 52, 53, 54, 55, 56, 57]⟩ : ByteArray).extract (t220 : Int).toNat ((IntKind.u64.wrap (t220 + 1)) : Int).toNat))) else (none)) = some r := H
     have A13 := Aside0.mk A130
     clear A130
     by_cases c14 : t222.size + ((⟨#[48, 49, 50, 51, 52, 53, 54, 55, 56, 57]⟩ : ByteArray).extract (t220 : Int).toNat ((IntKind.u64.wrap (t220 + 1)) : Int).toNat).size ≤ 9223372036854775807
     ·rw [if_pos c14] at H
      have c14b0 := eq_true c14
      have c14b1 : decide (t222.size + ((⟨#[48, 49, 50, 51, 52, 53, 54, 55, 56, 57]⟩ : ByteArray).extract (t220 : Int).toNat ((IntKind.u64.wrap (t220 + 1)) : Int).toNat).size ≤ 9223372036854775807) = true := decide_eq_true c14
      try have c14b2 : (9223372036854775807 < t222.size + ((⟨#[48, 49, 50, 51, 52, 53, 54, 55, 56, 57]⟩ : ByteArray).extract (t220 : Int).toNat ((IntKind.u64.wrap (t220 + 1)) : Int).toNat).size) = False := eq_false (Nat.not_lt.2 c14)
      obtain rfl := Option.some.inj H
      go_enter Try.func29, Try.ntmps29
      go_wp2_with (first | ((with_reducible refine gate_dst (N := 1) rfl ?_); refine box_event ?hg (N := 1) ?hd (cs := #[.int .u64 a0_0, .int .u64 a0_1]) (t := 29) ?hr ?_; (case hd => rfl); (case hg => rfl); (case hr => first | (go_simp; done) | (go_simp; rfl)); intro gb217 hg w15 hbox hb; have n0_ := Aside0.mk (below_step (by repeat (first | (with_reducible first | exact HB.out | apply below_alloc | apply pw_below_drewN | apply below_drew1) | exact HB.out)) hb); have n1_ := Aside0.mk (hbox); have n2_ := Aside0.mk ((by rw [hg]; exact (below_size (by repeat (first | (with_reducible first | exact HB.out | apply below_alloc | apply pw_below_drewN | apply below_drew1) | exact HB.out))) : w.heap.size ≤ gb217)); have n3_ := Aside0.mk ((by rw [hg]; exact (below_size (by repeat (first | (with_reducible first | exact HB.out | apply below_alloc | apply pw_below_drewN | apply below_drew1) | exact HB.out))) : w.heap.size ≤ gb217)); clear HB; have HB := n0_; have BK217 := n1_; have GW217 := n2_; have GE217 := n3_; clear n0_ n1_ n2_ n3_; clear hb hbox hg; have hcz16_0 : w15.cell? ⟨gb217, 0, none⟩ = some (.int .u64 a0_0) := (blk_cell BK217.out 0).trans rfl; have hcz16_1 : w15.cell? ⟨gb217, 1, none⟩ = some (.int .u64 a0_1) := (blk_cell BK217.out 1).trans rfl; have hfz16_0 := blk_frozen BK217.out 0; have hfz16_1 := blk_frozen BK217.out 1) | ((with_reducible refine gate_callee (f := 17) rfl ?_); refine goesL_ (some 8) rfl rfl Try.func17 (by kernel_rfl) rfl #[.agg #[.int .u64 a0_0, .int .u64 a0_1], .int .u64 10] rfl (by (try simp only [List.map_toArray, List.map_cons, List.map_nil]); first | done | rfl | (simp only [List.length_drop, List.length_take]; rfl)) ?_; (with_reducible refine (overfallref01_Div.calls k a0_0 a0_1 10 t218 t219 t220 _ A2.out).mono ?_); rintro e w17 ⟨rfl, hb⟩; refine ⟨_, rfl, ?_⟩; have n0_ := Aside0.mk (blk_below (by exact BK217.out) hb); have n1_ := Aside0.mk (below_step (by repeat (first | (with_reducible first | exact HB.out | apply below_alloc | apply pw_below_drewN | apply below_drew1 | refine below_set ?_ GE217.out) | exact HB.out)) hb); clear BK217; clear HB; have BK217 := n0_; have HB := n1_; clear n0_ n1_; (try clear hb); (try clear hb2); (try clear hk); (try clear hi)) | ((with_reducible refine gate_dst (N := 3) rfl ?_); refine box_event ?hg (N := 3) ?hd (cs := #[.int .u64 0, .int .u64 0]) (t := 29) ?hr ?_; (case hd => rfl); (case hg => rfl); (case hr => first | (go_simp; done) | (go_simp; rfl)); intro gb221 hg w18 hbox hb; have n0_ := Aside0.mk (blk_below (by exact BK217.out) hb); have n1_ := Aside0.mk (below_step (by repeat (first | (with_reducible first | exact HB.out | apply below_alloc | apply pw_below_drewN | apply below_drew1 | refine below_set ?_ GE217.out) | exact HB.out)) hb); have n2_ := Aside0.mk (hbox); have n3_ := Aside0.mk ((by rw [hg]; exact (below_size (by repeat (first | (with_reducible first | exact HB.out | apply below_alloc | apply pw_below_drewN | apply below_drew1 | refine below_set ?_ GE217.out) | exact HB.out))) : w.heap.size ≤ gb221)); have n4_ := Aside0.mk ((by rw [hg]; exact (below_size (by repeat (first | (with_reducible first | exact HB.out | apply below_alloc | apply pw_below_drewN | apply below_drew1 | refine below_set ?_ GE217.out) | exact HB.out))) : w.heap.size ≤ gb221)); have n5_ := Aside0.mk ((by rw [hg]; exact Nat.ne_of_lt (blk_lt (by exact BK217.out)) : gb217 ≠ gb221)); have n6_ := Aside0.mk ((by rw [hg]; exact Nat.ne_of_gt (blk_lt (by exact BK217.out)) : gb221 ≠ gb217)); clear BK217; clear HB; have BK217 := n0_; have HB := n1_; have BK221 := n2_; have GW221 := n3_; have GE221 := n4_; have NB217_221 := n5_; have NB221_217 := n6_; clear n0_ n1_ n2_ n3_ n4_ n5_ n6_; clear hb hbox hg; have hnb19 := NB221_217.out; have hnc19 := NB217_221.out; have hcz20_0 : w18.cell? ⟨gb221, 0, none⟩ = some (.int .u64 0) := (blk_cell BK221.out 0).trans rfl; have hcz20_1 : w18.cell? ⟨gb221, 1, none⟩ = some (.int .u64 0) := (blk_cell BK221.out 1).trans rfl; have hfz20_0 := blk_frozen BK221.out 0; have hfz20_1 := blk_frozen BK221.out 1) | ((with_reducible refine gate_callee (f := 29) rfl ?_); refine goesL_ (some 20) rfl rfl Try.func29 (by kernel_rfl) rfl #[.agg #[.int .u64 t218, .int .u64 t219]] rfl (by (try simp only [List.map_toArray, List.map_cons, List.map_nil]); first | done | rfl | (simp only [List.length_drop, List.length_take]; rfl)) ?_; (with_reducible refine (ih k (by omega) t218 t219 t222 _ A13.out).mono ?_); rintro e w21 ⟨rfl, hb⟩; refine ⟨_, rfl, ?_⟩; have n0_ := Aside0.mk (blk_below (g := gb217) (o := .cells #[.int .u64 a0_0, .int .u64 a0_1] 29 (0, 0)) (by refine blk_far ?_ NB217_221.out _; refine blk_far ?_ NB217_221.out _; exact BK217.out) hb); have n1_ := Aside0.mk (blk_below (g := gb221) (o := .cells #[.int .u64 t218, .int .u64 t219] 29 (0, 0)) (by refine blk_put (cs := #[.int .u64 t218, .int .u64 0]) ?_ 1 _ rfl; refine blk_put (cs := #[.int .u64 0, .int .u64 0]) ?_ 0 _ rfl; exact BK221.out) hb); have n2_ := Aside0.mk (below_step (by repeat (first | (with_reducible first | exact HB.out | apply below_alloc | apply pw_below_drewN | apply below_drew1 | refine below_set ?_ GE217.out | refine below_set ?_ GE221.out) | exact HB.out)) hb); clear BK217; clear BK221; clear HB; have BK217 := n0_; have BK221 := n1_; have HB := n2_; clear n0_ n1_ n2_; (try clear hb); (try clear hb2); (try clear hk); (try clear hi)))
      go_ret
      exact ⟨by first | rfl | (simp [errW_none, errW_some] <;> rfl) | (simp [*, errW_none, errW_some] <;> rfl), by repeat (first | (with_reducible first | exact HB.out | apply below_alloc | apply pw_below_drewN | apply below_drew1 | refine below_set ?_ GE217.out | refine below_set ?_ GE221.out) | exact HB.out)⟩
     ·rw [if_neg c14] at H
      exact absurd H (by simp)
   ·rw [if_neg c5] at H
    exact absurd H (by simp)
  ·rw [if_neg c4] at H
   exact absurd H (by simp)
 ·rw [if_neg c3] at H
  exact absurd H (by simp)

/-! ### overfalllaw01_WideTexts: function 8 -/
def overfalllaw01_WideTexts.f (k : Nat) (a0_0 : Int) (a0_1 : Int) : Option (Bool) := (overfalllaw01_awake.f k).bind fun t224 => (if t224 = true then ((wide_Num_Text.f k a0_0 a0_1).bind fun t225 => ((wide_Parse.f k t225).bind fun bt226 => ((overfalllaw01_own.f a0_0 a0_1).bind fun bt230 => ((overfallref01_Text.f k bt230.1 bt230.2).bind fun t232 => (if t225.toList = t232.toList then (if bt226.2.2 = 0 then (some (bt226.1 == a0_0 && (bt226.2.1 == a0_1))) else (none)) else (none)))))) else (none))
theorem overfalllaw01_WideTexts.mono : ∀ a0 a1 k, LeO (overfalllaw01_WideTexts.f k a0 a1) (overfalllaw01_WideTexts.f (k + 1) a0 a1) := by
 intro a0 a1 k
 unfold overfalllaw01_WideTexts.f
 repeat' first
   | (with_reducible exact overfalllaw01_awake.mono _)
   | (with_reducible exact overfallref01_Text.mono _ _ _)
   | (with_reducible exact wide_Num_Text.mono _ _ _)
   | (with_reducible exact wide_Parse.mono _ _)
   | (with_reducible exact LeO.refl _)
   | (with_reducible exact LeO.none _)
   | (with_reducible refine LeO.ite ?_ ?_)
   | (with_reducible refine LeO.bind ?_ (fun _ => ?_))
   | exact overfalllaw01_awake.mono _
   | exact overfallref01_Text.mono _ _ _
   | exact wide_Num_Text.mono _ _ _
   | exact wide_Parse.mono _ _
   | exact LeO.none _
   | refine LeO.ite ?_ ?_
   | refine LeO.bind ?_ (fun _ => ?_)
set_option maxHeartbeats 8000000 in
set_option maxRecDepth 100000 in
theorem overfalllaw01_WideTexts.calls (k : Nat) (a0_0 : Int) (a0_1 : Int) (r : Bool) (w : World) (h : overfalllaw01_WideTexts.f k a0_0 a0_1 = some r) :
  Calls Try.prog 8 #[.agg #[.int .u64 a0_0, .int .u64 a0_1]] w fun e w' => e = .returned (.bool r) ∧ Below w.heap.size w w' := by
 have hu25 := Try.underlying25
 have HB := Aside0.mk (Below.refl w.heap.size w)
 have H : ((overfalllaw01_awake.f k).bind fun t224 => (if t224 = true then ((wide_Num_Text.f k a0_0 a0_1).bind fun t225 => ((wide_Parse.f k t225).bind fun bt226 => ((overfalllaw01_own.f a0_0 a0_1).bind fun bt230 => ((overfallref01_Text.f k bt230.1 bt230.2).bind fun t232 => (if t225.toList = t232.toList then (if bt226.2.2 = 0 then (some (bt226.1 == a0_0 && (bt226.2.1 == a0_1))) else (none)) else (none)))))) else (none))) = some r := h
 clear h
 replace H := Option.bind_eq_some_iff.mp H
 obtain ⟨t224, A20, H⟩ := H
 replace H : (if t224 = true then ((wide_Num_Text.f k a0_0 a0_1).bind fun t225 => ((wide_Parse.f k t225).bind fun bt226 => ((overfalllaw01_own.f a0_0 a0_1).bind fun bt230 => ((overfallref01_Text.f k bt230.1 bt230.2).bind fun t232 => (if t225.toList = t232.toList then (if bt226.2.2 = 0 then (some (bt226.1 == a0_0 && (bt226.2.1 == a0_1))) else (none)) else (none)))))) else (none)) = some r := H
 have A2 := Aside0.mk A20
 clear A20
 by_cases c3 : t224 = true
 ·subst c3
  have H1 : ((wide_Num_Text.f k a0_0 a0_1).bind fun t225 => ((wide_Parse.f k t225).bind fun bt226 => ((overfalllaw01_own.f a0_0 a0_1).bind fun bt230 => ((overfallref01_Text.f k bt230.1 bt230.2).bind fun t232 => (if t225.toList = t232.toList then (if bt226.2.2 = 0 then (some (bt226.1 == a0_0 && (bt226.2.1 == a0_1))) else (none)) else (none)))))) = some r := by rw [if_pos rfl] at H; exact H
  clear H
  have H := H1
  clear H1
  replace H := Option.bind_eq_some_iff.mp H
  obtain ⟨t225, A40, H⟩ := H
  replace H : ((wide_Parse.f k t225).bind fun bt226 => ((overfalllaw01_own.f a0_0 a0_1).bind fun bt230 => ((overfallref01_Text.f k bt230.1 bt230.2).bind fun t232 => (if t225.toList = t232.toList then (if bt226.2.2 = 0 then (some (bt226.1 == a0_0 && (bt226.2.1 == a0_1))) else (none)) else (none))))) = some r := H
  have A4 := Aside0.mk A40
  clear A40
  replace H := Option.bind_eq_some_iff.mp H
  obtain ⟨⟨t226, t227, t228⟩, A50, H⟩ := H
  replace H : ((overfalllaw01_own.f a0_0 a0_1).bind fun bt230 => ((overfallref01_Text.f k bt230.1 bt230.2).bind fun t232 => (if t225.toList = t232.toList then (if t228 = 0 then (some (t226 == a0_0 && (t227 == a0_1))) else (none)) else (none)))) = some r := H
  have A5 := Aside0.mk A50
  clear A50
  replace H := Option.bind_eq_some_iff.mp H
  obtain ⟨⟨t230, t231⟩, A60, H⟩ := H
  replace H : ((overfallref01_Text.f k t230 t231).bind fun t232 => (if t225.toList = t232.toList then (if t228 = 0 then (some (t226 == a0_0 && (t227 == a0_1))) else (none)) else (none))) = some r := H
  have A6 := Aside0.mk A60
  clear A60
  replace H := Option.bind_eq_some_iff.mp H
  obtain ⟨t232, A70, H⟩ := H
  replace H : (if t225.toList = t232.toList then (if t228 = 0 then (some (t226 == a0_0 && (t227 == a0_1))) else (none)) else (none)) = some r := H
  have A7 := Aside0.mk A70
  clear A70
  by_cases c8 : t225.toList = t232.toList
  ·rw [if_pos c8] at H
   have c8b0 : (t225.toList == t232.toList) = true := beq_iff_eq.mpr c8
   have c8b1 : (t225.toList != t232.toList) = false := bne_eq_false_iff_eq.mpr c8
   clear c8
   by_cases c9 : t228 = 0
   ·rw [if_pos c9] at H
    have c9b0 : (t228 == 0) = true := beq_iff_eq.mpr c9
    have c9b1 : (t228 != 0) = false := bne_eq_false_iff_eq.mpr c9
    clear c9
    obtain rfl := Option.some.inj H
    go_enter Try.func8, Try.ntmps8
    go_wp2_with (first | ((with_reducible refine gate_dst (N := 1) rfl ?_); refine box_event ?hg (N := 1) ?hd (cs := #[.int .u64 a0_0, .int .u64 a0_1]) (t := 25) ?hr ?_; (case hd => rfl); (case hg => rfl); (case hr => first | (go_simp; done) | (go_simp; rfl)); intro gb223 hg w10 hbox hb; have n0_ := Aside0.mk (below_step (by repeat (first | (with_reducible first | exact HB.out | apply below_alloc | apply pw_below_drewN | apply below_drew1) | exact HB.out)) hb); have n1_ := Aside0.mk (hbox); have n2_ := Aside0.mk ((by rw [hg]; exact (below_size (by repeat (first | (with_reducible first | exact HB.out | apply below_alloc | apply pw_below_drewN | apply below_drew1) | exact HB.out))) : w.heap.size ≤ gb223)); have n3_ := Aside0.mk ((by rw [hg]; exact (below_size (by repeat (first | (with_reducible first | exact HB.out | apply below_alloc | apply pw_below_drewN | apply below_drew1) | exact HB.out))) : w.heap.size ≤ gb223)); clear HB; have HB := n0_; have BK223 := n1_; have GW223 := n2_; have GE223 := n3_; clear n0_ n1_ n2_ n3_; clear hb hbox hg) | ((with_reducible refine gate_callee (f := 11) rfl ?_); refine goesL_ (some 6) rfl rfl Try.func11 (by kernel_rfl) rfl #[] rfl (by (try simp only [List.map_toArray, List.map_cons, List.map_nil]); first | done | rfl | (simp only [List.length_drop, List.length_take]; rfl)) ?_; (with_reducible refine (overfalllaw01_awake.calls k  true _ A2.out).mono ?_); rintro e w11 ⟨rfl, hb⟩; refine ⟨_, rfl, ?_⟩; have n0_ := Aside0.mk (blk_below (by exact BK223.out) hb); have n1_ := Aside0.mk (below_step (by repeat (first | (with_reducible first | exact HB.out | apply below_alloc | apply pw_below_drewN | apply below_drew1 | refine below_set ?_ GE223.out) | exact HB.out)) hb); clear BK223; clear HB; have BK223 := n0_; have HB := n1_; clear n0_ n1_; (try clear hb); (try clear hb2); (try clear hk); (try clear hi); have hcz12_0 : w11.cell? ⟨gb223, 0, none⟩ = some (.int .u64 a0_0) := (blk_cell BK223.out 0).trans rfl; have hcz12_1 : w11.cell? ⟨gb223, 1, none⟩ = some (.int .u64 a0_1) := (blk_cell BK223.out 1).trans rfl; have hfz12_0 := blk_frozen BK223.out 0; have hfz12_1 := blk_frozen BK223.out 1) | ((with_reducible refine gate_callee (f := 27) rfl ?_); refine goesL_ (some 9) rfl rfl Try.func27 (by kernel_rfl) rfl #[.agg #[.int .u64 a0_0, .int .u64 a0_1]] rfl (by (try simp only [List.map_toArray, List.map_cons, List.map_nil]); first | done | rfl | (simp only [List.length_drop, List.length_take]; rfl)) ?_; (with_reducible refine (wide_Num_Text.calls k a0_0 a0_1 t225 _ A4.out).mono ?_); rintro e w13 ⟨rfl, hb⟩; refine ⟨_, rfl, ?_⟩; have n0_ := Aside0.mk (blk_below (by exact BK223.out) hb); have n1_ := Aside0.mk (below_step (by repeat (first | (with_reducible first | exact HB.out | apply below_alloc | apply pw_below_drewN | apply below_drew1 | refine below_set ?_ GE223.out) | exact HB.out)) hb); clear BK223; clear HB; have BK223 := n0_; have HB := n1_; clear n0_ n1_; (try clear hb); (try clear hb2); (try clear hk); (try clear hi)) | ((with_reducible refine gate_callee (f := 28) rfl ?_); refine goesL_ (some 12) rfl rfl Try.func28 (by kernel_rfl) rfl #[.string t225] rfl (by (try simp only [List.map_toArray, List.map_cons, List.map_nil]); first | done | rfl | (simp only [List.length_drop, List.length_take]; rfl)) ?_; (with_reducible refine (wide_Parse.calls k t225 t226 t227 t228 _ A5.out).mono ?_); rintro e w14 ⟨rfl, hb⟩; refine ⟨_, rfl, ?_⟩; have n0_ := Aside0.mk (blk_below (by exact BK223.out) hb); have n1_ := Aside0.mk (below_step (by repeat (first | (with_reducible first | exact HB.out | apply below_alloc | apply pw_below_drewN | apply below_drew1 | refine below_set ?_ GE223.out) | exact HB.out)) hb); clear BK223; clear HB; have BK223 := n0_; have HB := n1_; clear n0_ n1_; (try clear hb); (try clear hb2); (try clear hk); (try clear hi)) | ((with_reducible refine gate_dst (N := 4) rfl ?_); refine box_event ?hg (N := 4) ?hd (cs := #[.int .u64 0, .int .u64 0]) (t := 25) ?hr ?_; (case hd => rfl); (case hg => rfl); (case hr => first | (go_simp; done) | (go_simp; rfl)); intro gb229 hg w15 hbox hb; have n0_ := Aside0.mk (blk_below (by exact BK223.out) hb); have n1_ := Aside0.mk (below_step (by repeat (first | (with_reducible first | exact HB.out | apply below_alloc | apply pw_below_drewN | apply below_drew1 | refine below_set ?_ GE223.out) | exact HB.out)) hb); have n2_ := Aside0.mk (hbox); have n3_ := Aside0.mk ((by rw [hg]; exact (below_size (by repeat (first | (with_reducible first | exact HB.out | apply below_alloc | apply pw_below_drewN | apply below_drew1 | refine below_set ?_ GE223.out) | exact HB.out))) : w.heap.size ≤ gb229)); have n4_ := Aside0.mk ((by rw [hg]; exact (below_size (by repeat (first | (with_reducible first | exact HB.out | apply below_alloc | apply pw_below_drewN | apply below_drew1 | refine below_set ?_ GE223.out) | exact HB.out))) : w.heap.size ≤ gb229)); have n5_ := Aside0.mk ((by rw [hg]; exact Nat.ne_of_lt (blk_lt (by exact BK223.out)) : gb223 ≠ gb229)); have n6_ := Aside0.mk ((by rw [hg]; exact Nat.ne_of_gt (blk_lt (by exact BK223.out)) : gb229 ≠ gb223)); clear BK223; clear HB; have BK223 := n0_; have HB := n1_; have BK229 := n2_; have GW229 := n3_; have GE229 := n4_; have NB223_229 := n5_; have NB229_223 := n6_; clear n0_ n1_ n2_ n3_ n4_ n5_ n6_; clear hb hbox hg; have hnb16 := NB229_223.out; have hnc16 := NB223_229.out; have hcz17_0 : w15.cell? ⟨gb229, 0, none⟩ = some (.int .u64 0) := (blk_cell BK229.out 0).trans rfl; have hcz17_1 : w15.cell? ⟨gb229, 1, none⟩ = some (.int .u64 0) := (blk_cell BK229.out 1).trans rfl; have hfz17_0 := blk_frozen BK229.out 0; have hfz17_1 := blk_frozen BK229.out 1; have hcz18_0 : w15.cell? ⟨gb223, 0, none⟩ = some (.int .u64 a0_0) := (blk_cell BK223.out 0).trans rfl; have hcz18_1 : w15.cell? ⟨gb223, 1, none⟩ = some (.int .u64 a0_1) := (blk_cell BK223.out 1).trans rfl; have hfz18_0 := blk_frozen BK223.out 0; have hfz18_1 := blk_frozen BK223.out 1) | ((with_reducible refine gate_callee (f := 14) rfl ?_); refine goesL_ (some 17) rfl rfl Try.func14 (by kernel_rfl) rfl #[.agg #[.int .u64 a0_0, .int .u64 a0_1]] rfl (by (try simp only [List.map_toArray, List.map_cons, List.map_nil]); first | done | rfl | (simp only [List.length_drop, List.length_take]; rfl)) ?_; (with_reducible refine (overfalllaw01_own.calls a0_0 a0_1 t230 t231 _ A6.out).mono ?_); rintro e w19 ⟨rfl, hb⟩; refine ⟨_, rfl, ?_⟩; have n0_ := Aside0.mk (blk_below (g := gb223) (o := .cells #[.int .u64 a0_0, .int .u64 a0_1] 25 (0, 0)) (by refine blk_far ?_ NB223_229.out _; refine blk_far ?_ NB223_229.out _; exact BK223.out) hb); have n1_ := Aside0.mk (blk_below (g := gb229) (o := .cells #[.int .u64 t226, .int .u64 t227] 25 (0, 0)) (by refine blk_put (cs := #[.int .u64 t226, .int .u64 0]) ?_ 1 _ rfl; refine blk_put (cs := #[.int .u64 0, .int .u64 0]) ?_ 0 _ rfl; exact BK229.out) hb); have n2_ := Aside0.mk (below_step (by repeat (first | (with_reducible first | exact HB.out | apply below_alloc | apply pw_below_drewN | apply below_drew1 | refine below_set ?_ GE223.out | refine below_set ?_ GE229.out) | exact HB.out)) hb); clear BK223; clear BK229; clear HB; have BK223 := n0_; have BK229 := n1_; have HB := n2_; clear n0_ n1_ n2_; (try clear hb); (try clear hb2); (try clear hk); (try clear hi)) | ((with_reducible refine gate_callee (f := 29) rfl ?_); refine goesL_ (some 18) rfl rfl Try.func29 (by kernel_rfl) rfl #[.agg #[.int .u64 t230, .int .u64 t231]] rfl (by (try simp only [List.map_toArray, List.map_cons, List.map_nil]); first | done | rfl | (simp only [List.length_drop, List.length_take]; rfl)) ?_; (with_reducible refine (overfallref01_Text.calls k t230 t231 t232 _ A7.out).mono ?_); rintro e w20 ⟨rfl, hb⟩; refine ⟨_, rfl, ?_⟩; have n0_ := Aside0.mk (blk_below (by exact BK223.out) hb); have n1_ := Aside0.mk (blk_below (by exact BK229.out) hb); have n2_ := Aside0.mk (below_step (by repeat (first | (with_reducible first | exact HB.out | apply below_alloc | apply pw_below_drewN | apply below_drew1 | refine below_set ?_ GE223.out | refine below_set ?_ GE229.out) | exact HB.out)) hb); clear BK223; clear BK229; clear HB; have BK223 := n0_; have BK229 := n1_; have HB := n2_; clear n0_ n1_ n2_; (try clear hb); (try clear hb2); (try clear hk); (try clear hi); have hcz21_0 : w20.cell? ⟨gb229, 0, none⟩ = some (.int .u64 t226) := (blk_cell BK229.out 0).trans rfl; have hcz21_1 : w20.cell? ⟨gb229, 1, none⟩ = some (.int .u64 t227) := (blk_cell BK229.out 1).trans rfl; have hfz21_0 := blk_frozen BK229.out 0; have hfz21_1 := blk_frozen BK229.out 1; have hcz22_0 : w20.cell? ⟨gb223, 0, none⟩ = some (.int .u64 a0_0) := (blk_cell BK223.out 0).trans rfl; have hcz22_1 : w20.cell? ⟨gb223, 1, none⟩ = some (.int .u64 a0_1) := (blk_cell BK223.out 1).trans rfl; have hfz22_0 := blk_frozen BK223.out 0; have hfz22_1 := blk_frozen BK223.out 1))
    go_ret
    exact ⟨by first | rfl | (simp [errW_none, errW_some] <;> rfl) | (simp [*, errW_none, errW_some] <;> rfl), by repeat (first | (with_reducible first | exact HB.out | apply below_alloc | apply pw_below_drewN | apply below_drew1 | refine below_set ?_ GE223.out | refine below_set ?_ GE229.out) | exact HB.out)⟩
   ·rw [if_neg c9] at H
    exact absurd H (by simp)
  ·rw [if_neg c8] at H
   exact absurd H (by simp)
 ·replace c3 := Bool.eq_false_iff.mpr c3
  subst c3
  have H1 : (none) = some r := by rw [if_neg (show ¬ (false = true) by decide)] at H; exact H
  clear H
  have H := H1
  clear H1
  exact absurd H (by simp)

end Go.Proofs.Ytdgbehbiigggmaa.X

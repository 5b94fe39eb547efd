-- Laid by a program of this claim's session (wip/tools/myprint.py) over the kit's printer.
import Derived.Test.YtjgjmeefieikaaaRx0
import Derived.Test.YtjgjmeefieikaaaRx5
import Derived.Test.YtjgjmeefieikaaaRx6
import Derived.Test.YtjgjmeefieikaaaRx7
namespace Go.Proofs.Ytjgjmeefieikaaa.R
open Go.RowKit Go.Proofs.YtjgjmeefieikaaaW.PrintWords Go.Proofs.YtjgjmeefieikaaaW.PrintLast Go.Proofs.YtjgjmeefieikaaaW.PrintMore
attribute [local go_sem] max2_int min2_int max_two min_two max_three min_three max_four min_four   -- for this text's walks alone
set_option linter.unusedVariables false
set_option linter.unusedSimpArgs false

/-! ### overfallref01_Div: function 43 -/
mutual
def overfallref01_Div.l0 : Nat → Int → Int → Int → Int → Int → Int → Int → Int → Int → Option (Int × Int × Int)
 | 0, _, _, _, _, _, _, _, _, _ => none
 | k + 1, x9, x211000, x211001, x213000, x213001, x214000, x214001, x215000, x215001 => if x9 ≥ 0 then ((overfallref01_Twice.f k x213000 x213001).bind fun bt215 => ((overfallref01_Twice.f k x214000 x214001).bind fun bt217 => ((overfallref01_Bit.f k x211000 x211001 x9).bind fun t219 => (if t219 = 1 then ((overfallref01_Add.f k bt217.1 bt217.2 0 1).bind fun bt220 => (overfallref01_Div.j1 k x9 x211000 x211001 bt215.1 bt215.2 bt220.1 bt220.2.1 x215000 x215001)) else (overfallref01_Div.j1 k x9 x211000 x211001 bt215.1 bt215.2 bt217.1 bt217.2 x215000 x215001))))) else (some (x213000, x213001, x214001))
def overfallref01_Div.j1 : Nat → Int → Int → Int → Int → Int → Int → Int → Int → Int → Option (Int × Int × Int)
 | 0, _, _, _, _, _, _, _, _, _ => none
 | k + 1, x9, x211000, x211001, x213000, x213001, x214000, x214001, x215000, x215001 => (overfallref01_Less.f x214000 x214001 x215000 x215001).bind fun t223 => (if t223 = true then (overfallref01_Div.l0 k (wrap64 (x9 - 1)) x211000 x211001 x213000 x213001 x214000 x214001 x215000 x215001) else ((overfallref01_Sub.f k x214000 x214001 x215000 x215001).bind fun bt224 => ((overfallref01_Add.f k x213000 x213001 0 1).bind fun bt227 => (overfallref01_Div.l0 k (wrap64 (x9 - 1)) x211000 x211001 bt227.1 bt227.2.1 bt224.1 bt224.2.1 x215000 x215001))))
end
def overfallref01_Div.f (k : Nat) (a0_0 : Int) (a0_1 : Int) (a1 : Int) : Option (Int × Int × Int) := if a1 = 0 then (some (0, 0, 0)) else (overfallref01_Div.l0 k 127 a0_0 a0_1 0 0 0 0 0 a1)
theorem overfallref01_Div.mono_l : ∀ k, (∀ y0 y1 y2 y3 y4 y5 y6 y7 y8, LeO (overfallref01_Div.l0 k y0 y1 y2 y3 y4 y5 y6 y7 y8) (overfallref01_Div.l0 (k + 1) y0 y1 y2 y3 y4 y5 y6 y7 y8)) ∧ (∀ y0 y1 y2 y3 y4 y5 y6 y7 y8, LeO (overfallref01_Div.j1 k y0 y1 y2 y3 y4 y5 y6 y7 y8) (overfallref01_Div.j1 (k + 1) y0 y1 y2 y3 y4 y5 y6 y7 y8))
 | 0 => ⟨fun _ _ _ _ _ _ _ _ _ r h => by simp [overfallref01_Div.l0] at h, fun _ _ _ _ _ _ _ _ _ r h => by simp [overfallref01_Div.j1] at h⟩
 | k + 1 => by
  obtain ⟨ih0, ih1⟩ := overfallref01_Div.mono_l k
  refine ⟨?_, ?_⟩
  ·intro y0 y1 y2 y3 y4 y5 y6 y7 y8
   unfold overfallref01_Div.l0
   repeat' first
   | (with_reducible exact ih0 _ _ _ _ _ _ _ _ _)
   | (with_reducible exact ih1 _ _ _ _ _ _ _ _ _)
   | (with_reducible exact overfallref01_Add.mono _ _ _ _ _)
   | (with_reducible exact overfallref01_Bit.mono _ _ _ _)
   | (with_reducible exact overfallref01_Sub.mono _ _ _ _ _)
   | (with_reducible exact overfallref01_Twice.mono _ _ _)
   | (with_reducible exact LeO.refl _)
   | (with_reducible exact LeO.none _)
   | (with_reducible refine LeO.ite ?_ ?_)
   | (with_reducible refine LeO.bind ?_ (fun _ => ?_))
   | exact ih0 _ _ _ _ _ _ _ _ _
   | exact ih1 _ _ _ _ _ _ _ _ _
   | exact overfallref01_Add.mono _ _ _ _ _
   | exact overfallref01_Bit.mono _ _ _ _
   | exact overfallref01_Sub.mono _ _ _ _ _
   | exact overfallref01_Twice.mono _ _ _
   | exact LeO.none _
   | refine LeO.ite ?_ ?_
   | refine LeO.bind ?_ (fun _ => ?_)
  ·intro y0 y1 y2 y3 y4 y5 y6 y7 y8
   unfold overfallref01_Div.j1
   repeat' first
   | (with_reducible exact ih0 _ _ _ _ _ _ _ _ _)
   | (with_reducible exact ih1 _ _ _ _ _ _ _ _ _)
   | (with_reducible exact overfallref01_Add.mono _ _ _ _ _)
   | (with_reducible exact overfallref01_Bit.mono _ _ _ _)
   | (with_reducible exact overfallref01_Sub.mono _ _ _ _ _)
   | (with_reducible exact overfallref01_Twice.mono _ _ _)
   | (with_reducible exact LeO.refl _)
   | (with_reducible exact LeO.none _)
   | (with_reducible refine LeO.ite ?_ ?_)
   | (with_reducible refine LeO.bind ?_ (fun _ => ?_))
   | exact ih0 _ _ _ _ _ _ _ _ _
   | exact ih1 _ _ _ _ _ _ _ _ _
   | exact overfallref01_Add.mono _ _ _ _ _
   | exact overfallref01_Bit.mono _ _ _ _
   | exact overfallref01_Sub.mono _ _ _ _ _
   | exact overfallref01_Twice.mono _ _ _
   | exact LeO.none _
   | refine LeO.ite ?_ ?_
   | refine LeO.bind ?_ (fun _ => ?_)
theorem overfallref01_Div.mono : ∀ a0 a1 a2 k, LeO (overfallref01_Div.f k a0 a1 a2) (overfallref01_Div.f (k + 1) a0 a1 a2) := by
 intro a0 a1 a2 k
 obtain ⟨ih0, ih1⟩ := overfallref01_Div.mono_l k
 unfold overfallref01_Div.f
 repeat' first
   | (with_reducible exact ih0 _ _ _ _ _ _ _ _ _)
   | (with_reducible exact ih1 _ _ _ _ _ _ _ _ _)
   | (with_reducible exact overfallref01_Add.mono _ _ _ _ _)
   | (with_reducible exact overfallref01_Bit.mono _ _ _ _)
   | (with_reducible exact overfallref01_Sub.mono _ _ _ _ _)
   | (with_reducible exact overfallref01_Twice.mono _ _ _)
   | (with_reducible exact LeO.refl _)
   | (with_reducible exact LeO.none _)
   | (with_reducible refine LeO.ite ?_ ?_)
   | (with_reducible refine LeO.bind ?_ (fun _ => ?_))
   | exact ih0 _ _ _ _ _ _ _ _ _
   | exact ih1 _ _ _ _ _ _ _ _ _
   | exact overfallref01_Add.mono _ _ _ _ _
   | exact overfallref01_Bit.mono _ _ _ _
   | exact overfallref01_Sub.mono _ _ _ _ _
   | exact overfallref01_Twice.mono _ _ _
   | exact LeO.none _
   | refine LeO.ite ?_ ?_
   | refine LeO.bind ?_ (fun _ => ?_)
set_option maxHeartbeats 8000000 in
set_option maxRecDepth 100000 in
theorem overfallref01_Div.calls (k : Nat) (a0_0 : Int) (a0_1 : Int) (a1 : Int) (r1 : Int) (r2 : Int) (r3 : Int) (w : World) (h : overfallref01_Div.f k a0_0 a0_1 a1 = some (r1, r2, r3)) :
  Calls Try.prog 43 #[.agg #[.int .u64 a0_0, .int .u64 a0_1], .int .u64 a1] w fun e w' => e = .returned (.tuple #[.agg #[.int .u64 r1, .int .u64 r2], .int .u64 r3]) ∧ Below w.heap.size w w' := by
 have hu40 := Try.underlying40
 have HB := Aside0.mk (Below.refl w.heap.size w)
 have H : (if a1 = 0 then (some (0, 0, 0)) else (overfallref01_Div.l0 k 127 a0_0 a0_1 0 0 0 0 0 a1)) = some (r1, r2, r3) := h
 clear h
 by_cases c3 : a1 = 0
 ·rw [if_pos c3] at H
  have c3b0 : (a1 == 0) = true := beq_iff_eq.mpr c3
  have c3b1 : (a1 != 0) = false := bne_eq_false_iff_eq.mpr c3
  clear c3
  simp only [Option.some.injEq, Prod.mk.injEq] at H
  obtain ⟨rfl, rfl, rfl⟩ := H
  go_enter Try.func43, Try.ntmps43
  go_wp2_with (first | ((with_reducible refine gate_dst (N := 2) rfl ?_); refine box_event ?hg (N := 2) ?hd (cs := #[.int .u64 a0_0, .int .u64 a0_1]) (t := 40) ?hr ?_; (case hd => rfl); (case hg => rfl); (case hr => first | (go_simp; done) | (go_simp; rfl)); intro gb210 hg w4 hbox hb; have n0_ := Aside0.mk (below_step (by repeat (first | (with_reducible first | exact HB.out | apply below_alloc | apply pw_below_drewN | apply below_drew1) | exact HB.out)) hb); have n1_ := Aside0.mk (hbox); have n2_ := Aside0.mk ((by rw [hg]; exact (below_size (by repeat (first | (with_reducible first | exact HB.out | apply below_alloc | apply pw_below_drewN | apply below_drew1) | exact HB.out))) : w.heap.size ≤ gb210)); have n3_ := Aside0.mk ((by rw [hg]; exact (below_size (by repeat (first | (with_reducible first | exact HB.out | apply below_alloc | apply pw_below_drewN | apply below_drew1) | exact HB.out))) : w.heap.size ≤ gb210)); clear HB; have HB := n0_; have BK210 := n1_; have GW210 := n2_; have GE210 := n3_; clear n0_ n1_ n2_ n3_; clear hb hbox hg) | ((with_reducible refine gate_dst (N := 4) rfl ?_); refine box_event ?hg (N := 4) ?hd (cs := #[.int .u64 0, .int .u64 0]) (t := 40) ?hr ?_; (case hd => rfl); (case hg => rfl); (case hr => first | (go_simp; done) | (go_simp; rfl)); intro gb211 hg w5 hbox hb; have n0_ := Aside0.mk (blk_below (by exact BK210.out) hb); have n1_ := Aside0.mk (below_step (by repeat (first | (with_reducible first | exact HB.out | apply below_alloc | apply pw_below_drewN | apply below_drew1 | refine below_set ?_ GE210.out) | exact HB.out)) hb); have n2_ := Aside0.mk (hbox); have n3_ := Aside0.mk ((by rw [hg]; exact (below_size (by repeat (first | (with_reducible first | exact HB.out | apply below_alloc | apply pw_below_drewN | apply below_drew1 | refine below_set ?_ GE210.out) | exact HB.out))) : w.heap.size ≤ gb211)); have n4_ := Aside0.mk ((by rw [hg]; exact (below_size (by repeat (first | (with_reducible first | exact HB.out | apply below_alloc | apply pw_below_drewN | apply below_drew1 | refine below_set ?_ GE210.out) | exact HB.out))) : w.heap.size ≤ gb211)); have n5_ := Aside0.mk ((by rw [hg]; exact Nat.ne_of_lt (blk_lt (by exact BK210.out)) : gb210 ≠ gb211)); have n6_ := Aside0.mk ((by rw [hg]; exact Nat.ne_of_gt (blk_lt (by exact BK210.out)) : gb211 ≠ gb210)); clear BK210; clear HB; have BK210 := n0_; have HB := n1_; have BK211 := n2_; have GW211 := n3_; have GE211 := n4_; have NB210_211 := n5_; have NB211_210 := n6_; clear n0_ n1_ n2_ n3_ n4_ n5_ n6_; clear hb hbox hg; have hnb6 := NB211_210.out; have hnc6 := NB210_211.out; have hcz7_0 : w5.cell? ⟨gb211, 0, none⟩ = some (.int .u64 0) := (blk_cell BK211.out 0).trans rfl; have hcz7_1 : w5.cell? ⟨gb211, 1, none⟩ = some (.int .u64 0) := (blk_cell BK211.out 1).trans rfl; have hfz7_0 := blk_frozen BK211.out 0; have hfz7_1 := blk_frozen BK211.out 1))
  refine bodyPost_ret (results_ct rfl _ _ gb211 40 #[.int .u64 0, .int .u64 0] (0, 0) _ rfl (by refine blk_put (cs := #[.int .u64 0, .int .u64 0]) ?_ 1 _ rfl; refine blk_put (cs := #[.int .u64 0, .int .u64 0]) ?_ 0 _ rfl; exact BK211.out) Try.underlying40 rfl (by kernel_rfl)) rfl ?_
  exact ⟨by first | rfl | (simp [errW_none, errW_some] <;> rfl) | (simp [*, errW_none, errW_some] <;> rfl), by repeat (first | (with_reducible first | exact HB.out | apply below_alloc | apply pw_below_drewN | apply below_drew1 | refine below_set ?_ GE210.out | refine below_set ?_ GE211.out) | exact HB.out)⟩
 ·rw [if_neg c3] at H
  have c3b0 : (a1 == 0) = false := beq_eq_false_iff_ne.mpr c3
  have c3b1 : (a1 != 0) = true := bne_iff_ne.mpr c3
  have H' := Aside0.mk H
  clear H
  go_enter Try.func43, Try.ntmps43
  go_wp2_with (first | ((with_reducible refine gate_dst (N := 2) rfl ?_); refine box_event ?hg (N := 2) ?hd (cs := #[.int .u64 a0_0, .int .u64 a0_1]) (t := 40) ?hr ?_; (case hd => rfl); (case hg => rfl); (case hr => first | (go_simp; done) | (go_simp; rfl)); intro gb210 hg w8 hbox hb; have n0_ := Aside0.mk (below_step (by repeat (first | (with_reducible first | exact HB.out | apply below_alloc | apply pw_below_drewN | apply below_drew1) | exact HB.out)) hb); have n1_ := Aside0.mk (hbox); have n2_ := Aside0.mk ((by rw [hg]; exact (below_size (by repeat (first | (with_reducible first | exact HB.out | apply below_alloc | apply pw_below_drewN | apply below_drew1) | exact HB.out))) : w.heap.size ≤ gb210)); have n3_ := Aside0.mk ((by rw [hg]; exact (below_size (by repeat (first | (with_reducible first | exact HB.out | apply below_alloc | apply pw_below_drewN | apply below_drew1) | exact HB.out))) : w.heap.size ≤ gb210)); clear HB; have HB := n0_; have BK210 := n1_; have GW210 := n2_; have GE210 := n3_; clear n0_ n1_ n2_ n3_; clear hb hbox hg) | ((with_reducible refine gate_dst (N := 4) rfl ?_); refine box_event ?hg (N := 4) ?hd (cs := #[.int .u64 0, .int .u64 0]) (t := 40) ?hr ?_; (case hd => rfl); (case hg => rfl); (case hr => first | (go_simp; done) | (go_simp; rfl)); intro gb211 hg w9 hbox hb; have n0_ := Aside0.mk (blk_below (by exact BK210.out) hb); have n1_ := Aside0.mk (below_step (by repeat (first | (with_reducible first | exact HB.out | apply below_alloc | apply pw_below_drewN | apply below_drew1 | refine below_set ?_ GE210.out) | exact HB.out)) hb); have n2_ := Aside0.mk (hbox); have n3_ := Aside0.mk ((by rw [hg]; exact (below_size (by repeat (first | (with_reducible first | exact HB.out | apply below_alloc | apply pw_below_drewN | apply below_drew1 | refine below_set ?_ GE210.out) | exact HB.out))) : w.heap.size ≤ gb211)); have n4_ := Aside0.mk ((by rw [hg]; exact (below_size (by repeat (first | (with_reducible first | exact HB.out | apply below_alloc | apply pw_below_drewN | apply below_drew1 | refine below_set ?_ GE210.out) | exact HB.out))) : w.heap.size ≤ gb211)); have n5_ := Aside0.mk ((by rw [hg]; exact Nat.ne_of_lt (blk_lt (by exact BK210.out)) : gb210 ≠ gb211)); have n6_ := Aside0.mk ((by rw [hg]; exact Nat.ne_of_gt (blk_lt (by exact BK210.out)) : gb211 ≠ gb210)); clear BK210; clear HB; have BK210 := n0_; have HB := n1_; have BK211 := n2_; have GW211 := n3_; have GE211 := n4_; have NB210_211 := n5_; have NB211_210 := n6_; clear n0_ n1_ n2_ n3_ n4_ n5_ n6_; clear hb hbox hg) | ((with_reducible refine gate_dst (N := 6) rfl ?_); refine box_event ?hg (N := 6) ?hd (cs := #[.int .u64 0, .int .u64 0]) (t := 40) ?hr ?_; (case hd => rfl); (case hg => rfl); (case hr => first | (go_simp; done) | (go_simp; rfl)); intro gb212 hg w10 hbox hb; have n0_ := Aside0.mk (blk_below (by exact BK210.out) hb); have n1_ := Aside0.mk (blk_below (by exact BK211.out) hb); have n2_ := Aside0.mk (below_step (by repeat (first | (with_reducible first | exact HB.out | apply below_alloc | apply pw_below_drewN | apply below_drew1 | refine below_set ?_ GE210.out | refine below_set ?_ GE211.out) | exact HB.out)) hb); have n3_ := Aside0.mk (hbox); have n4_ := Aside0.mk ((by rw [hg]; exact (below_size (by repeat (first | (with_reducible first | exact HB.out | apply below_alloc | apply pw_below_drewN | apply below_drew1 | refine below_set ?_ GE210.out | refine below_set ?_ GE211.out) | exact HB.out))) : w.heap.size ≤ gb212)); have n5_ := Aside0.mk ((by rw [hg]; exact (below_size (by repeat (first | (with_reducible first | exact HB.out | apply below_alloc | apply pw_below_drewN | apply below_drew1 | refine below_set ?_ GE210.out | refine below_set ?_ GE211.out) | exact HB.out))) : w.heap.size ≤ gb212)); have n6_ := Aside0.mk ((by rw [hg]; exact Nat.ne_of_lt (blk_lt (by exact BK210.out)) : gb210 ≠ gb212)); have n7_ := Aside0.mk ((by rw [hg]; exact Nat.ne_of_gt (blk_lt (by exact BK210.out)) : gb212 ≠ gb210)); have n8_ := Aside0.mk ((by rw [hg]; exact Nat.ne_of_lt (blk_lt (by exact BK211.out)) : gb211 ≠ gb212)); have n9_ := Aside0.mk ((by rw [hg]; exact Nat.ne_of_gt (blk_lt (by exact BK211.out)) : gb212 ≠ gb211)); clear BK210; clear BK211; clear HB; have BK210 := n0_; have BK211 := n1_; have HB := n2_; have BK212 := n3_; have GW212 := n4_; have GE212 := n5_; have NB210_212 := n6_; have NB212_210 := n7_; have NB211_212 := n8_; have NB212_211 := n9_; clear n0_ n1_ n2_ n3_ n4_ n5_ n6_ n7_ n8_ n9_; clear hb hbox hg) | ((with_reducible refine gate_dst (N := 7) rfl ?_); refine box_event ?hg (N := 7) ?hd (cs := #[.int .u64 0, .int .u64 0]) (t := 40) ?hr ?_; (case hd => rfl); (case hg => rfl); (case hr => first | (go_simp; done) | (go_simp; rfl)); intro gb213 hg w11 hbox hb; have n0_ := Aside0.mk (blk_below (by exact BK210.out) hb); have n1_ := Aside0.mk (blk_below (by exact BK211.out) hb); have n2_ := Aside0.mk (blk_below (by exact BK212.out) hb); have n3_ := Aside0.mk (below_step (by repeat (first | (with_reducible first | exact HB.out | apply below_alloc | apply pw_below_drewN | apply below_drew1 | refine below_set ?_ GE210.out | refine below_set ?_ GE211.out | refine below_set ?_ GE212.out) | exact HB.out)) hb); have n4_ := Aside0.mk (hbox); have n5_ := Aside0.mk ((by rw [hg]; exact (below_size (by repeat (first | (with_reducible first | exact HB.out | apply below_alloc | apply pw_below_drewN | apply below_drew1 | refine below_set ?_ GE210.out | refine below_set ?_ GE211.out | refine below_set ?_ GE212.out) | exact HB.out))) : w.heap.size ≤ gb213)); have n6_ := Aside0.mk ((by rw [hg]; exact (below_size (by repeat (first | (with_reducible first | exact HB.out | apply below_alloc | apply pw_below_drewN | apply below_drew1 | refine below_set ?_ GE210.out | refine below_set ?_ GE211.out | refine below_set ?_ GE212.out) | exact HB.out))) : w.heap.size ≤ gb213)); have n7_ := Aside0.mk ((by rw [hg]; exact Nat.ne_of_lt (blk_lt (by exact BK210.out)) : gb210 ≠ gb213)); have n8_ := Aside0.mk ((by rw [hg]; exact Nat.ne_of_gt (blk_lt (by exact BK210.out)) : gb213 ≠ gb210)); have n9_ := Aside0.mk ((by rw [hg]; exact Nat.ne_of_lt (blk_lt (by exact BK211.out)) : gb211 ≠ gb213)); have n10_ := Aside0.mk ((by rw [hg]; exact Nat.ne_of_gt (blk_lt (by exact BK211.out)) : gb213 ≠ gb211)); have n11_ := Aside0.mk ((by rw [hg]; exact Nat.ne_of_lt (blk_lt (by exact BK212.out)) : gb212 ≠ gb213)); have n12_ := Aside0.mk ((by rw [hg]; exact Nat.ne_of_gt (blk_lt (by exact BK212.out)) : gb213 ≠ gb212)); clear BK210; clear BK211; clear BK212; clear HB; have BK210 := n0_; have BK211 := n1_; have BK212 := n2_; have HB := n3_; have BK213 := n4_; have GW213 := n5_; have GE213 := n6_; have NB210_213 := n7_; have NB213_210 := n8_; have NB211_213 := n9_; have NB213_211 := n10_; have NB212_213 := n11_; have NB213_212 := n12_; clear n0_ n1_ n2_ n3_ n4_ n5_ n6_ n7_ n8_ n9_ n10_ n11_ n12_; clear hb hbox hg; have hnb12 := NB212_210.out; have hnc12 := NB210_212.out; have hnb13 := NB212_211.out; have hnc13 := NB211_212.out; have hnb14 := NB212_213.out; have hnc14 := NB213_212.out; have hcz15_0 : w11.cell? ⟨gb212, 0, none⟩ = some (.int .u64 0) := (blk_cell BK212.out 0).trans rfl; have hcz15_1 : w11.cell? ⟨gb212, 1, none⟩ = some (.int .u64 0) := (blk_cell BK212.out 1).trans rfl; have hfz15_0 := blk_frozen BK212.out 0; have hfz15_1 := blk_frozen BK212.out 1; have hnb16 := NB213_210.out; have hnc16 := NB210_213.out; have hnb17 := NB213_211.out; have hnc17 := NB211_213.out; have hcz18_0 : w11.cell? ⟨gb213, 0, none⟩ = some (.int .u64 0) := (blk_cell BK213.out 0).trans rfl; have hcz18_1 : w11.cell? ⟨gb213, 1, none⟩ = some (.int .u64 0) := (blk_cell BK213.out 1).trans rfl; have hfz18_0 := blk_frozen BK213.out 0; have hfz18_1 := blk_frozen BK213.out 1) | ((with_reducible refine gate_dst (N := 8) rfl ?_); refine box_event ?hg (N := 8) ?hd (cs := #[.int .u64 0, .int .u64 0]) (t := 40) ?hr ?_; (case hd => rfl); (case hg => rfl); (case hr => first | (go_simp; done) | (go_simp; rfl)); intro gb214 hg w19 hbox hb; have n0_ := Aside0.mk (blk_below (g := gb210) (o := .cells #[.int .u64 a0_0, .int .u64 a0_1] 40 (0, 0)) (by refine blk_far ?_ NB210_213.out _; refine blk_far ?_ NB210_213.out _; refine blk_far ?_ NB210_212.out _; refine blk_far ?_ NB210_212.out _; exact BK210.out) hb); have n1_ := Aside0.mk (blk_below (g := gb211) (o := .cells #[.int .u64 0, .int .u64 0] 40 (0, 0)) (by refine blk_far ?_ NB211_213.out _; refine blk_far ?_ NB211_213.out _; refine blk_far ?_ NB211_212.out _; refine blk_far ?_ NB211_212.out _; exact BK211.out) hb); have n2_ := Aside0.mk (blk_below (g := gb212) (o := .cells #[.int .u64 0, .int .u64 0] 40 (0, 0)) (by refine blk_far ?_ NB212_213.out _; refine blk_far ?_ NB212_213.out _; refine blk_put (cs := #[.int .u64 0, .int .u64 0]) ?_ 1 _ rfl; refine blk_put (cs := #[.int .u64 0, .int .u64 0]) ?_ 0 _ rfl; exact BK212.out) hb); have n3_ := Aside0.mk (blk_below (g := gb213) (o := .cells #[.int .u64 0, .int .u64 0] 40 (0, 0)) (by refine blk_put (cs := #[.int .u64 0, .int .u64 0]) ?_ 1 _ rfl; refine blk_put (cs := #[.int .u64 0, .int .u64 0]) ?_ 0 _ rfl; refine blk_far ?_ NB213_212.out _; refine blk_far ?_ NB213_212.out _; exact BK213.out) hb); have n4_ := Aside0.mk (below_step (by repeat (first | (with_reducible first | exact HB.out | apply below_alloc | apply pw_below_drewN | apply below_drew1 | refine below_set ?_ GE210.out | refine below_set ?_ GE211.out | refine below_set ?_ GE212.out | refine below_set ?_ GE213.out) | exact HB.out)) hb); have n5_ := Aside0.mk (hbox); have n6_ := Aside0.mk ((by rw [hg]; exact (below_size (by repeat (first | (with_reducible first | exact HB.out | apply below_alloc | apply pw_below_drewN | apply below_drew1 | refine below_set ?_ GE210.out | refine below_set ?_ GE211.out | refine below_set ?_ GE212.out | refine below_set ?_ GE213.out) | exact HB.out))) : w.heap.size ≤ gb214)); have n7_ := Aside0.mk ((by rw [hg]; exact (below_size (by repeat (first | (with_reducible first | exact HB.out | apply below_alloc | apply pw_below_drewN | apply below_drew1 | refine below_set ?_ GE210.out | refine below_set ?_ GE211.out | refine below_set ?_ GE212.out | refine below_set ?_ GE213.out) | exact HB.out))) : w.heap.size ≤ gb214)); have n8_ := Aside0.mk ((by rw [hg]; exact Nat.ne_of_lt (blk_lt (g := gb210) (o := .cells #[.int .u64 a0_0, .int .u64 a0_1] 40 (0, 0)) (by refine blk_far ?_ NB210_213.out _; refine blk_far ?_ NB210_213.out _; refine blk_far ?_ NB210_212.out _; refine blk_far ?_ NB210_212.out _; exact BK210.out)) : gb210 ≠ gb214)); have n9_ := Aside0.mk ((by rw [hg]; exact Nat.ne_of_gt (blk_lt (g := gb210) (o := .cells #[.int .u64 a0_0, .int .u64 a0_1] 40 (0, 0)) (by refine blk_far ?_ NB210_213.out _; refine blk_far ?_ NB210_213.out _; refine blk_far ?_ NB210_212.out _; refine blk_far ?_ NB210_212.out _; exact BK210.out)) : gb214 ≠ gb210)); have n10_ := Aside0.mk ((by rw [hg]; exact Nat.ne_of_lt (blk_lt (g := gb211) (o := .cells #[.int .u64 0, .int .u64 0] 40 (0, 0)) (by refine blk_far ?_ NB211_213.out _; refine blk_far ?_ NB211_213.out _; refine blk_far ?_ NB211_212.out _; refine blk_far ?_ NB211_212.out _; exact BK211.out)) : gb211 ≠ gb214)); have n11_ := Aside0.mk ((by rw [hg]; exact Nat.ne_of_gt (blk_lt (g := gb211) (o := .cells #[.int .u64 0, .int .u64 0] 40 (0, 0)) (by refine blk_far ?_ NB211_213.out _; refine blk_far ?_ NB211_213.out _; refine blk_far ?_ NB211_212.out _; refine blk_far ?_ NB211_212.out _; exact BK211.out)) : gb214 ≠ gb211)); have n12_ := Aside0.mk ((by rw [hg]; exact Nat.ne_of_lt (blk_lt (g := gb212) (o := .cells #[.int .u64 0, .int .u64 0] 40 (0, 0)) (by refine blk_far ?_ NB212_213.out _; refine blk_far ?_ NB212_213.out _; refine blk_put (cs := #[.int .u64 0, .int .u64 0]) ?_ 1 _ rfl; refine blk_put (cs := #[.int .u64 0, .int .u64 0]) ?_ 0 _ rfl; exact BK212.out)) : gb212 ≠ gb214)); have n13_ := Aside0.mk ((by rw [hg]; exact Nat.ne_of_gt (blk_lt (g := gb212) (o := .cells #[.int .u64 0, .int .u64 0] 40 (0, 0)) (by refine blk_far ?_ NB212_213.out _; refine blk_far ?_ NB212_213.out _; refine blk_put (cs := #[.int .u64 0, .int .u64 0]) ?_ 1 _ rfl; refine blk_put (cs := #[.int .u64 0, .int .u64 0]) ?_ 0 _ rfl; exact BK212.out)) : gb214 ≠ gb212)); have n14_ := Aside0.mk ((by rw [hg]; exact Nat.ne_of_lt (blk_lt (g := gb213) (o := .cells #[.int .u64 0, .int .u64 0] 40 (0, 0)) (by refine blk_put (cs := #[.int .u64 0, .int .u64 0]) ?_ 1 _ rfl; refine blk_put (cs := #[.int .u64 0, .int .u64 0]) ?_ 0 _ rfl; refine blk_far ?_ NB213_212.out _; refine blk_far ?_ NB213_212.out _; exact BK213.out)) : gb213 ≠ gb214)); have n15_ := Aside0.mk ((by rw [hg]; exact Nat.ne_of_gt (blk_lt (g := gb213) (o := .cells #[.int .u64 0, .int .u64 0] 40 (0, 0)) (by refine blk_put (cs := #[.int .u64 0, .int .u64 0]) ?_ 1 _ rfl; refine blk_put (cs := #[.int .u64 0, .int .u64 0]) ?_ 0 _ rfl; refine blk_far ?_ NB213_212.out _; refine blk_far ?_ NB213_212.out _; exact BK213.out)) : gb214 ≠ gb213)); clear BK210; clear BK211; clear BK212; clear BK213; clear HB; have BK210 := n0_; have BK211 := n1_; have BK212 := n2_; have BK213 := n3_; have HB := n4_; have BK214 := n5_; have GW214 := n6_; have GE214 := n7_; have NB210_214 := n8_; have NB214_210 := n9_; have NB211_214 := n10_; have NB214_211 := n11_; have NB212_214 := n12_; have NB214_212 := n13_; have NB213_214 := n14_; have NB214_213 := n15_; clear n0_ n1_ n2_ n3_ n4_ n5_ n6_ n7_ n8_ n9_ n10_ n11_ n12_ n13_ n14_ n15_; clear hb hbox hg; have hnb20 := NB214_210.out; have hnc20 := NB210_214.out; have hnb21 := NB214_211.out; have hnc21 := NB211_214.out; have hnb22 := NB214_212.out; have hnc22 := NB212_214.out; have hnb23 := NB214_213.out; have hnc23 := NB213_214.out; have hcz24_0 : w19.cell? ⟨gb214, 0, none⟩ = some (.int .u64 0) := (blk_cell BK214.out 0).trans rfl; have hcz24_1 : w19.cell? ⟨gb214, 1, none⟩ = some (.int .u64 0) := (blk_cell BK214.out 1).trans rfl; have hfz24_0 := blk_frozen BK214.out 0; have hfz24_1 := blk_frozen BK214.out 1))
  go_loopg [9] k (fun kq v9 w' => ∃ (x9_1 : Int) (x213000_1 : Int) (x213001_1 : Int) (x214000_1 : Int) (x214001_1 : Int), v9 = .int .i64 x9_1 ∧ Aside0 (overfallref01_Div.l0 kq x9_1 a0_0 a0_1 x213000_1 x213001_1 x214000_1 x214001_1 0 a1 = some (r1, r2, r3)) ∧ Aside0 (kq ≤ k) ∧ Aside0 (w'.heap[gb210]? = some (.cells #[.int .u64 a0_0, .int .u64 a0_1] 40 (0, 0))) ∧ Aside0 (w'.heap[gb211]? = some (.cells #[.int .u64 0, .int .u64 0] 40 (0, 0))) ∧ Aside0 (w'.heap[gb212]? = some (.cells #[.int .u64 x213000_1, .int .u64 x213001_1] 40 (0, 0))) ∧ Aside0 (w'.heap[gb213]? = some (.cells #[.int .u64 x214000_1, .int .u64 x214001_1] 40 (0, 0))) ∧ Aside0 (w'.heap[gb214]? = some (.cells #[.int .u64 0, .int .u64 a1] 40 (0, 0))) ∧ Aside0 (Below w.heap.size w w'))
  case atStart => exact ⟨(127), (0), (0), (0), (0), (by first | rfl | (simp; done) | (simp [*]; done)), H', ⟨Nat.le_refl _⟩, ⟨by refine blk_far ?_ NB210_214.out _; refine blk_far ?_ NB210_214.out _; exact BK210.out⟩, ⟨by refine blk_far ?_ NB211_214.out _; refine blk_far ?_ NB211_214.out _; exact BK211.out⟩, ⟨by refine blk_far ?_ NB212_214.out _; refine blk_far ?_ NB212_214.out _; exact BK212.out⟩, ⟨by refine blk_far ?_ NB213_214.out _; refine blk_far ?_ NB213_214.out _; exact BK213.out⟩, ⟨by refine blk_put (cs := #[.int .u64 0, .int .u64 0]) ?_ 1 _ rfl; refine blk_put (cs := #[.int .u64 0, .int .u64 0]) ?_ 0 _ rfl; exact BK214.out⟩, ⟨by repeat (first | (with_reducible first | exact HB.out | apply below_alloc | apply pw_below_drewN | apply below_drew1 | refine below_set ?_ GE210.out | refine below_set ?_ GE211.out | refine below_set ?_ GE212.out | refine below_set ?_ GE213.out | refine below_set ?_ GE214.out) | exact HB.out)⟩⟩
  case round =>
   clear H'
   try clear c1
   try clear c2
   try clear p2
   try clear c3
   try clear c3b0
   try clear c3b1
   try clear c4
   try clear c6
   try clear c12
   try clear c13
   try clear c14
   try clear c16
   try clear c17
   try clear c20
   try clear c21
   try clear c22
   try clear c23
   try clear hcz15_0
   try clear hcz15_1
   try clear hcz18_0
   try clear hcz18_1
   try clear hcz24_0
   try clear hcz24_1
   try clear hcz7_0
   try clear hcz7_1
   try clear hfz15_0
   try clear hfz15_1
   try clear hfz18_0
   try clear hfz18_1
   try clear hfz24_0
   try clear hfz24_1
   try clear hfz7_0
   try clear hfz7_1
   obtain ⟨x9_1, x213000_1, x213001_1, x214000_1, x214001_1, rfl, HA, HK1, BK210, BK211, BK212, BK213, BK214, HB⟩ := hrel
   cases gk with
   | zero => exact absurd HA.out (by simp [overfallref01_Div.l0])
   | succ k1 =>
    have H := HA.out
    clear HA
    simp only [overfallref01_Div.l0] at H
    by_cases c25 : x9_1 ≥ 0
    ·rw [if_pos c25] at H
     have c25b0 : decide (0 ≤ x9_1) = true := decide_eq_true c25
     clear c25
     replace H := Option.bind_eq_some_iff.mp H
     obtain ⟨⟨t215, t216⟩, A260, H⟩ := H
     replace H : ((overfallref01_Twice.f k1 x214000_1 x214001_1).bind fun bt217 => ((overfallref01_Bit.f k1 a0_0 a0_1 x9_1).bind fun t219 => (if t219 = 1 then ((overfallref01_Add.f k1 bt217.1 bt217.2 0 1).bind fun bt220 => (overfallref01_Div.j1 k1 x9_1 a0_0 a0_1 t215 t216 bt220.1 bt220.2.1 0 a1)) else (overfallref01_Div.j1 k1 x9_1 a0_0 a0_1 t215 t216 bt217.1 bt217.2 0 a1)))) = some (r1, r2, r3) := H
     have A26 := Aside0.mk A260
     clear A260
     replace H := Option.bind_eq_some_iff.mp H
     obtain ⟨⟨t217, t218⟩, A270, H⟩ := H
     replace H : ((overfallref01_Bit.f k1 a0_0 a0_1 x9_1).bind fun t219 => (if t219 = 1 then ((overfallref01_Add.f k1 t217 t218 0 1).bind fun bt220 => (overfallref01_Div.j1 k1 x9_1 a0_0 a0_1 t215 t216 bt220.1 bt220.2.1 0 a1)) else (overfallref01_Div.j1 k1 x9_1 a0_0 a0_1 t215 t216 t217 t218 0 a1))) = some (r1, r2, r3) := H
     have A27 := Aside0.mk A270
     clear A270
     replace H := Option.bind_eq_some_iff.mp H
     obtain ⟨t219, A280, H⟩ := H
     replace H : (if t219 = 1 then ((overfallref01_Add.f k1 t217 t218 0 1).bind fun bt220 => (overfallref01_Div.j1 k1 x9_1 a0_0 a0_1 t215 t216 bt220.1 bt220.2.1 0 a1)) else (overfallref01_Div.j1 k1 x9_1 a0_0 a0_1 t215 t216 t217 t218 0 a1)) = some (r1, r2, r3) := H
     have A28 := Aside0.mk A280
     clear A280
     have HC29 := Aside0.mk H
     clear H
     try go_wp2
     have n0_ := Aside0.mk (blk_drew BK210.out)
     have n1_ := Aside0.mk (blk_drew BK211.out)
     have n2_ := Aside0.mk (blk_drew BK212.out)
     have n3_ := Aside0.mk (blk_drew BK213.out)
     have n4_ := Aside0.mk (blk_drew BK214.out)
     have n5_ := Aside0.mk (below_drew1 HB.out)
     clear BK210
     clear BK211
     clear BK212
     clear BK213
     clear BK214
     clear HB
     have BK210 := n0_
     have BK211 := n1_
     have BK212 := n2_
     have BK213 := n3_
     have BK214 := n4_
     have HB := n5_
     clear n0_ n1_ n2_ n3_ n4_ n5_
     refine start_ (n := 6) (S := fun w' => w'.cell? ⟨gb212, 0, none⟩ = some (.int .u64 x213000_1) ∧ w'.cell? ⟨gb212, 1, none⟩ = some (.int .u64 x213001_1) ∧ w'.cell? ⟨gb213, 0, none⟩ = some (.int .u64 x214000_1) ∧ w'.cell? ⟨gb213, 1, none⟩ = some (.int .u64 x214001_1)) (ds := [4, 5]) #[false, false, false, false, false, false] (by kernel_rfl) rfl rfl ⟨(blk_cell BK212.out 0).trans rfl, (blk_cell BK212.out 1).trans rfl, (blk_cell BK213.out 0).trans rfl, (blk_cell BK213.out 1).trans rfl⟩ (fun hHeld => ?_)
     generalize wr.drew = w30 at BK210 BK211 BK212 BK213 BK214 HB hHeld ⊢
     refine take_ (i := 0) (N := some 21) (v := ?_) (a' := ?_) #[true, false, false, false, false, false] rfl rfl (by kernel_rfl) (fun _ _ _ h => h) (Or.inl ⟨by rfl, ?_⟩) hHeld ?_ ?_
     rotate_left
     ·rintro w' ⟨s0, s1, s2, s3⟩
      go_simp
      with_reducible rfl
     rotate_left
     ·simp only [Act.put, List.setIfInBounds_toArray, List.set_cons_zero, List.set_cons_succ, i64_w, i32_w]
      rfl
     refine take_ (i := 2) (N := some 23) (v := ?_) (a' := ?_) #[true, false, true, false, false, false] rfl rfl (by kernel_rfl) (fun _ _ _ h => h) (Or.inl ⟨by rfl, ?_⟩) hHeld ?_ ?_
     rotate_left
     ·rintro w' ⟨s0, s1, s2, s3⟩
      go_simp
      with_reducible rfl
     rotate_left
     ·simp only [Act.put, List.setIfInBounds_toArray, List.set_cons_zero, List.set_cons_succ, i64_w, i32_w]
      rfl
     refine one_ (i := 1) (N := some 22) #[true, true, true, false, false, false] rfl rfl (by kernel_rfl) (by decide) (fun K hK => ?_)
     refine goes_ Try.func56 (by kernel_rfl) rfl #[.agg #[.int .u64 x213000_1, .int .u64 x213001_1]] (by rfl) rfl rfl (by (try simp only [List.map_toArray, List.map_cons, List.map_nil]); first | done | rfl | (simp only [List.length_drop, List.length_take]; rfl)) ?_
     with_reducible refine (overfallref01_Twice.calls k1 x213000_1 x213001_1 t215 t216 _ A26.out).mono ?_
     rintro e w31 ⟨rfl, hb⟩
     refine ⟨_, rfl, ?_⟩
     have n0_ := Aside0.mk (blk_below (by exact BK210.out) hb)
     have n1_ := Aside0.mk (blk_below (by exact BK211.out) hb)
     have n2_ := Aside0.mk (blk_below (by exact BK212.out) hb)
     have n3_ := Aside0.mk (blk_below (by exact BK213.out) hb)
     have n4_ := Aside0.mk (blk_below (by exact BK214.out) hb)
     have n5_ := Aside0.mk (below_step (by repeat (first | (with_reducible first | exact HB.out | apply below_alloc | apply pw_below_drewN | apply below_drew1 | refine below_set ?_ GE210.out | refine below_set ?_ GE211.out | refine below_set ?_ GE212.out | refine below_set ?_ GE213.out | refine below_set ?_ GE214.out) | exact HB.out)) hb)
     clear BK210
     clear BK211
     clear BK212
     clear BK213
     clear BK214
     clear HB
     have BK210 := n0_
     have BK211 := n1_
     have BK212 := n2_
     have BK213 := n3_
     have BK214 := n4_
     have HB := n5_
     clear n0_ n1_ n2_ n3_ n4_ n5_
     (try clear hb)
     (try clear hb2)
     (try clear hk)
     (try clear hi)
     refine hK.out _ _ ⟨(blk_cell BK212.out 0).trans rfl, (blk_cell BK212.out 1).trans rfl, (blk_cell BK213.out 0).trans rfl, (blk_cell BK213.out 1).trans rfl⟩ (fun hHeld => ?_)
     clear hK K
     refine norm_ (a' := ?_) ?_ ?_
     rotate_left
     ·show Act.put _ (some 22) _ = _
      simp only [Act.put, List.setIfInBounds_toArray, List.set_cons_zero, List.set_cons_succ, i64_w, i32_w]
      rfl
     refine one_ (i := 3) (N := some 24) #[true, true, true, true, false, false] rfl rfl (by kernel_rfl) (by decide) (fun K hK => ?_)
     refine goes_ Try.func56 (by kernel_rfl) rfl #[.agg #[.int .u64 x214000_1, .int .u64 x214001_1]] (by rfl) rfl rfl (by (try simp only [List.map_toArray, List.map_cons, List.map_nil]); first | done | rfl | (simp only [List.length_drop, List.length_take]; rfl)) ?_
     with_reducible refine (overfallref01_Twice.calls k1 x214000_1 x214001_1 t217 t218 _ A27.out).mono ?_
     rintro e w32 ⟨rfl, hb⟩
     refine ⟨_, rfl, ?_⟩
     have n0_ := Aside0.mk (blk_below (by exact BK210.out) hb)
     have n1_ := Aside0.mk (blk_below (by exact BK211.out) hb)
     have n2_ := Aside0.mk (blk_below (by exact BK212.out) hb)
     have n3_ := Aside0.mk (blk_below (by exact BK213.out) hb)
     have n4_ := Aside0.mk (blk_below (by exact BK214.out) hb)
     have n5_ := Aside0.mk (below_step (by repeat (first | (with_reducible first | exact HB.out | apply below_alloc | apply pw_below_drewN | apply below_drew1 | refine below_set ?_ GE210.out | refine below_set ?_ GE211.out | refine below_set ?_ GE212.out | refine below_set ?_ GE213.out | refine below_set ?_ GE214.out) | exact HB.out)) hb)
     clear BK210
     clear BK211
     clear BK212
     clear BK213
     clear BK214
     clear HB
     have BK210 := n0_
     have BK211 := n1_
     have BK212 := n2_
     have BK213 := n3_
     have BK214 := n4_
     have HB := n5_
     clear n0_ n1_ n2_ n3_ n4_ n5_
     (try clear hb)
     (try clear hb2)
     (try clear hk)
     (try clear hi)
     refine hK.out _ _ ⟨(blk_cell BK212.out 0).trans rfl, (blk_cell BK212.out 1).trans rfl, (blk_cell BK213.out 0).trans rfl, (blk_cell BK213.out 1).trans rfl⟩ (fun hHeld => ?_)
     clear hK K
     refine norm_ (a' := ?_) ?_ ?_
     rotate_left
     ·show Act.put _ (some 24) _ = _
      simp only [Act.put, List.setIfInBounds_toArray, List.set_cons_zero, List.set_cons_succ, i64_w, i32_w]
      rfl
     refine last_ (i := 4) (N := none) #[true, true, true, true, true, false] rfl rfl (by kernel_rfl) (by decide) (fun K hK => ?_)
     have hs33 : w32.cell? ⟨gb212, 0, none⟩ = some (.int .u64 x213000_1) := (blk_cell BK212.out 0).trans rfl
     have hfs33 := blk_frozen BK212.out 0
     have hns33_0 := NB210_212.out
     have hns33_1 := NB211_212.out
     have hns33_3 := NB213_212.out
     have hns33_4 := NB214_212.out
     have hms33_0 := NB212_210.out
     have hms33_1 := NB212_211.out
     have hms33_3 := NB212_213.out
     have hms33_4 := NB212_214.out
     have hs34 : w32.cell? ⟨gb212, 1, none⟩ = some (.int .u64 x213001_1) := (blk_cell BK212.out 1).trans rfl
     have hfs34 := blk_frozen BK212.out 1
     have hns34_0 := NB210_212.out
     have hns34_1 := NB211_212.out
     have hns34_3 := NB213_212.out
     have hns34_4 := NB214_212.out
     have hms34_0 := NB212_210.out
     have hms34_1 := NB212_211.out
     have hms34_3 := NB212_213.out
     have hms34_4 := NB212_214.out
     refine skip_ (w1 := ?_) (by rfl) rfl ?_ ?_
     rotate_left
     ·go_simp
      rfl
     refine hK.out _ _ ?_
     clear hK K
     refine last_ (i := 5) (N := none) #[true, true, true, true, true, true] rfl rfl (by kernel_rfl) (by decide) (fun K hK => ?_)
     have hs35 : w32.cell? ⟨gb213, 0, none⟩ = some (.int .u64 x214000_1) := (blk_cell BK213.out 0).trans rfl
     have hfs35 := blk_frozen BK213.out 0
     have hns35_0 := NB210_213.out
     have hns35_1 := NB211_213.out
     have hns35_2 := NB212_213.out
     have hns35_4 := NB214_213.out
     have hms35_0 := NB213_210.out
     have hms35_1 := NB213_211.out
     have hms35_2 := NB213_212.out
     have hms35_4 := NB213_214.out
     have hs36 : w32.cell? ⟨gb213, 1, none⟩ = some (.int .u64 x214001_1) := (blk_cell BK213.out 1).trans rfl
     have hfs36 := blk_frozen BK213.out 1
     have hns36_0 := NB210_213.out
     have hns36_1 := NB211_213.out
     have hns36_2 := NB212_213.out
     have hns36_4 := NB214_213.out
     have hms36_0 := NB213_210.out
     have hms36_1 := NB213_211.out
     have hms36_2 := NB213_212.out
     have hms36_4 := NB213_214.out
     refine skip_ (w1 := ?_) (by rfl) rfl ?_ ?_
     rotate_left
     ·go_simp
      rfl
     refine hK.out _ _ ?_
     clear hK K
     refine done_ (by kernel_rfl) ?_
     have hnb37 := NB210_211.out
     have hnc37 := NB211_210.out
     have hnb38 := NB210_212.out
     have hnc38 := NB212_210.out
     have hnb39 := NB210_213.out
     have hnc39 := NB213_210.out
     have hnb40 := NB210_214.out
     have hnc40 := NB214_210.out
     have hcz41_0 : w32.cell? ⟨gb210, 0, none⟩ = some (.int .u64 a0_0) := (blk_cell BK210.out 0).trans rfl
     have hcz41_1 : w32.cell? ⟨gb210, 1, none⟩ = some (.int .u64 a0_1) := (blk_cell BK210.out 1).trans rfl
     have hfz41_0 := blk_frozen BK210.out 0
     have hfz41_1 := blk_frozen BK210.out 1
     go_upto_if 28 with (first | ((with_reducible refine gate_callee (f := 57) rfl ?_); refine goesL_ (some 27) rfl rfl Try.func57 (by kernel_rfl) rfl #[.agg #[.int .u64 a0_0, .int .u64 a0_1], .int .i64 x9_1] rfl (by (try simp only [List.map_toArray, List.map_cons, List.map_nil]); first | done | rfl | (simp only [List.length_drop, List.length_take]; rfl)) ?_; (with_reducible refine (overfallref01_Bit.calls k1 a0_0 a0_1 x9_1 t219 _ A28.out).mono ?_); rintro e w42 ⟨rfl, hb⟩; refine ⟨_, rfl, ?_⟩; have n0_ := Aside0.mk (blk_below (g := gb210) (o := .cells #[.int .u64 a0_0, .int .u64 a0_1] 40 (0, 0)) (by refine blk_far ?_ NB210_213.out _; refine blk_far ?_ NB210_213.out _; refine blk_far ?_ NB210_212.out _; refine blk_far ?_ NB210_212.out _; exact BK210.out) hb); have n1_ := Aside0.mk (blk_below (g := gb211) (o := .cells #[.int .u64 0, .int .u64 0] 40 (0, 0)) (by refine blk_far ?_ NB211_213.out _; refine blk_far ?_ NB211_213.out _; refine blk_far ?_ NB211_212.out _; refine blk_far ?_ NB211_212.out _; exact BK211.out) hb); have n2_ := Aside0.mk (blk_below (g := gb212) (o := .cells #[.int .u64 t215, .int .u64 t216] 40 (0, 0)) (by refine blk_far ?_ NB212_213.out _; refine blk_far ?_ NB212_213.out _; refine blk_put (cs := #[.int .u64 t215, .int .u64 x213001_1]) ?_ 1 _ rfl; refine blk_put (cs := #[.int .u64 x213000_1, .int .u64 x213001_1]) ?_ 0 _ rfl; exact BK212.out) hb); have n3_ := Aside0.mk (blk_below (g := gb213) (o := .cells #[.int .u64 t217, .int .u64 t218] 40 (0, 0)) (by refine blk_put (cs := #[.int .u64 t217, .int .u64 x214001_1]) ?_ 1 _ rfl; refine blk_put (cs := #[.int .u64 x214000_1, .int .u64 x214001_1]) ?_ 0 _ rfl; refine blk_far ?_ NB213_212.out _; refine blk_far ?_ NB213_212.out _; exact BK213.out) hb); have n4_ := Aside0.mk (blk_below (g := gb214) (o := .cells #[.int .u64 0, .int .u64 a1] 40 (0, 0)) (by refine blk_far ?_ NB214_213.out _; refine blk_far ?_ NB214_213.out _; refine blk_far ?_ NB214_212.out _; refine blk_far ?_ NB214_212.out _; exact BK214.out) hb); have n5_ := Aside0.mk (below_step (by repeat (first | (with_reducible first | exact HB.out | apply below_alloc | apply pw_below_drewN | apply below_drew1 | refine below_set ?_ GE210.out | refine below_set ?_ GE211.out | refine below_set ?_ GE212.out | refine below_set ?_ GE213.out | refine below_set ?_ GE214.out) | exact HB.out)) hb); clear BK210; clear BK211; clear BK212; clear BK213; clear BK214; clear HB; have BK210 := n0_; have BK211 := n1_; have BK212 := n2_; have BK213 := n3_; have BK214 := n4_; have HB := n5_; clear n0_ n1_ n2_ n3_ n4_ n5_; (try clear hb); (try clear hb2); (try clear hk); (try clear hi)))
     (try simp only [Act.put, List.setIfInBounds_toArray, List.set_cons_zero, List.set_cons_succ])
     go_cut [] (fun wc => ∃ (kq : Nat) (x214000_28 : Int) (x214001_28 : Int), Aside0 (overfallref01_Div.j1 kq x9_1 a0_0 a0_1 t215 t216 x214000_28 x214001_28 0 a1 = some (r1, r2, r3)) ∧ Aside0 (kq ≤ k1) ∧ Aside0 (wc.heap[gb210]? = some (.cells #[.int .u64 a0_0, .int .u64 a0_1] 40 (0, 0))) ∧ Aside0 (wc.heap[gb211]? = some (.cells #[.int .u64 0, .int .u64 0] 40 (0, 0))) ∧ Aside0 (wc.heap[gb212]? = some (.cells #[.int .u64 t215, .int .u64 t216] 40 (0, 0))) ∧ Aside0 (wc.heap[gb213]? = some (.cells #[.int .u64 x214000_28, .int .u64 x214001_28] 40 (0, 0))) ∧ Aside0 (wc.heap[gb214]? = some (.cells #[.int .u64 0, .int .u64 a1] 40 (0, 0))) ∧ Aside0 (Below w.heap.size w wc))
     case first =>
      have H := HC29.out
      clear HC29
      by_cases c43 : t219 = 1
      ·rw [if_pos c43] at H
       have c43b0 : (t219 == 1) = true := beq_iff_eq.mpr c43
       have c43b1 : (t219 != 1) = false := bne_eq_false_iff_eq.mpr c43
       clear c43
       (first | rw [c43b0] | (simp only [i64_w, i32_w]; rw [c43b0]) | skip)
       replace H := Option.bind_eq_some_iff.mp H
       obtain ⟨⟨t220, t221, t222⟩, A440, H⟩ := H
       replace H : (overfallref01_Div.j1 k1 x9_1 a0_0 a0_1 t215 t216 t220 t221 0 a1) = some (r1, r2, r3) := H
       have A44 := Aside0.mk A440
       clear A440
       have H' := Aside0.mk H
       clear H
       have hnb45 := NB213_210.out
       have hnc45 := NB210_213.out
       have hnb46 := NB213_211.out
       have hnc46 := NB211_213.out
       have hnb47 := NB213_212.out
       have hnc47 := NB212_213.out
       have hnb48 := NB213_214.out
       have hnc48 := NB214_213.out
       have hcz49_0 : w42.cell? ⟨gb213, 0, none⟩ = some (.int .u64 t217) := (blk_cell BK213.out 0).trans rfl
       have hcz49_1 : w42.cell? ⟨gb213, 1, none⟩ = some (.int .u64 t218) := (blk_cell BK213.out 1).trans rfl
       have hfz49_0 := blk_frozen BK213.out 0
       have hfz49_1 := blk_frozen BK213.out 1
       go_wp2_with (first | ((with_reducible refine gate_callee (f := 47) rfl ?_); refine goesL_ (some 32) rfl rfl Try.func47 (by kernel_rfl) rfl #[.agg #[.int .u64 t217, .int .u64 t218], .agg #[.int .u64 0, .int .u64 1]] rfl (by (try simp only [List.map_toArray, List.map_cons, List.map_nil]); first | done | rfl | (simp only [List.length_drop, List.length_take]; rfl)) ?_; (with_reducible refine (overfallref01_Add.calls k1 t217 t218 0 1 t220 t221 t222 _ A44.out).mono ?_); rintro e w50 ⟨rfl, hb⟩; refine ⟨_, rfl, ?_⟩; have n0_ := Aside0.mk (blk_below (by exact BK210.out) hb); have n1_ := Aside0.mk (blk_below (by exact BK211.out) hb); have n2_ := Aside0.mk (blk_below (by exact BK212.out) hb); have n3_ := Aside0.mk (blk_below (by exact BK213.out) hb); have n4_ := Aside0.mk (blk_below (by exact BK214.out) hb); have n5_ := Aside0.mk (below_step (by repeat (first | (with_reducible first | exact HB.out | apply below_alloc | apply pw_below_drewN | apply below_drew1 | refine below_set ?_ GE210.out | refine below_set ?_ GE211.out | refine below_set ?_ GE212.out | refine below_set ?_ GE213.out | refine below_set ?_ GE214.out) | exact HB.out)) hb); clear BK210; clear BK211; clear BK212; clear BK213; clear BK214; clear HB; have BK210 := n0_; have BK211 := n1_; have BK212 := n2_; have BK213 := n3_; have BK214 := n4_; have HB := n5_; clear n0_ n1_ n2_ n3_ n4_ n5_; (try clear hb); (try clear hb2); (try clear hk); (try clear hi); have hcz51_0 : w50.cell? ⟨gb213, 0, none⟩ = some (.int .u64 t217) := (blk_cell BK213.out 0).trans rfl; have hcz51_1 : w50.cell? ⟨gb213, 1, none⟩ = some (.int .u64 t218) := (blk_cell BK213.out 1).trans rfl; have hfz51_0 := blk_frozen BK213.out 0; have hfz51_1 := blk_frozen BK213.out 1))
       go_meet
       case rel => exact ⟨_, (t220), (t221), H', ⟨by have := HK1.out; first | omega | exact Nat.le_refl _⟩, ⟨by refine blk_far ?_ NB210_213.out _; refine blk_far ?_ NB210_213.out _; exact BK210.out⟩, ⟨by refine blk_far ?_ NB211_213.out _; refine blk_far ?_ NB211_213.out _; exact BK211.out⟩, ⟨by refine blk_far ?_ NB212_213.out _; refine blk_far ?_ NB212_213.out _; exact BK212.out⟩, ⟨by refine blk_put (cs := #[.int .u64 t220, .int .u64 t218]) ?_ 1 _ rfl; refine blk_put (cs := #[.int .u64 t217, .int .u64 t218]) ?_ 0 _ rfl; exact BK213.out⟩, ⟨by refine blk_far ?_ NB214_213.out _; refine blk_far ?_ NB214_213.out _; exact BK214.out⟩, ⟨by repeat (first | (with_reducible first | exact HB.out | apply below_alloc | apply pw_below_drewN | apply below_drew1 | refine below_set ?_ GE210.out | refine below_set ?_ GE211.out | refine below_set ?_ GE212.out | refine below_set ?_ GE213.out | refine below_set ?_ GE214.out) | exact HB.out)⟩⟩
      ·rw [if_neg c43] at H
       have c43b0 : (t219 == 1) = false := beq_eq_false_iff_ne.mpr c43
       have c43b1 : (t219 != 1) = true := bne_iff_ne.mpr c43
       (first | rw [c43b0] | (simp only [i64_w, i32_w]; rw [c43b0]) | skip)
       have H' := Aside0.mk H
       clear H
       go_wp2
       go_meet
       case rel => exact ⟨_, (t217), (t218), H', ⟨by have := HK1.out; first | omega | exact Nat.le_refl _⟩, ⟨by exact BK210.out⟩, ⟨by exact BK211.out⟩, ⟨by exact BK212.out⟩, ⟨by exact BK213.out⟩, ⟨by exact BK214.out⟩, ⟨by repeat (first | (with_reducible first | exact HB.out | apply below_alloc | apply pw_below_drewN | apply below_drew1 | refine below_set ?_ GE210.out | refine below_set ?_ GE211.out | refine below_set ?_ GE212.out | refine below_set ?_ GE213.out | refine below_set ?_ GE214.out) | exact HB.out)⟩⟩
     case rest =>
      clear HC29
      try clear c1
      try clear c2
      try clear p2
      try clear c3
      try clear c3b0
      try clear c3b1
      try clear c4
      try clear c5
      try clear c6
      try clear c12
      try clear c13
      try clear c14
      try clear c16
      try clear c17
      try clear c20
      try clear c21
      try clear c22
      try clear c23
      try clear c25
      try clear c25b0
      try clear c37
      try clear c38
      try clear c39
      try clear c40
      try clear c43
      try clear c43b0
      try clear c43b1
      try clear c45
      try clear c46
      try clear c47
      try clear c48
      try clear hcz15_0
      try clear hcz15_1
      try clear hcz18_0
      try clear hcz18_1
      try clear hcz24_0
      try clear hcz24_1
      try clear hcz41_0
      try clear hcz41_1
      try clear hcz49_0
      try clear hcz49_1
      try clear hcz51_0
      try clear hcz51_1
      try clear hcz7_0
      try clear hcz7_1
      try clear hfz15_0
      try clear hfz15_1
      try clear hfz18_0
      try clear hfz18_1
      try clear hfz24_0
      try clear hfz24_1
      try clear hfz41_0
      try clear hfz41_1
      try clear hfz49_0
      try clear hfz49_1
      try clear hfz51_0
      try clear hfz51_1
      try clear hfz7_0
      try clear hfz7_1
      try clear p2
      (try clear BK210); (try clear BK211); (try clear BK212); (try clear BK213); (try clear BK214); (try clear HB)
      obtain ⟨kq, x214000_28, x214001_28, HA, HJ28, BK210, BK211, BK212, BK213, BK214, HB⟩ := hcut
      cases kq with
      | zero => exact absurd HA.out (by simp [overfallref01_Div.j1])
      | succ kj28 =>
       have H := HA.out
       clear HA
       simp only [overfallref01_Div.j1] at H
       replace H := Option.bind_eq_some_iff.mp H
       obtain ⟨t223, A520, H⟩ := H
       replace H : (if t223 = true then (overfallref01_Div.l0 kj28 (wrap64 (x9_1 - 1)) a0_0 a0_1 t215 t216 x214000_28 x214001_28 0 a1) else ((overfallref01_Sub.f kj28 x214000_28 x214001_28 0 a1).bind fun bt224 => ((overfallref01_Add.f kj28 t215 t216 0 1).bind fun bt227 => (overfallref01_Div.l0 kj28 (wrap64 (x9_1 - 1)) a0_0 a0_1 bt227.1 bt227.2.1 bt224.1 bt224.2.1 0 a1)))) = some (r1, r2, r3) := H
       have A52 := Aside0.mk A520
       clear A520
       by_cases c53 : t223 = true
       ·subst c53
        have H1 : (overfallref01_Div.l0 kj28 (wrap64 (x9_1 - 1)) a0_0 a0_1 t215 t216 x214000_28 x214001_28 0 a1) = some (r1, r2, r3) := by rw [if_pos rfl] at H; exact H
        clear H
        have H := H1
        clear H1
        have H' := Aside0.mk H
        clear H
        have hnb54 := NB213_210.out
        have hnc54 := NB210_213.out
        have hnb55 := NB213_211.out
        have hnc55 := NB211_213.out
        have hnb56 := NB213_212.out
        have hnc56 := NB212_213.out
        have hnb57 := NB213_214.out
        have hnc57 := NB214_213.out
        have hcz58_0 : wc.cell? ⟨gb213, 0, none⟩ = some (.int .u64 x214000_28) := (blk_cell BK213.out 0).trans rfl
        have hcz58_1 : wc.cell? ⟨gb213, 1, none⟩ = some (.int .u64 x214001_28) := (blk_cell BK213.out 1).trans rfl
        have hfz58_0 := blk_frozen BK213.out 0
        have hfz58_1 := blk_frozen BK213.out 1
        have hnb59 := NB214_210.out
        have hnc59 := NB210_214.out
        have hnb60 := NB214_211.out
        have hnc60 := NB211_214.out
        have hnb61 := NB214_212.out
        have hnc61 := NB212_214.out
        have hcz62_0 : wc.cell? ⟨gb214, 0, none⟩ = some (.int .u64 0) := (blk_cell BK214.out 0).trans rfl
        have hcz62_1 : wc.cell? ⟨gb214, 1, none⟩ = some (.int .u64 a1) := (blk_cell BK214.out 1).trans rfl
        have hfz62_0 := blk_frozen BK214.out 0
        have hfz62_1 := blk_frozen BK214.out 1
        go_wp2_with (first | ((with_reducible refine gate_callee (f := 48) rfl ?_); refine goesL_ (some 37) rfl rfl Try.func48 (by kernel_rfl) rfl #[.agg #[.int .u64 x214000_28, .int .u64 x214001_28], .agg #[.int .u64 0, .int .u64 a1]] rfl (by (try simp only [List.map_toArray, List.map_cons, List.map_nil]); first | done | rfl | (simp only [List.length_drop, List.length_take]; rfl)) ?_; (with_reducible refine (overfallref01_Less.calls x214000_28 x214001_28 0 a1 true _ A52.out).mono ?_); rintro e w63 ⟨rfl, hb⟩; refine ⟨_, rfl, ?_⟩; have n0_ := Aside0.mk (blk_below (by exact BK210.out) hb); have n1_ := Aside0.mk (blk_below (by exact BK211.out) hb); have n2_ := Aside0.mk (blk_below (by exact BK212.out) hb); have n3_ := Aside0.mk (blk_below (by exact BK213.out) hb); have n4_ := Aside0.mk (blk_below (by exact BK214.out) hb); have n5_ := Aside0.mk (below_step (by repeat (first | (with_reducible first | exact HB.out | apply below_alloc | apply pw_below_drewN | apply below_drew1 | refine below_set ?_ GE210.out | refine below_set ?_ GE211.out | refine below_set ?_ GE212.out | refine below_set ?_ GE213.out | refine below_set ?_ GE214.out) | exact HB.out)) hb); clear BK210; clear BK211; clear BK212; clear BK213; clear BK214; clear HB; have BK210 := n0_; have BK211 := n1_; have BK212 := n2_; have BK213 := n3_; have BK214 := n4_; have HB := n5_; clear n0_ n1_ n2_ n3_ n4_ n5_; (try clear hb); (try clear hb2); (try clear hk); (try clear hi)))
        go_roundg kj28
        case measure => have := HK1.out; have := HJ28.out; omega
        case rel => exact ⟨(wrap64 (x9_1 - 1)), (t215), (t216), (x214000_28), (x214001_28), (by first | rfl | (simp; done) | (simp [*]; done)), H', ⟨by have := HK1.out; have := HJ28.out; omega⟩, ⟨by exact BK210.out⟩, ⟨by exact BK211.out⟩, ⟨by exact BK212.out⟩, ⟨by exact BK213.out⟩, ⟨by exact BK214.out⟩, ⟨by repeat (first | (with_reducible first | exact HB.out | apply below_alloc | apply pw_below_drewN | apply below_drew1 | refine below_set ?_ GE210.out | refine below_set ?_ GE211.out | refine below_set ?_ GE212.out | refine below_set ?_ GE213.out | refine below_set ?_ GE214.out) | exact HB.out)⟩⟩
       ·replace c53 := Bool.eq_false_iff.mpr c53
        subst c53
        have H1 : ((overfallref01_Sub.f kj28 x214000_28 x214001_28 0 a1).bind fun bt224 => ((overfallref01_Add.f kj28 t215 t216 0 1).bind fun bt227 => (overfallref01_Div.l0 kj28 (wrap64 (x9_1 - 1)) a0_0 a0_1 bt227.1 bt227.2.1 bt224.1 bt224.2.1 0 a1))) = some (r1, r2, r3) := by rw [if_neg (show ¬ (false = true) by decide)] at H; exact H
        clear H
        have H := H1
        clear H1
        replace H := Option.bind_eq_some_iff.mp H
        obtain ⟨⟨t224, t225, t226⟩, A640, H⟩ := H
        replace H : ((overfallref01_Add.f kj28 t215 t216 0 1).bind fun bt227 => (overfallref01_Div.l0 kj28 (wrap64 (x9_1 - 1)) a0_0 a0_1 bt227.1 bt227.2.1 t224 t225 0 a1)) = some (r1, r2, r3) := H
        have A64 := Aside0.mk A640
        clear A640
        replace H := Option.bind_eq_some_iff.mp H
        obtain ⟨⟨t227, t228, t229⟩, A650, H⟩ := H
        replace H : (overfallref01_Div.l0 kj28 (wrap64 (x9_1 - 1)) a0_0 a0_1 t227 t228 t224 t225 0 a1) = some (r1, r2, r3) := H
        have A65 := Aside0.mk A650
        clear A650
        have H' := Aside0.mk H
        clear H
        have hnb66 := NB213_210.out
        have hnc66 := NB210_213.out
        have hnb67 := NB213_211.out
        have hnc67 := NB211_213.out
        have hnb68 := NB213_212.out
        have hnc68 := NB212_213.out
        have hnb69 := NB213_214.out
        have hnc69 := NB214_213.out
        have hcz70_0 : wc.cell? ⟨gb213, 0, none⟩ = some (.int .u64 x214000_28) := (blk_cell BK213.out 0).trans rfl
        have hcz70_1 : wc.cell? ⟨gb213, 1, none⟩ = some (.int .u64 x214001_28) := (blk_cell BK213.out 1).trans rfl
        have hfz70_0 := blk_frozen BK213.out 0
        have hfz70_1 := blk_frozen BK213.out 1
        have hnb71 := NB214_210.out
        have hnc71 := NB210_214.out
        have hnb72 := NB214_211.out
        have hnc72 := NB211_214.out
        have hnb73 := NB214_212.out
        have hnc73 := NB212_214.out
        have hcz74_0 : wc.cell? ⟨gb214, 0, none⟩ = some (.int .u64 0) := (blk_cell BK214.out 0).trans rfl
        have hcz74_1 : wc.cell? ⟨gb214, 1, none⟩ = some (.int .u64 a1) := (blk_cell BK214.out 1).trans rfl
        have hfz74_0 := blk_frozen BK214.out 0
        have hfz74_1 := blk_frozen BK214.out 1
        go_wp2_with (first | ((with_reducible refine gate_callee (f := 48) rfl ?_); refine goesL_ (some 37) rfl rfl Try.func48 (by kernel_rfl) rfl #[.agg #[.int .u64 x214000_28, .int .u64 x214001_28], .agg #[.int .u64 0, .int .u64 a1]] rfl (by (try simp only [List.map_toArray, List.map_cons, List.map_nil]); first | done | rfl | (simp only [List.length_drop, List.length_take]; rfl)) ?_; (with_reducible refine (overfallref01_Less.calls x214000_28 x214001_28 0 a1 false _ A52.out).mono ?_); rintro e w75 ⟨rfl, hb⟩; refine ⟨_, rfl, ?_⟩; have n0_ := Aside0.mk (blk_below (by exact BK210.out) hb); have n1_ := Aside0.mk (blk_below (by exact BK211.out) hb); have n2_ := Aside0.mk (blk_below (by exact BK212.out) hb); have n3_ := Aside0.mk (blk_below (by exact BK213.out) hb); have n4_ := Aside0.mk (blk_below (by exact BK214.out) hb); have n5_ := Aside0.mk (below_step (by repeat (first | (with_reducible first | exact HB.out | apply below_alloc | apply pw_below_drewN | apply below_drew1 | refine below_set ?_ GE210.out | refine below_set ?_ GE211.out | refine below_set ?_ GE212.out | refine below_set ?_ GE213.out | refine below_set ?_ GE214.out) | exact HB.out)) hb); clear BK210; clear BK211; clear BK212; clear BK213; clear BK214; clear HB; have BK210 := n0_; have BK211 := n1_; have BK212 := n2_; have BK213 := n3_; have BK214 := n4_; have HB := n5_; clear n0_ n1_ n2_ n3_ n4_ n5_; (try clear hb); (try clear hb2); (try clear hk); (try clear hi); have hcz76_0 : w75.cell? ⟨gb213, 0, none⟩ = some (.int .u64 x214000_28) := (blk_cell BK213.out 0).trans rfl; have hcz76_1 : w75.cell? ⟨gb213, 1, none⟩ = some (.int .u64 x214001_28) := (blk_cell BK213.out 1).trans rfl; have hfz76_0 := blk_frozen BK213.out 0; have hfz76_1 := blk_frozen BK213.out 1; have hcz77_0 : w75.cell? ⟨gb214, 0, none⟩ = some (.int .u64 0) := (blk_cell BK214.out 0).trans rfl; have hcz77_1 : w75.cell? ⟨gb214, 1, none⟩ = some (.int .u64 a1) := (blk_cell BK214.out 1).trans rfl; have hfz77_0 := blk_frozen BK214.out 0; have hfz77_1 := blk_frozen BK214.out 1) | ((with_reducible refine gate_callee (f := 49) rfl ?_); refine goesL_ (some 42) rfl rfl Try.func49 (by kernel_rfl) rfl #[.agg #[.int .u64 x214000_28, .int .u64 x214001_28], .agg #[.int .u64 0, .int .u64 a1]] rfl (by (try simp only [List.map_toArray, List.map_cons, List.map_nil]); first | done | rfl | (simp only [List.length_drop, List.length_take]; rfl)) ?_; (with_reducible refine (overfallref01_Sub.calls kj28 x214000_28 x214001_28 0 a1 t224 t225 t226 _ A64.out).mono ?_); rintro e w78 ⟨rfl, hb⟩; refine ⟨_, rfl, ?_⟩; have n0_ := Aside0.mk (blk_below (by exact BK210.out) hb); have n1_ := Aside0.mk (blk_below (by exact BK211.out) hb); have n2_ := Aside0.mk (blk_below (by exact BK212.out) hb); have n3_ := Aside0.mk (blk_below (by exact BK213.out) hb); have n4_ := Aside0.mk (blk_below (by exact BK214.out) hb); have n5_ := Aside0.mk (below_step (by repeat (first | (with_reducible first | exact HB.out | apply below_alloc | apply pw_below_drewN | apply below_drew1 | refine below_set ?_ GE210.out | refine below_set ?_ GE211.out | refine below_set ?_ GE212.out | refine below_set ?_ GE213.out | refine below_set ?_ GE214.out) | exact HB.out)) hb); clear BK210; clear BK211; clear BK212; clear BK213; clear BK214; clear HB; have BK210 := n0_; have BK211 := n1_; have BK212 := n2_; have BK213 := n3_; have BK214 := n4_; have HB := n5_; clear n0_ n1_ n2_ n3_ n4_ n5_; (try clear hb); (try clear hb2); (try clear hk); (try clear hi); have hcz79_0 : w78.cell? ⟨gb213, 0, none⟩ = some (.int .u64 x214000_28) := (blk_cell BK213.out 0).trans rfl; have hcz79_1 : w78.cell? ⟨gb213, 1, none⟩ = some (.int .u64 x214001_28) := (blk_cell BK213.out 1).trans rfl; have hfz79_0 := blk_frozen BK213.out 0; have hfz79_1 := blk_frozen BK213.out 1; have hnb80 := NB212_210.out; have hnc80 := NB210_212.out; have hnb81 := NB212_211.out; have hnc81 := NB211_212.out; have hcz82_0 : w78.cell? ⟨gb212, 0, none⟩ = some (.int .u64 t215) := (blk_cell BK212.out 0).trans rfl; have hcz82_1 : w78.cell? ⟨gb212, 1, none⟩ = some (.int .u64 t216) := (blk_cell BK212.out 1).trans rfl; have hfz82_0 := blk_frozen BK212.out 0; have hfz82_1 := blk_frozen BK212.out 1) | ((with_reducible refine gate_callee (f := 47) rfl ?_); refine goesL_ (some 48) rfl rfl Try.func47 (by kernel_rfl) rfl #[.agg #[.int .u64 t215, .int .u64 t216], .agg #[.int .u64 0, .int .u64 1]] rfl (by (try simp only [List.map_toArray, List.map_cons, List.map_nil]); first | done | rfl | (simp only [List.length_drop, List.length_take]; rfl)) ?_; (with_reducible refine (overfallref01_Add.calls kj28 t215 t216 0 1 t227 t228 t229 _ A65.out).mono ?_); rintro e w83 ⟨rfl, hb⟩; refine ⟨_, rfl, ?_⟩; have n0_ := Aside0.mk (blk_below (g := gb210) (o := .cells #[.int .u64 a0_0, .int .u64 a0_1] 40 (0, 0)) (by refine blk_far ?_ NB210_213.out _; refine blk_far ?_ NB210_213.out _; exact BK210.out) hb); have n1_ := Aside0.mk (blk_below (g := gb211) (o := .cells #[.int .u64 0, .int .u64 0] 40 (0, 0)) (by refine blk_far ?_ NB211_213.out _; refine blk_far ?_ NB211_213.out _; exact BK211.out) hb); have n2_ := Aside0.mk (blk_below (g := gb212) (o := .cells #[.int .u64 t215, .int .u64 t216] 40 (0, 0)) (by refine blk_far ?_ NB212_213.out _; refine blk_far ?_ NB212_213.out _; exact BK212.out) hb); have n3_ := Aside0.mk (blk_below (g := gb213) (o := .cells #[.int .u64 t224, .int .u64 t225] 40 (0, 0)) (by refine blk_put (cs := #[.int .u64 t224, .int .u64 x214001_28]) ?_ 1 _ rfl; refine blk_put (cs := #[.int .u64 x214000_28, .int .u64 x214001_28]) ?_ 0 _ rfl; exact BK213.out) hb); have n4_ := Aside0.mk (blk_below (g := gb214) (o := .cells #[.int .u64 0, .int .u64 a1] 40 (0, 0)) (by refine blk_far ?_ NB214_213.out _; refine blk_far ?_ NB214_213.out _; exact BK214.out) hb); have n5_ := Aside0.mk (below_step (by repeat (first | (with_reducible first | exact HB.out | apply below_alloc | apply pw_below_drewN | apply below_drew1 | refine below_set ?_ GE210.out | refine below_set ?_ GE211.out | refine below_set ?_ GE212.out | refine below_set ?_ GE213.out | refine below_set ?_ GE214.out) | exact HB.out)) hb); clear BK210; clear BK211; clear BK212; clear BK213; clear BK214; clear HB; have BK210 := n0_; have BK211 := n1_; have BK212 := n2_; have BK213 := n3_; have BK214 := n4_; have HB := n5_; clear n0_ n1_ n2_ n3_ n4_ n5_; (try clear hb); (try clear hb2); (try clear hk); (try clear hi); have hcz84_0 : w83.cell? ⟨gb212, 0, none⟩ = some (.int .u64 t215) := (blk_cell BK212.out 0).trans rfl; have hcz84_1 : w83.cell? ⟨gb212, 1, none⟩ = some (.int .u64 t216) := (blk_cell BK212.out 1).trans rfl; have hfz84_0 := blk_frozen BK212.out 0; have hfz84_1 := blk_frozen BK212.out 1))
        go_roundg kj28
        case measure => have := HK1.out; have := HJ28.out; omega
        case rel => exact ⟨(wrap64 (x9_1 - 1)), (t227), (t228), (t224), (t225), (by first | rfl | (simp; done) | (simp [*]; done)), H', ⟨by have := HK1.out; have := HJ28.out; omega⟩, ⟨by refine blk_far ?_ NB210_212.out _; refine blk_far ?_ NB210_212.out _; exact BK210.out⟩, ⟨by refine blk_far ?_ NB211_212.out _; refine blk_far ?_ NB211_212.out _; exact BK211.out⟩, ⟨by refine blk_put (cs := #[.int .u64 t227, .int .u64 t216]) ?_ 1 _ rfl; refine blk_put (cs := #[.int .u64 t215, .int .u64 t216]) ?_ 0 _ rfl; exact BK212.out⟩, ⟨by refine blk_far ?_ NB213_212.out _; refine blk_far ?_ NB213_212.out _; exact BK213.out⟩, ⟨by refine blk_far ?_ NB214_212.out _; refine blk_far ?_ NB214_212.out _; exact BK214.out⟩, ⟨by repeat (first | (with_reducible first | exact HB.out | apply below_alloc | apply pw_below_drewN | apply below_drew1 | refine below_set ?_ GE210.out | refine below_set ?_ GE211.out | refine below_set ?_ GE212.out | refine below_set ?_ GE213.out | refine below_set ?_ GE214.out) | exact HB.out)⟩⟩
    ·rw [if_neg c25] at H
     have c25b0 : decide (0 ≤ x9_1) = false := decide_eq_false c25
     clear c25
     simp only [Option.some.injEq, Prod.mk.injEq] at H
     obtain ⟨rfl, rfl, rfl⟩ := H
     try go_wp2
     have n0_ := Aside0.mk (blk_drew BK210.out)
     have n1_ := Aside0.mk (blk_drew BK211.out)
     have n2_ := Aside0.mk (blk_drew BK212.out)
     have n3_ := Aside0.mk (blk_drew BK213.out)
     have n4_ := Aside0.mk (blk_drew BK214.out)
     have n5_ := Aside0.mk (below_drew1 HB.out)
     clear BK210
     clear BK211
     clear BK212
     clear BK213
     clear BK214
     clear HB
     have BK210 := n0_
     have BK211 := n1_
     have BK212 := n2_
     have BK213 := n3_
     have BK214 := n4_
     have HB := n5_
     clear n0_ n1_ n2_ n3_ n4_ n5_
     refine start_ (n := 5) (S := fun w' => w'.cell? ⟨gb212, 0, none⟩ = some (.int .u64 x213000_1) ∧ w'.cell? ⟨gb212, 1, none⟩ = some (.int .u64 x213001_1) ∧ w'.cell? ⟨gb213, 0, none⟩ = some (.int .u64 x214000_1) ∧ w'.cell? ⟨gb213, 1, none⟩ = some (.int .u64 x214001_1)) (ds := []) #[false, false, false, false, false] (by kernel_rfl) rfl rfl ⟨(blk_cell BK212.out 0).trans rfl, (blk_cell BK212.out 1).trans rfl, (blk_cell BK213.out 0).trans rfl, (blk_cell BK213.out 1).trans rfl⟩ (fun hHeld => ?_)
     generalize wr.drew = w85 at BK210 BK211 BK212 BK213 BK214 HB hHeld ⊢
     refine pure_ (i := 1) (N := some 52) (v := ?_) (a' := ?_) #[false, true, false, false, false] rfl rfl (by kernel_rfl) (fun _ _ _ h => h) (Or.inl ⟨by rfl, ?_⟩) ?_ ?_
     rotate_left
     ·intro w'
      go_simp
      with_reducible rfl
     rotate_left
     ·simp only [Act.put, List.setIfInBounds_toArray, List.set_cons_zero, List.set_cons_succ, i64_w, i32_w]
      rfl
     refine take_ (i := 0) (N := some 51) (v := ?_) (a' := ?_) #[true, true, false, false, false] rfl rfl (by kernel_rfl) (fun _ _ _ h => h) (Or.inl ⟨by rfl, ?_⟩) hHeld ?_ ?_
     rotate_left
     ·rintro w' ⟨s0, s1, s2, s3⟩
      go_simp
      with_reducible rfl
     rotate_left
     ·simp only [Act.put, List.setIfInBounds_toArray, List.set_cons_zero, List.set_cons_succ, i64_w, i32_w]
      rfl
     refine take_ (i := 2) (N := some 53) (v := ?_) (a' := ?_) #[true, true, true, false, false] rfl rfl (by kernel_rfl) (fun _ _ _ h => h) (Or.inl ⟨by rfl, ?_⟩) hHeld ?_ ?_
     rotate_left
     ·rintro w' ⟨s0, s1, s2, s3⟩
      go_simp
      with_reducible rfl
     rotate_left
     ·simp only [Act.put, List.setIfInBounds_toArray, List.set_cons_zero, List.set_cons_succ, i64_w, i32_w]
      rfl
     refine one_ (i := 3) (N := none) #[true, true, true, true, false] rfl rfl (by kernel_rfl) (by decide) (fun K hK => ?_)
     have hs86 : w85.cell? ⟨gb211, 0, none⟩ = some (.int .u64 0) := (blk_cell BK211.out 0).trans rfl
     have hfs86 := blk_frozen BK211.out 0
     have hns86_0 := NB210_211.out
     have hns86_2 := NB212_211.out
     have hns86_3 := NB213_211.out
     have hns86_4 := NB214_211.out
     have hms86_0 := NB211_210.out
     have hms86_2 := NB211_212.out
     have hms86_3 := NB211_213.out
     have hms86_4 := NB211_214.out
     have hs87 : w85.cell? ⟨gb211, 1, none⟩ = some (.int .u64 0) := (blk_cell BK211.out 1).trans rfl
     have hfs87 := blk_frozen BK211.out 1
     have hns87_0 := NB210_211.out
     have hns87_2 := NB212_211.out
     have hns87_3 := NB213_211.out
     have hns87_4 := NB214_211.out
     have hms87_0 := NB211_210.out
     have hms87_2 := NB211_212.out
     have hms87_3 := NB211_213.out
     have hms87_4 := NB211_214.out
     refine skip_ (w1 := ?_) (by rfl) rfl ?_ ?_
     rotate_left
     ·go_simp
      rfl
     refine hK.out _ _ ⟨((cell_far (p := ⟨gb211, _, none⟩) NB212_211.out _).trans (((cell_far (p := ⟨gb211, _, none⟩) NB212_211.out _).trans (hHeld.1)))), ((cell_far (p := ⟨gb211, _, none⟩) NB212_211.out _).trans (((cell_far (p := ⟨gb211, _, none⟩) NB212_211.out _).trans (hHeld.2.1)))), ((cell_far (p := ⟨gb211, _, none⟩) NB213_211.out _).trans (((cell_far (p := ⟨gb211, _, none⟩) NB213_211.out _).trans (hHeld.2.2.1)))), ((cell_far (p := ⟨gb211, _, none⟩) NB213_211.out _).trans (((cell_far (p := ⟨gb211, _, none⟩) NB213_211.out _).trans (hHeld.2.2.2))))⟩ (fun hHeld => ?_)
     clear hK K
     refine pure_ (i := 4) (N := some 5) (v := ?_) (a' := ?_) #[true, true, true, true, true] rfl rfl (by kernel_rfl) (fun _ _ _ h => h) (Or.inl ⟨by rfl, ?_⟩) ?_ ?_
     rotate_left
     ·intro w'
      go_simp
      with_reducible rfl
     rotate_left
     ·simp only [Act.put, List.setIfInBounds_toArray, List.set_cons_zero, List.set_cons_succ, i64_w, i32_w]
      rfl
     refine done_ (by kernel_rfl) ?_
     try go_wp2
     refine bodyPost_ret (results_ct rfl _ _ gb211 40 #[.int .u64 x213000_1, .int .u64 x213001_1] (0, 0) _ rfl (by refine blk_put (cs := #[.int .u64 x213000_1, .int .u64 0]) ?_ 1 _ rfl; refine blk_put (cs := #[.int .u64 0, .int .u64 0]) ?_ 0 _ rfl; exact BK211.out) Try.underlying40 rfl (by kernel_rfl)) rfl ?_
     exact ⟨by first | rfl | (simp [errW_none, errW_some] <;> rfl) | (simp [*, errW_none, errW_some] <;> rfl), by repeat (first | (with_reducible first | exact HB.out | apply below_alloc | apply pw_below_drewN | apply below_drew1 | refine below_set ?_ GE210.out | refine below_set ?_ GE211.out | refine below_set ?_ GE212.out | refine below_set ?_ GE213.out | refine below_set ?_ GE214.out) | exact HB.out)⟩

/-! ### overfallref01_Left: function 44 -/
def overfallref01_Left.l0 : Nat → Int → Int → Int → Int → Option (Int × Int)
 | 0, _, _, _, _ => none
 | k + 1, x1, x5, x231000, x231001 => if x5 < x1 then (if x5 < 128 then ((overfallref01_Twice.f k x231000 x231001).bind fun bt232 => (overfallref01_Left.l0 k x1 (wrap64 (x5 + 1)) bt232.1 bt232.2)) else (some (x231000, x231001))) else (some (x231000, x231001))
def overfallref01_Left.f (k : Nat) (a0_0 : Int) (a0_1 : Int) (a1 : Int) : Option (Int × Int) := overfallref01_Left.l0 k a1 0 a0_0 a0_1
theorem overfallref01_Left.mono_l : ∀ k, (∀ y0 y1 y2 y3, LeO (overfallref01_Left.l0 k y0 y1 y2 y3) (overfallref01_Left.l0 (k + 1) y0 y1 y2 y3))
 | 0 => fun _ _ _ _ r h => by simp [overfallref01_Left.l0] at h
 | k + 1 => by
  have ih0 := overfallref01_Left.mono_l k
  ·intro y0 y1 y2 y3
   unfold overfallref01_Left.l0
   repeat' first
   | (with_reducible exact ih0 _ _ _ _)
   | (with_reducible exact overfallref01_Twice.mono _ _ _)
   | (with_reducible exact LeO.refl _)
   | (with_reducible exact LeO.none _)
   | (with_reducible refine LeO.ite ?_ ?_)
   | (with_reducible refine LeO.bind ?_ (fun _ => ?_))
   | exact ih0 _ _ _ _
   | exact overfallref01_Twice.mono _ _ _
   | exact LeO.none _
   | refine LeO.ite ?_ ?_
   | refine LeO.bind ?_ (fun _ => ?_)
theorem overfallref01_Left.mono : ∀ a0 a1 a2 k, LeO (overfallref01_Left.f k a0 a1 a2) (overfallref01_Left.f (k + 1) a0 a1 a2) := by
 intro a0 a1 a2 k
 have ih0 := overfallref01_Left.mono_l k
 unfold overfallref01_Left.f
 repeat' first
   | (with_reducible exact ih0 _ _ _ _)
   | (with_reducible exact overfallref01_Twice.mono _ _ _)
   | (with_reducible exact LeO.refl _)
   | (with_reducible exact LeO.none _)
   | (with_reducible refine LeO.ite ?_ ?_)
   | (with_reducible refine LeO.bind ?_ (fun _ => ?_))
   | exact ih0 _ _ _ _
   | exact overfallref01_Twice.mono _ _ _
   | exact LeO.none _
   | refine LeO.ite ?_ ?_
   | refine LeO.bind ?_ (fun _ => ?_)
set_option maxHeartbeats 8000000 in
set_option maxRecDepth 100000 in
theorem overfallref01_Left.calls (k : Nat) (a0_0 : Int) (a0_1 : Int) (a1 : Int) (r1 : Int) (r2 : Int) (w : World) (h : overfallref01_Left.f k a0_0 a0_1 a1 = some (r1, r2)) :
  Calls Try.prog 44 #[.agg #[.int .u64 a0_0, .int .u64 a0_1], .int .i64 a1] w fun e w' => e = .returned (.agg #[.int .u64 r1, .int .u64 r2]) ∧ Below w.heap.size w w' := by
 have hu40 := Try.underlying40
 have HB := Aside0.mk (Below.refl w.heap.size w)
 have H : (overfallref01_Left.l0 k a1 0 a0_0 a0_1) = some (r1, r2) := h
 clear h
 have H' := Aside0.mk H
 clear H
 go_enter Try.func44, Try.ntmps44
 go_wp2_with (first | ((with_reducible refine gate_dst (N := 2) rfl ?_); refine box_event ?hg (N := 2) ?hd (cs := #[.int .u64 a0_0, .int .u64 a0_1]) (t := 40) ?hr ?_; (case hd => rfl); (case hg => rfl); (case hr => first | (go_simp; done) | (go_simp; rfl)); intro gb230 hg w3 hbox hb; have n0_ := Aside0.mk (below_step (by repeat (first | (with_reducible first | exact HB.out | apply below_alloc | apply pw_below_drewN | apply below_drew1) | exact HB.out)) hb); have n1_ := Aside0.mk (hbox); have n2_ := Aside0.mk ((by rw [hg]; exact (below_size (by repeat (first | (with_reducible first | exact HB.out | apply below_alloc | apply pw_below_drewN | apply below_drew1) | exact HB.out))) : w.heap.size ≤ gb230)); have n3_ := Aside0.mk ((by rw [hg]; exact (below_size (by repeat (first | (with_reducible first | exact HB.out | apply below_alloc | apply pw_below_drewN | apply below_drew1) | exact HB.out))) : w.heap.size ≤ gb230)); clear HB; have HB := n0_; have BK230 := n1_; have GW230 := n2_; have GE230 := n3_; clear n0_ n1_ n2_ n3_; clear hb hbox hg) | ((with_reducible refine gate_dst (N := 4) rfl ?_); refine box_event ?hg (N := 4) ?hd (cs := #[.int .u64 0, .int .u64 0]) (t := 40) ?hr ?_; (case hd => rfl); (case hg => rfl); (case hr => first | (go_simp; done) | (go_simp; rfl)); intro gb231 hg w4 hbox hb; have n0_ := Aside0.mk (blk_below (by exact BK230.out) hb); have n1_ := Aside0.mk (below_step (by repeat (first | (with_reducible first | exact HB.out | apply below_alloc | apply pw_below_drewN | apply below_drew1 | refine below_set ?_ GE230.out) | exact HB.out)) hb); have n2_ := Aside0.mk (hbox); have n3_ := Aside0.mk ((by rw [hg]; exact (below_size (by repeat (first | (with_reducible first | exact HB.out | apply below_alloc | apply pw_below_drewN | apply below_drew1 | refine below_set ?_ GE230.out) | exact HB.out))) : w.heap.size ≤ gb231)); have n4_ := Aside0.mk ((by rw [hg]; exact (below_size (by repeat (first | (with_reducible first | exact HB.out | apply below_alloc | apply pw_below_drewN | apply below_drew1 | refine below_set ?_ GE230.out) | exact HB.out))) : w.heap.size ≤ gb231)); have n5_ := Aside0.mk ((by rw [hg]; exact Nat.ne_of_lt (blk_lt (by exact BK230.out)) : gb230 ≠ gb231)); have n6_ := Aside0.mk ((by rw [hg]; exact Nat.ne_of_gt (blk_lt (by exact BK230.out)) : gb231 ≠ gb230)); clear BK230; clear HB; have BK230 := n0_; have HB := n1_; have BK231 := n2_; have GW231 := n3_; have GE231 := n4_; have NB230_231 := n5_; have NB231_230 := n6_; clear n0_ n1_ n2_ n3_ n4_ n5_ n6_; clear hb hbox hg))
 go_loopg [5] k (fun kq v5 w' => ∃ (x5_1 : Int) (x231000_1 : Int) (x231001_1 : Int), v5 = .int .i64 x5_1 ∧ Aside0 (overfallref01_Left.l0 kq a1 x5_1 x231000_1 x231001_1 = some (r1, r2)) ∧ Aside0 (kq ≤ k) ∧ Aside0 (w'.heap[gb230]? = some (.cells #[.int .u64 x231000_1, .int .u64 x231001_1] 40 (0, 0))) ∧ Aside0 (w'.heap[gb231]? = some (.cells #[.int .u64 0, .int .u64 0] 40 (0, 0))) ∧ Aside0 (Below w.heap.size w w'))
 case atStart => exact ⟨(0), (a0_0), (a0_1), (by first | rfl | (simp; done) | (simp [*]; done)), H', ⟨Nat.le_refl _⟩, ⟨by exact BK230.out⟩, ⟨by exact BK231.out⟩, ⟨by repeat (first | (with_reducible first | exact HB.out | apply below_alloc | apply pw_below_drewN | apply below_drew1 | refine below_set ?_ GE230.out | refine below_set ?_ GE231.out) | exact HB.out)⟩⟩
 case round =>
  clear H'
  try clear p2
  try clear c4
  obtain ⟨x5_1, x231000_1, x231001_1, rfl, HA, HK1, BK230, BK231, HB⟩ := hrel
  cases gk with
  | zero => exact absurd HA.out (by simp [overfallref01_Left.l0])
  | succ k1 =>
   have H := HA.out
   clear HA
   simp only [overfallref01_Left.l0] at H
   by_cases c5 : x5_1 < a1
   ·rw [if_pos c5] at H
    have c5b0 : decide (x5_1 < a1) = true := decide_eq_true c5
    clear c5
    by_cases c6 : x5_1 < 128
    ·rw [if_pos c6] at H
     have c6b0 : decide (x5_1 < 128) = true := decide_eq_true c6
     clear c6
     replace H := Option.bind_eq_some_iff.mp H
     obtain ⟨⟨t232, t233⟩, A70, H⟩ := H
     replace H : (overfallref01_Left.l0 k1 a1 (wrap64 (x5_1 + 1)) t232 t233) = some (r1, r2) := H
     have A7 := Aside0.mk A70
     clear A70
     have H' := Aside0.mk H
     clear H
     have hnb8 := NB230_231.out
     have hnc8 := NB231_230.out
     have hcz9_0 : wr.cell? ⟨gb230, 0, none⟩ = some (.int .u64 x231000_1) := (blk_cell BK230.out 0).trans rfl
     have hcz9_1 : wr.cell? ⟨gb230, 1, none⟩ = some (.int .u64 x231001_1) := (blk_cell BK230.out 1).trans rfl
     have hfz9_0 := blk_frozen BK230.out 0
     have hfz9_1 := blk_frozen BK230.out 1
     go_wp2_with (first | ((with_reducible refine gate_callee (f := 56) rfl ?_); refine goesL_ (some 16) rfl rfl Try.func56 (by kernel_rfl) rfl #[.agg #[.int .u64 x231000_1, .int .u64 x231001_1]] rfl (by (try simp only [List.map_toArray, List.map_cons, List.map_nil]); first | done | rfl | (simp only [List.length_drop, List.length_take]; rfl)) ?_; (with_reducible refine (overfallref01_Twice.calls k1 x231000_1 x231001_1 t232 t233 _ A7.out).mono ?_); rintro e w10 ⟨rfl, hb⟩; refine ⟨_, rfl, ?_⟩; have n0_ := Aside0.mk (blk_below (by exact BK230.out) hb); have n1_ := Aside0.mk (blk_below (by exact BK231.out) hb); have n2_ := Aside0.mk (below_step (by repeat (first | (with_reducible first | exact HB.out | apply below_alloc | apply pw_below_drewN | apply below_drew1 | refine below_set ?_ GE230.out | refine below_set ?_ GE231.out) | exact HB.out)) hb); clear BK230; clear BK231; clear HB; have BK230 := n0_; have BK231 := n1_; have HB := n2_; clear n0_ n1_ n2_; (try clear hb); (try clear hb2); (try clear hk); (try clear hi); have hcz11_0 : w10.cell? ⟨gb230, 0, none⟩ = some (.int .u64 x231000_1) := (blk_cell BK230.out 0).trans rfl; have hcz11_1 : w10.cell? ⟨gb230, 1, none⟩ = some (.int .u64 x231001_1) := (blk_cell BK230.out 1).trans rfl; have hfz11_0 := blk_frozen BK230.out 0; have hfz11_1 := blk_frozen BK230.out 1))
     go_roundg k1
     case measure => have := HK1.out; omega
     case rel => exact ⟨(wrap64 (x5_1 + 1)), (t232), (t233), (by first | rfl | (simp; done) | (simp [*]; done)), H', ⟨by have := HK1.out; omega⟩, ⟨by refine blk_put (cs := #[.int .u64 t232, .int .u64 x231001_1]) ?_ 1 _ rfl; refine blk_put (cs := #[.int .u64 x231000_1, .int .u64 x231001_1]) ?_ 0 _ rfl; exact BK230.out⟩, ⟨by refine blk_far ?_ NB231_230.out _; refine blk_far ?_ NB231_230.out _; exact BK231.out⟩, ⟨by repeat (first | (with_reducible first | exact HB.out | apply below_alloc | apply pw_below_drewN | apply below_drew1 | refine below_set ?_ GE230.out | refine below_set ?_ GE231.out) | exact HB.out)⟩⟩
    ·rw [if_neg c6] at H
     have c6b0 : decide (x5_1 < 128) = false := decide_eq_false c6
     clear c6
     simp only [Option.some.injEq, Prod.mk.injEq] at H
     obtain ⟨rfl, rfl⟩ := H
     have hnb12 := NB230_231.out
     have hnc12 := NB231_230.out
     have hcz13_0 : wr.cell? ⟨gb230, 0, none⟩ = some (.int .u64 x231000_1) := (blk_cell BK230.out 0).trans rfl
     have hcz13_1 : wr.cell? ⟨gb230, 1, none⟩ = some (.int .u64 x231001_1) := (blk_cell BK230.out 1).trans rfl
     have hfz13_0 := blk_frozen BK230.out 0
     have hfz13_1 := blk_frozen BK230.out 1
     have hcz14_0 : wr.cell? ⟨gb231, 0, none⟩ = some (.int .u64 0) := (blk_cell BK231.out 0).trans rfl
     have hcz14_1 : wr.cell? ⟨gb231, 1, none⟩ = some (.int .u64 0) := (blk_cell BK231.out 1).trans rfl
     have hfz14_0 := blk_frozen BK231.out 0
     have hfz14_1 := blk_frozen BK231.out 1
     go_wp2
     refine bodyPost_ret (results_cell_row rfl _ _ gb231 40 #[.int .u64 x231000_1, .int .u64 x231001_1] (0, 0) _ rfl (by refine blk_put (cs := #[.int .u64 x231000_1, .int .u64 0]) ?_ 1 _ rfl; refine blk_put (cs := #[.int .u64 0, .int .u64 0]) ?_ 0 _ rfl; exact BK231.out) Try.underlying40 rfl (by kernel_rfl)) rfl ?_
     exact ⟨by first | rfl | (simp [errW_none, errW_some] <;> rfl) | (simp [*, errW_none, errW_some] <;> rfl), by repeat (first | (with_reducible first | exact HB.out | apply below_alloc | apply pw_below_drewN | apply below_drew1 | refine below_set ?_ GE230.out | refine below_set ?_ GE231.out) | exact HB.out)⟩
   ·rw [if_neg c5] at H
    have c5b0 : decide (x5_1 < a1) = false := decide_eq_false c5
    clear c5
    simp only [Option.some.injEq, Prod.mk.injEq] at H
    obtain ⟨rfl, rfl⟩ := H
    have hnb15 := NB230_231.out
    have hnc15 := NB231_230.out
    have hcz16_0 : wr.cell? ⟨gb230, 0, none⟩ = some (.int .u64 x231000_1) := (blk_cell BK230.out 0).trans rfl
    have hcz16_1 : wr.cell? ⟨gb230, 1, none⟩ = some (.int .u64 x231001_1) := (blk_cell BK230.out 1).trans rfl
    have hfz16_0 := blk_frozen BK230.out 0
    have hfz16_1 := blk_frozen BK230.out 1
    have hcz17_0 : wr.cell? ⟨gb231, 0, none⟩ = some (.int .u64 0) := (blk_cell BK231.out 0).trans rfl
    have hcz17_1 : wr.cell? ⟨gb231, 1, none⟩ = some (.int .u64 0) := (blk_cell BK231.out 1).trans rfl
    have hfz17_0 := blk_frozen BK231.out 0
    have hfz17_1 := blk_frozen BK231.out 1
    go_wp2
    refine bodyPost_ret (results_cell_row rfl _ _ gb231 40 #[.int .u64 x231000_1, .int .u64 x231001_1] (0, 0) _ rfl (by refine blk_put (cs := #[.int .u64 x231000_1, .int .u64 0]) ?_ 1 _ rfl; refine blk_put (cs := #[.int .u64 0, .int .u64 0]) ?_ 0 _ rfl; exact BK231.out) Try.underlying40 rfl (by kernel_rfl)) rfl ?_
    exact ⟨by first | rfl | (simp [errW_none, errW_some] <;> rfl) | (simp [*, errW_none, errW_some] <;> rfl), by repeat (first | (with_reducible first | exact HB.out | apply below_alloc | apply pw_below_drewN | apply below_drew1 | refine below_set ?_ GE230.out | refine below_set ?_ GE231.out) | exact HB.out)⟩

/-! ### overfallref02_down: function 45 -/
def overfallref02_down.j0 : Nat → Bool → Bool → Int → Int → Option (Int)
 | 0, _, _, _, _ => none
 | k + 1, x2, x10, x235000, x235001 => if x10 = true then ((overfallref01_Add.f k x235000 x235001 0 1).bind fun bt235 => ((overfallref02_Back.f k bt235.1 bt235.2.1 x2).bind fun t238 => (some t238))) else ((overfallref02_Back.f k x235000 x235001 x2).bind fun t239 => (some t239))
def overfallref02_down.f (k : Nat) (a0_0 : Int) (a0_1 : Int) (a1 : Bool) (a2 : Bool) : Option (Int) := if a2 = true then (overfallref02_down.j0 k a2 a1 a0_0 a0_1) else (overfallref02_down.j0 k a2 false a0_0 a0_1)
theorem overfallref02_down.mono_l : ∀ k, (∀ y0 y1 y2 y3, LeO (overfallref02_down.j0 k y0 y1 y2 y3) (overfallref02_down.j0 (k + 1) y0 y1 y2 y3))
 | 0 => fun _ _ _ _ r h => by simp [overfallref02_down.j0] at h
 | k + 1 => by
  have ih0 := overfallref02_down.mono_l k
  ·intro y0 y1 y2 y3
   unfold overfallref02_down.j0
   repeat' first
   | (with_reducible exact ih0 _ _ _ _)
   | (with_reducible exact overfallref01_Add.mono _ _ _ _ _)
   | (with_reducible exact overfallref02_Back.mono _ _ _ _)
   | (with_reducible exact LeO.refl _)
   | (with_reducible exact LeO.none _)
   | (with_reducible refine LeO.ite ?_ ?_)
   | (with_reducible refine LeO.bind ?_ (fun _ => ?_))
   | exact ih0 _ _ _ _
   | exact overfallref01_Add.mono _ _ _ _ _
   | exact overfallref02_Back.mono _ _ _ _
   | exact LeO.none _
   | refine LeO.ite ?_ ?_
   | refine LeO.bind ?_ (fun _ => ?_)
theorem overfallref02_down.mono : ∀ a0 a1 a2 a3 k, LeO (overfallref02_down.f k a0 a1 a2 a3) (overfallref02_down.f (k + 1) a0 a1 a2 a3) := by
 intro a0 a1 a2 a3 k
 have ih0 := overfallref02_down.mono_l k
 unfold overfallref02_down.f
 repeat' first
   | (with_reducible exact ih0 _ _ _ _)
   | (with_reducible exact overfallref01_Add.mono _ _ _ _ _)
   | (with_reducible exact overfallref02_Back.mono _ _ _ _)
   | (with_reducible exact LeO.refl _)
   | (with_reducible exact LeO.none _)
   | (with_reducible refine LeO.ite ?_ ?_)
   | (with_reducible refine LeO.bind ?_ (fun _ => ?_))
   | exact ih0 _ _ _ _
   | exact overfallref01_Add.mono _ _ _ _ _
   | exact overfallref02_Back.mono _ _ _ _
   | exact LeO.none _
   | refine LeO.ite ?_ ?_
   | refine LeO.bind ?_ (fun _ => ?_)
set_option maxHeartbeats 8000000 in
set_option maxRecDepth 100000 in
theorem overfallref02_down.calls (k : Nat) (a0_0 : Int) (a0_1 : Int) (a1 : Bool) (a2 : Bool) (r : Int) (w : World) (h : overfallref02_down.f k a0_0 a0_1 a1 a2 = some r) :
  Calls Try.prog 45 #[.agg #[.int .u64 a0_0, .int .u64 a0_1], .bool a1, .bool a2] w fun e w' => e = .returned (.int .i64 r) ∧ Below w.heap.size w w' := by
 have hu40 := Try.underlying40
 have HB := Aside0.mk (Below.refl w.heap.size w)
 have H : (if a2 = true then (overfallref02_down.j0 k a2 a1 a0_0 a0_1) else (overfallref02_down.j0 k a2 false a0_0 a0_1)) = some r := h
 clear h
 have HC4 := Aside0.mk H
 clear H
 go_enter Try.func45, Try.ntmps45
 go_upto_region 1 with (first | ((with_reducible refine gate_dst (N := 3) rfl ?_); refine box_event ?hg (N := 3) ?hd (cs := #[.int .u64 a0_0, .int .u64 a0_1]) (t := 40) ?hr ?_; (case hd => rfl); (case hg => rfl); (case hr => first | (go_simp; done) | (go_simp; rfl)); intro gb234 hg w5 hbox hb; have n0_ := Aside0.mk (below_step (by repeat (first | (with_reducible first | exact HB.out | apply below_alloc | apply pw_below_drewN | apply below_drew1) | exact HB.out)) hb); have n1_ := Aside0.mk (hbox); have n2_ := Aside0.mk ((by rw [hg]; exact (below_size (by repeat (first | (with_reducible first | exact HB.out | apply below_alloc | apply pw_below_drewN | apply below_drew1) | exact HB.out))) : w.heap.size ≤ gb234)); have n3_ := Aside0.mk ((by rw [hg]; exact (below_size (by repeat (first | (with_reducible first | exact HB.out | apply below_alloc | apply pw_below_drewN | apply below_drew1) | exact HB.out))) : w.heap.size ≤ gb234)); clear HB; have HB := n0_; have BK234 := n1_; have GW234 := n2_; have GE234 := n3_; clear n0_ n1_ n2_ n3_; clear hb hbox hg))
 (try simp only [Act.put, List.setIfInBounds_toArray, List.set_cons_zero, List.set_cons_succ])
 go_cut [10] (fun v10 wc => ∃ (kq : Nat) (x10_3 : Bool), v10 = .bool x10_3 ∧ Aside0 (overfallref02_down.j0 kq a2 x10_3 a0_0 a0_1 = some r) ∧ Aside0 (kq ≤ k) ∧ Aside0 (wc.heap[gb234]? = some (.cells #[.int .u64 a0_0, .int .u64 a0_1] 40 (0, 0))) ∧ Aside0 (Below w.heap.size w wc))
 case first =>
  have H := HC4.out
  clear HC4
  by_cases c6 : a2 = true
  ·subst c6
   have H1 : (overfallref02_down.j0 k true a1 a0_0 a0_1) = some r := by rw [if_pos rfl] at H; exact H
   clear H
   have H := H1
   clear H1
   have H' := Aside0.mk H
   clear H
   go_wp2
   go_meet
   case rel => exact ⟨_, (a1), (by first | rfl | (simp; done) | (simp [*]; done)), H', ⟨by first | omega | exact Nat.le_refl _⟩, ⟨by exact BK234.out⟩, ⟨by repeat (first | (with_reducible first | exact HB.out | apply below_alloc | apply pw_below_drewN | apply below_drew1 | refine below_set ?_ GE234.out) | exact HB.out)⟩⟩
  ·replace c6 := Bool.eq_false_iff.mpr c6
   subst c6
   have H1 : (overfallref02_down.j0 k false false a0_0 a0_1) = some r := by rw [if_neg (show ¬ (false = true) by decide)] at H; exact H
   clear H
   have H := H1
   clear H1
   have H' := Aside0.mk H
   clear H
   go_wp2
   go_meet
   case rel => exact ⟨_, (false), (by first | rfl | (simp; done) | (simp [*]; done)), H', ⟨by first | omega | exact Nat.le_refl _⟩, ⟨by exact BK234.out⟩, ⟨by repeat (first | (with_reducible first | exact HB.out | apply below_alloc | apply pw_below_drewN | apply below_drew1 | refine below_set ?_ GE234.out) | exact HB.out)⟩⟩
 case rest =>
  clear HC4
  try clear p2
  try clear c4
  try clear c6
  (try clear BK234); (try clear HB)
  obtain ⟨kq, x10_3, rfl, HA, HJ3, BK234, HB⟩ := hcut
  cases kq with
  | zero => exact absurd HA.out (by simp [overfallref02_down.j0])
  | succ kj3 =>
   have H := HA.out
   clear HA
   simp only [overfallref02_down.j0] at H
   by_cases c7 : x10_3 = true
   ·subst c7
    have H1 : ((overfallref01_Add.f kj3 a0_0 a0_1 0 1).bind fun bt235 => ((overfallref02_Back.f kj3 bt235.1 bt235.2.1 a2).bind fun t238 => (some t238))) = some r := by rw [if_pos rfl] at H; exact H
    clear H
    have H := H1
    clear H1
    replace H := Option.bind_eq_some_iff.mp H
    obtain ⟨⟨t235, t236, t237⟩, A80, H⟩ := H
    replace H : ((overfallref02_Back.f kj3 t235 t236 a2).bind fun t238 => (some t238)) = some r := H
    have A8 := Aside0.mk A80
    clear A80
    replace H := Option.bind_eq_some_iff.mp H
    obtain ⟨t238, A90, H⟩ := H
    replace H : (some t238) = some r := H
    have A9 := Aside0.mk A90
    clear A90
    obtain rfl := Option.some.inj H
    have hcz10_0 : wc.cell? ⟨gb234, 0, none⟩ = some (.int .u64 a0_0) := (blk_cell BK234.out 0).trans rfl
    have hcz10_1 : wc.cell? ⟨gb234, 1, none⟩ = some (.int .u64 a0_1) := (blk_cell BK234.out 1).trans rfl
    have hfz10_0 := blk_frozen BK234.out 0
    have hfz10_1 := blk_frozen BK234.out 1
    go_wp2_with (first | ((with_reducible refine gate_callee (f := 47) rfl ?_); refine goesL_ (some 14) rfl rfl Try.func47 (by kernel_rfl) rfl #[.agg #[.int .u64 a0_0, .int .u64 a0_1], .agg #[.int .u64 0, .int .u64 1]] rfl (by (try simp only [List.map_toArray, List.map_cons, List.map_nil]); first | done | rfl | (simp only [List.length_drop, List.length_take]; rfl)) ?_; (with_reducible refine (overfallref01_Add.calls kj3 a0_0 a0_1 0 1 t235 t236 t237 _ A8.out).mono ?_); rintro e w11 ⟨rfl, hb⟩; refine ⟨_, rfl, ?_⟩; have n0_ := Aside0.mk (blk_below (by exact BK234.out) hb); have n1_ := Aside0.mk (below_step (by repeat (first | (with_reducible first | exact HB.out | apply below_alloc | apply pw_below_drewN | apply below_drew1 | refine below_set ?_ GE234.out) | exact HB.out)) hb); clear BK234; clear HB; have BK234 := n0_; have HB := n1_; clear n0_ n1_; (try clear hb); (try clear hb2); (try clear hk); (try clear hi); have hcz12_0 : w11.cell? ⟨gb234, 0, none⟩ = some (.int .u64 a0_0) := (blk_cell BK234.out 0).trans rfl; have hcz12_1 : w11.cell? ⟨gb234, 1, none⟩ = some (.int .u64 a0_1) := (blk_cell BK234.out 1).trans rfl; have hfz12_0 := blk_frozen BK234.out 0; have hfz12_1 := blk_frozen BK234.out 1) | ((with_reducible refine gate_callee (f := 37) rfl ?_); refine goesL_ (some 19) rfl rfl Try.func37 (by kernel_rfl) rfl #[.agg #[.int .u64 t235, .int .u64 t236], .bool a2] rfl (by (try simp only [List.map_toArray, List.map_cons, List.map_nil]); first | done | rfl | (simp only [List.length_drop, List.length_take]; rfl)) ?_; (with_reducible refine (overfallref02_Back.calls kj3 t235 t236 a2 t238 _ A9.out).mono ?_); rintro e w13 ⟨rfl, hb⟩; refine ⟨_, rfl, ?_⟩; have n0_ := Aside0.mk (blk_below (g := gb234) (o := .cells #[.int .u64 t235, .int .u64 t236] 40 (0, 0)) (by refine blk_put (cs := #[.int .u64 t235, .int .u64 a0_1]) ?_ 1 _ rfl; refine blk_put (cs := #[.int .u64 a0_0, .int .u64 a0_1]) ?_ 0 _ rfl; exact BK234.out) hb); have n1_ := Aside0.mk (below_step (by repeat (first | (with_reducible first | exact HB.out | apply below_alloc | apply pw_below_drewN | apply below_drew1 | refine below_set ?_ GE234.out) | exact HB.out)) hb); clear BK234; clear HB; have BK234 := n0_; have HB := n1_; clear n0_ n1_; (try clear hb); (try clear hb2); (try clear hk); (try clear hi)))
    go_ret
    exact ⟨by first | rfl | (simp [errW_none, errW_some] <;> rfl) | (simp [*, errW_none, errW_some] <;> rfl), by repeat (first | (with_reducible first | exact HB.out | apply below_alloc | apply pw_below_drewN | apply below_drew1 | refine below_set ?_ GE234.out) | exact HB.out)⟩
   ·replace c7 := Bool.eq_false_iff.mpr c7
    subst c7
    have H1 : ((overfallref02_Back.f kj3 a0_0 a0_1 a2).bind fun t239 => (some t239)) = some r := by rw [if_neg (show ¬ (false = true) by decide)] at H; exact H
    clear H
    have H := H1
    clear H1
    replace H := Option.bind_eq_some_iff.mp H
    obtain ⟨t239, A140, H⟩ := H
    replace H : (some t239) = some r := H
    have A14 := Aside0.mk A140
    clear A140
    obtain rfl := Option.some.inj H
    have hcz15_0 : wc.cell? ⟨gb234, 0, none⟩ = some (.int .u64 a0_0) := (blk_cell BK234.out 0).trans rfl
    have hcz15_1 : wc.cell? ⟨gb234, 1, none⟩ = some (.int .u64 a0_1) := (blk_cell BK234.out 1).trans rfl
    have hfz15_0 := blk_frozen BK234.out 0
    have hfz15_1 := blk_frozen BK234.out 1
    go_wp2_with (first | ((with_reducible refine gate_callee (f := 37) rfl ?_); refine goesL_ (some 19) rfl rfl Try.func37 (by kernel_rfl) rfl #[.agg #[.int .u64 a0_0, .int .u64 a0_1], .bool a2] rfl (by (try simp only [List.map_toArray, List.map_cons, List.map_nil]); first | done | rfl | (simp only [List.length_drop, List.length_take]; rfl)) ?_; (with_reducible refine (overfallref02_Back.calls kj3 a0_0 a0_1 a2 t239 _ A14.out).mono ?_); rintro e w16 ⟨rfl, hb⟩; refine ⟨_, rfl, ?_⟩; have n0_ := Aside0.mk (blk_below (by exact BK234.out) hb); have n1_ := Aside0.mk (below_step (by repeat (first | (with_reducible first | exact HB.out | apply below_alloc | apply pw_below_drewN | apply below_drew1 | refine below_set ?_ GE234.out) | exact HB.out)) hb); clear BK234; clear HB; have BK234 := n0_; have HB := n1_; clear n0_ n1_; (try clear hb); (try clear hb2); (try clear hk); (try clear hi)))
    go_ret
    exact ⟨by first | rfl | (simp [errW_none, errW_some] <;> rfl) | (simp [*, errW_none, errW_some] <;> rfl), by repeat (first | (with_reducible first | exact HB.out | apply below_alloc | apply pw_below_drewN | apply below_drew1 | refine below_set ?_ GE234.out) | exact HB.out)⟩

end Go.Proofs.Ytjgjmeefieikaaa.R

-- Laid by a program of this claim's session (wip/tools/myprint.py) over the kit's printer.
import Derived.Test.YtjgjmeefieikaaaGx0
import Derived.Test.YtjgjmeefieikaaaGx6
import Derived.Test.YtjgjmeefieikaaaGx8
import Derived.Test.YtjgjmeefieikaaaGx9
namespace Go.Proofs.Ytjgjmeefieikaaa.G
open Go.RowKit Go.Proofs.YtjgjmeefieikaaaW.PrintWords Go.Proofs.YtjgjmeefieikaaaW.PrintLast Go.Proofs.YtjgjmeefieikaaaW.PrintMore
attribute [local go_sem] max2_int min2_int max_two min_two max_three min_three max_four min_four   -- for this text's walks alone
set_option linter.unusedVariables false
set_option linter.unusedSimpArgs false

/-! ### overfallref01_Div: function 43 -/
mutual
def overfallref01_Div.l0 : Nat → Int → Int → Int → Int → Int → Int → Int → Int → Int → Option (Int × Int × Int)
 | 0, _, _, _, _, _, _, _, _, _ => none
 | k + 1, x9, x255000, x255001, x257000, x257001, x258000, x258001, x259000, x259001 => if x9 ≥ 0 then ((overfallref01_Twice.f k x257000 x257001).bind fun bt259 => ((overfallref01_Twice.f k x258000 x258001).bind fun bt261 => ((overfallref01_Bit.f k x255000 x255001 x9).bind fun t263 => (if t263 = 1 then ((overfallref01_Add.f k bt261.1 bt261.2 0 1).bind fun bt264 => (overfallref01_Div.j1 k x9 x255000 x255001 bt259.1 bt259.2 bt264.1 bt264.2.1 x259000 x259001)) else (overfallref01_Div.j1 k x9 x255000 x255001 bt259.1 bt259.2 bt261.1 bt261.2 x259000 x259001))))) else (some (x257000, x257001, x258001))
def overfallref01_Div.j1 : Nat → Int → Int → Int → Int → Int → Int → Int → Int → Int → Option (Int × Int × Int)
 | 0, _, _, _, _, _, _, _, _, _ => none
 | k + 1, x9, x255000, x255001, x257000, x257001, x258000, x258001, x259000, x259001 => (overfallref01_Less.f x258000 x258001 x259000 x259001).bind fun t267 => (if t267 = true then (overfallref01_Div.l0 k (wrap64 (x9 - 1)) x255000 x255001 x257000 x257001 x258000 x258001 x259000 x259001) else ((overfallref01_Sub.f k x258000 x258001 x259000 x259001).bind fun bt268 => ((overfallref01_Add.f k x257000 x257001 0 1).bind fun bt271 => (overfallref01_Div.l0 k (wrap64 (x9 - 1)) x255000 x255001 bt271.1 bt271.2.1 bt268.1 bt268.2.1 x259000 x259001))))
end
def overfallref01_Div.f (k : Nat) (a0_0 : Int) (a0_1 : Int) (a1 : Int) : Option (Int × Int × Int) := if a1 = 0 then (some (0, 0, 0)) else (overfallref01_Div.l0 k 127 a0_0 a0_1 0 0 0 0 0 a1)
theorem overfallref01_Div.mono_l : ∀ k, (∀ y0 y1 y2 y3 y4 y5 y6 y7 y8, LeO (overfallref01_Div.l0 k y0 y1 y2 y3 y4 y5 y6 y7 y8) (overfallref01_Div.l0 (k + 1) y0 y1 y2 y3 y4 y5 y6 y7 y8)) ∧ (∀ y0 y1 y2 y3 y4 y5 y6 y7 y8, LeO (overfallref01_Div.j1 k y0 y1 y2 y3 y4 y5 y6 y7 y8) (overfallref01_Div.j1 (k + 1) y0 y1 y2 y3 y4 y5 y6 y7 y8))
 | 0 => ⟨fun _ _ _ _ _ _ _ _ _ r h => by simp [overfallref01_Div.l0] at h, fun _ _ _ _ _ _ _ _ _ r h => by simp [overfallref01_Div.j1] at h⟩
 | k + 1 => by
  obtain ⟨ih0, ih1⟩ := overfallref01_Div.mono_l k
  refine ⟨?_, ?_⟩
  ·intro y0 y1 y2 y3 y4 y5 y6 y7 y8
   unfold overfallref01_Div.l0
   repeat' first
   | (with_reducible exact ih0 _ _ _ _ _ _ _ _ _)
   | (with_reducible exact ih1 _ _ _ _ _ _ _ _ _)
   | (with_reducible exact overfallref01_Add.mono _ _ _ _ _)
   | (with_reducible exact overfallref01_Bit.mono _ _ _ _)
   | (with_reducible exact overfallref01_Sub.mono _ _ _ _ _)
   | (with_reducible exact overfallref01_Twice.mono _ _ _)
   | (with_reducible exact LeO.refl _)
   | (with_reducible exact LeO.none _)
   | (with_reducible refine LeO.ite ?_ ?_)
   | (with_reducible refine LeO.bind ?_ (fun _ => ?_))
   | exact ih0 _ _ _ _ _ _ _ _ _
   | exact ih1 _ _ _ _ _ _ _ _ _
   | exact overfallref01_Add.mono _ _ _ _ _
   | exact overfallref01_Bit.mono _ _ _ _
   | exact overfallref01_Sub.mono _ _ _ _ _
   | exact overfallref01_Twice.mono _ _ _
   | exact LeO.none _
   | refine LeO.ite ?_ ?_
   | refine LeO.bind ?_ (fun _ => ?_)
  ·intro y0 y1 y2 y3 y4 y5 y6 y7 y8
   unfold overfallref01_Div.j1
   repeat' first
   | (with_reducible exact ih0 _ _ _ _ _ _ _ _ _)
   | (with_reducible exact ih1 _ _ _ _ _ _ _ _ _)
   | (with_reducible exact overfallref01_Add.mono _ _ _ _ _)
   | (with_reducible exact overfallref01_Bit.mono _ _ _ _)
   | (with_reducible exact overfallref01_Sub.mono _ _ _ _ _)
   | (with_reducible exact overfallref01_Twice.mono _ _ _)
   | (with_reducible exact LeO.refl _)
   | (with_reducible exact LeO.none _)
   | (with_reducible refine LeO.ite ?_ ?_)
   | (with_reducible refine LeO.bind ?_ (fun _ => ?_))
   | exact ih0 _ _ _ _ _ _ _ _ _
   | exact ih1 _ _ _ _ _ _ _ _ _
   | exact overfallref01_Add.mono _ _ _ _ _
   | exact overfallref01_Bit.mono _ _ _ _
   | exact overfallref01_Sub.mono _ _ _ _ _
   | exact overfallref01_Twice.mono _ _ _
   | exact LeO.none _
   | refine LeO.ite ?_ ?_
   | refine LeO.bind ?_ (fun _ => ?_)
theorem overfallref01_Div.mono : ∀ a0 a1 a2 k, LeO (overfallref01_Div.f k a0 a1 a2) (overfallref01_Div.f (k + 1) a0 a1 a2) := by
 intro a0 a1 a2 k
 obtain ⟨ih0, ih1⟩ := overfallref01_Div.mono_l k
 unfold overfallref01_Div.f
 repeat' first
   | (with_reducible exact ih0 _ _ _ _ _ _ _ _ _)
   | (with_reducible exact ih1 _ _ _ _ _ _ _ _ _)
   | (with_reducible exact overfallref01_Add.mono _ _ _ _ _)
   | (with_reducible exact overfallref01_Bit.mono _ _ _ _)
   | (with_reducible exact overfallref01_Sub.mono _ _ _ _ _)
   | (with_reducible exact overfallref01_Twice.mono _ _ _)
   | (with_reducible exact LeO.refl _)
   | (with_reducible exact LeO.none _)
   | (with_reducible refine LeO.ite ?_ ?_)
   | (with_reducible refine LeO.bind ?_ (fun _ => ?_))
   | exact ih0 _ _ _ _ _ _ _ _ _
   | exact ih1 _ _ _ _ _ _ _ _ _
   | exact overfallref01_Add.mono _ _ _ _ _
   | exact overfallref01_Bit.mono _ _ _ _
   | exact overfallref01_Sub.mono _ _ _ _ _
   | exact overfallref01_Twice.mono _ _ _
   | exact LeO.none _
   | refine LeO.ite ?_ ?_
   | refine LeO.bind ?_ (fun _ => ?_)
set_option maxHeartbeats 8000000 in
set_option maxRecDepth 100000 in
theorem overfallref01_Div.calls (k : Nat) (a0_0 : Int) (a0_1 : Int) (a1 : Int) (r1 : Int) (r2 : Int) (r3 : Int) (w : World) (h : overfallref01_Div.f k a0_0 a0_1 a1 = some (r1, r2, r3)) :
  Calls Try.prog 43 #[.agg #[.int .u64 a0_0, .int .u64 a0_1], .int .u64 a1] w fun e w' => e = .returned (.tuple #[.agg #[.int .u64 r1, .int .u64 r2], .int .u64 r3]) ∧ Below w.heap.size w w' := by
 have hu40 := Try.underlying40
 have HB := Aside0.mk (Below.refl w.heap.size w)
 have H : (if a1 = 0 then (some (0, 0, 0)) else (overfallref01_Div.l0 k 127 a0_0 a0_1 0 0 0 0 0 a1)) = some (r1, r2, r3) := h
 clear h
 by_cases c3 : a1 = 0
 ·rw [if_pos c3] at H
  have c3b0 : (a1 == 0) = true := beq_iff_eq.mpr c3
  have c3b1 : (a1 != 0) = false := bne_eq_false_iff_eq.mpr c3
  clear c3
  simp only [Option.some.injEq, Prod.mk.injEq] at H
  obtain ⟨rfl, rfl, rfl⟩ := H
  go_enter Try.func43, Try.ntmps43
  go_wp2_with (first | ((with_reducible refine gate_dst (N := 2) rfl ?_); refine box_event ?hg (N := 2) ?hd (cs := #[.int .u64 a0_0, .int .u64 a0_1]) (t := 40) ?hr ?_; (case hd => rfl); (case hg => rfl); (case hr => first | (go_simp; done) | (go_simp; rfl)); intro gb254 hg w4 hbox hb; have n0_ := Aside0.mk (below_step (by repeat (first | (with_reducible first | exact HB.out | apply below_alloc | apply pw_below_drewN | apply below_drew1) | exact HB.out)) hb); have n1_ := Aside0.mk (hbox); have n2_ := Aside0.mk ((by rw [hg]; exact (below_size (by repeat (first | (with_reducible first | exact HB.out | apply below_alloc | apply pw_below_drewN | apply below_drew1) | exact HB.out))) : w.heap.size ≤ gb254)); have n3_ := Aside0.mk ((by rw [hg]; exact (below_size (by repeat (first | (with_reducible first | exact HB.out | apply below_alloc | apply pw_below_drewN | apply below_drew1) | exact HB.out))) : w.heap.size ≤ gb254)); clear HB; have HB := n0_; have BK254 := n1_; have GW254 := n2_; have GE254 := n3_; clear n0_ n1_ n2_ n3_; clear hb hbox hg) | ((with_reducible refine gate_dst (N := 4) rfl ?_); refine box_event ?hg (N := 4) ?hd (cs := #[.int .u64 0, .int .u64 0]) (t := 40) ?hr ?_; (case hd => rfl); (case hg => rfl); (case hr => first | (go_simp; done) | (go_simp; rfl)); intro gb255 hg w5 hbox hb; have n0_ := Aside0.mk (blk_below (by exact BK254.out) hb); have n1_ := Aside0.mk (below_step (by repeat (first | (with_reducible first | exact HB.out | apply below_alloc | apply pw_below_drewN | apply below_drew1 | refine below_set ?_ GE254.out) | exact HB.out)) hb); have n2_ := Aside0.mk (hbox); have n3_ := Aside0.mk ((by rw [hg]; exact (below_size (by repeat (first | (with_reducible first | exact HB.out | apply below_alloc | apply pw_below_drewN | apply below_drew1 | refine below_set ?_ GE254.out) | exact HB.out))) : w.heap.size ≤ gb255)); have n4_ := Aside0.mk ((by rw [hg]; exact (below_size (by repeat (first | (with_reducible first | exact HB.out | apply below_alloc | apply pw_below_drewN | apply below_drew1 | refine below_set ?_ GE254.out) | exact HB.out))) : w.heap.size ≤ gb255)); have n5_ := Aside0.mk ((by rw [hg]; exact Nat.ne_of_lt (blk_lt (by exact BK254.out)) : gb254 ≠ gb255)); have n6_ := Aside0.mk ((by rw [hg]; exact Nat.ne_of_gt (blk_lt (by exact BK254.out)) : gb255 ≠ gb254)); clear BK254; clear HB; have BK254 := n0_; have HB := n1_; have BK255 := n2_; have GW255 := n3_; have GE255 := n4_; have NB254_255 := n5_; have NB255_254 := n6_; clear n0_ n1_ n2_ n3_ n4_ n5_ n6_; clear hb hbox hg; have hnb6 := NB255_254.out; have hnc6 := NB254_255.out; have hcz7_0 : w5.cell? ⟨gb255, 0, none⟩ = some (.int .u64 0) := (blk_cell BK255.out 0).trans rfl; have hcz7_1 : w5.cell? ⟨gb255, 1, none⟩ = some (.int .u64 0) := (blk_cell BK255.out 1).trans rfl; have hfz7_0 := blk_frozen BK255.out 0; have hfz7_1 := blk_frozen BK255.out 1))
  refine bodyPost_ret (results_ct rfl _ _ gb255 40 #[.int .u64 0, .int .u64 0] (0, 0) _ rfl (by refine blk_put (cs := #[.int .u64 0, .int .u64 0]) ?_ 1 _ rfl; refine blk_put (cs := #[.int .u64 0, .int .u64 0]) ?_ 0 _ rfl; exact BK255.out) Try.underlying40 rfl (by kernel_rfl)) rfl ?_
  exact ⟨by first | rfl | (simp [errW_none, errW_some] <;> rfl) | (simp [*, errW_none, errW_some] <;> rfl), by repeat (first | (with_reducible first | exact HB.out | apply below_alloc | apply pw_below_drewN | apply below_drew1 | refine below_set ?_ GE254.out | refine below_set ?_ GE255.out) | exact HB.out)⟩
 ·rw [if_neg c3] at H
  have c3b0 : (a1 == 0) = false := beq_eq_false_iff_ne.mpr c3
  have c3b1 : (a1 != 0) = true := bne_iff_ne.mpr c3
  have H' := Aside0.mk H
  clear H
  go_enter Try.func43, Try.ntmps43
  go_wp2_with (first | ((with_reducible refine gate_dst (N := 2) rfl ?_); refine box_event ?hg (N := 2) ?hd (cs := #[.int .u64 a0_0, .int .u64 a0_1]) (t := 40) ?hr ?_; (case hd => rfl); (case hg => rfl); (case hr => first | (go_simp; done) | (go_simp; rfl)); intro gb254 hg w8 hbox hb; have n0_ := Aside0.mk (below_step (by repeat (first | (with_reducible first | exact HB.out | apply below_alloc | apply pw_below_drewN | apply below_drew1) | exact HB.out)) hb); have n1_ := Aside0.mk (hbox); have n2_ := Aside0.mk ((by rw [hg]; exact (below_size (by repeat (first | (with_reducible first | exact HB.out | apply below_alloc | apply pw_below_drewN | apply below_drew1) | exact HB.out))) : w.heap.size ≤ gb254)); have n3_ := Aside0.mk ((by rw [hg]; exact (below_size (by repeat (first | (with_reducible first | exact HB.out | apply below_alloc | apply pw_below_drewN | apply below_drew1) | exact HB.out))) : w.heap.size ≤ gb254)); clear HB; have HB := n0_; have BK254 := n1_; have GW254 := n2_; have GE254 := n3_; clear n0_ n1_ n2_ n3_; clear hb hbox hg) | ((with_reducible refine gate_dst (N := 4) rfl ?_); refine box_event ?hg (N := 4) ?hd (cs := #[.int .u64 0, .int .u64 0]) (t := 40) ?hr ?_; (case hd => rfl); (case hg => rfl); (case hr => first | (go_simp; done) | (go_simp; rfl)); intro gb255 hg w9 hbox hb; have n0_ := Aside0.mk (blk_below (by exact BK254.out) hb); have n1_ := Aside0.mk (below_step (by repeat (first | (with_reducible first | exact HB.out | apply below_alloc | apply pw_below_drewN | apply below_drew1 | refine below_set ?_ GE254.out) | exact HB.out)) hb); have n2_ := Aside0.mk (hbox); have n3_ := Aside0.mk ((by rw [hg]; exact (below_size (by repeat (first | (with_reducible first | exact HB.out | apply below_alloc | apply pw_below_drewN | apply below_drew1 | refine below_set ?_ GE254.out) | exact HB.out))) : w.heap.size ≤ gb255)); have n4_ := Aside0.mk ((by rw [hg]; exact (below_size (by repeat (first | (with_reducible first | exact HB.out | apply below_alloc | apply pw_below_drewN | apply below_drew1 | refine below_set ?_ GE254.out) | exact HB.out))) : w.heap.size ≤ gb255)); have n5_ := Aside0.mk ((by rw [hg]; exact Nat.ne_of_lt (blk_lt (by exact BK254.out)) : gb254 ≠ gb255)); have n6_ := Aside0.mk ((by rw [hg]; exact Nat.ne_of_gt (blk_lt (by exact BK254.out)) : gb255 ≠ gb254)); clear BK254; clear HB; have BK254 := n0_; have HB := n1_; have BK255 := n2_; have GW255 := n3_; have GE255 := n4_; have NB254_255 := n5_; have NB255_254 := n6_; clear n0_ n1_ n2_ n3_ n4_ n5_ n6_; clear hb hbox hg) | ((with_reducible refine gate_dst (N := 6) rfl ?_); refine box_event ?hg (N := 6) ?hd (cs := #[.int .u64 0, .int .u64 0]) (t := 40) ?hr ?_; (case hd => rfl); (case hg => rfl); (case hr => first | (go_simp; done) | (go_simp; rfl)); intro gb256 hg w10 hbox hb; have n0_ := Aside0.mk (blk_below (by exact BK254.out) hb); have n1_ := Aside0.mk (blk_below (by exact BK255.out) hb); have n2_ := Aside0.mk (below_step (by repeat (first | (with_reducible first | exact HB.out | apply below_alloc | apply pw_below_drewN | apply below_drew1 | refine below_set ?_ GE254.out | refine below_set ?_ GE255.out) | exact HB.out)) hb); have n3_ := Aside0.mk (hbox); have n4_ := Aside0.mk ((by rw [hg]; exact (below_size (by repeat (first | (with_reducible first | exact HB.out | apply below_alloc | apply pw_below_drewN | apply below_drew1 | refine below_set ?_ GE254.out | refine below_set ?_ GE255.out) | exact HB.out))) : w.heap.size ≤ gb256)); have n5_ := Aside0.mk ((by rw [hg]; exact (below_size (by repeat (first | (with_reducible first | exact HB.out | apply below_alloc | apply pw_below_drewN | apply below_drew1 | refine below_set ?_ GE254.out | refine below_set ?_ GE255.out) | exact HB.out))) : w.heap.size ≤ gb256)); have n6_ := Aside0.mk ((by rw [hg]; exact Nat.ne_of_lt (blk_lt (by exact BK254.out)) : gb254 ≠ gb256)); have n7_ := Aside0.mk ((by rw [hg]; exact Nat.ne_of_gt (blk_lt (by exact BK254.out)) : gb256 ≠ gb254)); have n8_ := Aside0.mk ((by rw [hg]; exact Nat.ne_of_lt (blk_lt (by exact BK255.out)) : gb255 ≠ gb256)); have n9_ := Aside0.mk ((by rw [hg]; exact Nat.ne_of_gt (blk_lt (by exact BK255.out)) : gb256 ≠ gb255)); clear BK254; clear BK255; clear HB; have BK254 := n0_; have BK255 := n1_; have HB := n2_; have BK256 := n3_; have GW256 := n4_; have GE256 := n5_; have NB254_256 := n6_; have NB256_254 := n7_; have NB255_256 := n8_; have NB256_255 := n9_; clear n0_ n1_ n2_ n3_ n4_ n5_ n6_ n7_ n8_ n9_; clear hb hbox hg) | ((with_reducible refine gate_dst (N := 7) rfl ?_); refine box_event ?hg (N := 7) ?hd (cs := #[.int .u64 0, .int .u64 0]) (t := 40) ?hr ?_; (case hd => rfl); (case hg => rfl); (case hr => first | (go_simp; done) | (go_simp; rfl)); intro gb257 hg w11 hbox hb; have n0_ := Aside0.mk (blk_below (by exact BK254.out) hb); have n1_ := Aside0.mk (blk_below (by exact BK255.out) hb); have n2_ := Aside0.mk (blk_below (by exact BK256.out) hb); have n3_ := Aside0.mk (below_step (by repeat (first | (with_reducible first | exact HB.out | apply below_alloc | apply pw_below_drewN | apply below_drew1 | refine below_set ?_ GE254.out | refine below_set ?_ GE255.out | refine below_set ?_ GE256.out) | exact HB.out)) hb); have n4_ := Aside0.mk (hbox); have n5_ := Aside0.mk ((by rw [hg]; exact (below_size (by repeat (first | (with_reducible first | exact HB.out | apply below_alloc | apply pw_below_drewN | apply below_drew1 | refine below_set ?_ GE254.out | refine below_set ?_ GE255.out | refine below_set ?_ GE256.out) | exact HB.out))) : w.heap.size ≤ gb257)); have n6_ := Aside0.mk ((by rw [hg]; exact (below_size (by repeat (first | (with_reducible first | exact HB.out | apply below_alloc | apply pw_below_drewN | apply below_drew1 | refine below_set ?_ GE254.out | refine below_set ?_ GE255.out | refine below_set ?_ GE256.out) | exact HB.out))) : w.heap.size ≤ gb257)); have n7_ := Aside0.mk ((by rw [hg]; exact Nat.ne_of_lt (blk_lt (by exact BK254.out)) : gb254 ≠ gb257)); have n8_ := Aside0.mk ((by rw [hg]; exact Nat.ne_of_gt (blk_lt (by exact BK254.out)) : gb257 ≠ gb254)); have n9_ := Aside0.mk ((by rw [hg]; exact Nat.ne_of_lt (blk_lt (by exact BK255.out)) : gb255 ≠ gb257)); have n10_ := Aside0.mk ((by rw [hg]; exact Nat.ne_of_gt (blk_lt (by exact BK255.out)) : gb257 ≠ gb255)); have n11_ := Aside0.mk ((by rw [hg]; exact Nat.ne_of_lt (blk_lt (by exact BK256.out)) : gb256 ≠ gb257)); have n12_ := Aside0.mk ((by rw [hg]; exact Nat.ne_of_gt (blk_lt (by exact BK256.out)) : gb257 ≠ gb256)); clear BK254; clear BK255; clear BK256; clear HB; have BK254 := n0_; have BK255 := n1_; have BK256 := n2_; have HB := n3_; have BK257 := n4_; have GW257 := n5_; have GE257 := n6_; have NB254_257 := n7_; have NB257_254 := n8_; have NB255_257 := n9_; have NB257_255 := n10_; have NB256_257 := n11_; have NB257_256 := n12_; clear n0_ n1_ n2_ n3_ n4_ n5_ n6_ n7_ n8_ n9_ n10_ n11_ n12_; clear hb hbox hg; have hnb12 := NB256_254.out; have hnc12 := NB254_256.out; have hnb13 := NB256_255.out; have hnc13 := NB255_256.out; have hnb14 := NB256_257.out; have hnc14 := NB257_256.out; have hcz15_0 : w11.cell? ⟨gb256, 0, none⟩ = some (.int .u64 0) := (blk_cell BK256.out 0).trans rfl; have hcz15_1 : w11.cell? ⟨gb256, 1, none⟩ = some (.int .u64 0) := (blk_cell BK256.out 1).trans rfl; have hfz15_0 := blk_frozen BK256.out 0; have hfz15_1 := blk_frozen BK256.out 1; have hnb16 := NB257_254.out; have hnc16 := NB254_257.out; have hnb17 := NB257_255.out; have hnc17 := NB255_257.out; have hcz18_0 : w11.cell? ⟨gb257, 0, none⟩ = some (.int .u64 0) := (blk_cell BK257.out 0).trans rfl; have hcz18_1 : w11.cell? ⟨gb257, 1, none⟩ = some (.int .u64 0) := (blk_cell BK257.out 1).trans rfl; have hfz18_0 := blk_frozen BK257.out 0; have hfz18_1 := blk_frozen BK257.out 1) | ((with_reducible refine gate_dst (N := 8) rfl ?_); refine box_event ?hg (N := 8) ?hd (cs := #[.int .u64 0, .int .u64 0]) (t := 40) ?hr ?_; (case hd => rfl); (case hg => rfl); (case hr => first | (go_simp; done) | (go_simp; rfl)); intro gb258 hg w19 hbox hb; have n0_ := Aside0.mk (blk_below (g := gb254) (o := .cells #[.int .u64 a0_0, .int .u64 a0_1] 40 (0, 0)) (by refine blk_far ?_ NB254_257.out _; refine blk_far ?_ NB254_257.out _; refine blk_far ?_ NB254_256.out _; refine blk_far ?_ NB254_256.out _; exact BK254.out) hb); have n1_ := Aside0.mk (blk_below (g := gb255) (o := .cells #[.int .u64 0, .int .u64 0] 40 (0, 0)) (by refine blk_far ?_ NB255_257.out _; refine blk_far ?_ NB255_257.out _; refine blk_far ?_ NB255_256.out _; refine blk_far ?_ NB255_256.out _; exact BK255.out) hb); have n2_ := Aside0.mk (blk_below (g := gb256) (o := .cells #[.int .u64 0, .int .u64 0] 40 (0, 0)) (by refine blk_far ?_ NB256_257.out _; refine blk_far ?_ NB256_257.out _; refine blk_put (cs := #[.int .u64 0, .int .u64 0]) ?_ 1 _ rfl; refine blk_put (cs := #[.int .u64 0, .int .u64 0]) ?_ 0 _ rfl; exact BK256.out) hb); have n3_ := Aside0.mk (blk_below (g := gb257) (o := .cells #[.int .u64 0, .int .u64 0] 40 (0, 0)) (by refine blk_put (cs := #[.int .u64 0, .int .u64 0]) ?_ 1 _ rfl; refine blk_put (cs := #[.int .u64 0, .int .u64 0]) ?_ 0 _ rfl; refine blk_far ?_ NB257_256.out _; refine blk_far ?_ NB257_256.out _; exact BK257.out) hb); have n4_ := Aside0.mk (below_step (by repeat (first | (with_reducible first | exact HB.out | apply below_alloc | apply pw_below_drewN | apply below_drew1 | refine below_set ?_ GE254.out | refine below_set ?_ GE255.out | refine below_set ?_ GE256.out | refine below_set ?_ GE257.out) | exact HB.out)) hb); have n5_ := Aside0.mk (hbox); have n6_ := Aside0.mk ((by rw [hg]; exact (below_size (by repeat (first | (with_reducible first | exact HB.out | apply below_alloc | apply pw_below_drewN | apply below_drew1 | refine below_set ?_ GE254.out | refine below_set ?_ GE255.out | refine below_set ?_ GE256.out | refine below_set ?_ GE257.out) | exact HB.out))) : w.heap.size ≤ gb258)); have n7_ := Aside0.mk ((by rw [hg]; exact (below_size (by repeat (first | (with_reducible first | exact HB.out | apply below_alloc | apply pw_below_drewN | apply below_drew1 | refine below_set ?_ GE254.out | refine below_set ?_ GE255.out | refine below_set ?_ GE256.out | refine below_set ?_ GE257.out) | exact HB.out))) : w.heap.size ≤ gb258)); have n8_ := Aside0.mk ((by rw [hg]; exact Nat.ne_of_lt (blk_lt (g := gb254) (o := .cells #[.int .u64 a0_0, .int .u64 a0_1] 40 (0, 0)) (by refine blk_far ?_ NB254_257.out _; refine blk_far ?_ NB254_257.out _; refine blk_far ?_ NB254_256.out _; refine blk_far ?_ NB254_256.out _; exact BK254.out)) : gb254 ≠ gb258)); have n9_ := Aside0.mk ((by rw [hg]; exact Nat.ne_of_gt (blk_lt (g := gb254) (o := .cells #[.int .u64 a0_0, .int .u64 a0_1] 40 (0, 0)) (by refine blk_far ?_ NB254_257.out _; refine blk_far ?_ NB254_257.out _; refine blk_far ?_ NB254_256.out _; refine blk_far ?_ NB254_256.out _; exact BK254.out)) : gb258 ≠ gb254)); have n10_ := Aside0.mk ((by rw [hg]; exact Nat.ne_of_lt (blk_lt (g := gb255) (o := .cells #[.int .u64 0, .int .u64 0] 40 (0, 0)) (by refine blk_far ?_ NB255_257.out _; refine blk_far ?_ NB255_257.out _; refine blk_far ?_ NB255_256.out _; refine blk_far ?_ NB255_256.out _; exact BK255.out)) : gb255 ≠ gb258)); have n11_ := Aside0.mk ((by rw [hg]; exact Nat.ne_of_gt (blk_lt (g := gb255) (o := .cells #[.int .u64 0, .int .u64 0] 40 (0, 0)) (by refine blk_far ?_ NB255_257.out _; refine blk_far ?_ NB255_257.out _; refine blk_far ?_ NB255_256.out _; refine blk_far ?_ NB255_256.out _; exact BK255.out)) : gb258 ≠ gb255)); have n12_ := Aside0.mk ((by rw [hg]; exact Nat.ne_of_lt (blk_lt (g := gb256) (o := .cells #[.int .u64 0, .int .u64 0] 40 (0, 0)) (by refine blk_far ?_ NB256_257.out _; refine blk_far ?_ NB256_257.out _; refine blk_put (cs := #[.int .u64 0, .int .u64 0]) ?_ 1 _ rfl; refine blk_put (cs := #[.int .u64 0, .int .u64 0]) ?_ 0 _ rfl; exact BK256.out)) : gb256 ≠ gb258)); have n13_ := Aside0.mk ((by rw [hg]; exact Nat.ne_of_gt (blk_lt (g := gb256) (o := .cells #[.int .u64 0, .int .u64 0] 40 (0, 0)) (by refine blk_far ?_ NB256_257.out _; refine blk_far ?_ NB256_257.out _; refine blk_put (cs := #[.int .u64 0, .int .u64 0]) ?_ 1 _ rfl; refine blk_put (cs := #[.int .u64 0, .int .u64 0]) ?_ 0 _ rfl; exact BK256.out)) : gb258 ≠ gb256)); have n14_ := Aside0.mk ((by rw [hg]; exact Nat.ne_of_lt (blk_lt (g := gb257) (o := .cells #[.int .u64 0, .int .u64 0] 40 (0, 0)) (by refine blk_put (cs := #[.int .u64 0, .int .u64 0]) ?_ 1 _ rfl; refine blk_put (cs := #[.int .u64 0, .int .u64 0]) ?_ 0 _ rfl; refine blk_far ?_ NB257_256.out _; refine blk_far ?_ NB257_256.out _; exact BK257.out)) : gb257 ≠ gb258)); have n15_ := Aside0.mk ((by rw [hg]; exact Nat.ne_of_gt (blk_lt (g := gb257) (o := .cells #[.int .u64 0, .int .u64 0] 40 (0, 0)) (by refine blk_put (cs := #[.int .u64 0, .int .u64 0]) ?_ 1 _ rfl; refine blk_put (cs := #[.int .u64 0, .int .u64 0]) ?_ 0 _ rfl; refine blk_far ?_ NB257_256.out _; refine blk_far ?_ NB257_256.out _; exact BK257.out)) : gb258 ≠ gb257)); clear BK254; clear BK255; clear BK256; clear BK257; clear HB; have BK254 := n0_; have BK255 := n1_; have BK256 := n2_; have BK257 := n3_; have HB := n4_; have BK258 := n5_; have GW258 := n6_; have GE258 := n7_; have NB254_258 := n8_; have NB258_254 := n9_; have NB255_258 := n10_; have NB258_255 := n11_; have NB256_258 := n12_; have NB258_256 := n13_; have NB257_258 := n14_; have NB258_257 := n15_; clear n0_ n1_ n2_ n3_ n4_ n5_ n6_ n7_ n8_ n9_ n10_ n11_ n12_ n13_ n14_ n15_; clear hb hbox hg; have hnb20 := NB258_254.out; have hnc20 := NB254_258.out; have hnb21 := NB258_255.out; have hnc21 := NB255_258.out; have hnb22 := NB258_256.out; have hnc22 := NB256_258.out; have hnb23 := NB258_257.out; have hnc23 := NB257_258.out; have hcz24_0 : w19.cell? ⟨gb258, 0, none⟩ = some (.int .u64 0) := (blk_cell BK258.out 0).trans rfl; have hcz24_1 : w19.cell? ⟨gb258, 1, none⟩ = some (.int .u64 0) := (blk_cell BK258.out 1).trans rfl; have hfz24_0 := blk_frozen BK258.out 0; have hfz24_1 := blk_frozen BK258.out 1))
  go_loopg [9] k (fun kq v9 w' => ∃ (x9_1 : Int) (x257000_1 : Int) (x257001_1 : Int) (x258000_1 : Int) (x258001_1 : Int), v9 = .int .i64 x9_1 ∧ Aside0 (overfallref01_Div.l0 kq x9_1 a0_0 a0_1 x257000_1 x257001_1 x258000_1 x258001_1 0 a1 = some (r1, r2, r3)) ∧ Aside0 (kq ≤ k) ∧ Aside0 (w'.heap[gb254]? = some (.cells #[.int .u64 a0_0, .int .u64 a0_1] 40 (0, 0))) ∧ Aside0 (w'.heap[gb255]? = some (.cells #[.int .u64 0, .int .u64 0] 40 (0, 0))) ∧ Aside0 (w'.heap[gb256]? = some (.cells #[.int .u64 x257000_1, .int .u64 x257001_1] 40 (0, 0))) ∧ Aside0 (w'.heap[gb257]? = some (.cells #[.int .u64 x258000_1, .int .u64 x258001_1] 40 (0, 0))) ∧ Aside0 (w'.heap[gb258]? = some (.cells #[.int .u64 0, .int .u64 a1] 40 (0, 0))) ∧ Aside0 (Below w.heap.size w w'))
  case atStart => exact ⟨(127), (0), (0), (0), (0), (by first | rfl | (simp; done) | (simp [*]; done)), H', ⟨Nat.le_refl _⟩, ⟨by refine blk_far ?_ NB254_258.out _; refine blk_far ?_ NB254_258.out _; exact BK254.out⟩, ⟨by refine blk_far ?_ NB255_258.out _; refine blk_far ?_ NB255_258.out _; exact BK255.out⟩, ⟨by refine blk_far ?_ NB256_258.out _; refine blk_far ?_ NB256_258.out _; exact BK256.out⟩, ⟨by refine blk_far ?_ NB257_258.out _; refine blk_far ?_ NB257_258.out _; exact BK257.out⟩, ⟨by refine blk_put (cs := #[.int .u64 0, .int .u64 0]) ?_ 1 _ rfl; refine blk_put (cs := #[.int .u64 0, .int .u64 0]) ?_ 0 _ rfl; exact BK258.out⟩, ⟨by repeat (first | (with_reducible first | exact HB.out | apply below_alloc | apply pw_below_drewN | apply below_drew1 | refine below_set ?_ GE254.out | refine below_set ?_ GE255.out | refine below_set ?_ GE256.out | refine below_set ?_ GE257.out | refine below_set ?_ GE258.out) | exact HB.out)⟩⟩
  case round =>
   clear H'
   try clear c1
   try clear c2
   try clear p2
   try clear c3
   try clear c3b0
   try clear c3b1
   try clear c4
   try clear c6
   try clear c12
   try clear c13
   try clear c14
   try clear c16
   try clear c17
   try clear c20
   try clear c21
   try clear c22
   try clear c23
   try clear hcz15_0
   try clear hcz15_1
   try clear hcz18_0
   try clear hcz18_1
   try clear hcz24_0
   try clear hcz24_1
   try clear hcz7_0
   try clear hcz7_1
   try clear hfz15_0
   try clear hfz15_1
   try clear hfz18_0
   try clear hfz18_1
   try clear hfz24_0
   try clear hfz24_1
   try clear hfz7_0
   try clear hfz7_1
   obtain ⟨x9_1, x257000_1, x257001_1, x258000_1, x258001_1, rfl, HA, HK1, BK254, BK255, BK256, BK257, BK258, HB⟩ := hrel
   cases gk with
   | zero => exact absurd HA.out (by simp [overfallref01_Div.l0])
   | succ k1 =>
    have H := HA.out
    clear HA
    simp only [overfallref01_Div.l0] at H
    by_cases c25 : x9_1 ≥ 0
    ·rw [if_pos c25] at H
     have c25b0 : decide (0 ≤ x9_1) = true := decide_eq_true c25
     clear c25
     replace H := Option.bind_eq_some_iff.mp H
     obtain ⟨⟨t259, t260⟩, A260, H⟩ := H
     replace H : ((overfallref01_Twice.f k1 x258000_1 x258001_1).bind fun bt261 => ((overfallref01_Bit.f k1 a0_0 a0_1 x9_1).bind fun t263 => (if t263 = 1 then ((overfallref01_Add.f k1 bt261.1 bt261.2 0 1).bind fun bt264 => (overfallref01_Div.j1 k1 x9_1 a0_0 a0_1 t259 t260 bt264.1 bt264.2.1 0 a1)) else (overfallref01_Div.j1 k1 x9_1 a0_0 a0_1 t259 t260 bt261.1 bt261.2 0 a1)))) = some (r1, r2, r3) := H
     have A26 := Aside0.mk A260
     clear A260
     replace H := Option.bind_eq_some_iff.mp H
     obtain ⟨⟨t261, t262⟩, A270, H⟩ := H
     replace H : ((overfallref01_Bit.f k1 a0_0 a0_1 x9_1).bind fun t263 => (if t263 = 1 then ((overfallref01_Add.f k1 t261 t262 0 1).bind fun bt264 => (overfallref01_Div.j1 k1 x9_1 a0_0 a0_1 t259 t260 bt264.1 bt264.2.1 0 a1)) else (overfallref01_Div.j1 k1 x9_1 a0_0 a0_1 t259 t260 t261 t262 0 a1))) = some (r1, r2, r3) := H
     have A27 := Aside0.mk A270
     clear A270
     replace H := Option.bind_eq_some_iff.mp H
     obtain ⟨t263, A280, H⟩ := H
     replace H : (if t263 = 1 then ((overfallref01_Add.f k1 t261 t262 0 1).bind fun bt264 => (overfallref01_Div.j1 k1 x9_1 a0_0 a0_1 t259 t260 bt264.1 bt264.2.1 0 a1)) else (overfallref01_Div.j1 k1 x9_1 a0_0 a0_1 t259 t260 t261 t262 0 a1)) = some (r1, r2, r3) := H
     have A28 := Aside0.mk A280
     clear A280
     have HC29 := Aside0.mk H
     clear H
     try go_wp2
     have n0_ := Aside0.mk (blk_drew BK254.out)
     have n1_ := Aside0.mk (blk_drew BK255.out)
     have n2_ := Aside0.mk (blk_drew BK256.out)
     have n3_ := Aside0.mk (blk_drew BK257.out)
     have n4_ := Aside0.mk (blk_drew BK258.out)
     have n5_ := Aside0.mk (below_drew1 HB.out)
     clear BK254
     clear BK255
     clear BK256
     clear BK257
     clear BK258
     clear HB
     have BK254 := n0_
     have BK255 := n1_
     have BK256 := n2_
     have BK257 := n3_
     have BK258 := n4_
     have HB := n5_
     clear n0_ n1_ n2_ n3_ n4_ n5_
     refine start_ (n := 6) (S := fun w' => w'.cell? ⟨gb256, 0, none⟩ = some (.int .u64 x257000_1) ∧ w'.cell? ⟨gb256, 1, none⟩ = some (.int .u64 x257001_1) ∧ w'.cell? ⟨gb257, 0, none⟩ = some (.int .u64 x258000_1) ∧ w'.cell? ⟨gb257, 1, none⟩ = some (.int .u64 x258001_1)) (ds := [4, 5]) #[false, false, false, false, false, false] (by kernel_rfl) rfl rfl ⟨(blk_cell BK256.out 0).trans rfl, (blk_cell BK256.out 1).trans rfl, (blk_cell BK257.out 0).trans rfl, (blk_cell BK257.out 1).trans rfl⟩ (fun hHeld => ?_)
     generalize wr.drew = w30 at BK254 BK255 BK256 BK257 BK258 HB hHeld ⊢
     refine take_ (i := 0) (N := some 21) (v := ?_) (a' := ?_) #[true, false, false, false, false, false] rfl rfl (by kernel_rfl) (fun _ _ _ h => h) (Or.inl ⟨by rfl, ?_⟩) hHeld ?_ ?_
     rotate_left
     ·rintro w' ⟨s0, s1, s2, s3⟩
      go_simp
      with_reducible rfl
     rotate_left
     ·simp only [Act.put, List.setIfInBounds_toArray, List.set_cons_zero, List.set_cons_succ, i64_w, i32_w]
      rfl
     refine take_ (i := 2) (N := some 23) (v := ?_) (a' := ?_) #[true, false, true, false, false, false] rfl rfl (by kernel_rfl) (fun _ _ _ h => h) (Or.inl ⟨by rfl, ?_⟩) hHeld ?_ ?_
     rotate_left
     ·rintro w' ⟨s0, s1, s2, s3⟩
      go_simp
      with_reducible rfl
     rotate_left
     ·simp only [Act.put, List.setIfInBounds_toArray, List.set_cons_zero, List.set_cons_succ, i64_w, i32_w]
      rfl
     refine one_ (i := 1) (N := some 22) #[true, true, true, false, false, false] rfl rfl (by kernel_rfl) (by decide) (fun K hK => ?_)
     refine goes_ Try.func56 (by kernel_rfl) rfl #[.agg #[.int .u64 x257000_1, .int .u64 x257001_1]] (by rfl) rfl rfl (by (try simp only [List.map_toArray, List.map_cons, List.map_nil]); first | done | rfl | (simp only [List.length_drop, List.length_take]; rfl)) ?_
     with_reducible refine (overfallref01_Twice.calls k1 x257000_1 x257001_1 t259 t260 _ A26.out).mono ?_
     rintro e w31 ⟨rfl, hb⟩
     refine ⟨_, rfl, ?_⟩
     have n0_ := Aside0.mk (blk_below (by exact BK254.out) hb)
     have n1_ := Aside0.mk (blk_below (by exact BK255.out) hb)
     have n2_ := Aside0.mk (blk_below (by exact BK256.out) hb)
     have n3_ := Aside0.mk (blk_below (by exact BK257.out) hb)
     have n4_ := Aside0.mk (blk_below (by exact BK258.out) hb)
     have n5_ := Aside0.mk (below_step (by repeat (first | (with_reducible first | exact HB.out | apply below_alloc | apply pw_below_drewN | apply below_drew1 | refine below_set ?_ GE254.out | refine below_set ?_ GE255.out | refine below_set ?_ GE256.out | refine below_set ?_ GE257.out | refine below_set ?_ GE258.out) | exact HB.out)) hb)
     clear BK254
     clear BK255
     clear BK256
     clear BK257
     clear BK258
     clear HB
     have BK254 := n0_
     have BK255 := n1_
     have BK256 := n2_
     have BK257 := n3_
     have BK258 := n4_
     have HB := n5_
     clear n0_ n1_ n2_ n3_ n4_ n5_
     (try clear hb)
     (try clear hb2)
     (try clear hk)
     (try clear hi)
     refine hK.out _ _ ⟨(blk_cell BK256.out 0).trans rfl, (blk_cell BK256.out 1).trans rfl, (blk_cell BK257.out 0).trans rfl, (blk_cell BK257.out 1).trans rfl⟩ (fun hHeld => ?_)
     clear hK K
     refine norm_ (a' := ?_) ?_ ?_
     rotate_left
     ·show Act.put _ (some 22) _ = _
      simp only [Act.put, List.setIfInBounds_toArray, List.set_cons_zero, List.set_cons_succ, i64_w, i32_w]
      rfl
     refine one_ (i := 3) (N := some 24) #[true, true, true, true, false, false] rfl rfl (by kernel_rfl) (by decide) (fun K hK => ?_)
     refine goes_ Try.func56 (by kernel_rfl) rfl #[.agg #[.int .u64 x258000_1, .int .u64 x258001_1]] (by rfl) rfl rfl (by (try simp only [List.map_toArray, List.map_cons, List.map_nil]); first | done | rfl | (simp only [List.length_drop, List.length_take]; rfl)) ?_
     with_reducible refine (overfallref01_Twice.calls k1 x258000_1 x258001_1 t261 t262 _ A27.out).mono ?_
     rintro e w32 ⟨rfl, hb⟩
     refine ⟨_, rfl, ?_⟩
     have n0_ := Aside0.mk (blk_below (by exact BK254.out) hb)
     have n1_ := Aside0.mk (blk_below (by exact BK255.out) hb)
     have n2_ := Aside0.mk (blk_below (by exact BK256.out) hb)
     have n3_ := Aside0.mk (blk_below (by exact BK257.out) hb)
     have n4_ := Aside0.mk (blk_below (by exact BK258.out) hb)
     have n5_ := Aside0.mk (below_step (by repeat (first | (with_reducible first | exact HB.out | apply below_alloc | apply pw_below_drewN | apply below_drew1 | refine below_set ?_ GE254.out | refine below_set ?_ GE255.out | refine below_set ?_ GE256.out | refine below_set ?_ GE257.out | refine below_set ?_ GE258.out) | exact HB.out)) hb)
     clear BK254
     clear BK255
     clear BK256
     clear BK257
     clear BK258
     clear HB
     have BK254 := n0_
     have BK255 := n1_
     have BK256 := n2_
     have BK257 := n3_
     have BK258 := n4_
     have HB := n5_
     clear n0_ n1_ n2_ n3_ n4_ n5_
     (try clear hb)
     (try clear hb2)
     (try clear hk)
     (try clear hi)
     refine hK.out _ _ ⟨(blk_cell BK256.out 0).trans rfl, (blk_cell BK256.out 1).trans rfl, (blk_cell BK257.out 0).trans rfl, (blk_cell BK257.out 1).trans rfl⟩ (fun hHeld => ?_)
     clear hK K
     refine norm_ (a' := ?_) ?_ ?_
     rotate_left
     ·show Act.put _ (some 24) _ = _
      simp only [Act.put, List.setIfInBounds_toArray, List.set_cons_zero, List.set_cons_succ, i64_w, i32_w]
      rfl
     refine last_ (i := 4) (N := none) #[true, true, true, true, true, false] rfl rfl (by kernel_rfl) (by decide) (fun K hK => ?_)
     have hs33 : w32.cell? ⟨gb256, 0, none⟩ = some (.int .u64 x257000_1) := (blk_cell BK256.out 0).trans rfl
     have hfs33 := blk_frozen BK256.out 0
     have hns33_0 := NB254_256.out
     have hns33_1 := NB255_256.out
     have hns33_3 := NB257_256.out
     have hns33_4 := NB258_256.out
     have hms33_0 := NB256_254.out
     have hms33_1 := NB256_255.out
     have hms33_3 := NB256_257.out
     have hms33_4 := NB256_258.out
     have hs34 : w32.cell? ⟨gb256, 1, none⟩ = some (.int .u64 x257001_1) := (blk_cell BK256.out 1).trans rfl
     have hfs34 := blk_frozen BK256.out 1
     have hns34_0 := NB254_256.out
     have hns34_1 := NB255_256.out
     have hns34_3 := NB257_256.out
     have hns34_4 := NB258_256.out
     have hms34_0 := NB256_254.out
     have hms34_1 := NB256_255.out
     have hms34_3 := NB256_257.out
     have hms34_4 := NB256_258.out
     refine skip_ (w1 := ?_) (by rfl) rfl ?_ ?_
     rotate_left
     ·go_simp
      rfl
     refine hK.out _ _ ?_
     clear hK K
     refine last_ (i := 5) (N := none) #[true, true, true, true, true, true] rfl rfl (by kernel_rfl) (by decide) (fun K hK => ?_)
     have hs35 : w32.cell? ⟨gb257, 0, none⟩ = some (.int .u64 x258000_1) := (blk_cell BK257.out 0).trans rfl
     have hfs35 := blk_frozen BK257.out 0
     have hns35_0 := NB254_257.out
     have hns35_1 := NB255_257.out
     have hns35_2 := NB256_257.out
     have hns35_4 := NB258_257.out
     have hms35_0 := NB257_254.out
     have hms35_1 := NB257_255.out
     have hms35_2 := NB257_256.out
     have hms35_4 := NB257_258.out
     have hs36 : w32.cell? ⟨gb257, 1, none⟩ = some (.int .u64 x258001_1) := (blk_cell BK257.out 1).trans rfl
     have hfs36 := blk_frozen BK257.out 1
     have hns36_0 := NB254_257.out
     have hns36_1 := NB255_257.out
     have hns36_2 := NB256_257.out
     have hns36_4 := NB258_257.out
     have hms36_0 := NB257_254.out
     have hms36_1 := NB257_255.out
     have hms36_2 := NB257_256.out
     have hms36_4 := NB257_258.out
     refine skip_ (w1 := ?_) (by rfl) rfl ?_ ?_
     rotate_left
     ·go_simp
      rfl
     refine hK.out _ _ ?_
     clear hK K
     refine done_ (by kernel_rfl) ?_
     have hnb37 := NB254_255.out
     have hnc37 := NB255_254.out
     have hnb38 := NB254_256.out
     have hnc38 := NB256_254.out
     have hnb39 := NB254_257.out
     have hnc39 := NB257_254.out
     have hnb40 := NB254_258.out
     have hnc40 := NB258_254.out
     have hcz41_0 : w32.cell? ⟨gb254, 0, none⟩ = some (.int .u64 a0_0) := (blk_cell BK254.out 0).trans rfl
     have hcz41_1 : w32.cell? ⟨gb254, 1, none⟩ = some (.int .u64 a0_1) := (blk_cell BK254.out 1).trans rfl
     have hfz41_0 := blk_frozen BK254.out 0
     have hfz41_1 := blk_frozen BK254.out 1
     go_upto_if 28 with (first | ((with_reducible refine gate_callee (f := 57) rfl ?_); refine goesL_ (some 27) rfl rfl Try.func57 (by kernel_rfl) rfl #[.agg #[.int .u64 a0_0, .int .u64 a0_1], .int .i64 x9_1] rfl (by (try simp only [List.map_toArray, List.map_cons, List.map_nil]); first | done | rfl | (simp only [List.length_drop, List.length_take]; rfl)) ?_; (with_reducible refine (overfallref01_Bit.calls k1 a0_0 a0_1 x9_1 t263 _ A28.out).mono ?_); rintro e w42 ⟨rfl, hb⟩; refine ⟨_, rfl, ?_⟩; have n0_ := Aside0.mk (blk_below (g := gb254) (o := .cells #[.int .u64 a0_0, .int .u64 a0_1] 40 (0, 0)) (by refine blk_far ?_ NB254_257.out _; refine blk_far ?_ NB254_257.out _; refine blk_far ?_ NB254_256.out _; refine blk_far ?_ NB254_256.out _; exact BK254.out) hb); have n1_ := Aside0.mk (blk_below (g := gb255) (o := .cells #[.int .u64 0, .int .u64 0] 40 (0, 0)) (by refine blk_far ?_ NB255_257.out _; refine blk_far ?_ NB255_257.out _; refine blk_far ?_ NB255_256.out _; refine blk_far ?_ NB255_256.out _; exact BK255.out) hb); have n2_ := Aside0.mk (blk_below (g := gb256) (o := .cells #[.int .u64 t259, .int .u64 t260] 40 (0, 0)) (by refine blk_far ?_ NB256_257.out _; refine blk_far ?_ NB256_257.out _; refine blk_put (cs := #[.int .u64 t259, .int .u64 x257001_1]) ?_ 1 _ rfl; refine blk_put (cs := #[.int .u64 x257000_1, .int .u64 x257001_1]) ?_ 0 _ rfl; exact BK256.out) hb); have n3_ := Aside0.mk (blk_below (g := gb257) (o := .cells #[.int .u64 t261, .int .u64 t262] 40 (0, 0)) (by refine blk_put (cs := #[.int .u64 t261, .int .u64 x258001_1]) ?_ 1 _ rfl; refine blk_put (cs := #[.int .u64 x258000_1, .int .u64 x258001_1]) ?_ 0 _ rfl; refine blk_far ?_ NB257_256.out _; refine blk_far ?_ NB257_256.out _; exact BK257.out) hb); have n4_ := Aside0.mk (blk_below (g := gb258) (o := .cells #[.int .u64 0, .int .u64 a1] 40 (0, 0)) (by refine blk_far ?_ NB258_257.out _; refine blk_far ?_ NB258_257.out _; refine blk_far ?_ NB258_256.out _; refine blk_far ?_ NB258_256.out _; exact BK258.out) hb); have n5_ := Aside0.mk (below_step (by repeat (first | (with_reducible first | exact HB.out | apply below_alloc | apply pw_below_drewN | apply below_drew1 | refine below_set ?_ GE254.out | refine below_set ?_ GE255.out | refine below_set ?_ GE256.out | refine below_set ?_ GE257.out | refine below_set ?_ GE258.out) | exact HB.out)) hb); clear BK254; clear BK255; clear BK256; clear BK257; clear BK258; clear HB; have BK254 := n0_; have BK255 := n1_; have BK256 := n2_; have BK257 := n3_; have BK258 := n4_; have HB := n5_; clear n0_ n1_ n2_ n3_ n4_ n5_; (try clear hb); (try clear hb2); (try clear hk); (try clear hi)))
     (try simp only [Act.put, List.setIfInBounds_toArray, List.set_cons_zero, List.set_cons_succ])
     go_cut [] (fun wc => ∃ (kq : Nat) (x258000_28 : Int) (x258001_28 : Int), Aside0 (overfallref01_Div.j1 kq x9_1 a0_0 a0_1 t259 t260 x258000_28 x258001_28 0 a1 = some (r1, r2, r3)) ∧ Aside0 (kq ≤ k1) ∧ Aside0 (wc.heap[gb254]? = some (.cells #[.int .u64 a0_0, .int .u64 a0_1] 40 (0, 0))) ∧ Aside0 (wc.heap[gb255]? = some (.cells #[.int .u64 0, .int .u64 0] 40 (0, 0))) ∧ Aside0 (wc.heap[gb256]? = some (.cells #[.int .u64 t259, .int .u64 t260] 40 (0, 0))) ∧ Aside0 (wc.heap[gb257]? = some (.cells #[.int .u64 x258000_28, .int .u64 x258001_28] 40 (0, 0))) ∧ Aside0 (wc.heap[gb258]? = some (.cells #[.int .u64 0, .int .u64 a1] 40 (0, 0))) ∧ Aside0 (Below w.heap.size w wc))
     case first =>
      have H := HC29.out
      clear HC29
      by_cases c43 : t263 = 1
      ·rw [if_pos c43] at H
       have c43b0 : (t263 == 1) = true := beq_iff_eq.mpr c43
       have c43b1 : (t263 != 1) = false := bne_eq_false_iff_eq.mpr c43
       clear c43
       (first | rw [c43b0] | (simp only [i64_w, i32_w]; rw [c43b0]) | skip)
       replace H := Option.bind_eq_some_iff.mp H
       obtain ⟨⟨t264, t265, t266⟩, A440, H⟩ := H
       replace H : (overfallref01_Div.j1 k1 x9_1 a0_0 a0_1 t259 t260 t264 t265 0 a1) = some (r1, r2, r3) := H
       have A44 := Aside0.mk A440
       clear A440
       have H' := Aside0.mk H
       clear H
       have hnb45 := NB257_254.out
       have hnc45 := NB254_257.out
       have hnb46 := NB257_255.out
       have hnc46 := NB255_257.out
       have hnb47 := NB257_256.out
       have hnc47 := NB256_257.out
       have hnb48 := NB257_258.out
       have hnc48 := NB258_257.out
       have hcz49_0 : w42.cell? ⟨gb257, 0, none⟩ = some (.int .u64 t261) := (blk_cell BK257.out 0).trans rfl
       have hcz49_1 : w42.cell? ⟨gb257, 1, none⟩ = some (.int .u64 t262) := (blk_cell BK257.out 1).trans rfl
       have hfz49_0 := blk_frozen BK257.out 0
       have hfz49_1 := blk_frozen BK257.out 1
       go_wp2_with (first | ((with_reducible refine gate_callee (f := 47) rfl ?_); refine goesL_ (some 32) rfl rfl Try.func47 (by kernel_rfl) rfl #[.agg #[.int .u64 t261, .int .u64 t262], .agg #[.int .u64 0, .int .u64 1]] rfl (by (try simp only [List.map_toArray, List.map_cons, List.map_nil]); first | done | rfl | (simp only [List.length_drop, List.length_take]; rfl)) ?_; (with_reducible refine (overfallref01_Add.calls k1 t261 t262 0 1 t264 t265 t266 _ A44.out).mono ?_); rintro e w50 ⟨rfl, hb⟩; refine ⟨_, rfl, ?_⟩; have n0_ := Aside0.mk (blk_below (by exact BK254.out) hb); have n1_ := Aside0.mk (blk_below (by exact BK255.out) hb); have n2_ := Aside0.mk (blk_below (by exact BK256.out) hb); have n3_ := Aside0.mk (blk_below (by exact BK257.out) hb); have n4_ := Aside0.mk (blk_below (by exact BK258.out) hb); have n5_ := Aside0.mk (below_step (by repeat (first | (with_reducible first | exact HB.out | apply below_alloc | apply pw_below_drewN | apply below_drew1 | refine below_set ?_ GE254.out | refine below_set ?_ GE255.out | refine below_set ?_ GE256.out | refine below_set ?_ GE257.out | refine below_set ?_ GE258.out) | exact HB.out)) hb); clear BK254; clear BK255; clear BK256; clear BK257; clear BK258; clear HB; have BK254 := n0_; have BK255 := n1_; have BK256 := n2_; have BK257 := n3_; have BK258 := n4_; have HB := n5_; clear n0_ n1_ n2_ n3_ n4_ n5_; (try clear hb); (try clear hb2); (try clear hk); (try clear hi); have hcz51_0 : w50.cell? ⟨gb257, 0, none⟩ = some (.int .u64 t261) := (blk_cell BK257.out 0).trans rfl; have hcz51_1 : w50.cell? ⟨gb257, 1, none⟩ = some (.int .u64 t262) := (blk_cell BK257.out 1).trans rfl; have hfz51_0 := blk_frozen BK257.out 0; have hfz51_1 := blk_frozen BK257.out 1))
       go_meet
       case rel => exact ⟨_, (t264), (t265), H', ⟨by have := HK1.out; first | omega | exact Nat.le_refl _⟩, ⟨by refine blk_far ?_ NB254_257.out _; refine blk_far ?_ NB254_257.out _; exact BK254.out⟩, ⟨by refine blk_far ?_ NB255_257.out _; refine blk_far ?_ NB255_257.out _; exact BK255.out⟩, ⟨by refine blk_far ?_ NB256_257.out _; refine blk_far ?_ NB256_257.out _; exact BK256.out⟩, ⟨by refine blk_put (cs := #[.int .u64 t264, .int .u64 t262]) ?_ 1 _ rfl; refine blk_put (cs := #[.int .u64 t261, .int .u64 t262]) ?_ 0 _ rfl; exact BK257.out⟩, ⟨by refine blk_far ?_ NB258_257.out _; refine blk_far ?_ NB258_257.out _; exact BK258.out⟩, ⟨by repeat (first | (with_reducible first | exact HB.out | apply below_alloc | apply pw_below_drewN | apply below_drew1 | refine below_set ?_ GE254.out | refine below_set ?_ GE255.out | refine below_set ?_ GE256.out | refine below_set ?_ GE257.out | refine below_set ?_ GE258.out) | exact HB.out)⟩⟩
      ·rw [if_neg c43] at H
       have c43b0 : (t263 == 1) = false := beq_eq_false_iff_ne.mpr c43
       have c43b1 : (t263 != 1) = true := bne_iff_ne.mpr c43
       (first | rw [c43b0] | (simp only [i64_w, i32_w]; rw [c43b0]) | skip)
       have H' := Aside0.mk H
       clear H
       go_wp2
       go_meet
       case rel => exact ⟨_, (t261), (t262), H', ⟨by have := HK1.out; first | omega | exact Nat.le_refl _⟩, ⟨by exact BK254.out⟩, ⟨by exact BK255.out⟩, ⟨by exact BK256.out⟩, ⟨by exact BK257.out⟩, ⟨by exact BK258.out⟩, ⟨by repeat (first | (with_reducible first | exact HB.out | apply below_alloc | apply pw_below_drewN | apply below_drew1 | refine below_set ?_ GE254.out | refine below_set ?_ GE255.out | refine below_set ?_ GE256.out | refine below_set ?_ GE257.out | refine below_set ?_ GE258.out) | exact HB.out)⟩⟩
     case rest =>
      clear HC29
      try clear c1
      try clear c2
      try clear p2
      try clear c3
      try clear c3b0
      try clear c3b1
      try clear c4
      try clear c5
      try clear c6
      try clear c12
      try clear c13
      try clear c14
      try clear c16
      try clear c17
      try clear c20
      try clear c21
      try clear c22
      try clear c23
      try clear c25
      try clear c25b0
      try clear c37
      try clear c38
      try clear c39
      try clear c40
      try clear c43
      try clear c43b0
      try clear c43b1
      try clear c45
      try clear c46
      try clear c47
      try clear c48
      try clear hcz15_0
      try clear hcz15_1
      try clear hcz18_0
      try clear hcz18_1
      try clear hcz24_0
      try clear hcz24_1
      try clear hcz41_0
      try clear hcz41_1
      try clear hcz49_0
      try clear hcz49_1
      try clear hcz51_0
      try clear hcz51_1
      try clear hcz7_0
      try clear hcz7_1
      try clear hfz15_0
      try clear hfz15_1
      try clear hfz18_0
      try clear hfz18_1
      try clear hfz24_0
      try clear hfz24_1
      try clear hfz41_0
      try clear hfz41_1
      try clear hfz49_0
      try clear hfz49_1
      try clear hfz51_0
      try clear hfz51_1
      try clear hfz7_0
      try clear hfz7_1
      try clear p2
      obtain ⟨kq, x258000_28, x258001_28, HA, HJ28, BK254, BK255, BK256, BK257, BK258, HB⟩ := hcut
      cases kq with
      | zero => exact absurd HA.out (by simp [overfallref01_Div.j1])
      | succ kj28 =>
       have H := HA.out
       clear HA
       simp only [overfallref01_Div.j1] at H
       replace H := Option.bind_eq_some_iff.mp H
       obtain ⟨t267, A520, H⟩ := H
       replace H : (if t267 = true then (overfallref01_Div.l0 kj28 (wrap64 (x9_1 - 1)) a0_0 a0_1 t259 t260 x258000_28 x258001_28 0 a1) else ((overfallref01_Sub.f kj28 x258000_28 x258001_28 0 a1).bind fun bt268 => ((overfallref01_Add.f kj28 t259 t260 0 1).bind fun bt271 => (overfallref01_Div.l0 kj28 (wrap64 (x9_1 - 1)) a0_0 a0_1 bt271.1 bt271.2.1 bt268.1 bt268.2.1 0 a1)))) = some (r1, r2, r3) := H
       have A52 := Aside0.mk A520
       clear A520
       by_cases c53 : t267 = true
       ·subst c53
        have H1 : (overfallref01_Div.l0 kj28 (wrap64 (x9_1 - 1)) a0_0 a0_1 t259 t260 x258000_28 x258001_28 0 a1) = some (r1, r2, r3) := by rw [if_pos rfl] at H; exact H
        clear H
        have H := H1
        clear H1
        have H' := Aside0.mk H
        clear H
        have hnb54 := NB257_254.out
        have hnc54 := NB254_257.out
        have hnb55 := NB257_255.out
        have hnc55 := NB255_257.out
        have hnb56 := NB257_256.out
        have hnc56 := NB256_257.out
        have hnb57 := NB257_258.out
        have hnc57 := NB258_257.out
        have hcz58_0 : wc.cell? ⟨gb257, 0, none⟩ = some (.int .u64 x258000_28) := (blk_cell BK257.out 0).trans rfl
        have hcz58_1 : wc.cell? ⟨gb257, 1, none⟩ = some (.int .u64 x258001_28) := (blk_cell BK257.out 1).trans rfl
        have hfz58_0 := blk_frozen BK257.out 0
        have hfz58_1 := blk_frozen BK257.out 1
        have hnb59 := NB258_254.out
        have hnc59 := NB254_258.out
        have hnb60 := NB258_255.out
        have hnc60 := NB255_258.out
        have hnb61 := NB258_256.out
        have hnc61 := NB256_258.out
        have hcz62_0 : wc.cell? ⟨gb258, 0, none⟩ = some (.int .u64 0) := (blk_cell BK258.out 0).trans rfl
        have hcz62_1 : wc.cell? ⟨gb258, 1, none⟩ = some (.int .u64 a1) := (blk_cell BK258.out 1).trans rfl
        have hfz62_0 := blk_frozen BK258.out 0
        have hfz62_1 := blk_frozen BK258.out 1
        go_wp2_with (first | ((with_reducible refine gate_callee (f := 48) rfl ?_); refine goesL_ (some 37) rfl rfl Try.func48 (by kernel_rfl) rfl #[.agg #[.int .u64 x258000_28, .int .u64 x258001_28], .agg #[.int .u64 0, .int .u64 a1]] rfl (by (try simp only [List.map_toArray, List.map_cons, List.map_nil]); first | done | rfl | (simp only [List.length_drop, List.length_take]; rfl)) ?_; (with_reducible refine (overfallref01_Less.calls x258000_28 x258001_28 0 a1 true _ A52.out).mono ?_); rintro e w63 ⟨rfl, hb⟩; refine ⟨_, rfl, ?_⟩; have n0_ := Aside0.mk (blk_below (by exact BK254.out) hb); have n1_ := Aside0.mk (blk_below (by exact BK255.out) hb); have n2_ := Aside0.mk (blk_below (by exact BK256.out) hb); have n3_ := Aside0.mk (blk_below (by exact BK257.out) hb); have n4_ := Aside0.mk (blk_below (by exact BK258.out) hb); have n5_ := Aside0.mk (below_step (by repeat (first | (with_reducible first | exact HB.out | apply below_alloc | apply pw_below_drewN | apply below_drew1 | refine below_set ?_ GE254.out | refine below_set ?_ GE255.out | refine below_set ?_ GE256.out | refine below_set ?_ GE257.out | refine below_set ?_ GE258.out) | exact HB.out)) hb); clear BK254; clear BK255; clear BK256; clear BK257; clear BK258; clear HB; have BK254 := n0_; have BK255 := n1_; have BK256 := n2_; have BK257 := n3_; have BK258 := n4_; have HB := n5_; clear n0_ n1_ n2_ n3_ n4_ n5_; (try clear hb); (try clear hb2); (try clear hk); (try clear hi)))
        go_roundg kj28
        case measure => have := HK1.out; have := HJ28.out; omega
        case rel => exact ⟨(wrap64 (x9_1 - 1)), (t259), (t260), (x258000_28), (x258001_28), (by first | rfl | (simp; done) | (simp [*]; done)), H', ⟨by have := HK1.out; have := HJ28.out; omega⟩, ⟨by exact BK254.out⟩, ⟨by exact BK255.out⟩, ⟨by exact BK256.out⟩, ⟨by exact BK257.out⟩, ⟨by exact BK258.out⟩, ⟨by repeat (first | (with_reducible first | exact HB.out | apply below_alloc | apply pw_below_drewN | apply below_drew1 | refine below_set ?_ GE254.out | refine below_set ?_ GE255.out | refine below_set ?_ GE256.out | refine below_set ?_ GE257.out | refine below_set ?_ GE258.out) | exact HB.out)⟩⟩
       ·replace c53 := Bool.eq_false_iff.mpr c53
        subst c53
        have H1 : ((overfallref01_Sub.f kj28 x258000_28 x258001_28 0 a1).bind fun bt268 => ((overfallref01_Add.f kj28 t259 t260 0 1).bind fun bt271 => (overfallref01_Div.l0 kj28 (wrap64 (x9_1 - 1)) a0_0 a0_1 bt271.1 bt271.2.1 bt268.1 bt268.2.1 0 a1))) = some (r1, r2, r3) := by rw [if_neg (show ¬ (false = true) by decide)] at H; exact H
        clear H
        have H := H1
        clear H1
        replace H := Option.bind_eq_some_iff.mp H
        obtain ⟨⟨t268, t269, t270⟩, A640, H⟩ := H
        replace H : ((overfallref01_Add.f kj28 t259 t260 0 1).bind fun bt271 => (overfallref01_Div.l0 kj28 (wrap64 (x9_1 - 1)) a0_0 a0_1 bt271.1 bt271.2.1 t268 t269 0 a1)) = some (r1, r2, r3) := H
        have A64 := Aside0.mk A640
        clear A640
        replace H := Option.bind_eq_some_iff.mp H
        obtain ⟨⟨t271, t272, t273⟩, A650, H⟩ := H
        replace H : (overfallref01_Div.l0 kj28 (wrap64 (x9_1 - 1)) a0_0 a0_1 t271 t272 t268 t269 0 a1) = some (r1, r2, r3) := H
        have A65 := Aside0.mk A650
        clear A650
        have H' := Aside0.mk H
        clear H
        have hnb66 := NB257_254.out
        have hnc66 := NB254_257.out
        have hnb67 := NB257_255.out
        have hnc67 := NB255_257.out
        have hnb68 := NB257_256.out
        have hnc68 := NB256_257.out
        have hnb69 := NB257_258.out
        have hnc69 := NB258_257.out
        have hcz70_0 : wc.cell? ⟨gb257, 0, none⟩ = some (.int .u64 x258000_28) := (blk_cell BK257.out 0).trans rfl
        have hcz70_1 : wc.cell? ⟨gb257, 1, none⟩ = some (.int .u64 x258001_28) := (blk_cell BK257.out 1).trans rfl
        have hfz70_0 := blk_frozen BK257.out 0
        have hfz70_1 := blk_frozen BK257.out 1
        have hnb71 := NB258_254.out
        have hnc71 := NB254_258.out
        have hnb72 := NB258_255.out
        have hnc72 := NB255_258.out
        have hnb73 := NB258_256.out
        have hnc73 := NB256_258.out
        have hcz74_0 : wc.cell? ⟨gb258, 0, none⟩ = some (.int .u64 0) := (blk_cell BK258.out 0).trans rfl
        have hcz74_1 : wc.cell? ⟨gb258, 1, none⟩ = some (.int .u64 a1) := (blk_cell BK258.out 1).trans rfl
        have hfz74_0 := blk_frozen BK258.out 0
        have hfz74_1 := blk_frozen BK258.out 1
        go_wp2_with (first | ((with_reducible refine gate_callee (f := 48) rfl ?_); refine goesL_ (some 37) rfl rfl Try.func48 (by kernel_rfl) rfl #[.agg #[.int .u64 x258000_28, .int .u64 x258001_28], .agg #[.int .u64 0, .int .u64 a1]] rfl (by (try simp only [List.map_toArray, List.map_cons, List.map_nil]); first | done | rfl | (simp only [List.length_drop, List.length_take]; rfl)) ?_; (with_reducible refine (overfallref01_Less.calls x258000_28 x258001_28 0 a1 false _ A52.out).mono ?_); rintro e w75 ⟨rfl, hb⟩; refine ⟨_, rfl, ?_⟩; have n0_ := Aside0.mk (blk_below (by exact BK254.out) hb); have n1_ := Aside0.mk (blk_below (by exact BK255.out) hb); have n2_ := Aside0.mk (blk_below (by exact BK256.out) hb); have n3_ := Aside0.mk (blk_below (by exact BK257.out) hb); have n4_ := Aside0.mk (blk_below (by exact BK258.out) hb); have n5_ := Aside0.mk (below_step (by repeat (first | (with_reducible first | exact HB.out | apply below_alloc | apply pw_below_drewN | apply below_drew1 | refine below_set ?_ GE254.out | refine below_set ?_ GE255.out | refine below_set ?_ GE256.out | refine below_set ?_ GE257.out | refine below_set ?_ GE258.out) | exact HB.out)) hb); clear BK254; clear BK255; clear BK256; clear BK257; clear BK258; clear HB; have BK254 := n0_; have BK255 := n1_; have BK256 := n2_; have BK257 := n3_; have BK258 := n4_; have HB := n5_; clear n0_ n1_ n2_ n3_ n4_ n5_; (try clear hb); (try clear hb2); (try clear hk); (try clear hi); have hcz76_0 : w75.cell? ⟨gb257, 0, none⟩ = some (.int .u64 x258000_28) := (blk_cell BK257.out 0).trans rfl; have hcz76_1 : w75.cell? ⟨gb257, 1, none⟩ = some (.int .u64 x258001_28) := (blk_cell BK257.out 1).trans rfl; have hfz76_0 := blk_frozen BK257.out 0; have hfz76_1 := blk_frozen BK257.out 1; have hcz77_0 : w75.cell? ⟨gb258, 0, none⟩ = some (.int .u64 0) := (blk_cell BK258.out 0).trans rfl; have hcz77_1 : w75.cell? ⟨gb258, 1, none⟩ = some (.int .u64 a1) := (blk_cell BK258.out 1).trans rfl; have hfz77_0 := blk_frozen BK258.out 0; have hfz77_1 := blk_frozen BK258.out 1) | ((with_reducible refine gate_callee (f := 49) rfl ?_); refine goesL_ (some 42) rfl rfl Try.func49 (by kernel_rfl) rfl #[.agg #[.int .u64 x258000_28, .int .u64 x258001_28], .agg #[.int .u64 0, .int .u64 a1]] rfl (by (try simp only [List.map_toArray, List.map_cons, List.map_nil]); first | done | rfl | (simp only [List.length_drop, List.length_take]; rfl)) ?_; (with_reducible refine (overfallref01_Sub.calls kj28 x258000_28 x258001_28 0 a1 t268 t269 t270 _ A64.out).mono ?_); rintro e w78 ⟨rfl, hb⟩; refine ⟨_, rfl, ?_⟩; have n0_ := Aside0.mk (blk_below (by exact BK254.out) hb); have n1_ := Aside0.mk (blk_below (by exact BK255.out) hb); have n2_ := Aside0.mk (blk_below (by exact BK256.out) hb); have n3_ := Aside0.mk (blk_below (by exact BK257.out) hb); have n4_ := Aside0.mk (blk_below (by exact BK258.out) hb); have n5_ := Aside0.mk (below_step (by repeat (first | (with_reducible first | exact HB.out | apply below_alloc | apply pw_below_drewN | apply below_drew1 | refine below_set ?_ GE254.out | refine below_set ?_ GE255.out | refine below_set ?_ GE256.out | refine below_set ?_ GE257.out | refine below_set ?_ GE258.out) | exact HB.out)) hb); clear BK254; clear BK255; clear BK256; clear BK257; clear BK258; clear HB; have BK254 := n0_; have BK255 := n1_; have BK256 := n2_; have BK257 := n3_; have BK258 := n4_; have HB := n5_; clear n0_ n1_ n2_ n3_ n4_ n5_; (try clear hb); (try clear hb2); (try clear hk); (try clear hi); have hcz79_0 : w78.cell? ⟨gb257, 0, none⟩ = some (.int .u64 x258000_28) := (blk_cell BK257.out 0).trans rfl; have hcz79_1 : w78.cell? ⟨gb257, 1, none⟩ = some (.int .u64 x258001_28) := (blk_cell BK257.out 1).trans rfl; have hfz79_0 := blk_frozen BK257.out 0; have hfz79_1 := blk_frozen BK257.out 1; have hnb80 := NB256_254.out; have hnc80 := NB254_256.out; have hnb81 := NB256_255.out; have hnc81 := NB255_256.out; have hcz82_0 : w78.cell? ⟨gb256, 0, none⟩ = some (.int .u64 t259) := (blk_cell BK256.out 0).trans rfl; have hcz82_1 : w78.cell? ⟨gb256, 1, none⟩ = some (.int .u64 t260) := (blk_cell BK256.out 1).trans rfl; have hfz82_0 := blk_frozen BK256.out 0; have hfz82_1 := blk_frozen BK256.out 1) | ((with_reducible refine gate_callee (f := 47) rfl ?_); refine goesL_ (some 48) rfl rfl Try.func47 (by kernel_rfl) rfl #[.agg #[.int .u64 t259, .int .u64 t260], .agg #[.int .u64 0, .int .u64 1]] rfl (by (try simp only [List.map_toArray, List.map_cons, List.map_nil]); first | done | rfl | (simp only [List.length_drop, List.length_take]; rfl)) ?_; (with_reducible refine (overfallref01_Add.calls kj28 t259 t260 0 1 t271 t272 t273 _ A65.out).mono ?_); rintro e w83 ⟨rfl, hb⟩; refine ⟨_, rfl, ?_⟩; have n0_ := Aside0.mk (blk_below (g := gb254) (o := .cells #[.int .u64 a0_0, .int .u64 a0_1] 40 (0, 0)) (by refine blk_far ?_ NB254_257.out _; refine blk_far ?_ NB254_257.out _; exact BK254.out) hb); have n1_ := Aside0.mk (blk_below (g := gb255) (o := .cells #[.int .u64 0, .int .u64 0] 40 (0, 0)) (by refine blk_far ?_ NB255_257.out _; refine blk_far ?_ NB255_257.out _; exact BK255.out) hb); have n2_ := Aside0.mk (blk_below (g := gb256) (o := .cells #[.int .u64 t259, .int .u64 t260] 40 (0, 0)) (by refine blk_far ?_ NB256_257.out _; refine blk_far ?_ NB256_257.out _; exact BK256.out) hb); have n3_ := Aside0.mk (blk_below (g := gb257) (o := .cells #[.int .u64 t268, .int .u64 t269] 40 (0, 0)) (by refine blk_put (cs := #[.int .u64 t268, .int .u64 x258001_28]) ?_ 1 _ rfl; refine blk_put (cs := #[.int .u64 x258000_28, .int .u64 x258001_28]) ?_ 0 _ rfl; exact BK257.out) hb); have n4_ := Aside0.mk (blk_below (g := gb258) (o := .cells #[.int .u64 0, .int .u64 a1] 40 (0, 0)) (by refine blk_far ?_ NB258_257.out _; refine blk_far ?_ NB258_257.out _; exact BK258.out) hb); have n5_ := Aside0.mk (below_step (by repeat (first | (with_reducible first | exact HB.out | apply below_alloc | apply pw_below_drewN | apply below_drew1 | refine below_set ?_ GE254.out | refine below_set ?_ GE255.out | refine below_set ?_ GE256.out | refine below_set ?_ GE257.out | refine below_set ?_ GE258.out) | exact HB.out)) hb); clear BK254; clear BK255; clear BK256; clear BK257; clear BK258; clear HB; have BK254 := n0_; have BK255 := n1_; have BK256 := n2_; have BK257 := n3_; have BK258 := n4_; have HB := n5_; clear n0_ n1_ n2_ n3_ n4_ n5_; (try clear hb); (try clear hb2); (try clear hk); (try clear hi); have hcz84_0 : w83.cell? ⟨gb256, 0, none⟩ = some (.int .u64 t259) := (blk_cell BK256.out 0).trans rfl; have hcz84_1 : w83.cell? ⟨gb256, 1, none⟩ = some (.int .u64 t260) := (blk_cell BK256.out 1).trans rfl; have hfz84_0 := blk_frozen BK256.out 0; have hfz84_1 := blk_frozen BK256.out 1))
        go_roundg kj28
        case measure => have := HK1.out; have := HJ28.out; omega
        case rel => exact ⟨(wrap64 (x9_1 - 1)), (t271), (t272), (t268), (t269), (by first | rfl | (simp; done) | (simp [*]; done)), H', ⟨by have := HK1.out; have := HJ28.out; omega⟩, ⟨by refine blk_far ?_ NB254_256.out _; refine blk_far ?_ NB254_256.out _; exact BK254.out⟩, ⟨by refine blk_far ?_ NB255_256.out _; refine blk_far ?_ NB255_256.out _; exact BK255.out⟩, ⟨by refine blk_put (cs := #[.int .u64 t271, .int .u64 t260]) ?_ 1 _ rfl; refine blk_put (cs := #[.int .u64 t259, .int .u64 t260]) ?_ 0 _ rfl; exact BK256.out⟩, ⟨by refine blk_far ?_ NB257_256.out _; refine blk_far ?_ NB257_256.out _; exact BK257.out⟩, ⟨by refine blk_far ?_ NB258_256.out _; refine blk_far ?_ NB258_256.out _; exact BK258.out⟩, ⟨by repeat (first | (with_reducible first | exact HB.out | apply below_alloc | apply pw_below_drewN | apply below_drew1 | refine below_set ?_ GE254.out | refine below_set ?_ GE255.out | refine below_set ?_ GE256.out | refine below_set ?_ GE257.out | refine below_set ?_ GE258.out) | exact HB.out)⟩⟩
    ·rw [if_neg c25] at H
     have c25b0 : decide (0 ≤ x9_1) = false := decide_eq_false c25
     clear c25
     simp only [Option.some.injEq, Prod.mk.injEq] at H
     obtain ⟨rfl, rfl, rfl⟩ := H
     try go_wp2
     have n0_ := Aside0.mk (blk_drew BK254.out)
     have n1_ := Aside0.mk (blk_drew BK255.out)
     have n2_ := Aside0.mk (blk_drew BK256.out)
     have n3_ := Aside0.mk (blk_drew BK257.out)
     have n4_ := Aside0.mk (blk_drew BK258.out)
     have n5_ := Aside0.mk (below_drew1 HB.out)
     clear BK254
     clear BK255
     clear BK256
     clear BK257
     clear BK258
     clear HB
     have BK254 := n0_
     have BK255 := n1_
     have BK256 := n2_
     have BK257 := n3_
     have BK258 := n4_
     have HB := n5_
     clear n0_ n1_ n2_ n3_ n4_ n5_
     refine start_ (n := 5) (S := fun w' => w'.cell? ⟨gb256, 0, none⟩ = some (.int .u64 x257000_1) ∧ w'.cell? ⟨gb256, 1, none⟩ = some (.int .u64 x257001_1) ∧ w'.cell? ⟨gb257, 0, none⟩ = some (.int .u64 x258000_1) ∧ w'.cell? ⟨gb257, 1, none⟩ = some (.int .u64 x258001_1)) (ds := []) #[false, false, false, false, false] (by kernel_rfl) rfl rfl ⟨(blk_cell BK256.out 0).trans rfl, (blk_cell BK256.out 1).trans rfl, (blk_cell BK257.out 0).trans rfl, (blk_cell BK257.out 1).trans rfl⟩ (fun hHeld => ?_)
     generalize wr.drew = w85 at BK254 BK255 BK256 BK257 BK258 HB hHeld ⊢
     refine pure_ (i := 1) (N := some 52) (v := ?_) (a' := ?_) #[false, true, false, false, false] rfl rfl (by kernel_rfl) (fun _ _ _ h => h) (Or.inl ⟨by rfl, ?_⟩) ?_ ?_
     rotate_left
     ·intro w'
      go_simp
      with_reducible rfl
     rotate_left
     ·simp only [Act.put, List.setIfInBounds_toArray, List.set_cons_zero, List.set_cons_succ, i64_w, i32_w]
      rfl
     refine take_ (i := 0) (N := some 51) (v := ?_) (a' := ?_) #[true, true, false, false, false] rfl rfl (by kernel_rfl) (fun _ _ _ h => h) (Or.inl ⟨by rfl, ?_⟩) hHeld ?_ ?_
     rotate_left
     ·rintro w' ⟨s0, s1, s2, s3⟩
      go_simp
      with_reducible rfl
     rotate_left
     ·simp only [Act.put, List.setIfInBounds_toArray, List.set_cons_zero, List.set_cons_succ, i64_w, i32_w]
      rfl
     refine take_ (i := 2) (N := some 53) (v := ?_) (a' := ?_) #[true, true, true, false, false] rfl rfl (by kernel_rfl) (fun _ _ _ h => h) (Or.inl ⟨by rfl, ?_⟩) hHeld ?_ ?_
     rotate_left
     ·rintro w' ⟨s0, s1, s2, s3⟩
      go_simp
      with_reducible rfl
     rotate_left
     ·simp only [Act.put, List.setIfInBounds_toArray, List.set_cons_zero, List.set_cons_succ, i64_w, i32_w]
      rfl
     refine one_ (i := 3) (N := none) #[true, true, true, true, false] rfl rfl (by kernel_rfl) (by decide) (fun K hK => ?_)
     have hs86 : w85.cell? ⟨gb255, 0, none⟩ = some (.int .u64 0) := (blk_cell BK255.out 0).trans rfl
     have hfs86 := blk_frozen BK255.out 0
     have hns86_0 := NB254_255.out
     have hns86_2 := NB256_255.out
     have hns86_3 := NB257_255.out
     have hns86_4 := NB258_255.out
     have hms86_0 := NB255_254.out
     have hms86_2 := NB255_256.out
     have hms86_3 := NB255_257.out
     have hms86_4 := NB255_258.out
     have hs87 : w85.cell? ⟨gb255, 1, none⟩ = some (.int .u64 0) := (blk_cell BK255.out 1).trans rfl
     have hfs87 := blk_frozen BK255.out 1
     have hns87_0 := NB254_255.out
     have hns87_2 := NB256_255.out
     have hns87_3 := NB257_255.out
     have hns87_4 := NB258_255.out
     have hms87_0 := NB255_254.out
     have hms87_2 := NB255_256.out
     have hms87_3 := NB255_257.out
     have hms87_4 := NB255_258.out
     refine skip_ (w1 := ?_) (by rfl) rfl ?_ ?_
     rotate_left
     ·go_simp
      rfl
     refine hK.out _ _ ⟨((cell_far (p := ⟨gb255, _, none⟩) NB256_255.out _).trans (((cell_far (p := ⟨gb255, _, none⟩) NB256_255.out _).trans (hHeld.1)))), ((cell_far (p := ⟨gb255, _, none⟩) NB256_255.out _).trans (((cell_far (p := ⟨gb255, _, none⟩) NB256_255.out _).trans (hHeld.2.1)))), ((cell_far (p := ⟨gb255, _, none⟩) NB257_255.out _).trans (((cell_far (p := ⟨gb255, _, none⟩) NB257_255.out _).trans (hHeld.2.2.1)))), ((cell_far (p := ⟨gb255, _, none⟩) NB257_255.out _).trans (((cell_far (p := ⟨gb255, _, none⟩) NB257_255.out _).trans (hHeld.2.2.2))))⟩ (fun hHeld => ?_)
     clear hK K
     refine pure_ (i := 4) (N := some 5) (v := ?_) (a' := ?_) #[true, true, true, true, true] rfl rfl (by kernel_rfl) (fun _ _ _ h => h) (Or.inl ⟨by rfl, ?_⟩) ?_ ?_
     rotate_left
     ·intro w'
      go_simp
      with_reducible rfl
     rotate_left
     ·simp only [Act.put, List.setIfInBounds_toArray, List.set_cons_zero, List.set_cons_succ, i64_w, i32_w]
      rfl
     refine done_ (by kernel_rfl) ?_
     try go_wp2
     refine bodyPost_ret (results_ct rfl _ _ gb255 40 #[.int .u64 x257000_1, .int .u64 x257001_1] (0, 0) _ rfl (by refine blk_put (cs := #[.int .u64 x257000_1, .int .u64 0]) ?_ 1 _ rfl; refine blk_put (cs := #[.int .u64 0, .int .u64 0]) ?_ 0 _ rfl; exact BK255.out) Try.underlying40 rfl (by kernel_rfl)) rfl ?_
     exact ⟨by first | rfl | (simp [errW_none, errW_some] <;> rfl) | (simp [*, errW_none, errW_some] <;> rfl), by repeat (first | (with_reducible first | exact HB.out | apply below_alloc | apply pw_below_drewN | apply below_drew1 | refine below_set ?_ GE254.out | refine below_set ?_ GE255.out | refine below_set ?_ GE256.out | refine below_set ?_ GE257.out | refine below_set ?_ GE258.out) | exact HB.out)⟩

/-! ### overfallref01_Left: function 44 -/
def overfallref01_Left.l0 : Nat → Int → Int → Int → Int → Option (Int × Int)
 | 0, _, _, _, _ => none
 | k + 1, x1, x5, x275000, x275001 => if x5 < x1 then (if x5 < 128 then ((overfallref01_Twice.f k x275000 x275001).bind fun bt276 => (overfallref01_Left.l0 k x1 (wrap64 (x5 + 1)) bt276.1 bt276.2)) else (some (x275000, x275001))) else (some (x275000, x275001))
def overfallref01_Left.f (k : Nat) (a0_0 : Int) (a0_1 : Int) (a1 : Int) : Option (Int × Int) := overfallref01_Left.l0 k a1 0 a0_0 a0_1
theorem overfallref01_Left.mono_l : ∀ k, (∀ y0 y1 y2 y3, LeO (overfallref01_Left.l0 k y0 y1 y2 y3) (overfallref01_Left.l0 (k + 1) y0 y1 y2 y3))
 | 0 => fun _ _ _ _ r h => by simp [overfallref01_Left.l0] at h
 | k + 1 => by
  have ih0 := overfallref01_Left.mono_l k
  ·intro y0 y1 y2 y3
   unfold overfallref01_Left.l0
   repeat' first
   | (with_reducible exact ih0 _ _ _ _)
   | (with_reducible exact overfallref01_Twice.mono _ _ _)
   | (with_reducible exact LeO.refl _)
   | (with_reducible exact LeO.none _)
   | (with_reducible refine LeO.ite ?_ ?_)
   | (with_reducible refine LeO.bind ?_ (fun _ => ?_))
   | exact ih0 _ _ _ _
   | exact overfallref01_Twice.mono _ _ _
   | exact LeO.none _
   | refine LeO.ite ?_ ?_
   | refine LeO.bind ?_ (fun _ => ?_)
theorem overfallref01_Left.mono : ∀ a0 a1 a2 k, LeO (overfallref01_Left.f k a0 a1 a2) (overfallref01_Left.f (k + 1) a0 a1 a2) := by
 intro a0 a1 a2 k
 have ih0 := overfallref01_Left.mono_l k
 unfold overfallref01_Left.f
 repeat' first
   | (with_reducible exact ih0 _ _ _ _)
   | (with_reducible exact overfallref01_Twice.mono _ _ _)
   | (with_reducible exact LeO.refl _)
   | (with_reducible exact LeO.none _)
   | (with_reducible refine LeO.ite ?_ ?_)
   | (with_reducible refine LeO.bind ?_ (fun _ => ?_))
   | exact ih0 _ _ _ _
   | exact overfallref01_Twice.mono _ _ _
   | exact LeO.none _
   | refine LeO.ite ?_ ?_
   | refine LeO.bind ?_ (fun _ => ?_)
set_option maxHeartbeats 8000000 in
set_option maxRecDepth 100000 in
theorem overfallref01_Left.calls (k : Nat) (a0_0 : Int) (a0_1 : Int) (a1 : Int) (r1 : Int) (r2 : Int) (w : World) (h : overfallref01_Left.f k a0_0 a0_1 a1 = some (r1, r2)) :
  Calls Try.prog 44 #[.agg #[.int .u64 a0_0, .int .u64 a0_1], .int .i64 a1] w fun e w' => e = .returned (.agg #[.int .u64 r1, .int .u64 r2]) ∧ Below w.heap.size w w' := by
 have hu40 := Try.underlying40
 have HB := Aside0.mk (Below.refl w.heap.size w)
 have H : (overfallref01_Left.l0 k a1 0 a0_0 a0_1) = some (r1, r2) := h
 clear h
 have H' := Aside0.mk H
 clear H
 go_enter Try.func44, Try.ntmps44
 go_wp2_with (first | ((with_reducible refine gate_dst (N := 2) rfl ?_); refine box_event ?hg (N := 2) ?hd (cs := #[.int .u64 a0_0, .int .u64 a0_1]) (t := 40) ?hr ?_; (case hd => rfl); (case hg => rfl); (case hr => first | (go_simp; done) | (go_simp; rfl)); intro gb274 hg w3 hbox hb; have n0_ := Aside0.mk (below_step (by repeat (first | (with_reducible first | exact HB.out | apply below_alloc | apply pw_below_drewN | apply below_drew1) | exact HB.out)) hb); have n1_ := Aside0.mk (hbox); have n2_ := Aside0.mk ((by rw [hg]; exact (below_size (by repeat (first | (with_reducible first | exact HB.out | apply below_alloc | apply pw_below_drewN | apply below_drew1) | exact HB.out))) : w.heap.size ≤ gb274)); have n3_ := Aside0.mk ((by rw [hg]; exact (below_size (by repeat (first | (with_reducible first | exact HB.out | apply below_alloc | apply pw_below_drewN | apply below_drew1) | exact HB.out))) : w.heap.size ≤ gb274)); clear HB; have HB := n0_; have BK274 := n1_; have GW274 := n2_; have GE274 := n3_; clear n0_ n1_ n2_ n3_; clear hb hbox hg) | ((with_reducible refine gate_dst (N := 4) rfl ?_); refine box_event ?hg (N := 4) ?hd (cs := #[.int .u64 0, .int .u64 0]) (t := 40) ?hr ?_; (case hd => rfl); (case hg => rfl); (case hr => first | (go_simp; done) | (go_simp; rfl)); intro gb275 hg w4 hbox hb; have n0_ := Aside0.mk (blk_below (by exact BK274.out) hb); have n1_ := Aside0.mk (below_step (by repeat (first | (with_reducible first | exact HB.out | apply below_alloc | apply pw_below_drewN | apply below_drew1 | refine below_set ?_ GE274.out) | exact HB.out)) hb); have n2_ := Aside0.mk (hbox); have n3_ := Aside0.mk ((by rw [hg]; exact (below_size (by repeat (first | (with_reducible first | exact HB.out | apply below_alloc | apply pw_below_drewN | apply below_drew1 | refine below_set ?_ GE274.out) | exact HB.out))) : w.heap.size ≤ gb275)); have n4_ := Aside0.mk ((by rw [hg]; exact (below_size (by repeat (first | (with_reducible first | exact HB.out | apply below_alloc | apply pw_below_drewN | apply below_drew1 | refine below_set ?_ GE274.out) | exact HB.out))) : w.heap.size ≤ gb275)); have n5_ := Aside0.mk ((by rw [hg]; exact Nat.ne_of_lt (blk_lt (by exact BK274.out)) : gb274 ≠ gb275)); have n6_ := Aside0.mk ((by rw [hg]; exact Nat.ne_of_gt (blk_lt (by exact BK274.out)) : gb275 ≠ gb274)); clear BK274; clear HB; have BK274 := n0_; have HB := n1_; have BK275 := n2_; have GW275 := n3_; have GE275 := n4_; have NB274_275 := n5_; have NB275_274 := n6_; clear n0_ n1_ n2_ n3_ n4_ n5_ n6_; clear hb hbox hg))
 go_loopg [5] k (fun kq v5 w' => ∃ (x5_1 : Int) (x275000_1 : Int) (x275001_1 : Int), v5 = .int .i64 x5_1 ∧ Aside0 (overfallref01_Left.l0 kq a1 x5_1 x275000_1 x275001_1 = some (r1, r2)) ∧ Aside0 (kq ≤ k) ∧ Aside0 (w'.heap[gb274]? = some (.cells #[.int .u64 x275000_1, .int .u64 x275001_1] 40 (0, 0))) ∧ Aside0 (w'.heap[gb275]? = some (.cells #[.int .u64 0, .int .u64 0] 40 (0, 0))) ∧ Aside0 (Below w.heap.size w w'))
 case atStart => exact ⟨(0), (a0_0), (a0_1), (by first | rfl | (simp; done) | (simp [*]; done)), H', ⟨Nat.le_refl _⟩, ⟨by exact BK274.out⟩, ⟨by exact BK275.out⟩, ⟨by repeat (first | (with_reducible first | exact HB.out | apply below_alloc | apply pw_below_drewN | apply below_drew1 | refine below_set ?_ GE274.out | refine below_set ?_ GE275.out) | exact HB.out)⟩⟩
 case round =>
  clear H'
  try clear p2
  try clear c4
  obtain ⟨x5_1, x275000_1, x275001_1, rfl, HA, HK1, BK274, BK275, HB⟩ := hrel
  cases gk with
  | zero => exact absurd HA.out (by simp [overfallref01_Left.l0])
  | succ k1 =>
   have H := HA.out
   clear HA
   simp only [overfallref01_Left.l0] at H
   by_cases c5 : x5_1 < a1
   ·rw [if_pos c5] at H
    have c5b0 : decide (x5_1 < a1) = true := decide_eq_true c5
    clear c5
    by_cases c6 : x5_1 < 128
    ·rw [if_pos c6] at H
     have c6b0 : decide (x5_1 < 128) = true := decide_eq_true c6
     clear c6
     replace H := Option.bind_eq_some_iff.mp H
     obtain ⟨⟨t276, t277⟩, A70, H⟩ := H
     replace H : (overfallref01_Left.l0 k1 a1 (wrap64 (x5_1 + 1)) t276 t277) = some (r1, r2) := H
     have A7 := Aside0.mk A70
     clear A70
     have H' := Aside0.mk H
     clear H
     have hnb8 := NB274_275.out
     have hnc8 := NB275_274.out
     have hcz9_0 : wr.cell? ⟨gb274, 0, none⟩ = some (.int .u64 x275000_1) := (blk_cell BK274.out 0).trans rfl
     have hcz9_1 : wr.cell? ⟨gb274, 1, none⟩ = some (.int .u64 x275001_1) := (blk_cell BK274.out 1).trans rfl
     have hfz9_0 := blk_frozen BK274.out 0
     have hfz9_1 := blk_frozen BK274.out 1
     go_wp2_with (first | ((with_reducible refine gate_callee (f := 56) rfl ?_); refine goesL_ (some 16) rfl rfl Try.func56 (by kernel_rfl) rfl #[.agg #[.int .u64 x275000_1, .int .u64 x275001_1]] rfl (by (try simp only [List.map_toArray, List.map_cons, List.map_nil]); first | done | rfl | (simp only [List.length_drop, List.length_take]; rfl)) ?_; (with_reducible refine (overfallref01_Twice.calls k1 x275000_1 x275001_1 t276 t277 _ A7.out).mono ?_); rintro e w10 ⟨rfl, hb⟩; refine ⟨_, rfl, ?_⟩; have n0_ := Aside0.mk (blk_below (by exact BK274.out) hb); have n1_ := Aside0.mk (blk_below (by exact BK275.out) hb); have n2_ := Aside0.mk (below_step (by repeat (first | (with_reducible first | exact HB.out | apply below_alloc | apply pw_below_drewN | apply below_drew1 | refine below_set ?_ GE274.out | refine below_set ?_ GE275.out) | exact HB.out)) hb); clear BK274; clear BK275; clear HB; have BK274 := n0_; have BK275 := n1_; have HB := n2_; clear n0_ n1_ n2_; (try clear hb); (try clear hb2); (try clear hk); (try clear hi); have hcz11_0 : w10.cell? ⟨gb274, 0, none⟩ = some (.int .u64 x275000_1) := (blk_cell BK274.out 0).trans rfl; have hcz11_1 : w10.cell? ⟨gb274, 1, none⟩ = some (.int .u64 x275001_1) := (blk_cell BK274.out 1).trans rfl; have hfz11_0 := blk_frozen BK274.out 0; have hfz11_1 := blk_frozen BK274.out 1))
     go_roundg k1
     case measure => have := HK1.out; omega
     case rel => exact ⟨(wrap64 (x5_1 + 1)), (t276), (t277), (by first | rfl | (simp; done) | (simp [*]; done)), H', ⟨by have := HK1.out; omega⟩, ⟨by refine blk_put (cs := #[.int .u64 t276, .int .u64 x275001_1]) ?_ 1 _ rfl; refine blk_put (cs := #[.int .u64 x275000_1, .int .u64 x275001_1]) ?_ 0 _ rfl; exact BK274.out⟩, ⟨by refine blk_far ?_ NB275_274.out _; refine blk_far ?_ NB275_274.out _; exact BK275.out⟩, ⟨by repeat (first | (with_reducible first | exact HB.out | apply below_alloc | apply pw_below_drewN | apply below_drew1 | refine below_set ?_ GE274.out | refine below_set ?_ GE275.out) | exact HB.out)⟩⟩
    ·rw [if_neg c6] at H
     have c6b0 : decide (x5_1 < 128) = false := decide_eq_false c6
     clear c6
     simp only [Option.some.injEq, Prod.mk.injEq] at H
     obtain ⟨rfl, rfl⟩ := H
     have hnb12 := NB274_275.out
     have hnc12 := NB275_274.out
     have hcz13_0 : wr.cell? ⟨gb274, 0, none⟩ = some (.int .u64 x275000_1) := (blk_cell BK274.out 0).trans rfl
     have hcz13_1 : wr.cell? ⟨gb274, 1, none⟩ = some (.int .u64 x275001_1) := (blk_cell BK274.out 1).trans rfl
     have hfz13_0 := blk_frozen BK274.out 0
     have hfz13_1 := blk_frozen BK274.out 1
     have hcz14_0 : wr.cell? ⟨gb275, 0, none⟩ = some (.int .u64 0) := (blk_cell BK275.out 0).trans rfl
     have hcz14_1 : wr.cell? ⟨gb275, 1, none⟩ = some (.int .u64 0) := (blk_cell BK275.out 1).trans rfl
     have hfz14_0 := blk_frozen BK275.out 0
     have hfz14_1 := blk_frozen BK275.out 1
     go_wp2
     refine bodyPost_ret (results_cell_row rfl _ _ gb275 40 #[.int .u64 x275000_1, .int .u64 x275001_1] (0, 0) _ rfl (by refine blk_put (cs := #[.int .u64 x275000_1, .int .u64 0]) ?_ 1 _ rfl; refine blk_put (cs := #[.int .u64 0, .int .u64 0]) ?_ 0 _ rfl; exact BK275.out) Try.underlying40 rfl (by kernel_rfl)) rfl ?_
     exact ⟨by first | rfl | (simp [errW_none, errW_some] <;> rfl) | (simp [*, errW_none, errW_some] <;> rfl), by repeat (first | (with_reducible first | exact HB.out | apply below_alloc | apply pw_below_drewN | apply below_drew1 | refine below_set ?_ GE274.out | refine below_set ?_ GE275.out) | exact HB.out)⟩
   ·rw [if_neg c5] at H
    have c5b0 : decide (x5_1 < a1) = false := decide_eq_false c5
    clear c5
    simp only [Option.some.injEq, Prod.mk.injEq] at H
    obtain ⟨rfl, rfl⟩ := H
    have hnb15 := NB274_275.out
    have hnc15 := NB275_274.out
    have hcz16_0 : wr.cell? ⟨gb274, 0, none⟩ = some (.int .u64 x275000_1) := (blk_cell BK274.out 0).trans rfl
    have hcz16_1 : wr.cell? ⟨gb274, 1, none⟩ = some (.int .u64 x275001_1) := (blk_cell BK274.out 1).trans rfl
    have hfz16_0 := blk_frozen BK274.out 0
    have hfz16_1 := blk_frozen BK274.out 1
    have hcz17_0 : wr.cell? ⟨gb275, 0, none⟩ = some (.int .u64 0) := (blk_cell BK275.out 0).trans rfl
    have hcz17_1 : wr.cell? ⟨gb275, 1, none⟩ = some (.int .u64 0) := (blk_cell BK275.out 1).trans rfl
    have hfz17_0 := blk_frozen BK275.out 0
    have hfz17_1 := blk_frozen BK275.out 1
    go_wp2
    refine bodyPost_ret (results_cell_row rfl _ _ gb275 40 #[.int .u64 x275000_1, .int .u64 x275001_1] (0, 0) _ rfl (by refine blk_put (cs := #[.int .u64 x275000_1, .int .u64 0]) ?_ 1 _ rfl; refine blk_put (cs := #[.int .u64 0, .int .u64 0]) ?_ 0 _ rfl; exact BK275.out) Try.underlying40 rfl (by kernel_rfl)) rfl ?_
    exact ⟨by first | rfl | (simp [errW_none, errW_some] <;> rfl) | (simp [*, errW_none, errW_some] <;> rfl), by repeat (first | (with_reducible first | exact HB.out | apply below_alloc | apply pw_below_drewN | apply below_drew1 | refine below_set ?_ GE274.out | refine below_set ?_ GE275.out) | exact HB.out)⟩

/-! ### overfallref02_down: function 45 -/
def overfallref02_down.j0 : Nat → Bool → Bool → Int → Int → Option (Int)
 | 0, _, _, _, _ => none
 | k + 1, x2, x10, x279000, x279001 => if x10 = true then ((overfallref01_Add.f k x279000 x279001 0 1).bind fun bt279 => ((overfallref02_Back.f k bt279.1 bt279.2.1 x2).bind fun t282 => (some t282))) else ((overfallref02_Back.f k x279000 x279001 x2).bind fun t283 => (some t283))
def overfallref02_down.f (k : Nat) (a0_0 : Int) (a0_1 : Int) (a1 : Bool) (a2 : Bool) : Option (Int) := if a2 = true then (overfallref02_down.j0 k a2 a1 a0_0 a0_1) else (overfallref02_down.j0 k a2 false a0_0 a0_1)
theorem overfallref02_down.mono_l : ∀ k, (∀ y0 y1 y2 y3, LeO (overfallref02_down.j0 k y0 y1 y2 y3) (overfallref02_down.j0 (k + 1) y0 y1 y2 y3))
 | 0 => fun _ _ _ _ r h => by simp [overfallref02_down.j0] at h
 | k + 1 => by
  have ih0 := overfallref02_down.mono_l k
  ·intro y0 y1 y2 y3
   unfold overfallref02_down.j0
   repeat' first
   | (with_reducible exact ih0 _ _ _ _)
   | (with_reducible exact overfallref01_Add.mono _ _ _ _ _)
   | (with_reducible exact overfallref02_Back.mono _ _ _ _)
   | (with_reducible exact LeO.refl _)
   | (with_reducible exact LeO.none _)
   | (with_reducible refine LeO.ite ?_ ?_)
   | (with_reducible refine LeO.bind ?_ (fun _ => ?_))
   | exact ih0 _ _ _ _
   | exact overfallref01_Add.mono _ _ _ _ _
   | exact overfallref02_Back.mono _ _ _ _
   | exact LeO.none _
   | refine LeO.ite ?_ ?_
   | refine LeO.bind ?_ (fun _ => ?_)
theorem overfallref02_down.mono : ∀ a0 a1 a2 a3 k, LeO (overfallref02_down.f k a0 a1 a2 a3) (overfallref02_down.f (k + 1) a0 a1 a2 a3) := by
 intro a0 a1 a2 a3 k
 have ih0 := overfallref02_down.mono_l k
 unfold overfallref02_down.f
 repeat' first
   | (with_reducible exact ih0 _ _ _ _)
   | (with_reducible exact overfallref01_Add.mono _ _ _ _ _)
   | (with_reducible exact overfallref02_Back.mono _ _ _ _)
   | (with_reducible exact LeO.refl _)
   | (with_reducible exact LeO.none _)
   | (with_reducible refine LeO.ite ?_ ?_)
   | (with_reducible refine LeO.bind ?_ (fun _ => ?_))
   | exact ih0 _ _ _ _
   | exact overfallref01_Add.mono _ _ _ _ _
   | exact overfallref02_Back.mono _ _ _ _
   | exact LeO.none _
   | refine LeO.ite ?_ ?_
   | refine LeO.bind ?_ (fun _ => ?_)
set_option maxHeartbeats 8000000 in
set_option maxRecDepth 100000 in
theorem overfallref02_down.calls (k : Nat) (a0_0 : Int) (a0_1 : Int) (a1 : Bool) (a2 : Bool) (r : Int) (w : World) (h : overfallref02_down.f k a0_0 a0_1 a1 a2 = some r) :
  Calls Try.prog 45 #[.agg #[.int .u64 a0_0, .int .u64 a0_1], .bool a1, .bool a2] w fun e w' => e = .returned (.int .i64 r) ∧ Below w.heap.size w w' := by
 have hu40 := Try.underlying40
 have HB := Aside0.mk (Below.refl w.heap.size w)
 have H : (if a2 = true then (overfallref02_down.j0 k a2 a1 a0_0 a0_1) else (overfallref02_down.j0 k a2 false a0_0 a0_1)) = some r := h
 clear h
 have HC4 := Aside0.mk H
 clear H
 go_enter Try.func45, Try.ntmps45
 go_upto_region 1 with (first | ((with_reducible refine gate_dst (N := 3) rfl ?_); refine box_event ?hg (N := 3) ?hd (cs := #[.int .u64 a0_0, .int .u64 a0_1]) (t := 40) ?hr ?_; (case hd => rfl); (case hg => rfl); (case hr => first | (go_simp; done) | (go_simp; rfl)); intro gb278 hg w5 hbox hb; have n0_ := Aside0.mk (below_step (by repeat (first | (with_reducible first | exact HB.out | apply below_alloc | apply pw_below_drewN | apply below_drew1) | exact HB.out)) hb); have n1_ := Aside0.mk (hbox); have n2_ := Aside0.mk ((by rw [hg]; exact (below_size (by repeat (first | (with_reducible first | exact HB.out | apply below_alloc | apply pw_below_drewN | apply below_drew1) | exact HB.out))) : w.heap.size ≤ gb278)); have n3_ := Aside0.mk ((by rw [hg]; exact (below_size (by repeat (first | (with_reducible first | exact HB.out | apply below_alloc | apply pw_below_drewN | apply below_drew1) | exact HB.out))) : w.heap.size ≤ gb278)); clear HB; have HB := n0_; have BK278 := n1_; have GW278 := n2_; have GE278 := n3_; clear n0_ n1_ n2_ n3_; clear hb hbox hg))
 (try simp only [Act.put, List.setIfInBounds_toArray, List.set_cons_zero, List.set_cons_succ])
 go_cut [10] (fun v10 wc => ∃ (kq : Nat) (x10_3 : Bool), v10 = .bool x10_3 ∧ Aside0 (overfallref02_down.j0 kq a2 x10_3 a0_0 a0_1 = some r) ∧ Aside0 (kq ≤ k) ∧ Aside0 (wc.heap[gb278]? = some (.cells #[.int .u64 a0_0, .int .u64 a0_1] 40 (0, 0))) ∧ Aside0 (Below w.heap.size w wc))
 case first =>
  have H := HC4.out
  clear HC4
  by_cases c6 : a2 = true
  ·subst c6
   have H1 : (overfallref02_down.j0 k true a1 a0_0 a0_1) = some r := by rw [if_pos rfl] at H; exact H
   clear H
   have H := H1
   clear H1
   have H' := Aside0.mk H
   clear H
   go_wp2
   go_meet
   case rel => exact ⟨_, (a1), (by first | rfl | (simp; done) | (simp [*]; done)), H', ⟨by first | omega | exact Nat.le_refl _⟩, ⟨by exact BK278.out⟩, ⟨by repeat (first | (with_reducible first | exact HB.out | apply below_alloc | apply pw_below_drewN | apply below_drew1 | refine below_set ?_ GE278.out) | exact HB.out)⟩⟩
  ·replace c6 := Bool.eq_false_iff.mpr c6
   subst c6
   have H1 : (overfallref02_down.j0 k false false a0_0 a0_1) = some r := by rw [if_neg (show ¬ (false = true) by decide)] at H; exact H
   clear H
   have H := H1
   clear H1
   have H' := Aside0.mk H
   clear H
   go_wp2
   go_meet
   case rel => exact ⟨_, (false), (by first | rfl | (simp; done) | (simp [*]; done)), H', ⟨by first | omega | exact Nat.le_refl _⟩, ⟨by exact BK278.out⟩, ⟨by repeat (first | (with_reducible first | exact HB.out | apply below_alloc | apply pw_below_drewN | apply below_drew1 | refine below_set ?_ GE278.out) | exact HB.out)⟩⟩
 case rest =>
  clear HC4
  try clear p2
  try clear c4
  try clear c6
  obtain ⟨kq, x10_3, rfl, HA, HJ3, BK278, HB⟩ := hcut
  cases kq with
  | zero => exact absurd HA.out (by simp [overfallref02_down.j0])
  | succ kj3 =>
   have H := HA.out
   clear HA
   simp only [overfallref02_down.j0] at H
   by_cases c7 : x10_3 = true
   ·subst c7
    have H1 : ((overfallref01_Add.f kj3 a0_0 a0_1 0 1).bind fun bt279 => ((overfallref02_Back.f kj3 bt279.1 bt279.2.1 a2).bind fun t282 => (some t282))) = some r := by rw [if_pos rfl] at H; exact H
    clear H
    have H := H1
    clear H1
    replace H := Option.bind_eq_some_iff.mp H
    obtain ⟨⟨t279, t280, t281⟩, A80, H⟩ := H
    replace H : ((overfallref02_Back.f kj3 t279 t280 a2).bind fun t282 => (some t282)) = some r := H
    have A8 := Aside0.mk A80
    clear A80
    replace H := Option.bind_eq_some_iff.mp H
    obtain ⟨t282, A90, H⟩ := H
    replace H : (some t282) = some r := H
    have A9 := Aside0.mk A90
    clear A90
    obtain rfl := Option.some.inj H
    have hcz10_0 : wc.cell? ⟨gb278, 0, none⟩ = some (.int .u64 a0_0) := (blk_cell BK278.out 0).trans rfl
    have hcz10_1 : wc.cell? ⟨gb278, 1, none⟩ = some (.int .u64 a0_1) := (blk_cell BK278.out 1).trans rfl
    have hfz10_0 := blk_frozen BK278.out 0
    have hfz10_1 := blk_frozen BK278.out 1
    go_wp2_with (first | ((with_reducible refine gate_callee (f := 47) rfl ?_); refine goesL_ (some 14) rfl rfl Try.func47 (by kernel_rfl) rfl #[.agg #[.int .u64 a0_0, .int .u64 a0_1], .agg #[.int .u64 0, .int .u64 1]] rfl (by (try simp only [List.map_toArray, List.map_cons, List.map_nil]); first | done | rfl | (simp only [List.length_drop, List.length_take]; rfl)) ?_; (with_reducible refine (overfallref01_Add.calls kj3 a0_0 a0_1 0 1 t279 t280 t281 _ A8.out).mono ?_); rintro e w11 ⟨rfl, hb⟩; refine ⟨_, rfl, ?_⟩; have n0_ := Aside0.mk (blk_below (by exact BK278.out) hb); have n1_ := Aside0.mk (below_step (by repeat (first | (with_reducible first | exact HB.out | apply below_alloc | apply pw_below_drewN | apply below_drew1 | refine below_set ?_ GE278.out) | exact HB.out)) hb); clear BK278; clear HB; have BK278 := n0_; have HB := n1_; clear n0_ n1_; (try clear hb); (try clear hb2); (try clear hk); (try clear hi); have hcz12_0 : w11.cell? ⟨gb278, 0, none⟩ = some (.int .u64 a0_0) := (blk_cell BK278.out 0).trans rfl; have hcz12_1 : w11.cell? ⟨gb278, 1, none⟩ = some (.int .u64 a0_1) := (blk_cell BK278.out 1).trans rfl; have hfz12_0 := blk_frozen BK278.out 0; have hfz12_1 := blk_frozen BK278.out 1) | ((with_reducible refine gate_callee (f := 37) rfl ?_); refine goesL_ (some 19) rfl rfl Try.func37 (by kernel_rfl) rfl #[.agg #[.int .u64 t279, .int .u64 t280], .bool a2] rfl (by (try simp only [List.map_toArray, List.map_cons, List.map_nil]); first | done | rfl | (simp only [List.length_drop, List.length_take]; rfl)) ?_; (with_reducible refine (overfallref02_Back.calls kj3 t279 t280 a2 t282 _ A9.out).mono ?_); rintro e w13 ⟨rfl, hb⟩; refine ⟨_, rfl, ?_⟩; have n0_ := Aside0.mk (blk_below (g := gb278) (o := .cells #[.int .u64 t279, .int .u64 t280] 40 (0, 0)) (by refine blk_put (cs := #[.int .u64 t279, .int .u64 a0_1]) ?_ 1 _ rfl; refine blk_put (cs := #[.int .u64 a0_0, .int .u64 a0_1]) ?_ 0 _ rfl; exact BK278.out) hb); have n1_ := Aside0.mk (below_step (by repeat (first | (with_reducible first | exact HB.out | apply below_alloc | apply pw_below_drewN | apply below_drew1 | refine below_set ?_ GE278.out) | exact HB.out)) hb); clear BK278; clear HB; have BK278 := n0_; have HB := n1_; clear n0_ n1_; (try clear hb); (try clear hb2); (try clear hk); (try clear hi)))
    go_ret
    exact ⟨by first | rfl | (simp [errW_none, errW_some] <;> rfl) | (simp [*, errW_none, errW_some] <;> rfl), by repeat (first | (with_reducible first | exact HB.out | apply below_alloc | apply pw_below_drewN | apply below_drew1 | refine below_set ?_ GE278.out) | exact HB.out)⟩
   ·replace c7 := Bool.eq_false_iff.mpr c7
    subst c7
    have H1 : ((overfallref02_Back.f kj3 a0_0 a0_1 a2).bind fun t283 => (some t283)) = some r := by rw [if_neg (show ¬ (false = true) by decide)] at H; exact H
    clear H
    have H := H1
    clear H1
    replace H := Option.bind_eq_some_iff.mp H
    obtain ⟨t283, A140, H⟩ := H
    replace H : (some t283) = some r := H
    have A14 := Aside0.mk A140
    clear A140
    obtain rfl := Option.some.inj H
    have hcz15_0 : wc.cell? ⟨gb278, 0, none⟩ = some (.int .u64 a0_0) := (blk_cell BK278.out 0).trans rfl
    have hcz15_1 : wc.cell? ⟨gb278, 1, none⟩ = some (.int .u64 a0_1) := (blk_cell BK278.out 1).trans rfl
    have hfz15_0 := blk_frozen BK278.out 0
    have hfz15_1 := blk_frozen BK278.out 1
    go_wp2_with (first | ((with_reducible refine gate_callee (f := 37) rfl ?_); refine goesL_ (some 19) rfl rfl Try.func37 (by kernel_rfl) rfl #[.agg #[.int .u64 a0_0, .int .u64 a0_1], .bool a2] rfl (by (try simp only [List.map_toArray, List.map_cons, List.map_nil]); first | done | rfl | (simp only [List.length_drop, List.length_take]; rfl)) ?_; (with_reducible refine (overfallref02_Back.calls kj3 a0_0 a0_1 a2 t283 _ A14.out).mono ?_); rintro e w16 ⟨rfl, hb⟩; refine ⟨_, rfl, ?_⟩; have n0_ := Aside0.mk (blk_below (by exact BK278.out) hb); have n1_ := Aside0.mk (below_step (by repeat (first | (with_reducible first | exact HB.out | apply below_alloc | apply pw_below_drewN | apply below_drew1 | refine below_set ?_ GE278.out) | exact HB.out)) hb); clear BK278; clear HB; have BK278 := n0_; have HB := n1_; clear n0_ n1_; (try clear hb); (try clear hb2); (try clear hk); (try clear hi)))
    go_ret
    exact ⟨by first | rfl | (simp [errW_none, errW_some] <;> rfl) | (simp [*, errW_none, errW_some] <;> rfl), by repeat (first | (with_reducible first | exact HB.out | apply below_alloc | apply pw_below_drewN | apply below_drew1 | refine below_set ?_ GE278.out) | exact HB.out)⟩

end Go.Proofs.Ytjgjmeefieikaaa.G

-- Laid by a program of this claim's session (wip/tools/myprint.py) over the kit's printer.
import Derived.Test.YtjgjmeefieikaaaRx0
import Derived.Test.YtjgjmeefieikaaaRx5
import Derived.Test.YtjgjmeefieikaaaRx8
namespace Go.Proofs.Ytjgjmeefieikaaa.R
open Go.RowKit Go.Proofs.YtjgjmeefieikaaaW.PrintWords Go.Proofs.YtjgjmeefieikaaaW.PrintLast Go.Proofs.YtjgjmeefieikaaaW.PrintMore
attribute [local go_sem] max2_int min2_int max_two min_two max_three min_three max_four min_four   -- for this text's walks alone
set_option linter.unusedVariables false
set_option linter.unusedSimpArgs false

/-! ### overfallref02_Ratio: function 17 -/
def overfallref02_Ratio.f (k : Nat) (a0 : Int) (a1 : Int) : Option (Int) := (overfallref02_Size.f a0).bind fun bt240 => ((overfallref02_Size.f a1).bind fun bt244 => (if a1 = 0 then (if a0 = 0 then (some 0) else ((overfallref02_Back.f k 1 0 bt240.2.2).bind fun t248 => (some t248))) else ((overfallref01_Left.f k bt240.1 bt240.2.1 32).bind fun bt249 => ((overfallref01_Div.f k bt249.1 bt249.2 bt244.2.1).bind fun bt251 => (if (bt240.2.2 != bt244.2.2) = true then ((overfallref02_down.f k bt251.1 bt251.2.1 (decide (bt251.2.2 > 0)) (a0 != 0)).bind fun t255 => (some t255)) else ((overfallref02_down.f k bt251.1 bt251.2.1 (decide (bt251.2.2 > 0)) false).bind fun t256 => (some t256)))))))
theorem overfallref02_Ratio.mono : ∀ a0 a1 k, LeO (overfallref02_Ratio.f k a0 a1) (overfallref02_Ratio.f (k + 1) a0 a1) := by
 intro a0 a1 k
 unfold overfallref02_Ratio.f
 repeat' first
   | (with_reducible exact overfallref01_Div.mono _ _ _ _)
   | (with_reducible exact overfallref01_Left.mono _ _ _ _)
   | (with_reducible exact overfallref02_Back.mono _ _ _ _)
   | (with_reducible exact overfallref02_down.mono _ _ _ _ _)
   | (with_reducible exact LeO.refl _)
   | (with_reducible exact LeO.none _)
   | (with_reducible refine LeO.ite ?_ ?_)
   | (with_reducible refine LeO.bind ?_ (fun _ => ?_))
   | exact overfallref01_Div.mono _ _ _ _
   | exact overfallref01_Left.mono _ _ _ _
   | exact overfallref02_Back.mono _ _ _ _
   | exact overfallref02_down.mono _ _ _ _ _
   | exact LeO.none _
   | refine LeO.ite ?_ ?_
   | refine LeO.bind ?_ (fun _ => ?_)
def overfallref02_Ratio.T7 : Bool × List (List Nat × List Nat) := (true, [([], []), ([0], [0]), ([], []), ([2], [2]), ([1, 3, 1], [1, 3]), ([4], [4]), ([5], [5]), ([5], [5]), ([], []), ([8, 6, 4, 0, 1, 2, 3, 4, 5, 6, 8], [6, 8]), ([7, 9, 0, 1, 2, 3, 4, 5, 6, 7, 8, 9], [7])])
def overfallref02_Ratio.B7 : List Nat := [0, 1, 0, 4, 15, 31, 63, 63, 0, 383, 1023]
theorem overfallref02_Ratio.tab7 : rtab .any (opsOf Try.f17 7) = overfallref02_Ratio.T7 := by kernel_rfl
theorem overfallref02_Ratio.bits7 : waitsOk overfallref02_Ratio.T7.2 overfallref02_Ratio.B7 = true := by kernel_rfl
set_option maxHeartbeats 8000000 in
set_option maxRecDepth 100000 in
theorem overfallref02_Ratio.calls (k : Nat) (a0 : Int) (a1 : Int) (r : Int) (w : World) (h : overfallref02_Ratio.f k a0 a1 = some r) :
  Calls Try.prog 17 #[.int .i64 a0, .int .i64 a1] w fun e w' => e = .returned (.int .i64 r) ∧ Below w.heap.size w w' := by
 have hu40 := Try.underlying40
 have HB := Aside0.mk (Below.refl w.heap.size w)
 have H : ((overfallref02_Size.f a0).bind fun bt240 => ((overfallref02_Size.f a1).bind fun bt244 => (if a1 = 0 then (if a0 = 0 then (some 0) else ((overfallref02_Back.f k 1 0 bt240.2.2).bind fun t248 => (some t248))) else ((overfallref01_Left.f k bt240.1 bt240.2.1 32).bind fun bt249 => ((overfallref01_Div.f k bt249.1 bt249.2 bt244.2.1).bind fun bt251 => (if (bt240.2.2 != bt244.2.2) = true then ((overfallref02_down.f k bt251.1 bt251.2.1 (decide (bt251.2.2 > 0)) (a0 != 0)).bind fun t255 => (some t255)) else ((overfallref02_down.f k bt251.1 bt251.2.1 (decide (bt251.2.2 > 0)) false).bind fun t256 => (some t256)))))))) = some r := h
 clear h
 replace H := Option.bind_eq_some_iff.mp H
 obtain ⟨⟨t240, t241, t242⟩, A30, H⟩ := H
 replace H : ((overfallref02_Size.f a1).bind fun bt244 => (if a1 = 0 then (if a0 = 0 then (some 0) else ((overfallref02_Back.f k 1 0 t242).bind fun t248 => (some t248))) else ((overfallref01_Left.f k t240 t241 32).bind fun bt249 => ((overfallref01_Div.f k bt249.1 bt249.2 bt244.2.1).bind fun bt251 => (if (t242 != bt244.2.2) = true then ((overfallref02_down.f k bt251.1 bt251.2.1 (decide (bt251.2.2 > 0)) (a0 != 0)).bind fun t255 => (some t255)) else ((overfallref02_down.f k bt251.1 bt251.2.1 (decide (bt251.2.2 > 0)) false).bind fun t256 => (some t256))))))) = some r := H
 have A3 := Aside0.mk A30
 clear A30
 replace H := Option.bind_eq_some_iff.mp H
 obtain ⟨⟨t244, t245, t246⟩, A40, H⟩ := H
 replace H : (if a1 = 0 then (if a0 = 0 then (some 0) else ((overfallref02_Back.f k 1 0 t242).bind fun t248 => (some t248))) else ((overfallref01_Left.f k t240 t241 32).bind fun bt249 => ((overfallref01_Div.f k bt249.1 bt249.2 t245).bind fun bt251 => (if (t242 != t246) = true then ((overfallref02_down.f k bt251.1 bt251.2.1 (decide (bt251.2.2 > 0)) (a0 != 0)).bind fun t255 => (some t255)) else ((overfallref02_down.f k bt251.1 bt251.2.1 (decide (bt251.2.2 > 0)) false).bind fun t256 => (some t256)))))) = some r := H
 have A4 := Aside0.mk A40
 clear A40
 by_cases c5 : a1 = 0
 ·rw [if_pos c5] at H
  have c5b0 : (a1 == 0) = true := beq_iff_eq.mpr c5
  have c5b1 : (a1 != 0) = false := bne_eq_false_iff_eq.mpr c5
  clear c5
  by_cases c6 : a0 = 0
  ·rw [if_pos c6] at H
   have c6b0 : (a0 == 0) = true := beq_iff_eq.mpr c6
   have c6b1 : (a0 != 0) = false := bne_eq_false_iff_eq.mpr c6
   clear c6
   obtain rfl := Option.some.inj H
   go_enter Try.func17, Try.ntmps17
   go_wp2_with (first | ((with_reducible refine gate_callee (f := 36) rfl ?_); refine goesL_ (some 13) rfl rfl Try.func36 (by kernel_rfl) rfl #[.int .i64 a0] rfl (by (try simp only [List.map_toArray, List.map_cons, List.map_nil]); first | done | rfl | (simp only [List.length_drop, List.length_take]; rfl)) ?_; (with_reducible refine (overfallref02_Size.calls a0 t240 t241 t242 _ A3.out).mono ?_); rintro e w7 ⟨rfl, hb⟩; refine ⟨_, rfl, ?_⟩; have n0_ := Aside0.mk (below_step (by repeat (first | (with_reducible first | exact HB.out | apply below_alloc | apply pw_below_drewN | apply below_drew1) | exact HB.out)) hb); clear HB; have HB := n0_; clear n0_; (try clear hb); (try clear hb2); (try clear hk); (try clear hi)) | ((with_reducible refine gate_dst (N := 5) rfl ?_); refine box_event ?hg (N := 5) ?hd (cs := #[.int .u64 0, .int .u64 0]) (t := 40) ?hr ?_; (case hd => rfl); (case hg => rfl); (case hr => first | (go_simp; done) | (go_simp; rfl)); intro gb243 hg w8 hbox hb; have n0_ := Aside0.mk (below_step (by repeat (first | (with_reducible first | exact HB.out | apply below_alloc | apply pw_below_drewN | apply below_drew1) | exact HB.out)) hb); have n1_ := Aside0.mk (hbox); have n2_ := Aside0.mk ((by rw [hg]; exact (below_size (by repeat (first | (with_reducible first | exact HB.out | apply below_alloc | apply pw_below_drewN | apply below_drew1) | exact HB.out))) : w.heap.size ≤ gb243)); have n3_ := Aside0.mk ((by rw [hg]; exact (below_size (by repeat (first | (with_reducible first | exact HB.out | apply below_alloc | apply pw_below_drewN | apply below_drew1) | exact HB.out))) : w.heap.size ≤ gb243)); clear HB; have HB := n0_; have BK243 := n1_; have GW243 := n2_; have GE243 := n3_; clear n0_ n1_ n2_ n3_; clear hb hbox hg; have hcz9_0 : w8.cell? ⟨gb243, 0, none⟩ = some (.int .u64 0) := (blk_cell BK243.out 0).trans rfl; have hcz9_1 : w8.cell? ⟨gb243, 1, none⟩ = some (.int .u64 0) := (blk_cell BK243.out 1).trans rfl; have hfz9_0 := blk_frozen BK243.out 0; have hfz9_1 := blk_frozen BK243.out 1) | ((with_reducible refine gate_callee (f := 36) rfl ?_); refine goesL_ (some 18) rfl rfl Try.func36 (by kernel_rfl) rfl #[.int .i64 a1] rfl (by (try simp only [List.map_toArray, List.map_cons, List.map_nil]); first | done | rfl | (simp only [List.length_drop, List.length_take]; rfl)) ?_; (with_reducible refine (overfallref02_Size.calls a1 t244 t245 t246 _ A4.out).mono ?_); rintro e w10 ⟨rfl, hb⟩; refine ⟨_, rfl, ?_⟩; have n0_ := Aside0.mk (blk_below (g := gb243) (o := .cells #[.int .u64 t240, .int .u64 t241] 40 (0, 0)) (by refine blk_put (cs := #[.int .u64 t240, .int .u64 0]) ?_ 1 _ rfl; refine blk_put (cs := #[.int .u64 0, .int .u64 0]) ?_ 0 _ rfl; exact BK243.out) hb); have n1_ := Aside0.mk (below_step (by repeat (first | (with_reducible first | exact HB.out | apply below_alloc | apply pw_below_drewN | apply below_drew1 | refine below_set ?_ GE243.out) | exact HB.out)) hb); clear BK243; clear HB; have BK243 := n0_; have HB := n1_; clear n0_ n1_; (try clear hb); (try clear hb2); (try clear hk); (try clear hi)) | ((with_reducible refine gate_dst (N := 7) rfl ?_); refine box_event ?hg (N := 7) ?hd (cs := #[.int .u64 0, .int .u64 0]) (t := 40) ?hr ?_; (case hd => rfl); (case hg => rfl); (case hr => first | (go_simp; done) | (go_simp; rfl)); intro gb247 hg w11 hbox hb; have n0_ := Aside0.mk (blk_below (by exact BK243.out) hb); have n1_ := Aside0.mk (below_step (by repeat (first | (with_reducible first | exact HB.out | apply below_alloc | apply pw_below_drewN | apply below_drew1 | refine below_set ?_ GE243.out) | exact HB.out)) hb); have n2_ := Aside0.mk (hbox); have n3_ := Aside0.mk ((by rw [hg]; exact (below_size (by repeat (first | (with_reducible first | exact HB.out | apply below_alloc | apply pw_below_drewN | apply below_drew1 | refine below_set ?_ GE243.out) | exact HB.out))) : w.heap.size ≤ gb247)); have n4_ := Aside0.mk ((by rw [hg]; exact (below_size (by repeat (first | (with_reducible first | exact HB.out | apply below_alloc | apply pw_below_drewN | apply below_drew1 | refine below_set ?_ GE243.out) | exact HB.out))) : w.heap.size ≤ gb247)); have n5_ := Aside0.mk ((by rw [hg]; exact Nat.ne_of_lt (blk_lt (by exact BK243.out)) : gb243 ≠ gb247)); have n6_ := Aside0.mk ((by rw [hg]; exact Nat.ne_of_gt (blk_lt (by exact BK243.out)) : gb247 ≠ gb243)); clear BK243; clear HB; have BK243 := n0_; have HB := n1_; have BK247 := n2_; have GW247 := n3_; have GE247 := n4_; have NB243_247 := n5_; have NB247_243 := n6_; clear n0_ n1_ n2_ n3_ n4_ n5_ n6_; clear hb hbox hg; have hnb12 := NB247_243.out; have hnc12 := NB243_247.out; have hcz13_0 : w11.cell? ⟨gb247, 0, none⟩ = some (.int .u64 0) := (blk_cell BK247.out 0).trans rfl; have hcz13_1 : w11.cell? ⟨gb247, 1, none⟩ = some (.int .u64 0) := (blk_cell BK247.out 1).trans rfl; have hfz13_0 := blk_frozen BK247.out 0; have hfz13_1 := blk_frozen BK247.out 1))
   go_ret
   exact ⟨by first | rfl | (simp [errW_none, errW_some] <;> rfl) | (simp [*, errW_none, errW_some] <;> rfl), by repeat (first | (with_reducible first | exact HB.out | apply below_alloc | apply pw_below_drewN | apply below_drew1 | refine below_set ?_ GE243.out | refine below_set ?_ GE247.out) | exact HB.out)⟩
  ·rw [if_neg c6] at H
   have c6b0 : (a0 == 0) = false := beq_eq_false_iff_ne.mpr c6
   have c6b1 : (a0 != 0) = true := bne_iff_ne.mpr c6
   replace H := Option.bind_eq_some_iff.mp H
   obtain ⟨t248, A140, H⟩ := H
   replace H : (some t248) = some r := H
   have A14 := Aside0.mk A140
   clear A140
   obtain rfl := Option.some.inj H
   go_enter Try.func17, Try.ntmps17
   go_wp2_with (first | ((with_reducible refine gate_callee (f := 36) rfl ?_); refine goesL_ (some 13) rfl rfl Try.func36 (by kernel_rfl) rfl #[.int .i64 a0] rfl (by (try simp only [List.map_toArray, List.map_cons, List.map_nil]); first | done | rfl | (simp only [List.length_drop, List.length_take]; rfl)) ?_; (with_reducible refine (overfallref02_Size.calls a0 t240 t241 t242 _ A3.out).mono ?_); rintro e w15 ⟨rfl, hb⟩; refine ⟨_, rfl, ?_⟩; have n0_ := Aside0.mk (below_step (by repeat (first | (with_reducible first | exact HB.out | apply below_alloc | apply pw_below_drewN | apply below_drew1) | exact HB.out)) hb); clear HB; have HB := n0_; clear n0_; (try clear hb); (try clear hb2); (try clear hk); (try clear hi)) | ((with_reducible refine gate_dst (N := 5) rfl ?_); refine box_event ?hg (N := 5) ?hd (cs := #[.int .u64 0, .int .u64 0]) (t := 40) ?hr ?_; (case hd => rfl); (case hg => rfl); (case hr => first | (go_simp; done) | (go_simp; rfl)); intro gb243 hg w16 hbox hb; have n0_ := Aside0.mk (below_step (by repeat (first | (with_reducible first | exact HB.out | apply below_alloc | apply pw_below_drewN | apply below_drew1) | exact HB.out)) hb); have n1_ := Aside0.mk (hbox); have n2_ := Aside0.mk ((by rw [hg]; exact (below_size (by repeat (first | (with_reducible first | exact HB.out | apply below_alloc | apply pw_below_drewN | apply below_drew1) | exact HB.out))) : w.heap.size ≤ gb243)); have n3_ := Aside0.mk ((by rw [hg]; exact (below_size (by repeat (first | (with_reducible first | exact HB.out | apply below_alloc | apply pw_below_drewN | apply below_drew1) | exact HB.out))) : w.heap.size ≤ gb243)); clear HB; have HB := n0_; have BK243 := n1_; have GW243 := n2_; have GE243 := n3_; clear n0_ n1_ n2_ n3_; clear hb hbox hg; have hcz17_0 : w16.cell? ⟨gb243, 0, none⟩ = some (.int .u64 0) := (blk_cell BK243.out 0).trans rfl; have hcz17_1 : w16.cell? ⟨gb243, 1, none⟩ = some (.int .u64 0) := (blk_cell BK243.out 1).trans rfl; have hfz17_0 := blk_frozen BK243.out 0; have hfz17_1 := blk_frozen BK243.out 1) | ((with_reducible refine gate_callee (f := 36) rfl ?_); refine goesL_ (some 18) rfl rfl Try.func36 (by kernel_rfl) rfl #[.int .i64 a1] rfl (by (try simp only [List.map_toArray, List.map_cons, List.map_nil]); first | done | rfl | (simp only [List.length_drop, List.length_take]; rfl)) ?_; (with_reducible refine (overfallref02_Size.calls a1 t244 t245 t246 _ A4.out).mono ?_); rintro e w18 ⟨rfl, hb⟩; refine ⟨_, rfl, ?_⟩; have n0_ := Aside0.mk (blk_below (g := gb243) (o := .cells #[.int .u64 t240, .int .u64 t241] 40 (0, 0)) (by refine blk_put (cs := #[.int .u64 t240, .int .u64 0]) ?_ 1 _ rfl; refine blk_put (cs := #[.int .u64 0, .int .u64 0]) ?_ 0 _ rfl; exact BK243.out) hb); have n1_ := Aside0.mk (below_step (by repeat (first | (with_reducible first | exact HB.out | apply below_alloc | apply pw_below_drewN | apply below_drew1 | refine below_set ?_ GE243.out) | exact HB.out)) hb); clear BK243; clear HB; have BK243 := n0_; have HB := n1_; clear n0_ n1_; (try clear hb); (try clear hb2); (try clear hk); (try clear hi)) | ((with_reducible refine gate_dst (N := 7) rfl ?_); refine box_event ?hg (N := 7) ?hd (cs := #[.int .u64 0, .int .u64 0]) (t := 40) ?hr ?_; (case hd => rfl); (case hg => rfl); (case hr => first | (go_simp; done) | (go_simp; rfl)); intro gb247 hg w19 hbox hb; have n0_ := Aside0.mk (blk_below (by exact BK243.out) hb); have n1_ := Aside0.mk (below_step (by repeat (first | (with_reducible first | exact HB.out | apply below_alloc | apply pw_below_drewN | apply below_drew1 | refine below_set ?_ GE243.out) | exact HB.out)) hb); have n2_ := Aside0.mk (hbox); have n3_ := Aside0.mk ((by rw [hg]; exact (below_size (by repeat (first | (with_reducible first | exact HB.out | apply below_alloc | apply pw_below_drewN | apply below_drew1 | refine below_set ?_ GE243.out) | exact HB.out))) : w.heap.size ≤ gb247)); have n4_ := Aside0.mk ((by rw [hg]; exact (below_size (by repeat (first | (with_reducible first | exact HB.out | apply below_alloc | apply pw_below_drewN | apply below_drew1 | refine below_set ?_ GE243.out) | exact HB.out))) : w.heap.size ≤ gb247)); have n5_ := Aside0.mk ((by rw [hg]; exact Nat.ne_of_lt (blk_lt (by exact BK243.out)) : gb243 ≠ gb247)); have n6_ := Aside0.mk ((by rw [hg]; exact Nat.ne_of_gt (blk_lt (by exact BK243.out)) : gb247 ≠ gb243)); clear BK243; clear HB; have BK243 := n0_; have HB := n1_; have BK247 := n2_; have GW247 := n3_; have GE247 := n4_; have NB243_247 := n5_; have NB247_243 := n6_; clear n0_ n1_ n2_ n3_ n4_ n5_ n6_; clear hb hbox hg; have hnb20 := NB247_243.out; have hnc20 := NB243_247.out; have hcz21_0 : w19.cell? ⟨gb247, 0, none⟩ = some (.int .u64 0) := (blk_cell BK247.out 0).trans rfl; have hcz21_1 : w19.cell? ⟨gb247, 1, none⟩ = some (.int .u64 0) := (blk_cell BK247.out 1).trans rfl; have hfz21_0 := blk_frozen BK247.out 0; have hfz21_1 := blk_frozen BK247.out 1) | ((with_reducible refine gate_callee (f := 37) rfl ?_); refine goesL_ (some 27) rfl rfl Try.func37 (by kernel_rfl) rfl #[.agg #[.int .u64 1, .int .u64 0], .bool t242] rfl (by (try simp only [List.map_toArray, List.map_cons, List.map_nil]); first | done | rfl | (simp only [List.length_drop, List.length_take]; rfl)) ?_; (with_reducible refine (overfallref02_Back.calls k 1 0 t242 t248 _ A14.out).mono ?_); rintro e w22 ⟨rfl, hb⟩; refine ⟨_, rfl, ?_⟩; have n0_ := Aside0.mk (blk_below (g := gb243) (o := .cells #[.int .u64 t240, .int .u64 t241] 40 (0, 0)) (by refine blk_far ?_ NB243_247.out _; refine blk_far ?_ NB243_247.out _; exact BK243.out) hb); have n1_ := Aside0.mk (blk_below (g := gb247) (o := .cells #[.int .u64 t244, .int .u64 t245] 40 (0, 0)) (by refine blk_put (cs := #[.int .u64 t244, .int .u64 0]) ?_ 1 _ rfl; refine blk_put (cs := #[.int .u64 0, .int .u64 0]) ?_ 0 _ rfl; exact BK247.out) hb); have n2_ := Aside0.mk (below_step (by repeat (first | (with_reducible first | exact HB.out | apply below_alloc | apply pw_below_drewN | apply below_drew1 | refine below_set ?_ GE243.out | refine below_set ?_ GE247.out) | exact HB.out)) hb); clear BK243; clear BK247; clear HB; have BK243 := n0_; have BK247 := n1_; have HB := n2_; clear n0_ n1_ n2_; (try clear hb); (try clear hb2); (try clear hk); (try clear hi)))
   go_ret
   exact ⟨by first | rfl | (simp [errW_none, errW_some] <;> rfl) | (simp [*, errW_none, errW_some] <;> rfl), by repeat (first | (with_reducible first | exact HB.out | apply below_alloc | apply pw_below_drewN | apply below_drew1 | refine below_set ?_ GE243.out | refine below_set ?_ GE247.out) | exact HB.out)⟩
 ·rw [if_neg c5] at H
  have c5b0 : (a1 == 0) = false := beq_eq_false_iff_ne.mpr c5
  have c5b1 : (a1 != 0) = true := bne_iff_ne.mpr c5
  replace H := Option.bind_eq_some_iff.mp H
  obtain ⟨⟨t249, t250⟩, A230, H⟩ := H
  replace H : ((overfallref01_Div.f k t249 t250 t245).bind fun bt251 => (if (t242 != t246) = true then ((overfallref02_down.f k bt251.1 bt251.2.1 (decide (bt251.2.2 > 0)) (a0 != 0)).bind fun t255 => (some t255)) else ((overfallref02_down.f k bt251.1 bt251.2.1 (decide (bt251.2.2 > 0)) false).bind fun t256 => (some t256)))) = some r := H
  have A23 := Aside0.mk A230
  clear A230
  replace H := Option.bind_eq_some_iff.mp H
  obtain ⟨⟨t251, t252, t253⟩, A240, H⟩ := H
  replace H : (if (t242 != t246) = true then ((overfallref02_down.f k t251 t252 (decide (t253 > 0)) (a0 != 0)).bind fun t255 => (some t255)) else ((overfallref02_down.f k t251 t252 (decide (t253 > 0)) false).bind fun t256 => (some t256))) = some r := H
  have A24 := Aside0.mk A240
  clear A240
  by_cases c25 : (t242 != t246) = true
  ·rw [if_pos c25] at H
   have c25b0 : (t242 != t246) = true := c25
   (try (have c25b1 : decide (t242 = t246) = false := by simpa using c25))
   (try (have c25b2 : (t242 == t246) = false := by simpa using c25))
   (try (have c25b3 : ¬ (t242 = t246) := by simpa using c25))
   clear c25
   replace H := Option.bind_eq_some_iff.mp H
   obtain ⟨t255, A260, H⟩ := H
   replace H : (some t255) = some r := H
   have A26 := Aside0.mk A260
   clear A260
   obtain rfl := Option.some.inj H
   go_enter Try.func17, Try.ntmps17
   try go_wp2_with (first | ((with_reducible refine gate_callee (f := 36) rfl ?_); refine goesL_ (some 13) rfl rfl Try.func36 (by kernel_rfl) rfl #[.int .i64 a0] rfl (by (try simp only [List.map_toArray, List.map_cons, List.map_nil]); first | done | rfl | (simp only [List.length_drop, List.length_take]; rfl)) ?_; (with_reducible refine (overfallref02_Size.calls a0 t240 t241 t242 _ A3.out).mono ?_); rintro e w27 ⟨rfl, hb⟩; refine ⟨_, rfl, ?_⟩; have n0_ := Aside0.mk (below_step (by repeat (first | (with_reducible first | exact HB.out | apply below_alloc | apply pw_below_drewN | apply below_drew1) | exact HB.out)) hb); clear HB; have HB := n0_; clear n0_; (try clear hb); (try clear hb2); (try clear hk); (try clear hi)) | ((with_reducible refine gate_dst (N := 5) rfl ?_); refine box_event ?hg (N := 5) ?hd (cs := #[.int .u64 0, .int .u64 0]) (t := 40) ?hr ?_; (case hd => rfl); (case hg => rfl); (case hr => first | (go_simp; done) | (go_simp; rfl)); intro gb243 hg w28 hbox hb; have n0_ := Aside0.mk (below_step (by repeat (first | (with_reducible first | exact HB.out | apply below_alloc | apply pw_below_drewN | apply below_drew1) | exact HB.out)) hb); have n1_ := Aside0.mk (hbox); have n2_ := Aside0.mk ((by rw [hg]; exact (below_size (by repeat (first | (with_reducible first | exact HB.out | apply below_alloc | apply pw_below_drewN | apply below_drew1) | exact HB.out))) : w.heap.size ≤ gb243)); have n3_ := Aside0.mk ((by rw [hg]; exact (below_size (by repeat (first | (with_reducible first | exact HB.out | apply below_alloc | apply pw_below_drewN | apply below_drew1) | exact HB.out))) : w.heap.size ≤ gb243)); clear HB; have HB := n0_; have BK243 := n1_; have GW243 := n2_; have GE243 := n3_; clear n0_ n1_ n2_ n3_; clear hb hbox hg; have hcz29_0 : w28.cell? ⟨gb243, 0, none⟩ = some (.int .u64 0) := (blk_cell BK243.out 0).trans rfl; have hcz29_1 : w28.cell? ⟨gb243, 1, none⟩ = some (.int .u64 0) := (blk_cell BK243.out 1).trans rfl; have hfz29_0 := blk_frozen BK243.out 0; have hfz29_1 := blk_frozen BK243.out 1) | ((with_reducible refine gate_callee (f := 36) rfl ?_); refine goesL_ (some 18) rfl rfl Try.func36 (by kernel_rfl) rfl #[.int .i64 a1] rfl (by (try simp only [List.map_toArray, List.map_cons, List.map_nil]); first | done | rfl | (simp only [List.length_drop, List.length_take]; rfl)) ?_; (with_reducible refine (overfallref02_Size.calls a1 t244 t245 t246 _ A4.out).mono ?_); rintro e w30 ⟨rfl, hb⟩; refine ⟨_, rfl, ?_⟩; have n0_ := Aside0.mk (blk_below (g := gb243) (o := .cells #[.int .u64 t240, .int .u64 t241] 40 (0, 0)) (by refine blk_put (cs := #[.int .u64 t240, .int .u64 0]) ?_ 1 _ rfl; refine blk_put (cs := #[.int .u64 0, .int .u64 0]) ?_ 0 _ rfl; exact BK243.out) hb); have n1_ := Aside0.mk (below_step (by repeat (first | (with_reducible first | exact HB.out | apply below_alloc | apply pw_below_drewN | apply below_drew1 | refine below_set ?_ GE243.out) | exact HB.out)) hb); clear BK243; clear HB; have BK243 := n0_; have HB := n1_; clear n0_ n1_; (try clear hb); (try clear hb2); (try clear hk); (try clear hi)) | ((with_reducible refine gate_dst (N := 7) rfl ?_); refine box_event ?hg (N := 7) ?hd (cs := #[.int .u64 0, .int .u64 0]) (t := 40) ?hr ?_; (case hd => rfl); (case hg => rfl); (case hr => first | (go_simp; done) | (go_simp; rfl)); intro gb247 hg w31 hbox hb; have n0_ := Aside0.mk (blk_below (by exact BK243.out) hb); have n1_ := Aside0.mk (below_step (by repeat (first | (with_reducible first | exact HB.out | apply below_alloc | apply pw_below_drewN | apply below_drew1 | refine below_set ?_ GE243.out) | exact HB.out)) hb); have n2_ := Aside0.mk (hbox); have n3_ := Aside0.mk ((by rw [hg]; exact (below_size (by repeat (first | (with_reducible first | exact HB.out | apply below_alloc | apply pw_below_drewN | apply below_drew1 | refine below_set ?_ GE243.out) | exact HB.out))) : w.heap.size ≤ gb247)); have n4_ := Aside0.mk ((by rw [hg]; exact (below_size (by repeat (first | (with_reducible first | exact HB.out | apply below_alloc | apply pw_below_drewN | apply below_drew1 | refine below_set ?_ GE243.out) | exact HB.out))) : w.heap.size ≤ gb247)); have n5_ := Aside0.mk ((by rw [hg]; exact Nat.ne_of_lt (blk_lt (by exact BK243.out)) : gb243 ≠ gb247)); have n6_ := Aside0.mk ((by rw [hg]; exact Nat.ne_of_gt (blk_lt (by exact BK243.out)) : gb247 ≠ gb243)); clear BK243; clear HB; have BK243 := n0_; have HB := n1_; have BK247 := n2_; have GW247 := n3_; have GE247 := n4_; have NB243_247 := n5_; have NB247_243 := n6_; clear n0_ n1_ n2_ n3_ n4_ n5_ n6_; clear hb hbox hg; have hnb32 := NB247_243.out; have hnc32 := NB243_247.out; have hcz33_0 : w31.cell? ⟨gb247, 0, none⟩ = some (.int .u64 0) := (blk_cell BK247.out 0).trans rfl; have hcz33_1 : w31.cell? ⟨gb247, 1, none⟩ = some (.int .u64 0) := (blk_cell BK247.out 1).trans rfl; have hfz33_0 := blk_frozen BK247.out 0; have hfz33_1 := blk_frozen BK247.out 1))
   have n0_ : Aside0 (((w31.setCell ⟨gb247, 0, none⟩ (.int .u64 t244)).setCell ⟨gb247, 1, none⟩ (.int .u64 t245)).heap[gb243]? = some (.cells #[.int .u64 t240, .int .u64 t241] 40 (0, 0))) := ⟨by refine blk_far ?_ NB243_247.out _; refine blk_far ?_ NB243_247.out _; exact BK243.out⟩
   have n1_ : Aside0 (((w31.setCell ⟨gb247, 0, none⟩ (.int .u64 t244)).setCell ⟨gb247, 1, none⟩ (.int .u64 t245)).heap[gb247]? = some (.cells #[.int .u64 t244, .int .u64 t245] 40 (0, 0))) := ⟨by refine blk_put (cs := #[.int .u64 t244, .int .u64 0]) ?_ 1 _ rfl; refine blk_put (cs := #[.int .u64 0, .int .u64 0]) ?_ 0 _ rfl; exact BK247.out⟩
   have n2_ : Aside0 (Below w.heap.size w ((w31.setCell ⟨gb247, 0, none⟩ (.int .u64 t244)).setCell ⟨gb247, 1, none⟩ (.int .u64 t245))) := ⟨by repeat (first | (with_reducible first | exact HB.out | apply below_alloc | apply pw_below_drewN | apply below_drew1 | refine below_set ?_ GE243.out | refine below_set ?_ GE247.out) | exact HB.out)⟩
   (try clear BK243)
   (try clear BK247)
   (try clear HB)
   generalize ((w31.setCell ⟨gb247, 0, none⟩ (.int .u64 t244)).setCell ⟨gb247, 1, none⟩ (.int .u64 t245)) = w34 at n0_ n1_ n2_ ⊢
   have BK243 := n0_
   have BK247 := n1_
   have HB := n2_
   clear n0_ n1_ n2_
   have n0_ := Aside0.mk (blk_drew BK243.out)
   have n1_ := Aside0.mk (blk_drew BK247.out)
   have n2_ := Aside0.mk (below_drew1 HB.out)
   clear BK243
   clear BK247
   clear HB
   have BK243 := n0_
   have BK247 := n1_
   have HB := n2_
   clear n0_ n1_ n2_
   refine start_ (n := 11) (S := fun w' => w'.cell? ⟨gb243, 0, none⟩ = some (.int .u64 t240) ∧ w'.cell? ⟨gb243, 1, none⟩ = some (.int .u64 t241) ∧ w'.cell? ⟨gb247, 0, none⟩ = some (.int .u64 t244) ∧ w'.cell? ⟨gb247, 1, none⟩ = some (.int .u64 t245)) (ds := []) #[false, false, false, false, false, false, false, false, false, false, false] (by kernel_rfl) rfl rfl ⟨(blk_cell BK243.out 0).trans rfl, (blk_cell BK243.out 1).trans rfl, (blk_cell BK247.out 0).trans rfl, (blk_cell BK247.out 1).trans rfl⟩ (fun hHeld => ?_); refine with_tabW overfallref02_Ratio.tab7 overfallref02_Ratio.bits7 (fun HT_ HW_ => ?_)
   generalize w34.drew = w35 at BK243 BK247 HB hHeld ⊢
   refine pure_ (i := 2) (N := some 31) (v := ?_) (a' := ?_) #[false, false, true, false, false, false, false, false, false, false, false] rfl rfl (any_of HT_.out (by kernel_rfl)) (fun _ _ _ h => h) (Or.inl ⟨by rfl, ?_⟩) ?_ ?_
   rotate_left
   ·intro w'
    go_simp
    with_reducible rfl
   rotate_left
   ·simp only [Act.put, List.setIfInBounds_toArray, List.set_cons_zero, List.set_cons_succ, i64_w, i32_w]
    rfl
   refine take_ (i := 0) (N := some 29) (v := ?_) (a' := ?_) #[true, false, true, false, false, false, false, false, false, false, false] rfl rfl (take_ofW HT_.out HW_.out (by kernel_rfl)) (fun _ _ _ h => h) (Or.inl ⟨by rfl, ?_⟩) hHeld ?_ ?_
   rotate_left
   ·rintro w' ⟨s0, s1, s2, s3⟩
    go_simp
    with_reducible rfl
   rotate_left
   ·simp only [Act.put, List.setIfInBounds_toArray, List.set_cons_zero, List.set_cons_succ, i64_w, i32_w]
    rfl
   refine take_ (i := 3) (N := some 32) (v := ?_) (a' := ?_) #[true, false, true, true, false, false, false, false, false, false, false] rfl rfl (take_ofW HT_.out HW_.out (by kernel_rfl)) (fun _ _ _ h => h) (Or.inl ⟨by rfl, ?_⟩) hHeld ?_ ?_
   rotate_left
   ·rintro w' ⟨s0, s1, s2, s3⟩
    go_simp
    with_reducible rfl
   rotate_left
   ·simp only [Act.put, List.setIfInBounds_toArray, List.set_cons_zero, List.set_cons_succ, i64_w, i32_w]
    rfl
   refine join_ (σ := Nat) 2 #[true, true, true, true, true, true, true, true, true, false, false] (fun s_ => [(30, .agg #[.int .u64 t249, .int .u64 t250]), (33, .tuple #[.agg #[.int .u64 t251, .int .u64 t252], .int .u64 t253]), (9, .pointer (some ⟨s_, 0, none⟩)), (28, .tuple #[.agg #[.int .u64 t251, .int .u64 t252], .int .u64 t253]), (34, .agg #[.int .u64 t251, .int .u64 t252]), (35, .int .u64 t253)]) (fun s_ w' => (w'.cell? ⟨gb243, 0, none⟩ = some (.int .u64 t240) ∧ w'.cell? ⟨gb243, 1, none⟩ = some (.int .u64 t241) ∧ w'.cell? ⟨gb247, 0, none⟩ = some (.int .u64 t244) ∧ w'.cell? ⟨gb247, 1, none⟩ = some (.int .u64 t245)) ∧ (w'.heap[gb243]? = some (.cells #[.int .u64 t240, .int .u64 t241] 40 (0, 0))) ∧ (w'.heap[gb247]? = some (.cells #[.int .u64 t244, .int .u64 t245] 40 (0, 0))) ∧ (w'.heap[s_]? = some (.cells #[.int .u64 0, .int .u64 0] 40 (0, 0))) ∧ (w.heap.size ≤ s_) ∧ (w.heap.size ≤ s_) ∧ (gb243 ≠ s_) ∧ (s_ ≠ gb243) ∧ (gb247 ≠ s_) ∧ (s_ ≠ gb247) ∧ (Below w.heap.size w w')) ?_ ?_
   rotate_left
   ·intro hCont
    refine two_ (i := 1) (j := 8) (Ni := some 30) (Nj := some 9) #[true, true, true, true, false, false, false, false, false, false, false] #[true, false, true, true, false, false, false, false, true, false, false] rfl rfl rfl rfl (two_of HT_.out (by kernel_rfl)) (by decide) (by decide) (fun K hK => ?_) (fun K hK => ?_)
    ·skip
     refine goes_ Try.func44 (by kernel_rfl) rfl #[.agg #[.int .u64 t240, .int .u64 t241], .int .i64 32] (by rfl) rfl rfl (by (try simp only [List.map_toArray, List.map_cons, List.map_nil]); first | done | rfl | (simp only [List.length_drop, List.length_take]; rfl)) ?_
     with_reducible refine (overfallref01_Left.calls k t240 t241 32 t249 t250 _ A23.out).mono ?_
     rintro e w36 ⟨rfl, hb⟩
     refine ⟨_, rfl, ?_⟩
     have n0_ := Aside0.mk (blk_below (by exact BK243.out) hb)
     have n1_ := Aside0.mk (blk_below (by exact BK247.out) hb)
     have n2_ := Aside0.mk (below_step (by repeat (first | (with_reducible first | exact HB.out | apply below_alloc | apply pw_below_drewN | apply below_drew1 | refine below_set ?_ GE243.out | refine below_set ?_ GE247.out) | exact HB.out)) hb)
     clear BK243
     clear BK247
     clear HB
     have BK243 := n0_
     have BK247 := n1_
     have HB := n2_
     clear n0_ n1_ n2_
     (try clear hb)
     (try clear hb2)
     (try clear hk)
     (try clear hi)
     refine hK.out _ _ ⟨(blk_cell BK243.out 0).trans rfl, (blk_cell BK243.out 1).trans rfl, (blk_cell BK247.out 0).trans rfl, (blk_cell BK247.out 1).trans rfl⟩ (fun hHeld => ?_)
     clear hK K
     refine norm_ (a' := ?_) ?_ ?_
     rotate_left
     ·show Act.put _ (some 30) _ = _
      simp only [Act.put, List.setIfInBounds_toArray, List.set_cons_zero, List.set_cons_succ, i64_w, i32_w]
      rfl
     refine two_ (i := 4) (j := 8) (Ni := some 33) (Nj := some 9) #[true, true, true, true, true, false, false, false, false, false, false] #[true, true, true, true, false, false, false, false, true, false, false] rfl rfl rfl rfl (two_of HT_.out (by kernel_rfl)) (by decide) (by decide) (fun K hK => ?_) (fun K hK => ?_)
     ·skip
      refine goes_ Try.func43 (by kernel_rfl) rfl #[.agg #[.int .u64 t249, .int .u64 t250], .int .u64 t245] (by rfl) rfl rfl (by (try simp only [List.map_toArray, List.map_cons, List.map_nil]); first | done | rfl | (simp only [List.length_drop, List.length_take]; rfl)) ?_
      with_reducible refine (overfallref01_Div.calls k t249 t250 t245 t251 t252 t253 _ A24.out).mono ?_
      rintro e w37 ⟨rfl, hb⟩
      refine ⟨_, rfl, ?_⟩
      have n0_ := Aside0.mk (blk_below (by exact BK243.out) hb)
      have n1_ := Aside0.mk (blk_below (by exact BK247.out) hb)
      have n2_ := Aside0.mk (below_step (by repeat (first | (with_reducible first | exact HB.out | apply below_alloc | apply pw_below_drewN | apply below_drew1 | refine below_set ?_ GE243.out | refine below_set ?_ GE247.out) | exact HB.out)) hb)
      clear BK243
      clear BK247
      clear HB
      have BK243 := n0_
      have BK247 := n1_
      have HB := n2_
      clear n0_ n1_ n2_
      (try clear hb)
      (try clear hb2)
      (try clear hk)
      (try clear hi)
      refine hK.out _ _ ⟨(blk_cell BK243.out 0).trans rfl, (blk_cell BK243.out 1).trans rfl, (blk_cell BK247.out 0).trans rfl, (blk_cell BK247.out 1).trans rfl⟩ (fun hHeld => ?_)
      clear hK K
      refine norm_ (a' := ?_) ?_ ?_
      rotate_left
      ·show Act.put _ (some 33) _ = _
       simp only [Act.put, List.setIfInBounds_toArray, List.set_cons_zero, List.set_cons_succ, i64_w, i32_w]
       rfl
      refine pure_ (i := 5) (N := some 28) (v := ?_) (a' := ?_) #[true, true, true, true, true, true, false, false, false, false, false] rfl rfl (any_of HT_.out (by kernel_rfl)) (fun _ _ _ h => h) (Or.inl ⟨by rfl, ?_⟩) ?_ ?_
      rotate_left
      ·intro w'
       go_simp
       with_reducible rfl
      rotate_left
      ·simp only [Act.put, List.setIfInBounds_toArray, List.set_cons_zero, List.set_cons_succ, i64_w, i32_w]
       rfl
      refine pure_ (i := 6) (N := some 34) (v := ?_) (a' := ?_) #[true, true, true, true, true, true, true, false, false, false, false] rfl rfl (any_of HT_.out (by kernel_rfl)) (fun _ _ _ h => h) (Or.inl ⟨by rfl, ?_⟩) ?_ ?_
      rotate_left
      ·intro w'
       go_simp
       with_reducible rfl
      rotate_left
      ·simp only [Act.put, List.setIfInBounds_toArray, List.set_cons_zero, List.set_cons_succ, i64_w, i32_w]
       rfl
      refine pure_ (i := 7) (N := some 35) (v := ?_) (a' := ?_) #[true, true, true, true, true, true, true, true, false, false, false] rfl rfl (any_of HT_.out (by kernel_rfl)) (fun _ _ _ h => h) (Or.inl ⟨by rfl, ?_⟩) ?_ ?_
      rotate_left
      ·intro w'
       go_simp
       with_reducible rfl
      rotate_left
      ·simp only [Act.put, List.setIfInBounds_toArray, List.set_cons_zero, List.set_cons_succ, i64_w, i32_w]
       rfl
      refine one_ (i := 8) (N := some 9) #[true, true, true, true, true, true, true, true, true, false, false] rfl rfl (one_of HT_.out (by kernel_rfl)) (by decide) (fun K hK => ?_)
      refine box_step ?hg (N := 9) ?hd (cs := #[.int .u64 0, .int .u64 0]) (t := 40) ?hr ?_; (case hd => rfl); (case hg => rfl); (case hr => first | (go_simp; done) | (go_simp; rfl))
      intro gb254 hg w38 hbox hb
      have n0_ := Aside0.mk (blk_below (by exact BK243.out) hb)
      have n1_ := Aside0.mk (blk_below (by exact BK247.out) hb)
      have n2_ := Aside0.mk (below_step (by repeat (first | (with_reducible first | exact HB.out | apply below_alloc | apply pw_below_drewN | apply below_drew1 | refine below_set ?_ GE243.out | refine below_set ?_ GE247.out) | exact HB.out)) hb)
      have n3_ := Aside0.mk (hbox)
      have n4_ := Aside0.mk ((by rw [hg]; exact (below_size (by repeat (first | (with_reducible first | exact HB.out | apply below_alloc | apply pw_below_drewN | apply below_drew1 | refine below_set ?_ GE243.out | refine below_set ?_ GE247.out) | exact HB.out))) : w.heap.size ≤ gb254))
      have n5_ := Aside0.mk ((by rw [hg]; exact (below_size (by repeat (first | (with_reducible first | exact HB.out | apply below_alloc | apply pw_below_drewN | apply below_drew1 | refine below_set ?_ GE243.out | refine below_set ?_ GE247.out) | exact HB.out))) : w.heap.size ≤ gb254))
      have n6_ := Aside0.mk ((by rw [hg]; exact Nat.ne_of_lt (blk_lt (by exact BK243.out)) : gb243 ≠ gb254))
      have n7_ := Aside0.mk ((by rw [hg]; exact Nat.ne_of_gt (blk_lt (by exact BK243.out)) : gb254 ≠ gb243))
      have n8_ := Aside0.mk ((by rw [hg]; exact Nat.ne_of_lt (blk_lt (by exact BK247.out)) : gb247 ≠ gb254))
      have n9_ := Aside0.mk ((by rw [hg]; exact Nat.ne_of_gt (blk_lt (by exact BK247.out)) : gb254 ≠ gb247))
      clear BK243
      clear BK247
      clear HB
      have BK243 := n0_
      have BK247 := n1_
      have HB := n2_
      have BK254 := n3_
      have GW254 := n4_
      have GE254 := n5_
      have NB243_254 := n6_
      have NB254_243 := n7_
      have NB247_254 := n8_
      have NB254_247 := n9_
      clear n0_ n1_ n2_ n3_ n4_ n5_ n6_ n7_ n8_ n9_
      clear hb hbox hg
      refine hK.out _ _ ⟨(blk_cell BK243.out 0).trans rfl, (blk_cell BK243.out 1).trans rfl, (blk_cell BK247.out 0).trans rfl, (blk_cell BK247.out 1).trans rfl⟩ (fun hHeld => ?_)
      clear hK K
      refine norm_ (a' := ?_) ?_ ?_
      rotate_left
      ·show Act.put _ (some 9) _ = _
       simp only [Act.put, List.setIfInBounds_toArray, List.set_cons_zero, List.set_cons_succ, i64_w, i32_w]
       rfl
      exact norm_ (by simp only [putAll, Act.put, List.setIfInBounds_toArray, List.set_cons_zero, List.set_cons_succ]) (hCont (gb254) _ ⟨hHeld, (by exact BK243.out), (by exact BK247.out), (by exact BK254.out), GW254.out, GE254.out, NB243_254.out, NB254_243.out, NB247_254.out, NB254_247.out, (by repeat (first | (with_reducible first | exact HB.out | apply below_alloc | apply pw_below_drewN | apply below_drew1 | refine below_set ?_ GE243.out | refine below_set ?_ GE247.out | refine below_set ?_ GE254.out) | exact HB.out))⟩)
     ·skip
      refine box_step ?hg (N := 9) ?hd (cs := #[.int .u64 0, .int .u64 0]) (t := 40) ?hr ?_; (case hd => rfl); (case hg => rfl); (case hr => first | (go_simp; done) | (go_simp; rfl))
      intro gb254 hg w37 hbox hb
      have n0_ := Aside0.mk (blk_below (by exact BK243.out) hb)
      have n1_ := Aside0.mk (blk_below (by exact BK247.out) hb)
      have n2_ := Aside0.mk (below_step (by repeat (first | (with_reducible first | exact HB.out | apply below_alloc | apply pw_below_drewN | apply below_drew1 | refine below_set ?_ GE243.out | refine below_set ?_ GE247.out) | exact HB.out)) hb)
      have n3_ := Aside0.mk (hbox)
      have n4_ := Aside0.mk ((by rw [hg]; exact (below_size (by repeat (first | (with_reducible first | exact HB.out | apply below_alloc | apply pw_below_drewN | apply below_drew1 | refine below_set ?_ GE243.out | refine below_set ?_ GE247.out) | exact HB.out))) : w.heap.size ≤ gb254))
      have n5_ := Aside0.mk ((by rw [hg]; exact (below_size (by repeat (first | (with_reducible first | exact HB.out | apply below_alloc | apply pw_below_drewN | apply below_drew1 | refine below_set ?_ GE243.out | refine below_set ?_ GE247.out) | exact HB.out))) : w.heap.size ≤ gb254))
      have n6_ := Aside0.mk ((by rw [hg]; exact Nat.ne_of_lt (blk_lt (by exact BK243.out)) : gb243 ≠ gb254))
      have n7_ := Aside0.mk ((by rw [hg]; exact Nat.ne_of_gt (blk_lt (by exact BK243.out)) : gb254 ≠ gb243))
      have n8_ := Aside0.mk ((by rw [hg]; exact Nat.ne_of_lt (blk_lt (by exact BK247.out)) : gb247 ≠ gb254))
      have n9_ := Aside0.mk ((by rw [hg]; exact Nat.ne_of_gt (blk_lt (by exact BK247.out)) : gb254 ≠ gb247))
      clear BK243
      clear BK247
      clear HB
      have BK243 := n0_
      have BK247 := n1_
      have HB := n2_
      have BK254 := n3_
      have GW254 := n4_
      have GE254 := n5_
      have NB243_254 := n6_
      have NB254_243 := n7_
      have NB247_254 := n8_
      have NB254_247 := n9_
      clear n0_ n1_ n2_ n3_ n4_ n5_ n6_ n7_ n8_ n9_
      clear hb hbox hg
      refine hK.out _ _ ⟨(blk_cell BK243.out 0).trans rfl, (blk_cell BK243.out 1).trans rfl, (blk_cell BK247.out 0).trans rfl, (blk_cell BK247.out 1).trans rfl⟩ (fun hHeld => ?_)
      clear hK K
      refine norm_ (a' := ?_) ?_ ?_
      rotate_left
      ·show Act.put _ (some 9) _ = _
       simp only [Act.put, List.setIfInBounds_toArray, List.set_cons_zero, List.set_cons_succ, i64_w, i32_w]
       rfl
      refine one_ (i := 4) (N := some 33) #[true, true, true, true, true, false, false, false, true, false, false] rfl rfl (one_of HT_.out (by kernel_rfl)) (by decide) (fun K hK => ?_)
      refine goes_ Try.func43 (by kernel_rfl) rfl #[.agg #[.int .u64 t249, .int .u64 t250], .int .u64 t245] (by rfl) rfl rfl (by (try simp only [List.map_toArray, List.map_cons, List.map_nil]); first | done | rfl | (simp only [List.length_drop, List.length_take]; rfl)) ?_
      with_reducible refine (overfallref01_Div.calls k t249 t250 t245 t251 t252 t253 _ A24.out).mono ?_
      rintro e w38 ⟨rfl, hb⟩
      refine ⟨_, rfl, ?_⟩
      have n0_ := Aside0.mk (blk_below (by exact BK243.out) hb)
      have n1_ := Aside0.mk (blk_below (by exact BK247.out) hb)
      have n2_ := Aside0.mk (blk_below (by exact BK254.out) hb)
      have n3_ := Aside0.mk (below_step (by repeat (first | (with_reducible first | exact HB.out | apply below_alloc | apply pw_below_drewN | apply below_drew1 | refine below_set ?_ GE243.out | refine below_set ?_ GE247.out | refine below_set ?_ GE254.out) | exact HB.out)) hb)
      clear BK243
      clear BK247
      clear BK254
      clear HB
      have BK243 := n0_
      have BK247 := n1_
      have BK254 := n2_
      have HB := n3_
      clear n0_ n1_ n2_ n3_
      (try clear hb)
      (try clear hb2)
      (try clear hk)
      (try clear hi)
      refine hK.out _ _ ⟨(blk_cell BK243.out 0).trans rfl, (blk_cell BK243.out 1).trans rfl, (blk_cell BK247.out 0).trans rfl, (blk_cell BK247.out 1).trans rfl⟩ (fun hHeld => ?_)
      clear hK K
      refine norm_ (a' := ?_) ?_ ?_
      rotate_left
      ·show Act.put _ (some 33) _ = _
       simp only [Act.put, List.setIfInBounds_toArray, List.set_cons_zero, List.set_cons_succ, i64_w, i32_w]
       rfl
      refine pure_ (i := 5) (N := some 28) (v := ?_) (a' := ?_) #[true, true, true, true, true, true, false, false, true, false, false] rfl rfl (any_of HT_.out (by kernel_rfl)) (fun _ _ _ h => h) (Or.inl ⟨by rfl, ?_⟩) ?_ ?_
      rotate_left
      ·intro w'
       go_simp
       with_reducible rfl
      rotate_left
      ·simp only [Act.put, List.setIfInBounds_toArray, List.set_cons_zero, List.set_cons_succ, i64_w, i32_w]
       rfl
      refine pure_ (i := 6) (N := some 34) (v := ?_) (a' := ?_) #[true, true, true, true, true, true, true, false, true, false, false] rfl rfl (any_of HT_.out (by kernel_rfl)) (fun _ _ _ h => h) (Or.inl ⟨by rfl, ?_⟩) ?_ ?_
      rotate_left
      ·intro w'
       go_simp
       with_reducible rfl
      rotate_left
      ·simp only [Act.put, List.setIfInBounds_toArray, List.set_cons_zero, List.set_cons_succ, i64_w, i32_w]
       rfl
      refine pure_ (i := 7) (N := some 35) (v := ?_) (a' := ?_) #[true, true, true, true, true, true, true, true, true, false, false] rfl rfl (any_of HT_.out (by kernel_rfl)) (fun _ _ _ h => h) (Or.inl ⟨by rfl, ?_⟩) ?_ ?_
      rotate_left
      ·intro w'
       go_simp
       with_reducible rfl
      rotate_left
      ·simp only [Act.put, List.setIfInBounds_toArray, List.set_cons_zero, List.set_cons_succ, i64_w, i32_w]
       rfl
      exact norm_ (by simp only [putAll, Act.put, List.setIfInBounds_toArray, List.set_cons_zero, List.set_cons_succ]) (hCont (gb254) _ ⟨hHeld, (by exact BK243.out), (by exact BK247.out), (by exact BK254.out), GW254.out, GE254.out, NB243_254.out, NB254_243.out, NB247_254.out, NB254_247.out, (by repeat (first | (with_reducible first | exact HB.out | apply below_alloc | apply pw_below_drewN | apply below_drew1 | refine below_set ?_ GE243.out | refine below_set ?_ GE247.out | refine below_set ?_ GE254.out) | exact HB.out))⟩)
    ·skip
     refine box_step ?hg (N := 9) ?hd (cs := #[.int .u64 0, .int .u64 0]) (t := 40) ?hr ?_; (case hd => rfl); (case hg => rfl); (case hr => first | (go_simp; done) | (go_simp; rfl))
     intro gb254 hg w36 hbox hb
     have n0_ := Aside0.mk (blk_below (by exact BK243.out) hb)
     have n1_ := Aside0.mk (blk_below (by exact BK247.out) hb)
     have n2_ := Aside0.mk (below_step (by repeat (first | (with_reducible first | exact HB.out | apply below_alloc | apply pw_below_drewN | apply below_drew1 | refine below_set ?_ GE243.out | refine below_set ?_ GE247.out) | exact HB.out)) hb)
     have n3_ := Aside0.mk (hbox)
     have n4_ := Aside0.mk ((by rw [hg]; exact (below_size (by repeat (first | (with_reducible first | exact HB.out | apply below_alloc | apply pw_below_drewN | apply below_drew1 | refine below_set ?_ GE243.out | refine below_set ?_ GE247.out) | exact HB.out))) : w.heap.size ≤ gb254))
     have n5_ := Aside0.mk ((by rw [hg]; exact (below_size (by repeat (first | (with_reducible first | exact HB.out | apply below_alloc | apply pw_below_drewN | apply below_drew1 | refine below_set ?_ GE243.out | refine below_set ?_ GE247.out) | exact HB.out))) : w.heap.size ≤ gb254))
     have n6_ := Aside0.mk ((by rw [hg]; exact Nat.ne_of_lt (blk_lt (by exact BK243.out)) : gb243 ≠ gb254))
     have n7_ := Aside0.mk ((by rw [hg]; exact Nat.ne_of_gt (blk_lt (by exact BK243.out)) : gb254 ≠ gb243))
     have n8_ := Aside0.mk ((by rw [hg]; exact Nat.ne_of_lt (blk_lt (by exact BK247.out)) : gb247 ≠ gb254))
     have n9_ := Aside0.mk ((by rw [hg]; exact Nat.ne_of_gt (blk_lt (by exact BK247.out)) : gb254 ≠ gb247))
     clear BK243
     clear BK247
     clear HB
     have BK243 := n0_
     have BK247 := n1_
     have HB := n2_
     have BK254 := n3_
     have GW254 := n4_
     have GE254 := n5_
     have NB243_254 := n6_
     have NB254_243 := n7_
     have NB247_254 := n8_
     have NB254_247 := n9_
     clear n0_ n1_ n2_ n3_ n4_ n5_ n6_ n7_ n8_ n9_
     clear hb hbox hg
     refine hK.out _ _ ⟨(blk_cell BK243.out 0).trans rfl, (blk_cell BK243.out 1).trans rfl, (blk_cell BK247.out 0).trans rfl, (blk_cell BK247.out 1).trans rfl⟩ (fun hHeld => ?_)
     clear hK K
     refine norm_ (a' := ?_) ?_ ?_
     rotate_left
     ·show Act.put _ (some 9) _ = _
      simp only [Act.put, List.setIfInBounds_toArray, List.set_cons_zero, List.set_cons_succ, i64_w, i32_w]
      rfl
     refine one_ (i := 1) (N := some 30) #[true, true, true, true, false, false, false, false, true, false, false] rfl rfl (one_of HT_.out (by kernel_rfl)) (by decide) (fun K hK => ?_)
     refine goes_ Try.func44 (by kernel_rfl) rfl #[.agg #[.int .u64 t240, .int .u64 t241], .int .i64 32] (by rfl) rfl rfl (by (try simp only [List.map_toArray, List.map_cons, List.map_nil]); first | done | rfl | (simp only [List.length_drop, List.length_take]; rfl)) ?_
     with_reducible refine (overfallref01_Left.calls k t240 t241 32 t249 t250 _ A23.out).mono ?_
     rintro e w37 ⟨rfl, hb⟩
     refine ⟨_, rfl, ?_⟩
     have n0_ := Aside0.mk (blk_below (by exact BK243.out) hb)
     have n1_ := Aside0.mk (blk_below (by exact BK247.out) hb)
     have n2_ := Aside0.mk (blk_below (by exact BK254.out) hb)
     have n3_ := Aside0.mk (below_step (by repeat (first | (with_reducible first | exact HB.out | apply below_alloc | apply pw_below_drewN | apply below_drew1 | refine below_set ?_ GE243.out | refine below_set ?_ GE247.out | refine below_set ?_ GE254.out) | exact HB.out)) hb)
     clear BK243
     clear BK247
     clear BK254
     clear HB
     have BK243 := n0_
     have BK247 := n1_
     have BK254 := n2_
     have HB := n3_
     clear n0_ n1_ n2_ n3_
     (try clear hb)
     (try clear hb2)
     (try clear hk)
     (try clear hi)
     refine hK.out _ _ ⟨(blk_cell BK243.out 0).trans rfl, (blk_cell BK243.out 1).trans rfl, (blk_cell BK247.out 0).trans rfl, (blk_cell BK247.out 1).trans rfl⟩ (fun hHeld => ?_)
     clear hK K
     refine norm_ (a' := ?_) ?_ ?_
     rotate_left
     ·show Act.put _ (some 30) _ = _
      simp only [Act.put, List.setIfInBounds_toArray, List.set_cons_zero, List.set_cons_succ, i64_w, i32_w]
      rfl
     refine one_ (i := 4) (N := some 33) #[true, true, true, true, true, false, false, false, true, false, false] rfl rfl (one_of HT_.out (by kernel_rfl)) (by decide) (fun K hK => ?_)
     refine goes_ Try.func43 (by kernel_rfl) rfl #[.agg #[.int .u64 t249, .int .u64 t250], .int .u64 t245] (by rfl) rfl rfl (by (try simp only [List.map_toArray, List.map_cons, List.map_nil]); first | done | rfl | (simp only [List.length_drop, List.length_take]; rfl)) ?_
     with_reducible refine (overfallref01_Div.calls k t249 t250 t245 t251 t252 t253 _ A24.out).mono ?_
     rintro e w38 ⟨rfl, hb⟩
     refine ⟨_, rfl, ?_⟩
     have n0_ := Aside0.mk (blk_below (by exact BK243.out) hb)
     have n1_ := Aside0.mk (blk_below (by exact BK247.out) hb)
     have n2_ := Aside0.mk (blk_below (by exact BK254.out) hb)
     have n3_ := Aside0.mk (below_step (by repeat (first | (with_reducible first | exact HB.out | apply below_alloc | apply pw_below_drewN | apply below_drew1 | refine below_set ?_ GE243.out | refine below_set ?_ GE247.out | refine below_set ?_ GE254.out) | exact HB.out)) hb)
     clear BK243
     clear BK247
     clear BK254
     clear HB
     have BK243 := n0_
     have BK247 := n1_
     have BK254 := n2_
     have HB := n3_
     clear n0_ n1_ n2_ n3_
     (try clear hb)
     (try clear hb2)
     (try clear hk)
     (try clear hi)
     refine hK.out _ _ ⟨(blk_cell BK243.out 0).trans rfl, (blk_cell BK243.out 1).trans rfl, (blk_cell BK247.out 0).trans rfl, (blk_cell BK247.out 1).trans rfl⟩ (fun hHeld => ?_)
     clear hK K
     refine norm_ (a' := ?_) ?_ ?_
     rotate_left
     ·show Act.put _ (some 33) _ = _
      simp only [Act.put, List.setIfInBounds_toArray, List.set_cons_zero, List.set_cons_succ, i64_w, i32_w]
      rfl
     refine pure_ (i := 5) (N := some 28) (v := ?_) (a' := ?_) #[true, true, true, true, true, true, false, false, true, false, false] rfl rfl (any_of HT_.out (by kernel_rfl)) (fun _ _ _ h => h) (Or.inl ⟨by rfl, ?_⟩) ?_ ?_
     rotate_left
     ·intro w'
      go_simp
      with_reducible rfl
     rotate_left
     ·simp only [Act.put, List.setIfInBounds_toArray, List.set_cons_zero, List.set_cons_succ, i64_w, i32_w]
      rfl
     refine pure_ (i := 6) (N := some 34) (v := ?_) (a' := ?_) #[true, true, true, true, true, true, true, false, true, false, false] rfl rfl (any_of HT_.out (by kernel_rfl)) (fun _ _ _ h => h) (Or.inl ⟨by rfl, ?_⟩) ?_ ?_
     rotate_left
     ·intro w'
      go_simp
      with_reducible rfl
     rotate_left
     ·simp only [Act.put, List.setIfInBounds_toArray, List.set_cons_zero, List.set_cons_succ, i64_w, i32_w]
      rfl
     refine pure_ (i := 7) (N := some 35) (v := ?_) (a' := ?_) #[true, true, true, true, true, true, true, true, true, false, false] rfl rfl (any_of HT_.out (by kernel_rfl)) (fun _ _ _ h => h) (Or.inl ⟨by rfl, ?_⟩) ?_ ?_
     rotate_left
     ·intro w'
      go_simp
      with_reducible rfl
     rotate_left
     ·simp only [Act.put, List.setIfInBounds_toArray, List.set_cons_zero, List.set_cons_succ, i64_w, i32_w]
      rfl
     exact norm_ (by simp only [putAll, Act.put, List.setIfInBounds_toArray, List.set_cons_zero, List.set_cons_succ]) (hCont (gb254) _ ⟨hHeld, (by exact BK243.out), (by exact BK247.out), (by exact BK254.out), GW254.out, GE254.out, NB243_254.out, NB254_243.out, NB247_254.out, NB254_247.out, (by repeat (first | (with_reducible first | exact HB.out | apply below_alloc | apply pw_below_drewN | apply below_drew1 | refine below_set ?_ GE243.out | refine below_set ?_ GE247.out | refine below_set ?_ GE254.out) | exact HB.out))⟩)
   rintro gb254 w39 ⟨hS_, h0_, h1_, h2_, h3_, h4_, h5_, h6_, h7_, h8_, h9_⟩
   have n0_ : Aside0 (w39.heap[gb243]? = some (.cells #[.int .u64 t240, .int .u64 t241] 40 (0, 0))) := ⟨h0_⟩
   have n1_ : Aside0 (w39.heap[gb247]? = some (.cells #[.int .u64 t244, .int .u64 t245] 40 (0, 0))) := ⟨h1_⟩
   have n2_ : Aside0 (w39.heap[gb254]? = some (.cells #[.int .u64 0, .int .u64 0] 40 (0, 0))) := ⟨h2_⟩
   have n3_ : Aside0 (w.heap.size ≤ gb254) := ⟨h3_⟩
   have n4_ : Aside0 (w.heap.size ≤ gb254) := ⟨h4_⟩
   have n5_ : Aside0 (gb243 ≠ gb254) := ⟨h5_⟩
   have n6_ : Aside0 (gb254 ≠ gb243) := ⟨h6_⟩
   have n7_ : Aside0 (gb247 ≠ gb254) := ⟨h7_⟩
   have n8_ : Aside0 (gb254 ≠ gb247) := ⟨h8_⟩
   have n9_ : Aside0 (Below w.heap.size w w39) := ⟨h9_⟩
   clear BK243
   clear BK247
   clear HB
   clear h0_ h1_ h2_ h3_ h4_ h5_ h6_ h7_ h8_ h9_
   have BK243 := n0_
   have BK247 := n1_
   have BK254 := n2_
   have GW254 := n3_
   have GE254 := n4_
   have NB243_254 := n5_
   have NB254_243 := n6_
   have NB247_254 := n7_
   have NB254_247 := n8_
   have HB := n9_
   clear n0_ n1_ n2_ n3_ n4_ n5_ n6_ n7_ n8_ n9_
   have hHeld : w39.cell? ⟨gb243, 0, none⟩ = some (.int .u64 t240) ∧ w39.cell? ⟨gb243, 1, none⟩ = some (.int .u64 t241) ∧ w39.cell? ⟨gb247, 0, none⟩ = some (.int .u64 t244) ∧ w39.cell? ⟨gb247, 1, none⟩ = some (.int .u64 t245) := hS_
   refine norm_ (a' := ?_) ?_ ?_
   rotate_left
   ·simp only [putAll, Act.put, List.setIfInBounds_toArray, List.set_cons_zero, List.set_cons_succ]
    rfl
   refine one_ (i := 9) (N := none) #[true, true, true, true, true, true, true, true, true, true, false] rfl rfl (one_of HT_.out (by kernel_rfl)) (by decide) (fun K hK => ?_)
   have hs40 : w39.cell? ⟨gb254, 0, none⟩ = some (.int .u64 0) := (blk_cell BK254.out 0).trans rfl
   have hfs40 := blk_frozen BK254.out 0
   have hns40_0 := NB243_254.out
   have hns40_1 := NB247_254.out
   have hms40_0 := NB254_243.out
   have hms40_1 := NB254_247.out
   have hs41 : w39.cell? ⟨gb254, 1, none⟩ = some (.int .u64 0) := (blk_cell BK254.out 1).trans rfl
   have hfs41 := blk_frozen BK254.out 1
   have hns41_0 := NB243_254.out
   have hns41_1 := NB247_254.out
   have hms41_0 := NB254_243.out
   have hms41_1 := NB254_247.out
   refine skip_ (w1 := ?_) (by rfl) rfl ?_ ?_
   rotate_left
   ·go_simp
    rfl
   refine hK.out _ _ ⟨((cell_far (p := ⟨gb254, _, none⟩) NB243_254.out _).trans (((cell_far (p := ⟨gb254, _, none⟩) NB243_254.out _).trans (hHeld.1)))), ((cell_far (p := ⟨gb254, _, none⟩) NB243_254.out _).trans (((cell_far (p := ⟨gb254, _, none⟩) NB243_254.out _).trans (hHeld.2.1)))), ((cell_far (p := ⟨gb254, _, none⟩) NB247_254.out _).trans (((cell_far (p := ⟨gb254, _, none⟩) NB247_254.out _).trans (hHeld.2.2.1)))), ((cell_far (p := ⟨gb254, _, none⟩) NB247_254.out _).trans (((cell_far (p := ⟨gb254, _, none⟩) NB247_254.out _).trans (hHeld.2.2.2))))⟩ (fun hHeld => ?_)
   clear hK K
   refine pure_ (i := 10) (N := some 10) (v := ?_) (a' := ?_) #[true, true, true, true, true, true, true, true, true, true, true] rfl rfl (any_of HT_.out (by kernel_rfl)) (fun _ _ _ h => h) (Or.inl ⟨by rfl, ?_⟩) ?_ ?_
   rotate_left
   ·intro w'
    go_simp
    with_reducible rfl
   rotate_left
   ·simp only [Act.put, List.setIfInBounds_toArray, List.set_cons_zero, List.set_cons_succ, i64_w, i32_w]
    rfl
   refine done_ (done_of HT_.out (by kernel_rfl)) ?_
   have hnb42 := NB254_243.out
   have hnc42 := NB243_254.out
   have hnb43 := NB254_247.out
   have hnc43 := NB247_254.out
   have hcz44_0 : w39.cell? ⟨gb254, 0, none⟩ = some (.int .u64 0) := (blk_cell BK254.out 0).trans rfl
   have hcz44_1 : w39.cell? ⟨gb254, 1, none⟩ = some (.int .u64 0) := (blk_cell BK254.out 1).trans rfl
   have hfz44_0 := blk_frozen BK254.out 0
   have hfz44_1 := blk_frozen BK254.out 1
   try go_wp2_with (first | ((with_reducible refine gate_callee (f := 45) rfl ?_); refine goesL_ (some 46) rfl rfl Try.func45 (by kernel_rfl) rfl #[.agg #[.int .u64 t251, .int .u64 t252], .bool (decide (t253 > 0)), .bool (a0 != 0)] rfl (by (try simp only [List.map_toArray, List.map_cons, List.map_nil]); first | done | rfl | (simp only [List.length_drop, List.length_take]; rfl)) ?_; (with_reducible refine (overfallref02_down.calls k t251 t252 (decide (t253 > 0)) (a0 != 0) t255 _ A26.out).mono ?_); rintro e w45 ⟨rfl, hb⟩; refine ⟨_, rfl, ?_⟩; have n0_ := Aside0.mk (blk_below (g := gb243) (o := .cells #[.int .u64 t240, .int .u64 t241] 40 (0, 0)) (by refine blk_far ?_ NB243_254.out _; refine blk_far ?_ NB243_254.out _; exact BK243.out) hb); have n1_ := Aside0.mk (blk_below (g := gb247) (o := .cells #[.int .u64 t244, .int .u64 t245] 40 (0, 0)) (by refine blk_far ?_ NB247_254.out _; refine blk_far ?_ NB247_254.out _; exact BK247.out) hb); have n2_ := Aside0.mk (blk_below (g := gb254) (o := .cells #[.int .u64 t251, .int .u64 t252] 40 (0, 0)) (by refine blk_put (cs := #[.int .u64 t251, .int .u64 0]) ?_ 1 _ rfl; refine blk_put (cs := #[.int .u64 0, .int .u64 0]) ?_ 0 _ rfl; exact BK254.out) hb); have n3_ := Aside0.mk (below_step (by repeat (first | (with_reducible first | exact HB.out | apply below_alloc | apply pw_below_drewN | apply below_drew1 | refine below_set ?_ GE243.out | refine below_set ?_ GE247.out | refine below_set ?_ GE254.out) | exact HB.out)) hb); clear BK243; clear BK247; clear BK254; clear HB; have BK243 := n0_; have BK247 := n1_; have BK254 := n2_; have HB := n3_; clear n0_ n1_ n2_ n3_; (try clear hb); (try clear hb2); (try clear hk); (try clear hi)))
   go_ret
   exact ⟨by first | rfl | (simp [errW_none, errW_some] <;> rfl) | (simp [*, errW_none, errW_some] <;> rfl), by repeat (first | (with_reducible first | exact HB.out | apply below_alloc | apply pw_below_drewN | apply below_drew1 | refine below_set ?_ GE243.out | refine below_set ?_ GE247.out | refine below_set ?_ GE254.out) | exact HB.out)⟩
  ·rw [if_neg c25] at H
   have c25b0 : (t242 != t246) = false := by simpa using c25
   (try (have c25b1 : decide (t242 = t246) = true := by simpa using c25))
   (try (have c25b2 : (t242 == t246) = true := by simpa using c25))
   clear c25
   replace H := Option.bind_eq_some_iff.mp H
   obtain ⟨t256, A460, H⟩ := H
   replace H : (some t256) = some r := H
   have A46 := Aside0.mk A460
   clear A460
   obtain rfl := Option.some.inj H
   go_enter Try.func17, Try.ntmps17
   try go_wp2_with (first | ((with_reducible refine gate_callee (f := 36) rfl ?_); refine goesL_ (some 13) rfl rfl Try.func36 (by kernel_rfl) rfl #[.int .i64 a0] rfl (by (try simp only [List.map_toArray, List.map_cons, List.map_nil]); first | done | rfl | (simp only [List.length_drop, List.length_take]; rfl)) ?_; (with_reducible refine (overfallref02_Size.calls a0 t240 t241 t242 _ A3.out).mono ?_); rintro e w47 ⟨rfl, hb⟩; refine ⟨_, rfl, ?_⟩; have n0_ := Aside0.mk (below_step (by repeat (first | (with_reducible first | exact HB.out | apply below_alloc | apply pw_below_drewN | apply below_drew1) | exact HB.out)) hb); clear HB; have HB := n0_; clear n0_; (try clear hb); (try clear hb2); (try clear hk); (try clear hi)) | ((with_reducible refine gate_dst (N := 5) rfl ?_); refine box_event ?hg (N := 5) ?hd (cs := #[.int .u64 0, .int .u64 0]) (t := 40) ?hr ?_; (case hd => rfl); (case hg => rfl); (case hr => first | (go_simp; done) | (go_simp; rfl)); intro gb243 hg w48 hbox hb; have n0_ := Aside0.mk (below_step (by repeat (first | (with_reducible first | exact HB.out | apply below_alloc | apply pw_below_drewN | apply below_drew1) | exact HB.out)) hb); have n1_ := Aside0.mk (hbox); have n2_ := Aside0.mk ((by rw [hg]; exact (below_size (by repeat (first | (with_reducible first | exact HB.out | apply below_alloc | apply pw_below_drewN | apply below_drew1) | exact HB.out))) : w.heap.size ≤ gb243)); have n3_ := Aside0.mk ((by rw [hg]; exact (below_size (by repeat (first | (with_reducible first | exact HB.out | apply below_alloc | apply pw_below_drewN | apply below_drew1) | exact HB.out))) : w.heap.size ≤ gb243)); clear HB; have HB := n0_; have BK243 := n1_; have GW243 := n2_; have GE243 := n3_; clear n0_ n1_ n2_ n3_; clear hb hbox hg; have hcz49_0 : w48.cell? ⟨gb243, 0, none⟩ = some (.int .u64 0) := (blk_cell BK243.out 0).trans rfl; have hcz49_1 : w48.cell? ⟨gb243, 1, none⟩ = some (.int .u64 0) := (blk_cell BK243.out 1).trans rfl; have hfz49_0 := blk_frozen BK243.out 0; have hfz49_1 := blk_frozen BK243.out 1) | ((with_reducible refine gate_callee (f := 36) rfl ?_); refine goesL_ (some 18) rfl rfl Try.func36 (by kernel_rfl) rfl #[.int .i64 a1] rfl (by (try simp only [List.map_toArray, List.map_cons, List.map_nil]); first | done | rfl | (simp only [List.length_drop, List.length_take]; rfl)) ?_; (with_reducible refine (overfallref02_Size.calls a1 t244 t245 t246 _ A4.out).mono ?_); rintro e w50 ⟨rfl, hb⟩; refine ⟨_, rfl, ?_⟩; have n0_ := Aside0.mk (blk_below (g := gb243) (o := .cells #[.int .u64 t240, .int .u64 t241] 40 (0, 0)) (by refine blk_put (cs := #[.int .u64 t240, .int .u64 0]) ?_ 1 _ rfl; refine blk_put (cs := #[.int .u64 0, .int .u64 0]) ?_ 0 _ rfl; exact BK243.out) hb); have n1_ := Aside0.mk (below_step (by repeat (first | (with_reducible first | exact HB.out | apply below_alloc | apply pw_below_drewN | apply below_drew1 | refine below_set ?_ GE243.out) | exact HB.out)) hb); clear BK243; clear HB; have BK243 := n0_; have HB := n1_; clear n0_ n1_; (try clear hb); (try clear hb2); (try clear hk); (try clear hi)) | ((with_reducible refine gate_dst (N := 7) rfl ?_); refine box_event ?hg (N := 7) ?hd (cs := #[.int .u64 0, .int .u64 0]) (t := 40) ?hr ?_; (case hd => rfl); (case hg => rfl); (case hr => first | (go_simp; done) | (go_simp; rfl)); intro gb247 hg w51 hbox hb; have n0_ := Aside0.mk (blk_below (by exact BK243.out) hb); have n1_ := Aside0.mk (below_step (by repeat (first | (with_reducible first | exact HB.out | apply below_alloc | apply pw_below_drewN | apply below_drew1 | refine below_set ?_ GE243.out) | exact HB.out)) hb); have n2_ := Aside0.mk (hbox); have n3_ := Aside0.mk ((by rw [hg]; exact (below_size (by repeat (first | (with_reducible first | exact HB.out | apply below_alloc | apply pw_below_drewN | apply below_drew1 | refine below_set ?_ GE243.out) | exact HB.out))) : w.heap.size ≤ gb247)); have n4_ := Aside0.mk ((by rw [hg]; exact (below_size (by repeat (first | (with_reducible first | exact HB.out | apply below_alloc | apply pw_below_drewN | apply below_drew1 | refine below_set ?_ GE243.out) | exact HB.out))) : w.heap.size ≤ gb247)); have n5_ := Aside0.mk ((by rw [hg]; exact Nat.ne_of_lt (blk_lt (by exact BK243.out)) : gb243 ≠ gb247)); have n6_ := Aside0.mk ((by rw [hg]; exact Nat.ne_of_gt (blk_lt (by exact BK243.out)) : gb247 ≠ gb243)); clear BK243; clear HB; have BK243 := n0_; have HB := n1_; have BK247 := n2_; have GW247 := n3_; have GE247 := n4_; have NB243_247 := n5_; have NB247_243 := n6_; clear n0_ n1_ n2_ n3_ n4_ n5_ n6_; clear hb hbox hg; have hnb52 := NB247_243.out; have hnc52 := NB243_247.out; have hcz53_0 : w51.cell? ⟨gb247, 0, none⟩ = some (.int .u64 0) := (blk_cell BK247.out 0).trans rfl; have hcz53_1 : w51.cell? ⟨gb247, 1, none⟩ = some (.int .u64 0) := (blk_cell BK247.out 1).trans rfl; have hfz53_0 := blk_frozen BK247.out 0; have hfz53_1 := blk_frozen BK247.out 1))
   have n0_ : Aside0 (((w51.setCell ⟨gb247, 0, none⟩ (.int .u64 t244)).setCell ⟨gb247, 1, none⟩ (.int .u64 t245)).heap[gb243]? = some (.cells #[.int .u64 t240, .int .u64 t241] 40 (0, 0))) := ⟨by refine blk_far ?_ NB243_247.out _; refine blk_far ?_ NB243_247.out _; exact BK243.out⟩
   have n1_ : Aside0 (((w51.setCell ⟨gb247, 0, none⟩ (.int .u64 t244)).setCell ⟨gb247, 1, none⟩ (.int .u64 t245)).heap[gb247]? = some (.cells #[.int .u64 t244, .int .u64 t245] 40 (0, 0))) := ⟨by refine blk_put (cs := #[.int .u64 t244, .int .u64 0]) ?_ 1 _ rfl; refine blk_put (cs := #[.int .u64 0, .int .u64 0]) ?_ 0 _ rfl; exact BK247.out⟩
   have n2_ : Aside0 (Below w.heap.size w ((w51.setCell ⟨gb247, 0, none⟩ (.int .u64 t244)).setCell ⟨gb247, 1, none⟩ (.int .u64 t245))) := ⟨by repeat (first | (with_reducible first | exact HB.out | apply below_alloc | apply pw_below_drewN | apply below_drew1 | refine below_set ?_ GE243.out | refine below_set ?_ GE247.out) | exact HB.out)⟩
   (try clear BK243)
   (try clear BK247)
   (try clear HB)
   generalize ((w51.setCell ⟨gb247, 0, none⟩ (.int .u64 t244)).setCell ⟨gb247, 1, none⟩ (.int .u64 t245)) = w54 at n0_ n1_ n2_ ⊢
   have BK243 := n0_
   have BK247 := n1_
   have HB := n2_
   clear n0_ n1_ n2_
   have n0_ := Aside0.mk (blk_drew BK243.out)
   have n1_ := Aside0.mk (blk_drew BK247.out)
   have n2_ := Aside0.mk (below_drew1 HB.out)
   clear BK243
   clear BK247
   clear HB
   have BK243 := n0_
   have BK247 := n1_
   have HB := n2_
   clear n0_ n1_ n2_
   refine start_ (n := 11) (S := fun w' => w'.cell? ⟨gb243, 0, none⟩ = some (.int .u64 t240) ∧ w'.cell? ⟨gb243, 1, none⟩ = some (.int .u64 t241) ∧ w'.cell? ⟨gb247, 0, none⟩ = some (.int .u64 t244) ∧ w'.cell? ⟨gb247, 1, none⟩ = some (.int .u64 t245)) (ds := []) #[false, false, false, false, false, false, false, false, false, false, false] (by kernel_rfl) rfl rfl ⟨(blk_cell BK243.out 0).trans rfl, (blk_cell BK243.out 1).trans rfl, (blk_cell BK247.out 0).trans rfl, (blk_cell BK247.out 1).trans rfl⟩ (fun hHeld => ?_); refine with_tabW overfallref02_Ratio.tab7 overfallref02_Ratio.bits7 (fun HT_ HW_ => ?_)
   generalize w54.drew = w55 at BK243 BK247 HB hHeld ⊢
   refine pure_ (i := 2) (N := some 31) (v := ?_) (a' := ?_) #[false, false, true, false, false, false, false, false, false, false, false] rfl rfl (any_of HT_.out (by kernel_rfl)) (fun _ _ _ h => h) (Or.inl ⟨by rfl, ?_⟩) ?_ ?_
   rotate_left
   ·intro w'
    go_simp
    with_reducible rfl
   rotate_left
   ·simp only [Act.put, List.setIfInBounds_toArray, List.set_cons_zero, List.set_cons_succ, i64_w, i32_w]
    rfl
   refine take_ (i := 0) (N := some 29) (v := ?_) (a' := ?_) #[true, false, true, false, false, false, false, false, false, false, false] rfl rfl (take_ofW HT_.out HW_.out (by kernel_rfl)) (fun _ _ _ h => h) (Or.inl ⟨by rfl, ?_⟩) hHeld ?_ ?_
   rotate_left
   ·rintro w' ⟨s0, s1, s2, s3⟩
    go_simp
    with_reducible rfl
   rotate_left
   ·simp only [Act.put, List.setIfInBounds_toArray, List.set_cons_zero, List.set_cons_succ, i64_w, i32_w]
    rfl
   refine take_ (i := 3) (N := some 32) (v := ?_) (a' := ?_) #[true, false, true, true, false, false, false, false, false, false, false] rfl rfl (take_ofW HT_.out HW_.out (by kernel_rfl)) (fun _ _ _ h => h) (Or.inl ⟨by rfl, ?_⟩) hHeld ?_ ?_
   rotate_left
   ·rintro w' ⟨s0, s1, s2, s3⟩
    go_simp
    with_reducible rfl
   rotate_left
   ·simp only [Act.put, List.setIfInBounds_toArray, List.set_cons_zero, List.set_cons_succ, i64_w, i32_w]
    rfl
   refine join_ (σ := Nat) 2 #[true, true, true, true, true, true, true, true, true, false, false] (fun s_ => [(30, .agg #[.int .u64 t249, .int .u64 t250]), (33, .tuple #[.agg #[.int .u64 t251, .int .u64 t252], .int .u64 t253]), (9, .pointer (some ⟨s_, 0, none⟩)), (28, .tuple #[.agg #[.int .u64 t251, .int .u64 t252], .int .u64 t253]), (34, .agg #[.int .u64 t251, .int .u64 t252]), (35, .int .u64 t253)]) (fun s_ w' => (w'.cell? ⟨gb243, 0, none⟩ = some (.int .u64 t240) ∧ w'.cell? ⟨gb243, 1, none⟩ = some (.int .u64 t241) ∧ w'.cell? ⟨gb247, 0, none⟩ = some (.int .u64 t244) ∧ w'.cell? ⟨gb247, 1, none⟩ = some (.int .u64 t245)) ∧ (w'.heap[gb243]? = some (.cells #[.int .u64 t240, .int .u64 t241] 40 (0, 0))) ∧ (w'.heap[gb247]? = some (.cells #[.int .u64 t244, .int .u64 t245] 40 (0, 0))) ∧ (w'.heap[s_]? = some (.cells #[.int .u64 0, .int .u64 0] 40 (0, 0))) ∧ (w.heap.size ≤ s_) ∧ (w.heap.size ≤ s_) ∧ (gb243 ≠ s_) ∧ (s_ ≠ gb243) ∧ (gb247 ≠ s_) ∧ (s_ ≠ gb247) ∧ (Below w.heap.size w w')) ?_ ?_
   rotate_left
   ·intro hCont
    refine two_ (i := 1) (j := 8) (Ni := some 30) (Nj := some 9) #[true, true, true, true, false, false, false, false, false, false, false] #[true, false, true, true, false, false, false, false, true, false, false] rfl rfl rfl rfl (two_of HT_.out (by kernel_rfl)) (by decide) (by decide) (fun K hK => ?_) (fun K hK => ?_)
    ·skip
     refine goes_ Try.func44 (by kernel_rfl) rfl #[.agg #[.int .u64 t240, .int .u64 t241], .int .i64 32] (by rfl) rfl rfl (by (try simp only [List.map_toArray, List.map_cons, List.map_nil]); first | done | rfl | (simp only [List.length_drop, List.length_take]; rfl)) ?_
     with_reducible refine (overfallref01_Left.calls k t240 t241 32 t249 t250 _ A23.out).mono ?_
     rintro e w56 ⟨rfl, hb⟩
     refine ⟨_, rfl, ?_⟩
     have n0_ := Aside0.mk (blk_below (by exact BK243.out) hb)
     have n1_ := Aside0.mk (blk_below (by exact BK247.out) hb)
     have n2_ := Aside0.mk (below_step (by repeat (first | (with_reducible first | exact HB.out | apply below_alloc | apply pw_below_drewN | apply below_drew1 | refine below_set ?_ GE243.out | refine below_set ?_ GE247.out) | exact HB.out)) hb)
     clear BK243
     clear BK247
     clear HB
     have BK243 := n0_
     have BK247 := n1_
     have HB := n2_
     clear n0_ n1_ n2_
     (try clear hb)
     (try clear hb2)
     (try clear hk)
     (try clear hi)
     refine hK.out _ _ ⟨(blk_cell BK243.out 0).trans rfl, (blk_cell BK243.out 1).trans rfl, (blk_cell BK247.out 0).trans rfl, (blk_cell BK247.out 1).trans rfl⟩ (fun hHeld => ?_)
     clear hK K
     refine norm_ (a' := ?_) ?_ ?_
     rotate_left
     ·show Act.put _ (some 30) _ = _
      simp only [Act.put, List.setIfInBounds_toArray, List.set_cons_zero, List.set_cons_succ, i64_w, i32_w]
      rfl
     refine two_ (i := 4) (j := 8) (Ni := some 33) (Nj := some 9) #[true, true, true, true, true, false, false, false, false, false, false] #[true, true, true, true, false, false, false, false, true, false, false] rfl rfl rfl rfl (two_of HT_.out (by kernel_rfl)) (by decide) (by decide) (fun K hK => ?_) (fun K hK => ?_)
     ·skip
      refine goes_ Try.func43 (by kernel_rfl) rfl #[.agg #[.int .u64 t249, .int .u64 t250], .int .u64 t245] (by rfl) rfl rfl (by (try simp only [List.map_toArray, List.map_cons, List.map_nil]); first | done | rfl | (simp only [List.length_drop, List.length_take]; rfl)) ?_
      with_reducible refine (overfallref01_Div.calls k t249 t250 t245 t251 t252 t253 _ A24.out).mono ?_
      rintro e w57 ⟨rfl, hb⟩
      refine ⟨_, rfl, ?_⟩
      have n0_ := Aside0.mk (blk_below (by exact BK243.out) hb)
      have n1_ := Aside0.mk (blk_below (by exact BK247.out) hb)
      have n2_ := Aside0.mk (below_step (by repeat (first | (with_reducible first | exact HB.out | apply below_alloc | apply pw_below_drewN | apply below_drew1 | refine below_set ?_ GE243.out | refine below_set ?_ GE247.out) | exact HB.out)) hb)
      clear BK243
      clear BK247
      clear HB
      have BK243 := n0_
      have BK247 := n1_
      have HB := n2_
      clear n0_ n1_ n2_
      (try clear hb)
      (try clear hb2)
      (try clear hk)
      (try clear hi)
      refine hK.out _ _ ⟨(blk_cell BK243.out 0).trans rfl, (blk_cell BK243.out 1).trans rfl, (blk_cell BK247.out 0).trans rfl, (blk_cell BK247.out 1).trans rfl⟩ (fun hHeld => ?_)
      clear hK K
      refine norm_ (a' := ?_) ?_ ?_
      rotate_left
      ·show Act.put _ (some 33) _ = _
       simp only [Act.put, List.setIfInBounds_toArray, List.set_cons_zero, List.set_cons_succ, i64_w, i32_w]
       rfl
      refine pure_ (i := 5) (N := some 28) (v := ?_) (a' := ?_) #[true, true, true, true, true, true, false, false, false, false, false] rfl rfl (any_of HT_.out (by kernel_rfl)) (fun _ _ _ h => h) (Or.inl ⟨by rfl, ?_⟩) ?_ ?_
      rotate_left
      ·intro w'
       go_simp
       with_reducible rfl
      rotate_left
      ·simp only [Act.put, List.setIfInBounds_toArray, List.set_cons_zero, List.set_cons_succ, i64_w, i32_w]
       rfl
      refine pure_ (i := 6) (N := some 34) (v := ?_) (a' := ?_) #[true, true, true, true, true, true, true, false, false, false, false] rfl rfl (any_of HT_.out (by kernel_rfl)) (fun _ _ _ h => h) (Or.inl ⟨by rfl, ?_⟩) ?_ ?_
      rotate_left
      ·intro w'
       go_simp
       with_reducible rfl
      rotate_left
      ·simp only [Act.put, List.setIfInBounds_toArray, List.set_cons_zero, List.set_cons_succ, i64_w, i32_w]
       rfl
      refine pure_ (i := 7) (N := some 35) (v := ?_) (a' := ?_) #[true, true, true, true, true, true, true, true, false, false, false] rfl rfl (any_of HT_.out (by kernel_rfl)) (fun _ _ _ h => h) (Or.inl ⟨by rfl, ?_⟩) ?_ ?_
      rotate_left
      ·intro w'
       go_simp
       with_reducible rfl
      rotate_left
      ·simp only [Act.put, List.setIfInBounds_toArray, List.set_cons_zero, List.set_cons_succ, i64_w, i32_w]
       rfl
      refine one_ (i := 8) (N := some 9) #[true, true, true, true, true, true, true, true, true, false, false] rfl rfl (one_of HT_.out (by kernel_rfl)) (by decide) (fun K hK => ?_)
      refine box_step ?hg (N := 9) ?hd (cs := #[.int .u64 0, .int .u64 0]) (t := 40) ?hr ?_; (case hd => rfl); (case hg => rfl); (case hr => first | (go_simp; done) | (go_simp; rfl))
      intro gb254 hg w58 hbox hb
      have n0_ := Aside0.mk (blk_below (by exact BK243.out) hb)
      have n1_ := Aside0.mk (blk_below (by exact BK247.out) hb)
      have n2_ := Aside0.mk (below_step (by repeat (first | (with_reducible first | exact HB.out | apply below_alloc | apply pw_below_drewN | apply below_drew1 | refine below_set ?_ GE243.out | refine below_set ?_ GE247.out) | exact HB.out)) hb)
      have n3_ := Aside0.mk (hbox)
      have n4_ := Aside0.mk ((by rw [hg]; exact (below_size (by repeat (first | (with_reducible first | exact HB.out | apply below_alloc | apply pw_below_drewN | apply below_drew1 | refine below_set ?_ GE243.out | refine below_set ?_ GE247.out) | exact HB.out))) : w.heap.size ≤ gb254))
      have n5_ := Aside0.mk ((by rw [hg]; exact (below_size (by repeat (first | (with_reducible first | exact HB.out | apply below_alloc | apply pw_below_drewN | apply below_drew1 | refine below_set ?_ GE243.out | refine below_set ?_ GE247.out) | exact HB.out))) : w.heap.size ≤ gb254))
      have n6_ := Aside0.mk ((by rw [hg]; exact Nat.ne_of_lt (blk_lt (by exact BK243.out)) : gb243 ≠ gb254))
      have n7_ := Aside0.mk ((by rw [hg]; exact Nat.ne_of_gt (blk_lt (by exact BK243.out)) : gb254 ≠ gb243))
      have n8_ := Aside0.mk ((by rw [hg]; exact Nat.ne_of_lt (blk_lt (by exact BK247.out)) : gb247 ≠ gb254))
      have n9_ := Aside0.mk ((by rw [hg]; exact Nat.ne_of_gt (blk_lt (by exact BK247.out)) : gb254 ≠ gb247))
      clear BK243
      clear BK247
      clear HB
      have BK243 := n0_
      have BK247 := n1_
      have HB := n2_
      have BK254 := n3_
      have GW254 := n4_
      have GE254 := n5_
      have NB243_254 := n6_
      have NB254_243 := n7_
      have NB247_254 := n8_
      have NB254_247 := n9_
      clear n0_ n1_ n2_ n3_ n4_ n5_ n6_ n7_ n8_ n9_
      clear hb hbox hg
      refine hK.out _ _ ⟨(blk_cell BK243.out 0).trans rfl, (blk_cell BK243.out 1).trans rfl, (blk_cell BK247.out 0).trans rfl, (blk_cell BK247.out 1).trans rfl⟩ (fun hHeld => ?_)
      clear hK K
      refine norm_ (a' := ?_) ?_ ?_
      rotate_left
      ·show Act.put _ (some 9) _ = _
       simp only [Act.put, List.setIfInBounds_toArray, List.set_cons_zero, List.set_cons_succ, i64_w, i32_w]
       rfl
      exact norm_ (by simp only [putAll, Act.put, List.setIfInBounds_toArray, List.set_cons_zero, List.set_cons_succ]) (hCont (gb254) _ ⟨hHeld, (by exact BK243.out), (by exact BK247.out), (by exact BK254.out), GW254.out, GE254.out, NB243_254.out, NB254_243.out, NB247_254.out, NB254_247.out, (by repeat (first | (with_reducible first | exact HB.out | apply below_alloc | apply pw_below_drewN | apply below_drew1 | refine below_set ?_ GE243.out | refine below_set ?_ GE247.out | refine below_set ?_ GE254.out) | exact HB.out))⟩)
     ·skip
      refine box_step ?hg (N := 9) ?hd (cs := #[.int .u64 0, .int .u64 0]) (t := 40) ?hr ?_; (case hd => rfl); (case hg => rfl); (case hr => first | (go_simp; done) | (go_simp; rfl))
      intro gb254 hg w57 hbox hb
      have n0_ := Aside0.mk (blk_below (by exact BK243.out) hb)
      have n1_ := Aside0.mk (blk_below (by exact BK247.out) hb)
      have n2_ := Aside0.mk (below_step (by repeat (first | (with_reducible first | exact HB.out | apply below_alloc | apply pw_below_drewN | apply below_drew1 | refine below_set ?_ GE243.out | refine below_set ?_ GE247.out) | exact HB.out)) hb)
      have n3_ := Aside0.mk (hbox)
      have n4_ := Aside0.mk ((by rw [hg]; exact (below_size (by repeat (first | (with_reducible first | exact HB.out | apply below_alloc | apply pw_below_drewN | apply below_drew1 | refine below_set ?_ GE243.out | refine below_set ?_ GE247.out) | exact HB.out))) : w.heap.size ≤ gb254))
      have n5_ := Aside0.mk ((by rw [hg]; exact (below_size (by repeat (first | (with_reducible first | exact HB.out | apply below_alloc | apply pw_below_drewN | apply below_drew1 | refine below_set ?_ GE243.out | refine below_set ?_ GE247.out) | exact HB.out))) : w.heap.size ≤ gb254))
      have n6_ := Aside0.mk ((by rw [hg]; exact Nat.ne_of_lt (blk_lt (by exact BK243.out)) : gb243 ≠ gb254))
      have n7_ := Aside0.mk ((by rw [hg]; exact Nat.ne_of_gt (blk_lt (by exact BK243.out)) : gb254 ≠ gb243))
      have n8_ := Aside0.mk ((by rw [hg]; exact Nat.ne_of_lt (blk_lt (by exact BK247.out)) : gb247 ≠ gb254))
      have n9_ := Aside0.mk ((by rw [hg]; exact Nat.ne_of_gt (blk_lt (by exact BK247.out)) : gb254 ≠ gb247))
      clear BK243
      clear BK247
      clear HB
      have BK243 := n0_
      have BK247 := n1_
      have HB := n2_
      have BK254 := n3_
      have GW254 := n4_
      have GE254 := n5_
      have NB243_254 := n6_
      have NB254_243 := n7_
      have NB247_254 := n8_
      have NB254_247 := n9_
      clear n0_ n1_ n2_ n3_ n4_ n5_ n6_ n7_ n8_ n9_
      clear hb hbox hg
      refine hK.out _ _ ⟨(blk_cell BK243.out 0).trans rfl, (blk_cell BK243.out 1).trans rfl, (blk_cell BK247.out 0).trans rfl, (blk_cell BK247.out 1).trans rfl⟩ (fun hHeld => ?_)
      clear hK K
      refine norm_ (a' := ?_) ?_ ?_
      rotate_left
      ·show Act.put _ (some 9) _ = _
       simp only [Act.put, List.setIfInBounds_toArray, List.set_cons_zero, List.set_cons_succ, i64_w, i32_w]
       rfl
      refine one_ (i := 4) (N := some 33) #[true, true, true, true, true, false, false, false, true, false, false] rfl rfl (one_of HT_.out (by kernel_rfl)) (by decide) (fun K hK => ?_)
      refine goes_ Try.func43 (by kernel_rfl) rfl #[.agg #[.int .u64 t249, .int .u64 t250], .int .u64 t245] (by rfl) rfl rfl (by (try simp only [List.map_toArray, List.map_cons, List.map_nil]); first | done | rfl | (simp only [List.length_drop, List.length_take]; rfl)) ?_
      with_reducible refine (overfallref01_Div.calls k t249 t250 t245 t251 t252 t253 _ A24.out).mono ?_
      rintro e w58 ⟨rfl, hb⟩
      refine ⟨_, rfl, ?_⟩
      have n0_ := Aside0.mk (blk_below (by exact BK243.out) hb)
      have n1_ := Aside0.mk (blk_below (by exact BK247.out) hb)
      have n2_ := Aside0.mk (blk_below (by exact BK254.out) hb)
      have n3_ := Aside0.mk (below_step (by repeat (first | (with_reducible first | exact HB.out | apply below_alloc | apply pw_below_drewN | apply below_drew1 | refine below_set ?_ GE243.out | refine below_set ?_ GE247.out | refine below_set ?_ GE254.out) | exact HB.out)) hb)
      clear BK243
      clear BK247
      clear BK254
      clear HB
      have BK243 := n0_
      have BK247 := n1_
      have BK254 := n2_
      have HB := n3_
      clear n0_ n1_ n2_ n3_
      (try clear hb)
      (try clear hb2)
      (try clear hk)
      (try clear hi)
      refine hK.out _ _ ⟨(blk_cell BK243.out 0).trans rfl, (blk_cell BK243.out 1).trans rfl, (blk_cell BK247.out 0).trans rfl, (blk_cell BK247.out 1).trans rfl⟩ (fun hHeld => ?_)
      clear hK K
      refine norm_ (a' := ?_) ?_ ?_
      rotate_left
      ·show Act.put _ (some 33) _ = _
       simp only [Act.put, List.setIfInBounds_toArray, List.set_cons_zero, List.set_cons_succ, i64_w, i32_w]
       rfl
      refine pure_ (i := 5) (N := some 28) (v := ?_) (a' := ?_) #[true, true, true, true, true, true, false, false, true, false, false] rfl rfl (any_of HT_.out (by kernel_rfl)) (fun _ _ _ h => h) (Or.inl ⟨by rfl, ?_⟩) ?_ ?_
      rotate_left
      ·intro w'
       go_simp
       with_reducible rfl
      rotate_left
      ·simp only [Act.put, List.setIfInBounds_toArray, List.set_cons_zero, List.set_cons_succ, i64_w, i32_w]
       rfl
      refine pure_ (i := 6) (N := some 34) (v := ?_) (a' := ?_) #[true, true, true, true, true, true, true, false, true, false, false] rfl rfl (any_of HT_.out (by kernel_rfl)) (fun _ _ _ h => h) (Or.inl ⟨by rfl, ?_⟩) ?_ ?_
      rotate_left
      ·intro w'
       go_simp
       with_reducible rfl
      rotate_left
      ·simp only [Act.put, List.setIfInBounds_toArray, List.set_cons_zero, List.set_cons_succ, i64_w, i32_w]
       rfl
      refine pure_ (i := 7) (N := some 35) (v := ?_) (a' := ?_) #[true, true, true, true, true, true, true, true, true, false, false] rfl rfl (any_of HT_.out (by kernel_rfl)) (fun _ _ _ h => h) (Or.inl ⟨by rfl, ?_⟩) ?_ ?_
      rotate_left
      ·intro w'
       go_simp
       with_reducible rfl
      rotate_left
      ·simp only [Act.put, List.setIfInBounds_toArray, List.set_cons_zero, List.set_cons_succ, i64_w, i32_w]
       rfl
      exact norm_ (by simp only [putAll, Act.put, List.setIfInBounds_toArray, List.set_cons_zero, List.set_cons_succ]) (hCont (gb254) _ ⟨hHeld, (by exact BK243.out), (by exact BK247.out), (by exact BK254.out), GW254.out, GE254.out, NB243_254.out, NB254_243.out, NB247_254.out, NB254_247.out, (by repeat (first | (with_reducible first | exact HB.out | apply below_alloc | apply pw_below_drewN | apply below_drew1 | refine below_set ?_ GE243.out | refine below_set ?_ GE247.out | refine below_set ?_ GE254.out) | exact HB.out))⟩)
    ·skip
     refine box_step ?hg (N := 9) ?hd (cs := #[.int .u64 0, .int .u64 0]) (t := 40) ?hr ?_; (case hd => rfl); (case hg => rfl); (case hr => first | (go_simp; done) | (go_simp; rfl))
     intro gb254 hg w56 hbox hb
     have n0_ := Aside0.mk (blk_below (by exact BK243.out) hb)
     have n1_ := Aside0.mk (blk_below (by exact BK247.out) hb)
     have n2_ := Aside0.mk (below_step (by repeat (first | (with_reducible first | exact HB.out | apply below_alloc | apply pw_below_drewN | apply below_drew1 | refine below_set ?_ GE243.out | refine below_set ?_ GE247.out) | exact HB.out)) hb)
     have n3_ := Aside0.mk (hbox)
     have n4_ := Aside0.mk ((by rw [hg]; exact (below_size (by repeat (first | (with_reducible first | exact HB.out | apply below_alloc | apply pw_below_drewN | apply below_drew1 | refine below_set ?_ GE243.out | refine below_set ?_ GE247.out) | exact HB.out))) : w.heap.size ≤ gb254))
     have n5_ := Aside0.mk ((by rw [hg]; exact (below_size (by repeat (first | (with_reducible first | exact HB.out | apply below_alloc | apply pw_below_drewN | apply below_drew1 | refine below_set ?_ GE243.out | refine below_set ?_ GE247.out) | exact HB.out))) : w.heap.size ≤ gb254))
     have n6_ := Aside0.mk ((by rw [hg]; exact Nat.ne_of_lt (blk_lt (by exact BK243.out)) : gb243 ≠ gb254))
     have n7_ := Aside0.mk ((by rw [hg]; exact Nat.ne_of_gt (blk_lt (by exact BK243.out)) : gb254 ≠ gb243))
     have n8_ := Aside0.mk ((by rw [hg]; exact Nat.ne_of_lt (blk_lt (by exact BK247.out)) : gb247 ≠ gb254))
     have n9_ := Aside0.mk ((by rw [hg]; exact Nat.ne_of_gt (blk_lt (by exact BK247.out)) : gb254 ≠ gb247))
     clear BK243
     clear BK247
     clear HB
     have BK243 := n0_
     have BK247 := n1_
     have HB := n2_
     have BK254 := n3_
     have GW254 := n4_
     have GE254 := n5_
     have NB243_254 := n6_
     have NB254_243 := n7_
     have NB247_254 := n8_
     have NB254_247 := n9_
     clear n0_ n1_ n2_ n3_ n4_ n5_ n6_ n7_ n8_ n9_
     clear hb hbox hg
     refine hK.out _ _ ⟨(blk_cell BK243.out 0).trans rfl, (blk_cell BK243.out 1).trans rfl, (blk_cell BK247.out 0).trans rfl, (blk_cell BK247.out 1).trans rfl⟩ (fun hHeld => ?_)
     clear hK K
     refine norm_ (a' := ?_) ?_ ?_
     rotate_left
     ·show Act.put _ (some 9) _ = _
      simp only [Act.put, List.setIfInBounds_toArray, List.set_cons_zero, List.set_cons_succ, i64_w, i32_w]
      rfl
     refine one_ (i := 1) (N := some 30) #[true, true, true, true, false, false, false, false, true, false, false] rfl rfl (one_of HT_.out (by kernel_rfl)) (by decide) (fun K hK => ?_)
     refine goes_ Try.func44 (by kernel_rfl) rfl #[.agg #[.int .u64 t240, .int .u64 t241], .int .i64 32] (by rfl) rfl rfl (by (try simp only [List.map_toArray, List.map_cons, List.map_nil]); first | done | rfl | (simp only [List.length_drop, List.length_take]; rfl)) ?_
     with_reducible refine (overfallref01_Left.calls k t240 t241 32 t249 t250 _ A23.out).mono ?_
     rintro e w57 ⟨rfl, hb⟩
     refine ⟨_, rfl, ?_⟩
     have n0_ := Aside0.mk (blk_below (by exact BK243.out) hb)
     have n1_ := Aside0.mk (blk_below (by exact BK247.out) hb)
     have n2_ := Aside0.mk (blk_below (by exact BK254.out) hb)
     have n3_ := Aside0.mk (below_step (by repeat (first | (with_reducible first | exact HB.out | apply below_alloc | apply pw_below_drewN | apply below_drew1 | refine below_set ?_ GE243.out | refine below_set ?_ GE247.out | refine below_set ?_ GE254.out) | exact HB.out)) hb)
     clear BK243
     clear BK247
     clear BK254
     clear HB
     have BK243 := n0_
     have BK247 := n1_
     have BK254 := n2_
     have HB := n3_
     clear n0_ n1_ n2_ n3_
     (try clear hb)
     (try clear hb2)
     (try clear hk)
     (try clear hi)
     refine hK.out _ _ ⟨(blk_cell BK243.out 0).trans rfl, (blk_cell BK243.out 1).trans rfl, (blk_cell BK247.out 0).trans rfl, (blk_cell BK247.out 1).trans rfl⟩ (fun hHeld => ?_)
     clear hK K
     refine norm_ (a' := ?_) ?_ ?_
     rotate_left
     ·show Act.put _ (some 30) _ = _
      simp only [Act.put, List.setIfInBounds_toArray, List.set_cons_zero, List.set_cons_succ, i64_w, i32_w]
      rfl
     refine one_ (i := 4) (N := some 33) #[true, true, true, true, true, false, false, false, true, false, false] rfl rfl (one_of HT_.out (by kernel_rfl)) (by decide) (fun K hK => ?_)
     refine goes_ Try.func43 (by kernel_rfl) rfl #[.agg #[.int .u64 t249, .int .u64 t250], .int .u64 t245] (by rfl) rfl rfl (by (try simp only [List.map_toArray, List.map_cons, List.map_nil]); first | done | rfl | (simp only [List.length_drop, List.length_take]; rfl)) ?_
     with_reducible refine (overfallref01_Div.calls k t249 t250 t245 t251 t252 t253 _ A24.out).mono ?_
     rintro e w58 ⟨rfl, hb⟩
     refine ⟨_, rfl, ?_⟩
     have n0_ := Aside0.mk (blk_below (by exact BK243.out) hb)
     have n1_ := Aside0.mk (blk_below (by exact BK247.out) hb)
     have n2_ := Aside0.mk (blk_below (by exact BK254.out) hb)
     have n3_ := Aside0.mk (below_step (by repeat (first | (with_reducible first | exact HB.out | apply below_alloc | apply pw_below_drewN | apply below_drew1 | refine below_set ?_ GE243.out | refine below_set ?_ GE247.out | refine below_set ?_ GE254.out) | exact HB.out)) hb)
     clear BK243
     clear BK247
     clear BK254
     clear HB
     have BK243 := n0_
     have BK247 := n1_
     have BK254 := n2_
     have HB := n3_
     clear n0_ n1_ n2_ n3_
     (try clear hb)
     (try clear hb2)
     (try clear hk)
     (try clear hi)
     refine hK.out _ _ ⟨(blk_cell BK243.out 0).trans rfl, (blk_cell BK243.out 1).trans rfl, (blk_cell BK247.out 0).trans rfl, (blk_cell BK247.out 1).trans rfl⟩ (fun hHeld => ?_)
     clear hK K
     refine norm_ (a' := ?_) ?_ ?_
     rotate_left
     ·show Act.put _ (some 33) _ = _
      simp only [Act.put, List.setIfInBounds_toArray, List.set_cons_zero, List.set_cons_succ, i64_w, i32_w]
      rfl
     refine pure_ (i := 5) (N := some 28) (v := ?_) (a' := ?_) #[true, true, true, true, true, true, false, false, true, false, false] rfl rfl (any_of HT_.out (by kernel_rfl)) (fun _ _ _ h => h) (Or.inl ⟨by rfl, ?_⟩) ?_ ?_
     rotate_left
     ·intro w'
      go_simp
      with_reducible rfl
     rotate_left
     ·simp only [Act.put, List.setIfInBounds_toArray, List.set_cons_zero, List.set_cons_succ, i64_w, i32_w]
      rfl
     refine pure_ (i := 6) (N := some 34) (v := ?_) (a' := ?_) #[true, true, true, true, true, true, true, false, true, false, false] rfl rfl (any_of HT_.out (by kernel_rfl)) (fun _ _ _ h => h) (Or.inl ⟨by rfl, ?_⟩) ?_ ?_
     rotate_left
     ·intro w'
      go_simp
      with_reducible rfl
     rotate_left
     ·simp only [Act.put, List.setIfInBounds_toArray, List.set_cons_zero, List.set_cons_succ, i64_w, i32_w]
      rfl
     refine pure_ (i := 7) (N := some 35) (v := ?_) (a' := ?_) #[true, true, true, true, true, true, true, true, true, false, false] rfl rfl (any_of HT_.out (by kernel_rfl)) (fun _ _ _ h => h) (Or.inl ⟨by rfl, ?_⟩) ?_ ?_
     rotate_left
     ·intro w'
      go_simp
      with_reducible rfl
     rotate_left
     ·simp only [Act.put, List.setIfInBounds_toArray, List.set_cons_zero, List.set_cons_succ, i64_w, i32_w]
      rfl
     exact norm_ (by simp only [putAll, Act.put, List.setIfInBounds_toArray, List.set_cons_zero, List.set_cons_succ]) (hCont (gb254) _ ⟨hHeld, (by exact BK243.out), (by exact BK247.out), (by exact BK254.out), GW254.out, GE254.out, NB243_254.out, NB254_243.out, NB247_254.out, NB254_247.out, (by repeat (first | (with_reducible first | exact HB.out | apply below_alloc | apply pw_below_drewN | apply below_drew1 | refine below_set ?_ GE243.out | refine below_set ?_ GE247.out | refine below_set ?_ GE254.out) | exact HB.out))⟩)
   rintro gb254 w59 ⟨hS_, h0_, h1_, h2_, h3_, h4_, h5_, h6_, h7_, h8_, h9_⟩
   have n0_ : Aside0 (w59.heap[gb243]? = some (.cells #[.int .u64 t240, .int .u64 t241] 40 (0, 0))) := ⟨h0_⟩
   have n1_ : Aside0 (w59.heap[gb247]? = some (.cells #[.int .u64 t244, .int .u64 t245] 40 (0, 0))) := ⟨h1_⟩
   have n2_ : Aside0 (w59.heap[gb254]? = some (.cells #[.int .u64 0, .int .u64 0] 40 (0, 0))) := ⟨h2_⟩
   have n3_ : Aside0 (w.heap.size ≤ gb254) := ⟨h3_⟩
   have n4_ : Aside0 (w.heap.size ≤ gb254) := ⟨h4_⟩
   have n5_ : Aside0 (gb243 ≠ gb254) := ⟨h5_⟩
   have n6_ : Aside0 (gb254 ≠ gb243) := ⟨h6_⟩
   have n7_ : Aside0 (gb247 ≠ gb254) := ⟨h7_⟩
   have n8_ : Aside0 (gb254 ≠ gb247) := ⟨h8_⟩
   have n9_ : Aside0 (Below w.heap.size w w59) := ⟨h9_⟩
   clear BK243
   clear BK247
   clear HB
   clear h0_ h1_ h2_ h3_ h4_ h5_ h6_ h7_ h8_ h9_
   have BK243 := n0_
   have BK247 := n1_
   have BK254 := n2_
   have GW254 := n3_
   have GE254 := n4_
   have NB243_254 := n5_
   have NB254_243 := n6_
   have NB247_254 := n7_
   have NB254_247 := n8_
   have HB := n9_
   clear n0_ n1_ n2_ n3_ n4_ n5_ n6_ n7_ n8_ n9_
   have hHeld : w59.cell? ⟨gb243, 0, none⟩ = some (.int .u64 t240) ∧ w59.cell? ⟨gb243, 1, none⟩ = some (.int .u64 t241) ∧ w59.cell? ⟨gb247, 0, none⟩ = some (.int .u64 t244) ∧ w59.cell? ⟨gb247, 1, none⟩ = some (.int .u64 t245) := hS_
   refine norm_ (a' := ?_) ?_ ?_
   rotate_left
   ·simp only [putAll, Act.put, List.setIfInBounds_toArray, List.set_cons_zero, List.set_cons_succ]
    rfl
   refine one_ (i := 9) (N := none) #[true, true, true, true, true, true, true, true, true, true, false] rfl rfl (one_of HT_.out (by kernel_rfl)) (by decide) (fun K hK => ?_)
   have hs60 : w59.cell? ⟨gb254, 0, none⟩ = some (.int .u64 0) := (blk_cell BK254.out 0).trans rfl
   have hfs60 := blk_frozen BK254.out 0
   have hns60_0 := NB243_254.out
   have hns60_1 := NB247_254.out
   have hms60_0 := NB254_243.out
   have hms60_1 := NB254_247.out
   have hs61 : w59.cell? ⟨gb254, 1, none⟩ = some (.int .u64 0) := (blk_cell BK254.out 1).trans rfl
   have hfs61 := blk_frozen BK254.out 1
   have hns61_0 := NB243_254.out
   have hns61_1 := NB247_254.out
   have hms61_0 := NB254_243.out
   have hms61_1 := NB254_247.out
   refine skip_ (w1 := ?_) (by rfl) rfl ?_ ?_
   rotate_left
   ·go_simp
    rfl
   refine hK.out _ _ ⟨((cell_far (p := ⟨gb254, _, none⟩) NB243_254.out _).trans (((cell_far (p := ⟨gb254, _, none⟩) NB243_254.out _).trans (hHeld.1)))), ((cell_far (p := ⟨gb254, _, none⟩) NB243_254.out _).trans (((cell_far (p := ⟨gb254, _, none⟩) NB243_254.out _).trans (hHeld.2.1)))), ((cell_far (p := ⟨gb254, _, none⟩) NB247_254.out _).trans (((cell_far (p := ⟨gb254, _, none⟩) NB247_254.out _).trans (hHeld.2.2.1)))), ((cell_far (p := ⟨gb254, _, none⟩) NB247_254.out _).trans (((cell_far (p := ⟨gb254, _, none⟩) NB247_254.out _).trans (hHeld.2.2.2))))⟩ (fun hHeld => ?_)
   clear hK K
   refine pure_ (i := 10) (N := some 10) (v := ?_) (a' := ?_) #[true, true, true, true, true, true, true, true, true, true, true] rfl rfl (any_of HT_.out (by kernel_rfl)) (fun _ _ _ h => h) (Or.inl ⟨by rfl, ?_⟩) ?_ ?_
   rotate_left
   ·intro w'
    go_simp
    with_reducible rfl
   rotate_left
   ·simp only [Act.put, List.setIfInBounds_toArray, List.set_cons_zero, List.set_cons_succ, i64_w, i32_w]
    rfl
   refine done_ (done_of HT_.out (by kernel_rfl)) ?_
   have hnb62 := NB254_243.out
   have hnc62 := NB243_254.out
   have hnb63 := NB254_247.out
   have hnc63 := NB247_254.out
   have hcz64_0 : w59.cell? ⟨gb254, 0, none⟩ = some (.int .u64 0) := (blk_cell BK254.out 0).trans rfl
   have hcz64_1 : w59.cell? ⟨gb254, 1, none⟩ = some (.int .u64 0) := (blk_cell BK254.out 1).trans rfl
   have hfz64_0 := blk_frozen BK254.out 0
   have hfz64_1 := blk_frozen BK254.out 1
   try go_wp2_with (first | ((with_reducible refine gate_callee (f := 45) rfl ?_); refine goesL_ (some 46) rfl rfl Try.func45 (by kernel_rfl) rfl #[.agg #[.int .u64 t251, .int .u64 t252], .bool (decide (t253 > 0)), .bool false] rfl (by (try simp only [List.map_toArray, List.map_cons, List.map_nil]); first | done | rfl | (simp only [List.length_drop, List.length_take]; rfl)) ?_; (with_reducible refine (overfallref02_down.calls k t251 t252 (decide (t253 > 0)) false t256 _ A46.out).mono ?_); rintro e w65 ⟨rfl, hb⟩; refine ⟨_, rfl, ?_⟩; have n0_ := Aside0.mk (blk_below (g := gb243) (o := .cells #[.int .u64 t240, .int .u64 t241] 40 (0, 0)) (by refine blk_far ?_ NB243_254.out _; refine blk_far ?_ NB243_254.out _; exact BK243.out) hb); have n1_ := Aside0.mk (blk_below (g := gb247) (o := .cells #[.int .u64 t244, .int .u64 t245] 40 (0, 0)) (by refine blk_far ?_ NB247_254.out _; refine blk_far ?_ NB247_254.out _; exact BK247.out) hb); have n2_ := Aside0.mk (blk_below (g := gb254) (o := .cells #[.int .u64 t251, .int .u64 t252] 40 (0, 0)) (by refine blk_put (cs := #[.int .u64 t251, .int .u64 0]) ?_ 1 _ rfl; refine blk_put (cs := #[.int .u64 0, .int .u64 0]) ?_ 0 _ rfl; exact BK254.out) hb); have n3_ := Aside0.mk (below_step (by repeat (first | (with_reducible first | exact HB.out | apply below_alloc | apply pw_below_drewN | apply below_drew1 | refine below_set ?_ GE243.out | refine below_set ?_ GE247.out | refine below_set ?_ GE254.out) | exact HB.out)) hb); clear BK243; clear BK247; clear BK254; clear HB; have BK243 := n0_; have BK247 := n1_; have BK254 := n2_; have HB := n3_; clear n0_ n1_ n2_ n3_; (try clear hb); (try clear hb2); (try clear hk); (try clear hi)))
   go_ret
   exact ⟨by first | rfl | (simp [errW_none, errW_some] <;> rfl) | (simp [*, errW_none, errW_some] <;> rfl), by repeat (first | (with_reducible first | exact HB.out | apply below_alloc | apply pw_below_drewN | apply below_drew1 | refine below_set ?_ GE243.out | refine below_set ?_ GE247.out | refine below_set ?_ GE254.out) | exact HB.out)⟩

end Go.Proofs.Ytjgjmeefieikaaa.R

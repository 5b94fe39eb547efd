-- Laid by a program of this claim's session (wip/tools/myprint.py) over the kit's printer.
import Derived.Test.YtjgjmeefieikaaaGx0
import Derived.Test.YtjgjmeefieikaaaGx6
import Derived.Test.YtjgjmeefieikaaaGx10
namespace Go.Proofs.Ytjgjmeefieikaaa.G
open Go.RowKit Go.Proofs.YtjgjmeefieikaaaW.PrintWords Go.Proofs.YtjgjmeefieikaaaW.PrintLast Go.Proofs.YtjgjmeefieikaaaW.PrintMore
attribute [local go_sem] max2_int min2_int max_two min_two max_three min_three max_four min_four   -- for this text's walks alone
set_option linter.unusedVariables false
set_option linter.unusedSimpArgs false

/-! ### overfallref02_Ratio: function 17 -/
def overfallref02_Ratio.f (k : Nat) (a0 : Int) (a1 : Int) : Option (Int) := (overfallref02_Size.f a0).bind fun bt284 => ((overfallref02_Size.f a1).bind fun bt288 => (if a1 = 0 then (if a0 = 0 then (some 0) else ((overfallref02_Back.f k 1 0 bt284.2.2).bind fun t292 => (some t292))) else ((overfallref01_Left.f k bt284.1 bt284.2.1 32).bind fun bt293 => ((overfallref01_Div.f k bt293.1 bt293.2 bt288.2.1).bind fun bt295 => (if (bt284.2.2 != bt288.2.2) = true then ((overfallref02_down.f k bt295.1 bt295.2.1 (decide (bt295.2.2 > 0)) (a0 != 0)).bind fun t299 => (some t299)) else ((overfallref02_down.f k bt295.1 bt295.2.1 (decide (bt295.2.2 > 0)) false).bind fun t300 => (some t300)))))))
theorem overfallref02_Ratio.mono : ∀ a0 a1 k, LeO (overfallref02_Ratio.f k a0 a1) (overfallref02_Ratio.f (k + 1) a0 a1) := by
 intro a0 a1 k
 unfold overfallref02_Ratio.f
 repeat' first
   | (with_reducible exact overfallref01_Div.mono _ _ _ _)
   | (with_reducible exact overfallref01_Left.mono _ _ _ _)
   | (with_reducible exact overfallref02_Back.mono _ _ _ _)
   | (with_reducible exact overfallref02_down.mono _ _ _ _ _)
   | (with_reducible exact LeO.refl _)
   | (with_reducible exact LeO.none _)
   | (with_reducible refine LeO.ite ?_ ?_)
   | (with_reducible refine LeO.bind ?_ (fun _ => ?_))
   | exact overfallref01_Div.mono _ _ _ _
   | exact overfallref01_Left.mono _ _ _ _
   | exact overfallref02_Back.mono _ _ _ _
   | exact overfallref02_down.mono _ _ _ _ _
   | exact LeO.none _
   | refine LeO.ite ?_ ?_
   | refine LeO.bind ?_ (fun _ => ?_)
def overfallref02_Ratio.T7 : Bool × List (List Nat × List Nat) := (true, [([], []), ([0], [0]), ([], []), ([2], [2]), ([1, 3, 1], [1, 3]), ([4], [4]), ([5], [5]), ([5], [5]), ([], []), ([8, 6, 4, 0, 1, 2, 3, 4, 5, 6, 8], [6, 8]), ([7, 9, 0, 1, 2, 3, 4, 5, 6, 7, 8, 9], [7])])
def overfallref02_Ratio.B7 : List Nat := [0, 1, 0, 4, 15, 31, 63, 63, 0, 383, 1023]
theorem overfallref02_Ratio.tab7 : rtab .any (opsOf Try.f17 7) = overfallref02_Ratio.T7 := by kernel_rfl
theorem overfallref02_Ratio.bits7 : waitsOk overfallref02_Ratio.T7.2 overfallref02_Ratio.B7 = true := by kernel_rfl
set_option maxHeartbeats 8000000 in
set_option maxRecDepth 100000 in
theorem overfallref02_Ratio.calls (k : Nat) (a0 : Int) (a1 : Int) (r : Int) (w : World) (h : overfallref02_Ratio.f k a0 a1 = some r) :
  Calls Try.prog 17 #[.int .i64 a0, .int .i64 a1] w fun e w' => e = .returned (.int .i64 r) ∧ Below w.heap.size w w' := by
 have hu40 := Try.underlying40
 have HB := Aside0.mk (Below.refl w.heap.size w)
 have H : ((overfallref02_Size.f a0).bind fun bt284 => ((overfallref02_Size.f a1).bind fun bt288 => (if a1 = 0 then (if a0 = 0 then (some 0) else ((overfallref02_Back.f k 1 0 bt284.2.2).bind fun t292 => (some t292))) else ((overfallref01_Left.f k bt284.1 bt284.2.1 32).bind fun bt293 => ((overfallref01_Div.f k bt293.1 bt293.2 bt288.2.1).bind fun bt295 => (if (bt284.2.2 != bt288.2.2) = true then ((overfallref02_down.f k bt295.1 bt295.2.1 (decide (bt295.2.2 > 0)) (a0 != 0)).bind fun t299 => (some t299)) else ((overfallref02_down.f k bt295.1 bt295.2.1 (decide (bt295.2.2 > 0)) false).bind fun t300 => (some t300)))))))) = some r := h
 clear h
 replace H := Option.bind_eq_some_iff.mp H
 obtain ⟨⟨t284, t285, t286⟩, A30, H⟩ := H
 replace H : ((overfallref02_Size.f a1).bind fun bt288 => (if a1 = 0 then (if a0 = 0 then (some 0) else ((overfallref02_Back.f k 1 0 t286).bind fun t292 => (some t292))) else ((overfallref01_Left.f k t284 t285 32).bind fun bt293 => ((overfallref01_Div.f k bt293.1 bt293.2 bt288.2.1).bind fun bt295 => (if (t286 != bt288.2.2) = true then ((overfallref02_down.f k bt295.1 bt295.2.1 (decide (bt295.2.2 > 0)) (a0 != 0)).bind fun t299 => (some t299)) else ((overfallref02_down.f k bt295.1 bt295.2.1 (decide (bt295.2.2 > 0)) false).bind fun t300 => (some t300))))))) = some r := H
 have A3 := Aside0.mk A30
 clear A30
 replace H := Option.bind_eq_some_iff.mp H
 obtain ⟨⟨t288, t289, t290⟩, A40, H⟩ := H
 replace H : (if a1 = 0 then (if a0 = 0 then (some 0) else ((overfallref02_Back.f k 1 0 t286).bind fun t292 => (some t292))) else ((overfallref01_Left.f k t284 t285 32).bind fun bt293 => ((overfallref01_Div.f k bt293.1 bt293.2 t289).bind fun bt295 => (if (t286 != t290) = true then ((overfallref02_down.f k bt295.1 bt295.2.1 (decide (bt295.2.2 > 0)) (a0 != 0)).bind fun t299 => (some t299)) else ((overfallref02_down.f k bt295.1 bt295.2.1 (decide (bt295.2.2 > 0)) false).bind fun t300 => (some t300)))))) = some r := H
 have A4 := Aside0.mk A40
 clear A40
 by_cases c5 : a1 = 0
 ·rw [if_pos c5] at H
  have c5b0 : (a1 == 0) = true := beq_iff_eq.mpr c5
  have c5b1 : (a1 != 0) = false := bne_eq_false_iff_eq.mpr c5
  clear c5
  by_cases c6 : a0 = 0
  ·rw [if_pos c6] at H
   have c6b0 : (a0 == 0) = true := beq_iff_eq.mpr c6
   have c6b1 : (a0 != 0) = false := bne_eq_false_iff_eq.mpr c6
   clear c6
   obtain rfl := Option.some.inj H
   go_enter Try.func17, Try.ntmps17
   go_wp2_with (first | ((with_reducible refine gate_callee (f := 36) rfl ?_); refine goesL_ (some 13) rfl rfl Try.func36 (by kernel_rfl) rfl #[.int .i64 a0] rfl (by (try simp only [List.map_toArray, List.map_cons, List.map_nil]); first | done | rfl | (simp only [List.length_drop, List.length_take]; rfl)) ?_; (with_reducible refine (overfallref02_Size.calls a0 t284 t285 t286 _ A3.out).mono ?_); rintro e w7 ⟨rfl, hb⟩; refine ⟨_, rfl, ?_⟩; have n0_ := Aside0.mk (below_step (by repeat (first | (with_reducible first | exact HB.out | apply below_alloc | apply pw_below_drewN | apply below_drew1) | exact HB.out)) hb); clear HB; have HB := n0_; clear n0_; (try clear hb); (try clear hb2); (try clear hk); (try clear hi)) | ((with_reducible refine gate_dst (N := 5) rfl ?_); refine box_event ?hg (N := 5) ?hd (cs := #[.int .u64 0, .int .u64 0]) (t := 40) ?hr ?_; (case hd => rfl); (case hg => rfl); (case hr => first | (go_simp; done) | (go_simp; rfl)); intro gb287 hg w8 hbox hb; have n0_ := Aside0.mk (below_step (by repeat (first | (with_reducible first | exact HB.out | apply below_alloc | apply pw_below_drewN | apply below_drew1) | exact HB.out)) hb); have n1_ := Aside0.mk (hbox); have n2_ := Aside0.mk ((by rw [hg]; exact (below_size (by repeat (first | (with_reducible first | exact HB.out | apply below_alloc | apply pw_below_drewN | apply below_drew1) | exact HB.out))) : w.heap.size ≤ gb287)); have n3_ := Aside0.mk ((by rw [hg]; exact (below_size (by repeat (first | (with_reducible first | exact HB.out | apply below_alloc | apply pw_below_drewN | apply below_drew1) | exact HB.out))) : w.heap.size ≤ gb287)); clear HB; have HB := n0_; have BK287 := n1_; have GW287 := n2_; have GE287 := n3_; clear n0_ n1_ n2_ n3_; clear hb hbox hg; have hcz9_0 : w8.cell? ⟨gb287, 0, none⟩ = some (.int .u64 0) := (blk_cell BK287.out 0).trans rfl; have hcz9_1 : w8.cell? ⟨gb287, 1, none⟩ = some (.int .u64 0) := (blk_cell BK287.out 1).trans rfl; have hfz9_0 := blk_frozen BK287.out 0; have hfz9_1 := blk_frozen BK287.out 1) | ((with_reducible refine gate_callee (f := 36) rfl ?_); refine goesL_ (some 18) rfl rfl Try.func36 (by kernel_rfl) rfl #[.int .i64 a1] rfl (by (try simp only [List.map_toArray, List.map_cons, List.map_nil]); first | done | rfl | (simp only [List.length_drop, List.length_take]; rfl)) ?_; (with_reducible refine (overfallref02_Size.calls a1 t288 t289 t290 _ A4.out).mono ?_); rintro e w10 ⟨rfl, hb⟩; refine ⟨_, rfl, ?_⟩; have n0_ := Aside0.mk (blk_below (g := gb287) (o := .cells #[.int .u64 t284, .int .u64 t285] 40 (0, 0)) (by refine blk_put (cs := #[.int .u64 t284, .int .u64 0]) ?_ 1 _ rfl; refine blk_put (cs := #[.int .u64 0, .int .u64 0]) ?_ 0 _ rfl; exact BK287.out) hb); have n1_ := Aside0.mk (below_step (by repeat (first | (with_reducible first | exact HB.out | apply below_alloc | apply pw_below_drewN | apply below_drew1 | refine below_set ?_ GE287.out) | exact HB.out)) hb); clear BK287; clear HB; have BK287 := n0_; have HB := n1_; clear n0_ n1_; (try clear hb); (try clear hb2); (try clear hk); (try clear hi)) | ((with_reducible refine gate_dst (N := 7) rfl ?_); refine box_event ?hg (N := 7) ?hd (cs := #[.int .u64 0, .int .u64 0]) (t := 40) ?hr ?_; (case hd => rfl); (case hg => rfl); (case hr => first | (go_simp; done) | (go_simp; rfl)); intro gb291 hg w11 hbox hb; have n0_ := Aside0.mk (blk_below (by exact BK287.out) hb); have n1_ := Aside0.mk (below_step (by repeat (first | (with_reducible first | exact HB.out | apply below_alloc | apply pw_below_drewN | apply below_drew1 | refine below_set ?_ GE287.out) | exact HB.out)) hb); have n2_ := Aside0.mk (hbox); have n3_ := Aside0.mk ((by rw [hg]; exact (below_size (by repeat (first | (with_reducible first | exact HB.out | apply below_alloc | apply pw_below_drewN | apply below_drew1 | refine below_set ?_ GE287.out) | exact HB.out))) : w.heap.size ≤ gb291)); have n4_ := Aside0.mk ((by rw [hg]; exact (below_size (by repeat (first | (with_reducible first | exact HB.out | apply below_alloc | apply pw_below_drewN | apply below_drew1 | refine below_set ?_ GE287.out) | exact HB.out))) : w.heap.size ≤ gb291)); have n5_ := Aside0.mk ((by rw [hg]; exact Nat.ne_of_lt (blk_lt (by exact BK287.out)) : gb287 ≠ gb291)); have n6_ := Aside0.mk ((by rw [hg]; exact Nat.ne_of_gt (blk_lt (by exact BK287.out)) : gb291 ≠ gb287)); clear BK287; clear HB; have BK287 := n0_; have HB := n1_; have BK291 := n2_; have GW291 := n3_; have GE291 := n4_; have NB287_291 := n5_; have NB291_287 := n6_; clear n0_ n1_ n2_ n3_ n4_ n5_ n6_; clear hb hbox hg; have hnb12 := NB291_287.out; have hnc12 := NB287_291.out; have hcz13_0 : w11.cell? ⟨gb291, 0, none⟩ = some (.int .u64 0) := (blk_cell BK291.out 0).trans rfl; have hcz13_1 : w11.cell? ⟨gb291, 1, none⟩ = some (.int .u64 0) := (blk_cell BK291.out 1).trans rfl; have hfz13_0 := blk_frozen BK291.out 0; have hfz13_1 := blk_frozen BK291.out 1))
   go_ret
   exact ⟨by first | rfl | (simp [errW_none, errW_some] <;> rfl) | (simp [*, errW_none, errW_some] <;> rfl), by repeat (first | (with_reducible first | exact HB.out | apply below_alloc | apply pw_below_drewN | apply below_drew1 | refine below_set ?_ GE287.out | refine below_set ?_ GE291.out) | exact HB.out)⟩
  ·rw [if_neg c6] at H
   have c6b0 : (a0 == 0) = false := beq_eq_false_iff_ne.mpr c6
   have c6b1 : (a0 != 0) = true := bne_iff_ne.mpr c6
   replace H := Option.bind_eq_some_iff.mp H
   obtain ⟨t292, A140, H⟩ := H
   replace H : (some t292) = some r := H
   have A14 := Aside0.mk A140
   clear A140
   obtain rfl := Option.some.inj H
   go_enter Try.func17, Try.ntmps17
   go_wp2_with (first | ((with_reducible refine gate_callee (f := 36) rfl ?_); refine goesL_ (some 13) rfl rfl Try.func36 (by kernel_rfl) rfl #[.int .i64 a0] rfl (by (try simp only [List.map_toArray, List.map_cons, List.map_nil]); first | done | rfl | (simp only [List.length_drop, List.length_take]; rfl)) ?_; (with_reducible refine (overfallref02_Size.calls a0 t284 t285 t286 _ A3.out).mono ?_); rintro e w15 ⟨rfl, hb⟩; refine ⟨_, rfl, ?_⟩; have n0_ := Aside0.mk (below_step (by repeat (first | (with_reducible first | exact HB.out | apply below_alloc | apply pw_below_drewN | apply below_drew1) | exact HB.out)) hb); clear HB; have HB := n0_; clear n0_; (try clear hb); (try clear hb2); (try clear hk); (try clear hi)) | ((with_reducible refine gate_dst (N := 5) rfl ?_); refine box_event ?hg (N := 5) ?hd (cs := #[.int .u64 0, .int .u64 0]) (t := 40) ?hr ?_; (case hd => rfl); (case hg => rfl); (case hr => first | (go_simp; done) | (go_simp; rfl)); intro gb287 hg w16 hbox hb; have n0_ := Aside0.mk (below_step (by repeat (first | (with_reducible first | exact HB.out | apply below_alloc | apply pw_below_drewN | apply below_drew1) | exact HB.out)) hb); have n1_ := Aside0.mk (hbox); have n2_ := Aside0.mk ((by rw [hg]; exact (below_size (by repeat (first | (with_reducible first | exact HB.out | apply below_alloc | apply pw_below_drewN | apply below_drew1) | exact HB.out))) : w.heap.size ≤ gb287)); have n3_ := Aside0.mk ((by rw [hg]; exact (below_size (by repeat (first | (with_reducible first | exact HB.out | apply below_alloc | apply pw_below_drewN | apply below_drew1) | exact HB.out))) : w.heap.size ≤ gb287)); clear HB; have HB := n0_; have BK287 := n1_; have GW287 := n2_; have GE287 := n3_; clear n0_ n1_ n2_ n3_; clear hb hbox hg; have hcz17_0 : w16.cell? ⟨gb287, 0, none⟩ = some (.int .u64 0) := (blk_cell BK287.out 0).trans rfl; have hcz17_1 : w16.cell? ⟨gb287, 1, none⟩ = some (.int .u64 0) := (blk_cell BK287.out 1).trans rfl; have hfz17_0 := blk_frozen BK287.out 0; have hfz17_1 := blk_frozen BK287.out 1) | ((with_reducible refine gate_callee (f := 36) rfl ?_); refine goesL_ (some 18) rfl rfl Try.func36 (by kernel_rfl) rfl #[.int .i64 a1] rfl (by (try simp only [List.map_toArray, List.map_cons, List.map_nil]); first | done | rfl | (simp only [List.length_drop, List.length_take]; rfl)) ?_; (with_reducible refine (overfallref02_Size.calls a1 t288 t289 t290 _ A4.out).mono ?_); rintro e w18 ⟨rfl, hb⟩; refine ⟨_, rfl, ?_⟩; have n0_ := Aside0.mk (blk_below (g := gb287) (o := .cells #[.int .u64 t284, .int .u64 t285] 40 (0, 0)) (by refine blk_put (cs := #[.int .u64 t284, .int .u64 0]) ?_ 1 _ rfl; refine blk_put (cs := #[.int .u64 0, .int .u64 0]) ?_ 0 _ rfl; exact BK287.out) hb); have n1_ := Aside0.mk (below_step (by repeat (first | (with_reducible first | exact HB.out | apply below_alloc | apply pw_below_drewN | apply below_drew1 | refine below_set ?_ GE287.out) | exact HB.out)) hb); clear BK287; clear HB; have BK287 := n0_; have HB := n1_; clear n0_ n1_; (try clear hb); (try clear hb2); (try clear hk); (try clear hi)) | ((with_reducible refine gate_dst (N := 7) rfl ?_); refine box_event ?hg (N := 7) ?hd (cs := #[.int .u64 0, .int .u64 0]) (t := 40) ?hr ?_; (case hd => rfl); (case hg => rfl); (case hr => first | (go_simp; done) | (go_simp; rfl)); intro gb291 hg w19 hbox hb; have n0_ := Aside0.mk (blk_below (by exact BK287.out) hb); have n1_ := Aside0.mk (below_step (by repeat (first | (with_reducible first | exact HB.out | apply below_alloc | apply pw_below_drewN | apply below_drew1 | refine below_set ?_ GE287.out) | exact HB.out)) hb); have n2_ := Aside0.mk (hbox); have n3_ := Aside0.mk ((by rw [hg]; exact (below_size (by repeat (first | (with_reducible first | exact HB.out | apply below_alloc | apply pw_below_drewN | apply below_drew1 | refine below_set ?_ GE287.out) | exact HB.out))) : w.heap.size ≤ gb291)); have n4_ := Aside0.mk ((by rw [hg]; exact (below_size (by repeat (first | (with_reducible first | exact HB.out | apply below_alloc | apply pw_below_drewN | apply below_drew1 | refine below_set ?_ GE287.out) | exact HB.out))) : w.heap.size ≤ gb291)); have n5_ := Aside0.mk ((by rw [hg]; exact Nat.ne_of_lt (blk_lt (by exact BK287.out)) : gb287 ≠ gb291)); have n6_ := Aside0.mk ((by rw [hg]; exact Nat.ne_of_gt (blk_lt (by exact BK287.out)) : gb291 ≠ gb287)); clear BK287; clear HB; have BK287 := n0_; have HB := n1_; have BK291 := n2_; have GW291 := n3_; have GE291 := n4_; have NB287_291 := n5_; have NB291_287 := n6_; clear n0_ n1_ n2_ n3_ n4_ n5_ n6_; clear hb hbox hg; have hnb20 := NB291_287.out; have hnc20 := NB287_291.out; have hcz21_0 : w19.cell? ⟨gb291, 0, none⟩ = some (.int .u64 0) := (blk_cell BK291.out 0).trans rfl; have hcz21_1 : w19.cell? ⟨gb291, 1, none⟩ = some (.int .u64 0) := (blk_cell BK291.out 1).trans rfl; have hfz21_0 := blk_frozen BK291.out 0; have hfz21_1 := blk_frozen BK291.out 1) | ((with_reducible refine gate_callee (f := 37) rfl ?_); refine goesL_ (some 27) rfl rfl Try.func37 (by kernel_rfl) rfl #[.agg #[.int .u64 1, .int .u64 0], .bool t286] rfl (by (try simp only [List.map_toArray, List.map_cons, List.map_nil]); first | done | rfl | (simp only [List.length_drop, List.length_take]; rfl)) ?_; (with_reducible refine (overfallref02_Back.calls k 1 0 t286 t292 _ A14.out).mono ?_); rintro e w22 ⟨rfl, hb⟩; refine ⟨_, rfl, ?_⟩; have n0_ := Aside0.mk (blk_below (g := gb287) (o := .cells #[.int .u64 t284, .int .u64 t285] 40 (0, 0)) (by refine blk_far ?_ NB287_291.out _; refine blk_far ?_ NB287_291.out _; exact BK287.out) hb); have n1_ := Aside0.mk (blk_below (g := gb291) (o := .cells #[.int .u64 t288, .int .u64 t289] 40 (0, 0)) (by refine blk_put (cs := #[.int .u64 t288, .int .u64 0]) ?_ 1 _ rfl; refine blk_put (cs := #[.int .u64 0, .int .u64 0]) ?_ 0 _ rfl; exact BK291.out) hb); have n2_ := Aside0.mk (below_step (by repeat (first | (with_reducible first | exact HB.out | apply below_alloc | apply pw_below_drewN | apply below_drew1 | refine below_set ?_ GE287.out | refine below_set ?_ GE291.out) | exact HB.out)) hb); clear BK287; clear BK291; clear HB; have BK287 := n0_; have BK291 := n1_; have HB := n2_; clear n0_ n1_ n2_; (try clear hb); (try clear hb2); (try clear hk); (try clear hi)))
   go_ret
   exact ⟨by first | rfl | (simp [errW_none, errW_some] <;> rfl) | (simp [*, errW_none, errW_some] <;> rfl), by repeat (first | (with_reducible first | exact HB.out | apply below_alloc | apply pw_below_drewN | apply below_drew1 | refine below_set ?_ GE287.out | refine below_set ?_ GE291.out) | exact HB.out)⟩
 ·rw [if_neg c5] at H
  have c5b0 : (a1 == 0) = false := beq_eq_false_iff_ne.mpr c5
  have c5b1 : (a1 != 0) = true := bne_iff_ne.mpr c5
  replace H := Option.bind_eq_some_iff.mp H
  obtain ⟨⟨t293, t294⟩, A230, H⟩ := H
  replace H : ((overfallref01_Div.f k t293 t294 t289).bind fun bt295 => (if (t286 != t290) = true then ((overfallref02_down.f k bt295.1 bt295.2.1 (decide (bt295.2.2 > 0)) (a0 != 0)).bind fun t299 => (some t299)) else ((overfallref02_down.f k bt295.1 bt295.2.1 (decide (bt295.2.2 > 0)) false).bind fun t300 => (some t300)))) = some r := H
  have A23 := Aside0.mk A230
  clear A230
  replace H := Option.bind_eq_some_iff.mp H
  obtain ⟨⟨t295, t296, t297⟩, A240, H⟩ := H
  replace H : (if (t286 != t290) = true then ((overfallref02_down.f k t295 t296 (decide (t297 > 0)) (a0 != 0)).bind fun t299 => (some t299)) else ((overfallref02_down.f k t295 t296 (decide (t297 > 0)) false).bind fun t300 => (some t300))) = some r := H
  have A24 := Aside0.mk A240
  clear A240
  by_cases c25 : (t286 != t290) = true
  ·rw [if_pos c25] at H
   have c25b0 : (t286 != t290) = true := c25
   (try (have c25b1 : decide (t286 = t290) = false := by simpa using c25))
   (try (have c25b2 : (t286 == t290) = false := by simpa using c25))
   (try (have c25b3 : ¬ (t286 = t290) := by simpa using c25))
   clear c25
   replace H := Option.bind_eq_some_iff.mp H
   obtain ⟨t299, A260, H⟩ := H
   replace H : (some t299) = some r := H
   have A26 := Aside0.mk A260
   clear A260
   obtain rfl := Option.some.inj H
   go_enter Try.func17, Try.ntmps17
   try go_wp2_with (first | ((with_reducible refine gate_callee (f := 36) rfl ?_); refine goesL_ (some 13) rfl rfl Try.func36 (by kernel_rfl) rfl #[.int .i64 a0] rfl (by (try simp only [List.map_toArray, List.map_cons, List.map_nil]); first | done | rfl | (simp only [List.length_drop, List.length_take]; rfl)) ?_; (with_reducible refine (overfallref02_Size.calls a0 t284 t285 t286 _ A3.out).mono ?_); rintro e w27 ⟨rfl, hb⟩; refine ⟨_, rfl, ?_⟩; have n0_ := Aside0.mk (below_step (by repeat (first | (with_reducible first | exact HB.out | apply below_alloc | apply pw_below_drewN | apply below_drew1) | exact HB.out)) hb); clear HB; have HB := n0_; clear n0_; (try clear hb); (try clear hb2); (try clear hk); (try clear hi)) | ((with_reducible refine gate_dst (N := 5) rfl ?_); refine box_event ?hg (N := 5) ?hd (cs := #[.int .u64 0, .int .u64 0]) (t := 40) ?hr ?_; (case hd => rfl); (case hg => rfl); (case hr => first | (go_simp; done) | (go_simp; rfl)); intro gb287 hg w28 hbox hb; have n0_ := Aside0.mk (below_step (by repeat (first | (with_reducible first | exact HB.out | apply below_alloc | apply pw_below_drewN | apply below_drew1) | exact HB.out)) hb); have n1_ := Aside0.mk (hbox); have n2_ := Aside0.mk ((by rw [hg]; exact (below_size (by repeat (first | (with_reducible first | exact HB.out | apply below_alloc | apply pw_below_drewN | apply below_drew1) | exact HB.out))) : w.heap.size ≤ gb287)); have n3_ := Aside0.mk ((by rw [hg]; exact (below_size (by repeat (first | (with_reducible first | exact HB.out | apply below_alloc | apply pw_below_drewN | apply below_drew1) | exact HB.out))) : w.heap.size ≤ gb287)); clear HB; have HB := n0_; have BK287 := n1_; have GW287 := n2_; have GE287 := n3_; clear n0_ n1_ n2_ n3_; clear hb hbox hg; have hcz29_0 : w28.cell? ⟨gb287, 0, none⟩ = some (.int .u64 0) := (blk_cell BK287.out 0).trans rfl; have hcz29_1 : w28.cell? ⟨gb287, 1, none⟩ = some (.int .u64 0) := (blk_cell BK287.out 1).trans rfl; have hfz29_0 := blk_frozen BK287.out 0; have hfz29_1 := blk_frozen BK287.out 1) | ((with_reducible refine gate_callee (f := 36) rfl ?_); refine goesL_ (some 18) rfl rfl Try.func36 (by kernel_rfl) rfl #[.int .i64 a1] rfl (by (try simp only [List.map_toArray, List.map_cons, List.map_nil]); first | done | rfl | (simp only [List.length_drop, List.length_take]; rfl)) ?_; (with_reducible refine (overfallref02_Size.calls a1 t288 t289 t290 _ A4.out).mono ?_); rintro e w30 ⟨rfl, hb⟩; refine ⟨_, rfl, ?_⟩; have n0_ := Aside0.mk (blk_below (g := gb287) (o := .cells #[.int .u64 t284, .int .u64 t285] 40 (0, 0)) (by refine blk_put (cs := #[.int .u64 t284, .int .u64 0]) ?_ 1 _ rfl; refine blk_put (cs := #[.int .u64 0, .int .u64 0]) ?_ 0 _ rfl; exact BK287.out) hb); have n1_ := Aside0.mk (below_step (by repeat (first | (with_reducible first | exact HB.out | apply below_alloc | apply pw_below_drewN | apply below_drew1 | refine below_set ?_ GE287.out) | exact HB.out)) hb); clear BK287; clear HB; have BK287 := n0_; have HB := n1_; clear n0_ n1_; (try clear hb); (try clear hb2); (try clear hk); (try clear hi)) | ((with_reducible refine gate_dst (N := 7) rfl ?_); refine box_event ?hg (N := 7) ?hd (cs := #[.int .u64 0, .int .u64 0]) (t := 40) ?hr ?_; (case hd => rfl); (case hg => rfl); (case hr => first | (go_simp; done) | (go_simp; rfl)); intro gb291 hg w31 hbox hb; have n0_ := Aside0.mk (blk_below (by exact BK287.out) hb); have n1_ := Aside0.mk (below_step (by repeat (first | (with_reducible first | exact HB.out | apply below_alloc | apply pw_below_drewN | apply below_drew1 | refine below_set ?_ GE287.out) | exact HB.out)) hb); have n2_ := Aside0.mk (hbox); have n3_ := Aside0.mk ((by rw [hg]; exact (below_size (by repeat (first | (with_reducible first | exact HB.out | apply below_alloc | apply pw_below_drewN | apply below_drew1 | refine below_set ?_ GE287.out) | exact HB.out))) : w.heap.size ≤ gb291)); have n4_ := Aside0.mk ((by rw [hg]; exact (below_size (by repeat (first | (with_reducible first | exact HB.out | apply below_alloc | apply pw_below_drewN | apply below_drew1 | refine below_set ?_ GE287.out) | exact HB.out))) : w.heap.size ≤ gb291)); have n5_ := Aside0.mk ((by rw [hg]; exact Nat.ne_of_lt (blk_lt (by exact BK287.out)) : gb287 ≠ gb291)); have n6_ := Aside0.mk ((by rw [hg]; exact Nat.ne_of_gt (blk_lt (by exact BK287.out)) : gb291 ≠ gb287)); clear BK287; clear HB; have BK287 := n0_; have HB := n1_; have BK291 := n2_; have GW291 := n3_; have GE291 := n4_; have NB287_291 := n5_; have NB291_287 := n6_; clear n0_ n1_ n2_ n3_ n4_ n5_ n6_; clear hb hbox hg; have hnb32 := NB291_287.out; have hnc32 := NB287_291.out; have hcz33_0 : w31.cell? ⟨gb291, 0, none⟩ = some (.int .u64 0) := (blk_cell BK291.out 0).trans rfl; have hcz33_1 : w31.cell? ⟨gb291, 1, none⟩ = some (.int .u64 0) := (blk_cell BK291.out 1).trans rfl; have hfz33_0 := blk_frozen BK291.out 0; have hfz33_1 := blk_frozen BK291.out 1))
   have n0_ : Aside0 (((w31.setCell ⟨gb291, 0, none⟩ (.int .u64 t288)).setCell ⟨gb291, 1, none⟩ (.int .u64 t289)).heap[gb287]? = some (.cells #[.int .u64 t284, .int .u64 t285] 40 (0, 0))) := ⟨by refine blk_far ?_ NB287_291.out _; refine blk_far ?_ NB287_291.out _; exact BK287.out⟩
   have n1_ : Aside0 (((w31.setCell ⟨gb291, 0, none⟩ (.int .u64 t288)).setCell ⟨gb291, 1, none⟩ (.int .u64 t289)).heap[gb291]? = some (.cells #[.int .u64 t288, .int .u64 t289] 40 (0, 0))) := ⟨by refine blk_put (cs := #[.int .u64 t288, .int .u64 0]) ?_ 1 _ rfl; refine blk_put (cs := #[.int .u64 0, .int .u64 0]) ?_ 0 _ rfl; exact BK291.out⟩
   have n2_ : Aside0 (Below w.heap.size w ((w31.setCell ⟨gb291, 0, none⟩ (.int .u64 t288)).setCell ⟨gb291, 1, none⟩ (.int .u64 t289))) := ⟨by repeat (first | (with_reducible first | exact HB.out | apply below_alloc | apply pw_below_drewN | apply below_drew1 | refine below_set ?_ GE287.out | refine below_set ?_ GE291.out) | exact HB.out)⟩
   (try clear BK287)
   (try clear BK291)
   (try clear HB)
   generalize ((w31.setCell ⟨gb291, 0, none⟩ (.int .u64 t288)).setCell ⟨gb291, 1, none⟩ (.int .u64 t289)) = w34 at n0_ n1_ n2_ ⊢
   have BK287 := n0_
   have BK291 := n1_
   have HB := n2_
   clear n0_ n1_ n2_
   have n0_ := Aside0.mk (blk_drew BK287.out)
   have n1_ := Aside0.mk (blk_drew BK291.out)
   have n2_ := Aside0.mk (below_drew1 HB.out)
   clear BK287
   clear BK291
   clear HB
   have BK287 := n0_
   have BK291 := n1_
   have HB := n2_
   clear n0_ n1_ n2_
   refine start_ (n := 11) (S := fun w' => w'.cell? ⟨gb287, 0, none⟩ = some (.int .u64 t284) ∧ w'.cell? ⟨gb287, 1, none⟩ = some (.int .u64 t285) ∧ w'.cell? ⟨gb291, 0, none⟩ = some (.int .u64 t288) ∧ w'.cell? ⟨gb291, 1, none⟩ = some (.int .u64 t289)) (ds := []) #[false, false, false, false, false, false, false, false, false, false, false] (by kernel_rfl) rfl rfl ⟨(blk_cell BK287.out 0).trans rfl, (blk_cell BK287.out 1).trans rfl, (blk_cell BK291.out 0).trans rfl, (blk_cell BK291.out 1).trans rfl⟩ (fun hHeld => ?_); refine with_tabW overfallref02_Ratio.tab7 overfallref02_Ratio.bits7 (fun HT_ HW_ => ?_)
   generalize w34.drew = w35 at BK287 BK291 HB hHeld ⊢
   refine pure_ (i := 2) (N := some 31) (v := ?_) (a' := ?_) #[false, false, true, false, false, false, false, false, false, false, false] rfl rfl (any_of HT_.out (by kernel_rfl)) (fun _ _ _ h => h) (Or.inl ⟨by rfl, ?_⟩) ?_ ?_
   rotate_left
   ·intro w'
    go_simp
    with_reducible rfl
   rotate_left
   ·simp only [Act.put, List.setIfInBounds_toArray, List.set_cons_zero, List.set_cons_succ, i64_w, i32_w]
    rfl
   refine take_ (i := 0) (N := some 29) (v := ?_) (a' := ?_) #[true, false, true, false, false, false, false, false, false, false, false] rfl rfl (take_ofW HT_.out HW_.out (by kernel_rfl)) (fun _ _ _ h => h) (Or.inl ⟨by rfl, ?_⟩) hHeld ?_ ?_
   rotate_left
   ·rintro w' ⟨s0, s1, s2, s3⟩
    go_simp
    with_reducible rfl
   rotate_left
   ·simp only [Act.put, List.setIfInBounds_toArray, List.set_cons_zero, List.set_cons_succ, i64_w, i32_w]
    rfl
   refine take_ (i := 3) (N := some 32) (v := ?_) (a' := ?_) #[true, false, true, true, false, false, false, false, false, false, false] rfl rfl (take_ofW HT_.out HW_.out (by kernel_rfl)) (fun _ _ _ h => h) (Or.inl ⟨by rfl, ?_⟩) hHeld ?_ ?_
   rotate_left
   ·rintro w' ⟨s0, s1, s2, s3⟩
    go_simp
    with_reducible rfl
   rotate_left
   ·simp only [Act.put, List.setIfInBounds_toArray, List.set_cons_zero, List.set_cons_succ, i64_w, i32_w]
    rfl
   refine join_ (σ := Nat) 2 #[true, true, true, true, true, true, true, true, true, false, false] (fun s_ => [(30, .agg #[.int .u64 t293, .int .u64 t294]), (33, .tuple #[.agg #[.int .u64 t295, .int .u64 t296], .int .u64 t297]), (9, .pointer (some ⟨s_, 0, none⟩)), (28, .tuple #[.agg #[.int .u64 t295, .int .u64 t296], .int .u64 t297]), (34, .agg #[.int .u64 t295, .int .u64 t296]), (35, .int .u64 t297)]) (fun s_ w' => (w'.cell? ⟨gb287, 0, none⟩ = some (.int .u64 t284) ∧ w'.cell? ⟨gb287, 1, none⟩ = some (.int .u64 t285) ∧ w'.cell? ⟨gb291, 0, none⟩ = some (.int .u64 t288) ∧ w'.cell? ⟨gb291, 1, none⟩ = some (.int .u64 t289)) ∧ (w'.heap[gb287]? = some (.cells #[.int .u64 t284, .int .u64 t285] 40 (0, 0))) ∧ (w'.heap[gb291]? = some (.cells #[.int .u64 t288, .int .u64 t289] 40 (0, 0))) ∧ (w'.heap[s_]? = some (.cells #[.int .u64 0, .int .u64 0] 40 (0, 0))) ∧ (w.heap.size ≤ s_) ∧ (w.heap.size ≤ s_) ∧ (gb287 ≠ s_) ∧ (s_ ≠ gb287) ∧ (gb291 ≠ s_) ∧ (s_ ≠ gb291) ∧ (Below w.heap.size w w')) ?_ ?_
   rotate_left
   ·intro hCont
    refine two_ (i := 1) (j := 8) (Ni := some 30) (Nj := some 9) #[true, true, true, true, false, false, false, false, false, false, false] #[true, false, true, true, false, false, false, false, true, false, false] rfl rfl rfl rfl (two_of HT_.out (by kernel_rfl)) (by decide) (by decide) (fun K hK => ?_) (fun K hK => ?_)
    ·skip
     refine goes_ Try.func44 (by kernel_rfl) rfl #[.agg #[.int .u64 t284, .int .u64 t285], .int .i64 32] (by rfl) rfl rfl (by (try simp only [List.map_toArray, List.map_cons, List.map_nil]); first | done | rfl | (simp only [List.length_drop, List.length_take]; rfl)) ?_
     with_reducible refine (overfallref01_Left.calls k t284 t285 32 t293 t294 _ A23.out).mono ?_
     rintro e w36 ⟨rfl, hb⟩
     refine ⟨_, rfl, ?_⟩
     have n0_ := Aside0.mk (blk_below (by exact BK287.out) hb)
     have n1_ := Aside0.mk (blk_below (by exact BK291.out) hb)
     have n2_ := Aside0.mk (below_step (by repeat (first | (with_reducible first | exact HB.out | apply below_alloc | apply pw_below_drewN | apply below_drew1 | refine below_set ?_ GE287.out | refine below_set ?_ GE291.out) | exact HB.out)) hb)
     clear BK287
     clear BK291
     clear HB
     have BK287 := n0_
     have BK291 := n1_
     have HB := n2_
     clear n0_ n1_ n2_
     (try clear hb)
     (try clear hb2)
     (try clear hk)
     (try clear hi)
     refine hK.out _ _ ⟨(blk_cell BK287.out 0).trans rfl, (blk_cell BK287.out 1).trans rfl, (blk_cell BK291.out 0).trans rfl, (blk_cell BK291.out 1).trans rfl⟩ (fun hHeld => ?_)
     clear hK K
     refine norm_ (a' := ?_) ?_ ?_
     rotate_left
     ·show Act.put _ (some 30) _ = _
      simp only [Act.put, List.setIfInBounds_toArray, List.set_cons_zero, List.set_cons_succ, i64_w, i32_w]
      rfl
     refine two_ (i := 4) (j := 8) (Ni := some 33) (Nj := some 9) #[true, true, true, true, true, false, false, false, false, false, false] #[true, true, true, true, false, false, false, false, true, false, false] rfl rfl rfl rfl (two_of HT_.out (by kernel_rfl)) (by decide) (by decide) (fun K hK => ?_) (fun K hK => ?_)
     ·skip
      refine goes_ Try.func43 (by kernel_rfl) rfl #[.agg #[.int .u64 t293, .int .u64 t294], .int .u64 t289] (by rfl) rfl rfl (by (try simp only [List.map_toArray, List.map_cons, List.map_nil]); first | done | rfl | (simp only [List.length_drop, List.length_take]; rfl)) ?_
      with_reducible refine (overfallref01_Div.calls k t293 t294 t289 t295 t296 t297 _ A24.out).mono ?_
      rintro e w37 ⟨rfl, hb⟩
      refine ⟨_, rfl, ?_⟩
      have n0_ := Aside0.mk (blk_below (by exact BK287.out) hb)
      have n1_ := Aside0.mk (blk_below (by exact BK291.out) hb)
      have n2_ := Aside0.mk (below_step (by repeat (first | (with_reducible first | exact HB.out | apply below_alloc | apply pw_below_drewN | apply below_drew1 | refine below_set ?_ GE287.out | refine below_set ?_ GE291.out) | exact HB.out)) hb)
      clear BK287
      clear BK291
      clear HB
      have BK287 := n0_
      have BK291 := n1_
      have HB := n2_
      clear n0_ n1_ n2_
      (try clear hb)
      (try clear hb2)
      (try clear hk)
      (try clear hi)
      refine hK.out _ _ ⟨(blk_cell BK287.out 0).trans rfl, (blk_cell BK287.out 1).trans rfl, (blk_cell BK291.out 0).trans rfl, (blk_cell BK291.out 1).trans rfl⟩ (fun hHeld => ?_)
      clear hK K
      refine norm_ (a' := ?_) ?_ ?_
      rotate_left
      ·show Act.put _ (some 33) _ = _
       simp only [Act.put, List.setIfInBounds_toArray, List.set_cons_zero, List.set_cons_succ, i64_w, i32_w]
       rfl
      refine pure_ (i := 5) (N := some 28) (v := ?_) (a' := ?_) #[true, true, true, true, true, true, false, false, false, false, false] rfl rfl (any_of HT_.out (by kernel_rfl)) (fun _ _ _ h => h) (Or.inl ⟨by rfl, ?_⟩) ?_ ?_
      rotate_left
      ·intro w'
       go_simp
       with_reducible rfl
      rotate_left
      ·simp only [Act.put, List.setIfInBounds_toArray, List.set_cons_zero, List.set_cons_succ, i64_w, i32_w]
       rfl
      refine pure_ (i := 6) (N := some 34) (v := ?_) (a' := ?_) #[true, true, true, true, true, true, true, false, false, false, false] rfl rfl (any_of HT_.out (by kernel_rfl)) (fun _ _ _ h => h) (Or.inl ⟨by rfl, ?_⟩) ?_ ?_
      rotate_left
      ·intro w'
       go_simp
       with_reducible rfl
      rotate_left
      ·simp only [Act.put, List.setIfInBounds_toArray, List.set_cons_zero, List.set_cons_succ, i64_w, i32_w]
       rfl
      refine pure_ (i := 7) (N := some 35) (v := ?_) (a' := ?_) #[true, true, true, true, true, true, true, true, false, false, false] rfl rfl (any_of HT_.out (by kernel_rfl)) (fun _ _ _ h => h) (Or.inl ⟨by rfl, ?_⟩) ?_ ?_
      rotate_left
      ·intro w'
       go_simp
       with_reducible rfl
      rotate_left
      ·simp only [Act.put, List.setIfInBounds_toArray, List.set_cons_zero, List.set_cons_succ, i64_w, i32_w]
       rfl
      refine one_ (i := 8) (N := some 9) #[true, true, true, true, true, true, true, true, true, false, false] rfl rfl (one_of HT_.out (by kernel_rfl)) (by decide) (fun K hK => ?_)
      refine box_step ?hg (N := 9) ?hd (cs := #[.int .u64 0, .int .u64 0]) (t := 40) ?hr ?_; (case hd => rfl); (case hg => rfl); (case hr => first | (go_simp; done) | (go_simp; rfl))
      intro gb298 hg w38 hbox hb
      have n0_ := Aside0.mk (blk_below (by exact BK287.out) hb)
      have n1_ := Aside0.mk (blk_below (by exact BK291.out) hb)
      have n2_ := Aside0.mk (below_step (by repeat (first | (with_reducible first | exact HB.out | apply below_alloc | apply pw_below_drewN | apply below_drew1 | refine below_set ?_ GE287.out | refine below_set ?_ GE291.out) | exact HB.out)) hb)
      have n3_ := Aside0.mk (hbox)
      have n4_ := Aside0.mk ((by rw [hg]; exact (below_size (by repeat (first | (with_reducible first | exact HB.out | apply below_alloc | apply pw_below_drewN | apply below_drew1 | refine below_set ?_ GE287.out | refine below_set ?_ GE291.out) | exact HB.out))) : w.heap.size ≤ gb298))
      have n5_ := Aside0.mk ((by rw [hg]; exact (below_size (by repeat (first | (with_reducible first | exact HB.out | apply below_alloc | apply pw_below_drewN | apply below_drew1 | refine below_set ?_ GE287.out | refine below_set ?_ GE291.out) | exact HB.out))) : w.heap.size ≤ gb298))
      have n6_ := Aside0.mk ((by rw [hg]; exact Nat.ne_of_lt (blk_lt (by exact BK287.out)) : gb287 ≠ gb298))
      have n7_ := Aside0.mk ((by rw [hg]; exact Nat.ne_of_gt (blk_lt (by exact BK287.out)) : gb298 ≠ gb287))
      have n8_ := Aside0.mk ((by rw [hg]; exact Nat.ne_of_lt (blk_lt (by exact BK291.out)) : gb291 ≠ gb298))
      have n9_ := Aside0.mk ((by rw [hg]; exact Nat.ne_of_gt (blk_lt (by exact BK291.out)) : gb298 ≠ gb291))
      clear BK287
      clear BK291
      clear HB
      have BK287 := n0_
      have BK291 := n1_
      have HB := n2_
      have BK298 := n3_
      have GW298 := n4_
      have GE298 := n5_
      have NB287_298 := n6_
      have NB298_287 := n7_
      have NB291_298 := n8_
      have NB298_291 := n9_
      clear n0_ n1_ n2_ n3_ n4_ n5_ n6_ n7_ n8_ n9_
      clear hb hbox hg
      refine hK.out _ _ ⟨(blk_cell BK287.out 0).trans rfl, (blk_cell BK287.out 1).trans rfl, (blk_cell BK291.out 0).trans rfl, (blk_cell BK291.out 1).trans rfl⟩ (fun hHeld => ?_)
      clear hK K
      refine norm_ (a' := ?_) ?_ ?_
      rotate_left
      ·show Act.put _ (some 9) _ = _
       simp only [Act.put, List.setIfInBounds_toArray, List.set_cons_zero, List.set_cons_succ, i64_w, i32_w]
       rfl
      exact norm_ (by simp only [putAll, Act.put, List.setIfInBounds_toArray, List.set_cons_zero, List.set_cons_succ]) (hCont (gb298) _ ⟨hHeld, (by exact BK287.out), (by exact BK291.out), (by exact BK298.out), GW298.out, GE298.out, NB287_298.out, NB298_287.out, NB291_298.out, NB298_291.out, (by repeat (first | (with_reducible first | exact HB.out | apply below_alloc | apply pw_below_drewN | apply below_drew1 | refine below_set ?_ GE287.out | refine below_set ?_ GE291.out | refine below_set ?_ GE298.out) | exact HB.out))⟩)
     ·skip
      refine box_step ?hg (N := 9) ?hd (cs := #[.int .u64 0, .int .u64 0]) (t := 40) ?hr ?_; (case hd => rfl); (case hg => rfl); (case hr => first | (go_simp; done) | (go_simp; rfl))
      intro gb298 hg w37 hbox hb
      have n0_ := Aside0.mk (blk_below (by exact BK287.out) hb)
      have n1_ := Aside0.mk (blk_below (by exact BK291.out) hb)
      have n2_ := Aside0.mk (below_step (by repeat (first | (with_reducible first | exact HB.out | apply below_alloc | apply pw_below_drewN | apply below_drew1 | refine below_set ?_ GE287.out | refine below_set ?_ GE291.out) | exact HB.out)) hb)
      have n3_ := Aside0.mk (hbox)
      have n4_ := Aside0.mk ((by rw [hg]; exact (below_size (by repeat (first | (with_reducible first | exact HB.out | apply below_alloc | apply pw_below_drewN | apply below_drew1 | refine below_set ?_ GE287.out | refine below_set ?_ GE291.out) | exact HB.out))) : w.heap.size ≤ gb298))
      have n5_ := Aside0.mk ((by rw [hg]; exact (below_size (by repeat (first | (with_reducible first | exact HB.out | apply below_alloc | apply pw_below_drewN | apply below_drew1 | refine below_set ?_ GE287.out | refine below_set ?_ GE291.out) | exact HB.out))) : w.heap.size ≤ gb298))
      have n6_ := Aside0.mk ((by rw [hg]; exact Nat.ne_of_lt (blk_lt (by exact BK287.out)) : gb287 ≠ gb298))
      have n7_ := Aside0.mk ((by rw [hg]; exact Nat.ne_of_gt (blk_lt (by exact BK287.out)) : gb298 ≠ gb287))
      have n8_ := Aside0.mk ((by rw [hg]; exact Nat.ne_of_lt (blk_lt (by exact BK291.out)) : gb291 ≠ gb298))
      have n9_ := Aside0.mk ((by rw [hg]; exact Nat.ne_of_gt (blk_lt (by exact BK291.out)) : gb298 ≠ gb291))
      clear BK287
      clear BK291
      clear HB
      have BK287 := n0_
      have BK291 := n1_
      have HB := n2_
      have BK298 := n3_
      have GW298 := n4_
      have GE298 := n5_
      have NB287_298 := n6_
      have NB298_287 := n7_
      have NB291_298 := n8_
      have NB298_291 := n9_
      clear n0_ n1_ n2_ n3_ n4_ n5_ n6_ n7_ n8_ n9_
      clear hb hbox hg
      refine hK.out _ _ ⟨(blk_cell BK287.out 0).trans rfl, (blk_cell BK287.out 1).trans rfl, (blk_cell BK291.out 0).trans rfl, (blk_cell BK291.out 1).trans rfl⟩ (fun hHeld => ?_)
      clear hK K
      refine norm_ (a' := ?_) ?_ ?_
      rotate_left
      ·show Act.put _ (some 9) _ = _
       simp only [Act.put, List.setIfInBounds_toArray, List.set_cons_zero, List.set_cons_succ, i64_w, i32_w]
       rfl
      refine one_ (i := 4) (N := some 33) #[true, true, true, true, true, false, false, false, true, false, false] rfl rfl (one_of HT_.out (by kernel_rfl)) (by decide) (fun K hK => ?_)
      refine goes_ Try.func43 (by kernel_rfl) rfl #[.agg #[.int .u64 t293, .int .u64 t294], .int .u64 t289] (by rfl) rfl rfl (by (try simp only [List.map_toArray, List.map_cons, List.map_nil]); first | done | rfl | (simp only [List.length_drop, List.length_take]; rfl)) ?_
      with_reducible refine (overfallref01_Div.calls k t293 t294 t289 t295 t296 t297 _ A24.out).mono ?_
      rintro e w38 ⟨rfl, hb⟩
      refine ⟨_, rfl, ?_⟩
      have n0_ := Aside0.mk (blk_below (by exact BK287.out) hb)
      have n1_ := Aside0.mk (blk_below (by exact BK291.out) hb)
      have n2_ := Aside0.mk (blk_below (by exact BK298.out) hb)
      have n3_ := Aside0.mk (below_step (by repeat (first | (with_reducible first | exact HB.out | apply below_alloc | apply pw_below_drewN | apply below_drew1 | refine below_set ?_ GE287.out | refine below_set ?_ GE291.out | refine below_set ?_ GE298.out) | exact HB.out)) hb)
      clear BK287
      clear BK291
      clear BK298
      clear HB
      have BK287 := n0_
      have BK291 := n1_
      have BK298 := n2_
      have HB := n3_
      clear n0_ n1_ n2_ n3_
      (try clear hb)
      (try clear hb2)
      (try clear hk)
      (try clear hi)
      refine hK.out _ _ ⟨(blk_cell BK287.out 0).trans rfl, (blk_cell BK287.out 1).trans rfl, (blk_cell BK291.out 0).trans rfl, (blk_cell BK291.out 1).trans rfl⟩ (fun hHeld => ?_)
      clear hK K
      refine norm_ (a' := ?_) ?_ ?_
      rotate_left
      ·show Act.put _ (some 33) _ = _
       simp only [Act.put, List.setIfInBounds_toArray, List.set_cons_zero, List.set_cons_succ, i64_w, i32_w]
       rfl
      refine pure_ (i := 5) (N := some 28) (v := ?_) (a' := ?_) #[true, true, true, true, true, true, false, false, true, false, false] rfl rfl (any_of HT_.out (by kernel_rfl)) (fun _ _ _ h => h) (Or.inl ⟨by rfl, ?_⟩) ?_ ?_
      rotate_left
      ·intro w'
       go_simp
       with_reducible rfl
      rotate_left
      ·simp only [Act.put, List.setIfInBounds_toArray, List.set_cons_zero, List.set_cons_succ, i64_w, i32_w]
       rfl
      refine pure_ (i := 6) (N := some 34) (v := ?_) (a' := ?_) #[true, true, true, true, true, true, true, false, true, false, false] rfl rfl (any_of HT_.out (by kernel_rfl)) (fun _ _ _ h => h) (Or.inl ⟨by rfl, ?_⟩) ?_ ?_
      rotate_left
      ·intro w'
       go_simp
       with_reducible rfl
      rotate_left
      ·simp only [Act.put, List.setIfInBounds_toArray, List.set_cons_zero, List.set_cons_succ, i64_w, i32_w]
       rfl
      refine pure_ (i := 7) (N := some 35) (v := ?_) (a' := ?_) #[true, true, true, true, true, true, true, true, true, false, false] rfl rfl (any_of HT_.out (by kernel_rfl)) (fun _ _ _ h => h) (Or.inl ⟨by rfl, ?_⟩) ?_ ?_
      rotate_left
      ·intro w'
       go_simp
       with_reducible rfl
      rotate_left
      ·simp only [Act.put, List.setIfInBounds_toArray, List.set_cons_zero, List.set_cons_succ, i64_w, i32_w]
       rfl
      exact norm_ (by simp only [putAll, Act.put, List.setIfInBounds_toArray, List.set_cons_zero, List.set_cons_succ]) (hCont (gb298) _ ⟨hHeld, (by exact BK287.out), (by exact BK291.out), (by exact BK298.out), GW298.out, GE298.out, NB287_298.out, NB298_287.out, NB291_298.out, NB298_291.out, (by repeat (first | (with_reducible first | exact HB.out | apply below_alloc | apply pw_below_drewN | apply below_drew1 | refine below_set ?_ GE287.out | refine below_set ?_ GE291.out | refine below_set ?_ GE298.out) | exact HB.out))⟩)
    ·skip
     refine box_step ?hg (N := 9) ?hd (cs := #[.int .u64 0, .int .u64 0]) (t := 40) ?hr ?_; (case hd => rfl); (case hg => rfl); (case hr => first | (go_simp; done) | (go_simp; rfl))
     intro gb298 hg w36 hbox hb
     have n0_ := Aside0.mk (blk_below (by exact BK287.out) hb)
     have n1_ := Aside0.mk (blk_below (by exact BK291.out) hb)
     have n2_ := Aside0.mk (below_step (by repeat (first | (with_reducible first | exact HB.out | apply below_alloc | apply pw_below_drewN | apply below_drew1 | refine below_set ?_ GE287.out | refine below_set ?_ GE291.out) | exact HB.out)) hb)
     have n3_ := Aside0.mk (hbox)
     have n4_ := Aside0.mk ((by rw [hg]; exact (below_size (by repeat (first | (with_reducible first | exact HB.out | apply below_alloc | apply pw_below_drewN | apply below_drew1 | refine below_set ?_ GE287.out | refine below_set ?_ GE291.out) | exact HB.out))) : w.heap.size ≤ gb298))
     have n5_ := Aside0.mk ((by rw [hg]; exact (below_size (by repeat (first | (with_reducible first | exact HB.out | apply below_alloc | apply pw_below_drewN | apply below_drew1 | refine below_set ?_ GE287.out | refine below_set ?_ GE291.out) | exact HB.out))) : w.heap.size ≤ gb298))
     have n6_ := Aside0.mk ((by rw [hg]; exact Nat.ne_of_lt (blk_lt (by exact BK287.out)) : gb287 ≠ gb298))
     have n7_ := Aside0.mk ((by rw [hg]; exact Nat.ne_of_gt (blk_lt (by exact BK287.out)) : gb298 ≠ gb287))
     have n8_ := Aside0.mk ((by rw [hg]; exact Nat.ne_of_lt (blk_lt (by exact BK291.out)) : gb291 ≠ gb298))
     have n9_ := Aside0.mk ((by rw [hg]; exact Nat.ne_of_gt (blk_lt (by exact BK291.out)) : gb298 ≠ gb291))
     clear BK287
     clear BK291
     clear HB
     have BK287 := n0_
     have BK291 := n1_
     have HB := n2_
     have BK298 := n3_
     have GW298 := n4_
     have GE298 := n5_
     have NB287_298 := n6_
     have NB298_287 := n7_
     have NB291_298 := n8_
     have NB298_291 := n9_
     clear n0_ n1_ n2_ n3_ n4_ n5_ n6_ n7_ n8_ n9_
     clear hb hbox hg
     refine hK.out _ _ ⟨(blk_cell BK287.out 0).trans rfl, (blk_cell BK287.out 1).trans rfl, (blk_cell BK291.out 0).trans rfl, (blk_cell BK291.out 1).trans rfl⟩ (fun hHeld => ?_)
     clear hK K
     refine norm_ (a' := ?_) ?_ ?_
     rotate_left
     ·show Act.put _ (some 9) _ = _
      simp only [Act.put, List.setIfInBounds_toArray, List.set_cons_zero, List.set_cons_succ, i64_w, i32_w]
      rfl
     refine one_ (i := 1) (N := some 30) #[true, true, true, true, false, false, false, false, true, false, false] rfl rfl (one_of HT_.out (by kernel_rfl)) (by decide) (fun K hK => ?_)
     refine goes_ Try.func44 (by kernel_rfl) rfl #[.agg #[.int .u64 t284, .int .u64 t285], .int .i64 32] (by rfl) rfl rfl (by (try simp only [List.map_toArray, List.map_cons, List.map_nil]); first | done | rfl | (simp only [List.length_drop, List.length_take]; rfl)) ?_
     with_reducible refine (overfallref01_Left.calls k t284 t285 32 t293 t294 _ A23.out).mono ?_
     rintro e w37 ⟨rfl, hb⟩
     refine ⟨_, rfl, ?_⟩
     have n0_ := Aside0.mk (blk_below (by exact BK287.out) hb)
     have n1_ := Aside0.mk (blk_below (by exact BK291.out) hb)
     have n2_ := Aside0.mk (blk_below (by exact BK298.out) hb)
     have n3_ := Aside0.mk (below_step (by repeat (first | (with_reducible first | exact HB.out | apply below_alloc | apply pw_below_drewN | apply below_drew1 | refine below_set ?_ GE287.out | refine below_set ?_ GE291.out | refine below_set ?_ GE298.out) | exact HB.out)) hb)
     clear BK287
     clear BK291
     clear BK298
     clear HB
     have BK287 := n0_
     have BK291 := n1_
     have BK298 := n2_
     have HB := n3_
     clear n0_ n1_ n2_ n3_
     (try clear hb)
     (try clear hb2)
     (try clear hk)
     (try clear hi)
     refine hK.out _ _ ⟨(blk_cell BK287.out 0).trans rfl, (blk_cell BK287.out 1).trans rfl, (blk_cell BK291.out 0).trans rfl, (blk_cell BK291.out 1).trans rfl⟩ (fun hHeld => ?_)
     clear hK K
     refine norm_ (a' := ?_) ?_ ?_
     rotate_left
     ·show Act.put _ (some 30) _ = _
      simp only [Act.put, List.setIfInBounds_toArray, List.set_cons_zero, List.set_cons_succ, i64_w, i32_w]
      rfl
     refine one_ (i := 4) (N := some 33) #[true, true, true, true, true, false, false, false, true, false, false] rfl rfl (one_of HT_.out (by kernel_rfl)) (by decide) (fun K hK => ?_)
     refine goes_ Try.func43 (by kernel_rfl) rfl #[.agg #[.int .u64 t293, .int .u64 t294], .int .u64 t289] (by rfl) rfl rfl (by (try simp only [List.map_toArray, List.map_cons, List.map_nil]); first | done | rfl | (simp only [List.length_drop, List.length_take]; rfl)) ?_
     with_reducible refine (overfallref01_Div.calls k t293 t294 t289 t295 t296 t297 _ A24.out).mono ?_
     rintro e w38 ⟨rfl, hb⟩
     refine ⟨_, rfl, ?_⟩
     have n0_ := Aside0.mk (blk_below (by exact BK287.out) hb)
     have n1_ := Aside0.mk (blk_below (by exact BK291.out) hb)
     have n2_ := Aside0.mk (blk_below (by exact BK298.out) hb)
     have n3_ := Aside0.mk (below_step (by repeat (first | (with_reducible first | exact HB.out | apply below_alloc | apply pw_below_drewN | apply below_drew1 | refine below_set ?_ GE287.out | refine below_set ?_ GE291.out | refine below_set ?_ GE298.out) | exact HB.out)) hb)
     clear BK287
     clear BK291
     clear BK298
     clear HB
     have BK287 := n0_
     have BK291 := n1_
     have BK298 := n2_
     have HB := n3_
     clear n0_ n1_ n2_ n3_
     (try clear hb)
     (try clear hb2)
     (try clear hk)
     (try clear hi)
     refine hK.out _ _ ⟨(blk_cell BK287.out 0).trans rfl, (blk_cell BK287.out 1).trans rfl, (blk_cell BK291.out 0).trans rfl, (blk_cell BK291.out 1).trans rfl⟩ (fun hHeld => ?_)
     clear hK K
     refine norm_ (a' := ?_) ?_ ?_
     rotate_left
     ·show Act.put _ (some 33) _ = _
      simp only [Act.put, List.setIfInBounds_toArray, List.set_cons_zero, List.set_cons_succ, i64_w, i32_w]
      rfl
     refine pure_ (i := 5) (N := some 28) (v := ?_) (a' := ?_) #[true, true, true, true, true, true, false, false, true, false, false] rfl rfl (any_of HT_.out (by kernel_rfl)) (fun _ _ _ h => h) (Or.inl ⟨by rfl, ?_⟩) ?_ ?_
     rotate_left
     ·intro w'
      go_simp
      with_reducible rfl
     rotate_left
     ·simp only [Act.put, List.setIfInBounds_toArray, List.set_cons_zero, List.set_cons_succ, i64_w, i32_w]
      rfl
     refine pure_ (i := 6) (N := some 34) (v := ?_) (a' := ?_) #[true, true, true, true, true, true, true, false, true, false, false] rfl rfl (any_of HT_.out (by kernel_rfl)) (fun _ _ _ h => h) (Or.inl ⟨by rfl, ?_⟩) ?_ ?_
     rotate_left
     ·intro w'
      go_simp
      with_reducible rfl
     rotate_left
     ·simp only [Act.put, List.setIfInBounds_toArray, List.set_cons_zero, List.set_cons_succ, i64_w, i32_w]
      rfl
     refine pure_ (i := 7) (N := some 35) (v := ?_) (a' := ?_) #[true, true, true, true, true, true, true, true, true, false, false] rfl rfl (any_of HT_.out (by kernel_rfl)) (fun _ _ _ h => h) (Or.inl ⟨by rfl, ?_⟩) ?_ ?_
     rotate_left
     ·intro w'
      go_simp
      with_reducible rfl
     rotate_left
     ·simp only [Act.put, List.setIfInBounds_toArray, List.set_cons_zero, List.set_cons_succ, i64_w, i32_w]
      rfl
     exact norm_ (by simp only [putAll, Act.put, List.setIfInBounds_toArray, List.set_cons_zero, List.set_cons_succ]) (hCont (gb298) _ ⟨hHeld, (by exact BK287.out), (by exact BK291.out), (by exact BK298.out), GW298.out, GE298.out, NB287_298.out, NB298_287.out, NB291_298.out, NB298_291.out, (by repeat (first | (with_reducible first | exact HB.out | apply below_alloc | apply pw_below_drewN | apply below_drew1 | refine below_set ?_ GE287.out | refine below_set ?_ GE291.out | refine below_set ?_ GE298.out) | exact HB.out))⟩)
   rintro gb298 w39 ⟨hS_, h0_, h1_, h2_, h3_, h4_, h5_, h6_, h7_, h8_, h9_⟩
   have n0_ : Aside0 (w39.heap[gb287]? = some (.cells #[.int .u64 t284, .int .u64 t285] 40 (0, 0))) := ⟨h0_⟩
   have n1_ : Aside0 (w39.heap[gb291]? = some (.cells #[.int .u64 t288, .int .u64 t289] 40 (0, 0))) := ⟨h1_⟩
   have n2_ : Aside0 (w39.heap[gb298]? = some (.cells #[.int .u64 0, .int .u64 0] 40 (0, 0))) := ⟨h2_⟩
   have n3_ : Aside0 (w.heap.size ≤ gb298) := ⟨h3_⟩
   have n4_ : Aside0 (w.heap.size ≤ gb298) := ⟨h4_⟩
   have n5_ : Aside0 (gb287 ≠ gb298) := ⟨h5_⟩
   have n6_ : Aside0 (gb298 ≠ gb287) := ⟨h6_⟩
   have n7_ : Aside0 (gb291 ≠ gb298) := ⟨h7_⟩
   have n8_ : Aside0 (gb298 ≠ gb291) := ⟨h8_⟩
   have n9_ : Aside0 (Below w.heap.size w w39) := ⟨h9_⟩
   clear BK287
   clear BK291
   clear HB
   clear h0_ h1_ h2_ h3_ h4_ h5_ h6_ h7_ h8_ h9_
   have BK287 := n0_
   have BK291 := n1_
   have BK298 := n2_
   have GW298 := n3_
   have GE298 := n4_
   have NB287_298 := n5_
   have NB298_287 := n6_
   have NB291_298 := n7_
   have NB298_291 := n8_
   have HB := n9_
   clear n0_ n1_ n2_ n3_ n4_ n5_ n6_ n7_ n8_ n9_
   have hHeld : w39.cell? ⟨gb287, 0, none⟩ = some (.int .u64 t284) ∧ w39.cell? ⟨gb287, 1, none⟩ = some (.int .u64 t285) ∧ w39.cell? ⟨gb291, 0, none⟩ = some (.int .u64 t288) ∧ w39.cell? ⟨gb291, 1, none⟩ = some (.int .u64 t289) := hS_
   refine norm_ (a' := ?_) ?_ ?_
   rotate_left
   ·simp only [putAll, Act.put, List.setIfInBounds_toArray, List.set_cons_zero, List.set_cons_succ]
    rfl
   refine one_ (i := 9) (N := none) #[true, true, true, true, true, true, true, true, true, true, false] rfl rfl (one_of HT_.out (by kernel_rfl)) (by decide) (fun K hK => ?_)
   have hs40 : w39.cell? ⟨gb298, 0, none⟩ = some (.int .u64 0) := (blk_cell BK298.out 0).trans rfl
   have hfs40 := blk_frozen BK298.out 0
   have hns40_0 := NB287_298.out
   have hns40_1 := NB291_298.out
   have hms40_0 := NB298_287.out
   have hms40_1 := NB298_291.out
   have hs41 : w39.cell? ⟨gb298, 1, none⟩ = some (.int .u64 0) := (blk_cell BK298.out 1).trans rfl
   have hfs41 := blk_frozen BK298.out 1
   have hns41_0 := NB287_298.out
   have hns41_1 := NB291_298.out
   have hms41_0 := NB298_287.out
   have hms41_1 := NB298_291.out
   refine skip_ (w1 := ?_) (by rfl) rfl ?_ ?_
   rotate_left
   ·go_simp
    rfl
   refine hK.out _ _ ⟨((cell_far (p := ⟨gb298, _, none⟩) NB287_298.out _).trans (((cell_far (p := ⟨gb298, _, none⟩) NB287_298.out _).trans (hHeld.1)))), ((cell_far (p := ⟨gb298, _, none⟩) NB287_298.out _).trans (((cell_far (p := ⟨gb298, _, none⟩) NB287_298.out _).trans (hHeld.2.1)))), ((cell_far (p := ⟨gb298, _, none⟩) NB291_298.out _).trans (((cell_far (p := ⟨gb298, _, none⟩) NB291_298.out _).trans (hHeld.2.2.1)))), ((cell_far (p := ⟨gb298, _, none⟩) NB291_298.out _).trans (((cell_far (p := ⟨gb298, _, none⟩) NB291_298.out _).trans (hHeld.2.2.2))))⟩ (fun hHeld => ?_)
   clear hK K
   refine pure_ (i := 10) (N := some 10) (v := ?_) (a' := ?_) #[true, true, true, true, true, true, true, true, true, true, true] rfl rfl (any_of HT_.out (by kernel_rfl)) (fun _ _ _ h => h) (Or.inl ⟨by rfl, ?_⟩) ?_ ?_
   rotate_left
   ·intro w'
    go_simp
    with_reducible rfl
   rotate_left
   ·simp only [Act.put, List.setIfInBounds_toArray, List.set_cons_zero, List.set_cons_succ, i64_w, i32_w]
    rfl
   refine done_ (done_of HT_.out (by kernel_rfl)) ?_
   have hnb42 := NB298_287.out
   have hnc42 := NB287_298.out
   have hnb43 := NB298_291.out
   have hnc43 := NB291_298.out
   have hcz44_0 : w39.cell? ⟨gb298, 0, none⟩ = some (.int .u64 0) := (blk_cell BK298.out 0).trans rfl
   have hcz44_1 : w39.cell? ⟨gb298, 1, none⟩ = some (.int .u64 0) := (blk_cell BK298.out 1).trans rfl
   have hfz44_0 := blk_frozen BK298.out 0
   have hfz44_1 := blk_frozen BK298.out 1
   try go_wp2_with (first | ((with_reducible refine gate_callee (f := 45) rfl ?_); refine goesL_ (some 46) rfl rfl Try.func45 (by kernel_rfl) rfl #[.agg #[.int .u64 t295, .int .u64 t296], .bool (decide (t297 > 0)), .bool (a0 != 0)] rfl (by (try simp only [List.map_toArray, List.map_cons, List.map_nil]); first | done | rfl | (simp only [List.length_drop, List.length_take]; rfl)) ?_; (with_reducible refine (overfallref02_down.calls k t295 t296 (decide (t297 > 0)) (a0 != 0) t299 _ A26.out).mono ?_); rintro e w45 ⟨rfl, hb⟩; refine ⟨_, rfl, ?_⟩; have n0_ := Aside0.mk (blk_below (g := gb287) (o := .cells #[.int .u64 t284, .int .u64 t285] 40 (0, 0)) (by refine blk_far ?_ NB287_298.out _; refine blk_far ?_ NB287_298.out _; exact BK287.out) hb); have n1_ := Aside0.mk (blk_below (g := gb291) (o := .cells #[.int .u64 t288, .int .u64 t289] 40 (0, 0)) (by refine blk_far ?_ NB291_298.out _; refine blk_far ?_ NB291_298.out _; exact BK291.out) hb); have n2_ := Aside0.mk (blk_below (g := gb298) (o := .cells #[.int .u64 t295, .int .u64 t296] 40 (0, 0)) (by refine blk_put (cs := #[.int .u64 t295, .int .u64 0]) ?_ 1 _ rfl; refine blk_put (cs := #[.int .u64 0, .int .u64 0]) ?_ 0 _ rfl; exact BK298.out) hb); have n3_ := Aside0.mk (below_step (by repeat (first | (with_reducible first | exact HB.out | apply below_alloc | apply pw_below_drewN | apply below_drew1 | refine below_set ?_ GE287.out | refine below_set ?_ GE291.out | refine below_set ?_ GE298.out) | exact HB.out)) hb); clear BK287; clear BK291; clear BK298; clear HB; have BK287 := n0_; have BK291 := n1_; have BK298 := n2_; have HB := n3_; clear n0_ n1_ n2_ n3_; (try clear hb); (try clear hb2); (try clear hk); (try clear hi)))
   go_ret
   exact ⟨by first | rfl | (simp [errW_none, errW_some] <;> rfl) | (simp [*, errW_none, errW_some] <;> rfl), by repeat (first | (with_reducible first | exact HB.out | apply below_alloc | apply pw_below_drewN | apply below_drew1 | refine below_set ?_ GE287.out | refine below_set ?_ GE291.out | refine below_set ?_ GE298.out) | exact HB.out)⟩
  ·rw [if_neg c25] at H
   have c25b0 : (t286 != t290) = false := by simpa using c25
   (try (have c25b1 : decide (t286 = t290) = true := by simpa using c25))
   (try (have c25b2 : (t286 == t290) = true := by simpa using c25))
   clear c25
   replace H := Option.bind_eq_some_iff.mp H
   obtain ⟨t300, A460, H⟩ := H
   replace H : (some t300) = some r := H
   have A46 := Aside0.mk A460
   clear A460
   obtain rfl := Option.some.inj H
   go_enter Try.func17, Try.ntmps17
   try go_wp2_with (first | ((with_reducible refine gate_callee (f := 36) rfl ?_); refine goesL_ (some 13) rfl rfl Try.func36 (by kernel_rfl) rfl #[.int .i64 a0] rfl (by (try simp only [List.map_toArray, List.map_cons, List.map_nil]); first | done | rfl | (simp only [List.length_drop, List.length_take]; rfl)) ?_; (with_reducible refine (overfallref02_Size.calls a0 t284 t285 t286 _ A3.out).mono ?_); rintro e w47 ⟨rfl, hb⟩; refine ⟨_, rfl, ?_⟩; have n0_ := Aside0.mk (below_step (by repeat (first | (with_reducible first | exact HB.out | apply below_alloc | apply pw_below_drewN | apply below_drew1) | exact HB.out)) hb); clear HB; have HB := n0_; clear n0_; (try clear hb); (try clear hb2); (try clear hk); (try clear hi)) | ((with_reducible refine gate_dst (N := 5) rfl ?_); refine box_event ?hg (N := 5) ?hd (cs := #[.int .u64 0, .int .u64 0]) (t := 40) ?hr ?_; (case hd => rfl); (case hg => rfl); (case hr => first | (go_simp; done) | (go_simp; rfl)); intro gb287 hg w48 hbox hb; have n0_ := Aside0.mk (below_step (by repeat (first | (with_reducible first | exact HB.out | apply below_alloc | apply pw_below_drewN | apply below_drew1) | exact HB.out)) hb); have n1_ := Aside0.mk (hbox); have n2_ := Aside0.mk ((by rw [hg]; exact (below_size (by repeat (first | (with_reducible first | exact HB.out | apply below_alloc | apply pw_below_drewN | apply below_drew1) | exact HB.out))) : w.heap.size ≤ gb287)); have n3_ := Aside0.mk ((by rw [hg]; exact (below_size (by repeat (first | (with_reducible first | exact HB.out | apply below_alloc | apply pw_below_drewN | apply below_drew1) | exact HB.out))) : w.heap.size ≤ gb287)); clear HB; have HB := n0_; have BK287 := n1_; have GW287 := n2_; have GE287 := n3_; clear n0_ n1_ n2_ n3_; clear hb hbox hg; have hcz49_0 : w48.cell? ⟨gb287, 0, none⟩ = some (.int .u64 0) := (blk_cell BK287.out 0).trans rfl; have hcz49_1 : w48.cell? ⟨gb287, 1, none⟩ = some (.int .u64 0) := (blk_cell BK287.out 1).trans rfl; have hfz49_0 := blk_frozen BK287.out 0; have hfz49_1 := blk_frozen BK287.out 1) | ((with_reducible refine gate_callee (f := 36) rfl ?_); refine goesL_ (some 18) rfl rfl Try.func36 (by kernel_rfl) rfl #[.int .i64 a1] rfl (by (try simp only [List.map_toArray, List.map_cons, List.map_nil]); first | done | rfl | (simp only [List.length_drop, List.length_take]; rfl)) ?_; (with_reducible refine (overfallref02_Size.calls a1 t288 t289 t290 _ A4.out).mono ?_); rintro e w50 ⟨rfl, hb⟩; refine ⟨_, rfl, ?_⟩; have n0_ := Aside0.mk (blk_below (g := gb287) (o := .cells #[.int .u64 t284, .int .u64 t285] 40 (0, 0)) (by refine blk_put (cs := #[.int .u64 t284, .int .u64 0]) ?_ 1 _ rfl; refine blk_put (cs := #[.int .u64 0, .int .u64 0]) ?_ 0 _ rfl; exact BK287.out) hb); have n1_ := Aside0.mk (below_step (by repeat (first | (with_reducible first | exact HB.out | apply below_alloc | apply pw_below_drewN | apply below_drew1 | refine below_set ?_ GE287.out) | exact HB.out)) hb); clear BK287; clear HB; have BK287 := n0_; have HB := n1_; clear n0_ n1_; (try clear hb); (try clear hb2); (try clear hk); (try clear hi)) | ((with_reducible refine gate_dst (N := 7) rfl ?_); refine box_event ?hg (N := 7) ?hd (cs := #[.int .u64 0, .int .u64 0]) (t := 40) ?hr ?_; (case hd => rfl); (case hg => rfl); (case hr => first | (go_simp; done) | (go_simp; rfl)); intro gb291 hg w51 hbox hb; have n0_ := Aside0.mk (blk_below (by exact BK287.out) hb); have n1_ := Aside0.mk (below_step (by repeat (first | (with_reducible first | exact HB.out | apply below_alloc | apply pw_below_drewN | apply below_drew1 | refine below_set ?_ GE287.out) | exact HB.out)) hb); have n2_ := Aside0.mk (hbox); have n3_ := Aside0.mk ((by rw [hg]; exact (below_size (by repeat (first | (with_reducible first | exact HB.out | apply below_alloc | apply pw_below_drewN | apply below_drew1 | refine below_set ?_ GE287.out) | exact HB.out))) : w.heap.size ≤ gb291)); have n4_ := Aside0.mk ((by rw [hg]; exact (below_size (by repeat (first | (with_reducible first | exact HB.out | apply below_alloc | apply pw_below_drewN | apply below_drew1 | refine below_set ?_ GE287.out) | exact HB.out))) : w.heap.size ≤ gb291)); have n5_ := Aside0.mk ((by rw [hg]; exact Nat.ne_of_lt (blk_lt (by exact BK287.out)) : gb287 ≠ gb291)); have n6_ := Aside0.mk ((by rw [hg]; exact Nat.ne_of_gt (blk_lt (by exact BK287.out)) : gb291 ≠ gb287)); clear BK287; clear HB; have BK287 := n0_; have HB := n1_; have BK291 := n2_; have GW291 := n3_; have GE291 := n4_; have NB287_291 := n5_; have NB291_287 := n6_; clear n0_ n1_ n2_ n3_ n4_ n5_ n6_; clear hb hbox hg; have hnb52 := NB291_287.out; have hnc52 := NB287_291.out; have hcz53_0 : w51.cell? ⟨gb291, 0, none⟩ = some (.int .u64 0) := (blk_cell BK291.out 0).trans rfl; have hcz53_1 : w51.cell? ⟨gb291, 1, none⟩ = some (.int .u64 0) := (blk_cell BK291.out 1).trans rfl; have hfz53_0 := blk_frozen BK291.out 0; have hfz53_1 := blk_frozen BK291.out 1))
   have n0_ : Aside0 (((w51.setCell ⟨gb291, 0, none⟩ (.int .u64 t288)).setCell ⟨gb291, 1, none⟩ (.int .u64 t289)).heap[gb287]? = some (.cells #[.int .u64 t284, .int .u64 t285] 40 (0, 0))) := ⟨by refine blk_far ?_ NB287_291.out _; refine blk_far ?_ NB287_291.out _; exact BK287.out⟩
   have n1_ : Aside0 (((w51.setCell ⟨gb291, 0, none⟩ (.int .u64 t288)).setCell ⟨gb291, 1, none⟩ (.int .u64 t289)).heap[gb291]? = some (.cells #[.int .u64 t288, .int .u64 t289] 40 (0, 0))) := ⟨by refine blk_put (cs := #[.int .u64 t288, .int .u64 0]) ?_ 1 _ rfl; refine blk_put (cs := #[.int .u64 0, .int .u64 0]) ?_ 0 _ rfl; exact BK291.out⟩
   have n2_ : Aside0 (Below w.heap.size w ((w51.setCell ⟨gb291, 0, none⟩ (.int .u64 t288)).setCell ⟨gb291, 1, none⟩ (.int .u64 t289))) := ⟨by repeat (first | (with_reducible first | exact HB.out | apply below_alloc | apply pw_below_drewN | apply below_drew1 | refine below_set ?_ GE287.out | refine below_set ?_ GE291.out) | exact HB.out)⟩
   (try clear BK287)
   (try clear BK291)
   (try clear HB)
   generalize ((w51.setCell ⟨gb291, 0, none⟩ (.int .u64 t288)).setCell ⟨gb291, 1, none⟩ (.int .u64 t289)) = w54 at n0_ n1_ n2_ ⊢
   have BK287 := n0_
   have BK291 := n1_
   have HB := n2_
   clear n0_ n1_ n2_
   have n0_ := Aside0.mk (blk_drew BK287.out)
   have n1_ := Aside0.mk (blk_drew BK291.out)
   have n2_ := Aside0.mk (below_drew1 HB.out)
   clear BK287
   clear BK291
   clear HB
   have BK287 := n0_
   have BK291 := n1_
   have HB := n2_
   clear n0_ n1_ n2_
   refine start_ (n := 11) (S := fun w' => w'.cell? ⟨gb287, 0, none⟩ = some (.int .u64 t284) ∧ w'.cell? ⟨gb287, 1, none⟩ = some (.int .u64 t285) ∧ w'.cell? ⟨gb291, 0, none⟩ = some (.int .u64 t288) ∧ w'.cell? ⟨gb291, 1, none⟩ = some (.int .u64 t289)) (ds := []) #[false, false, false, false, false, false, false, false, false, false, false] (by kernel_rfl) rfl rfl ⟨(blk_cell BK287.out 0).trans rfl, (blk_cell BK287.out 1).trans rfl, (blk_cell BK291.out 0).trans rfl, (blk_cell BK291.out 1).trans rfl⟩ (fun hHeld => ?_); refine with_tabW overfallref02_Ratio.tab7 overfallref02_Ratio.bits7 (fun HT_ HW_ => ?_)
   generalize w54.drew = w55 at BK287 BK291 HB hHeld ⊢
   refine pure_ (i := 2) (N := some 31) (v := ?_) (a' := ?_) #[false, false, true, false, false, false, false, false, false, false, false] rfl rfl (any_of HT_.out (by kernel_rfl)) (fun _ _ _ h => h) (Or.inl ⟨by rfl, ?_⟩) ?_ ?_
   rotate_left
   ·intro w'
    go_simp
    with_reducible rfl
   rotate_left
   ·simp only [Act.put, List.setIfInBounds_toArray, List.set_cons_zero, List.set_cons_succ, i64_w, i32_w]
    rfl
   refine take_ (i := 0) (N := some 29) (v := ?_) (a' := ?_) #[true, false, true, false, false, false, false, false, false, false, false] rfl rfl (take_ofW HT_.out HW_.out (by kernel_rfl)) (fun _ _ _ h => h) (Or.inl ⟨by rfl, ?_⟩) hHeld ?_ ?_
   rotate_left
   ·rintro w' ⟨s0, s1, s2, s3⟩
    go_simp
    with_reducible rfl
   rotate_left
   ·simp only [Act.put, List.setIfInBounds_toArray, List.set_cons_zero, List.set_cons_succ, i64_w, i32_w]
    rfl
   refine take_ (i := 3) (N := some 32) (v := ?_) (a' := ?_) #[true, false, true, true, false, false, false, false, false, false, false] rfl rfl (take_ofW HT_.out HW_.out (by kernel_rfl)) (fun _ _ _ h => h) (Or.inl ⟨by rfl, ?_⟩) hHeld ?_ ?_
   rotate_left
   ·rintro w' ⟨s0, s1, s2, s3⟩
    go_simp
    with_reducible rfl
   rotate_left
   ·simp only [Act.put, List.setIfInBounds_toArray, List.set_cons_zero, List.set_cons_succ, i64_w, i32_w]
    rfl
   refine join_ (σ := Nat) 2 #[true, true, true, true, true, true, true, true, true, false, false] (fun s_ => [(30, .agg #[.int .u64 t293, .int .u64 t294]), (33, .tuple #[.agg #[.int .u64 t295, .int .u64 t296], .int .u64 t297]), (9, .pointer (some ⟨s_, 0, none⟩)), (28, .tuple #[.agg #[.int .u64 t295, .int .u64 t296], .int .u64 t297]), (34, .agg #[.int .u64 t295, .int .u64 t296]), (35, .int .u64 t297)]) (fun s_ w' => (w'.cell? ⟨gb287, 0, none⟩ = some (.int .u64 t284) ∧ w'.cell? ⟨gb287, 1, none⟩ = some (.int .u64 t285) ∧ w'.cell? ⟨gb291, 0, none⟩ = some (.int .u64 t288) ∧ w'.cell? ⟨gb291, 1, none⟩ = some (.int .u64 t289)) ∧ (w'.heap[gb287]? = some (.cells #[.int .u64 t284, .int .u64 t285] 40 (0, 0))) ∧ (w'.heap[gb291]? = some (.cells #[.int .u64 t288, .int .u64 t289] 40 (0, 0))) ∧ (w'.heap[s_]? = some (.cells #[.int .u64 0, .int .u64 0] 40 (0, 0))) ∧ (w.heap.size ≤ s_) ∧ (w.heap.size ≤ s_) ∧ (gb287 ≠ s_) ∧ (s_ ≠ gb287) ∧ (gb291 ≠ s_) ∧ (s_ ≠ gb291) ∧ (Below w.heap.size w w')) ?_ ?_
   rotate_left
   ·intro hCont
    refine two_ (i := 1) (j := 8) (Ni := some 30) (Nj := some 9) #[true, true, true, true, false, false, false, false, false, false, false] #[true, false, true, true, false, false, false, false, true, false, false] rfl rfl rfl rfl (two_of HT_.out (by kernel_rfl)) (by decide) (by decide) (fun K hK => ?_) (fun K hK => ?_)
    ·skip
     refine goes_ Try.func44 (by kernel_rfl) rfl #[.agg #[.int .u64 t284, .int .u64 t285], .int .i64 32] (by rfl) rfl rfl (by (try simp only [List.map_toArray, List.map_cons, List.map_nil]); first | done | rfl | (simp only [List.length_drop, List.length_take]; rfl)) ?_
     with_reducible refine (overfallref01_Left.calls k t284 t285 32 t293 t294 _ A23.out).mono ?_
     rintro e w56 ⟨rfl, hb⟩
     refine ⟨_, rfl, ?_⟩
     have n0_ := Aside0.mk (blk_below (by exact BK287.out) hb)
     have n1_ := Aside0.mk (blk_below (by exact BK291.out) hb)
     have n2_ := Aside0.mk (below_step (by repeat (first | (with_reducible first | exact HB.out | apply below_alloc | apply pw_below_drewN | apply below_drew1 | refine below_set ?_ GE287.out | refine below_set ?_ GE291.out) | exact HB.out)) hb)
     clear BK287
     clear BK291
     clear HB
     have BK287 := n0_
     have BK291 := n1_
     have HB := n2_
     clear n0_ n1_ n2_
     (try clear hb)
     (try clear hb2)
     (try clear hk)
     (try clear hi)
     refine hK.out _ _ ⟨(blk_cell BK287.out 0).trans rfl, (blk_cell BK287.out 1).trans rfl, (blk_cell BK291.out 0).trans rfl, (blk_cell BK291.out 1).trans rfl⟩ (fun hHeld => ?_)
     clear hK K
     refine norm_ (a' := ?_) ?_ ?_
     rotate_left
     ·show Act.put _ (some 30) _ = _
      simp only [Act.put, List.setIfInBounds_toArray, List.set_cons_zero, List.set_cons_succ, i64_w, i32_w]
      rfl
     refine two_ (i := 4) (j := 8) (Ni := some 33) (Nj := some 9) #[true, true, true, true, true, false, false, false, false, false, false] #[true, true, true, true, false, false, false, false, true, false, false] rfl rfl rfl rfl (two_of HT_.out (by kernel_rfl)) (by decide) (by decide) (fun K hK => ?_) (fun K hK => ?_)
     ·skip
      refine goes_ Try.func43 (by kernel_rfl) rfl #[.agg #[.int .u64 t293, .int .u64 t294], .int .u64 t289] (by rfl) rfl rfl (by (try simp only [List.map_toArray, List.map_cons, List.map_nil]); first | done | rfl | (simp only [List.length_drop, List.length_take]; rfl)) ?_
      with_reducible refine (overfallref01_Div.calls k t293 t294 t289 t295 t296 t297 _ A24.out).mono ?_
      rintro e w57 ⟨rfl, hb⟩
      refine ⟨_, rfl, ?_⟩
      have n0_ := Aside0.mk (blk_below (by exact BK287.out) hb)
      have n1_ := Aside0.mk (blk_below (by exact BK291.out) hb)
      have n2_ := Aside0.mk (below_step (by repeat (first | (with_reducible first | exact HB.out | apply below_alloc | apply pw_below_drewN | apply below_drew1 | refine below_set ?_ GE287.out | refine below_set ?_ GE291.out) | exact HB.out)) hb)
      clear BK287
      clear BK291
      clear HB
      have BK287 := n0_
      have BK291 := n1_
      have HB := n2_
      clear n0_ n1_ n2_
      (try clear hb)
      (try clear hb2)
      (try clear hk)
      (try clear hi)
      refine hK.out _ _ ⟨(blk_cell BK287.out 0).trans rfl, (blk_cell BK287.out 1).trans rfl, (blk_cell BK291.out 0).trans rfl, (blk_cell BK291.out 1).trans rfl⟩ (fun hHeld => ?_)
      clear hK K
      refine norm_ (a' := ?_) ?_ ?_
      rotate_left
      ·show Act.put _ (some 33) _ = _
       simp only [Act.put, List.setIfInBounds_toArray, List.set_cons_zero, List.set_cons_succ, i64_w, i32_w]
       rfl
      refine pure_ (i := 5) (N := some 28) (v := ?_) (a' := ?_) #[true, true, true, true, true, true, false, false, false, false, false] rfl rfl (any_of HT_.out (by kernel_rfl)) (fun _ _ _ h => h) (Or.inl ⟨by rfl, ?_⟩) ?_ ?_
      rotate_left
      ·intro w'
       go_simp
       with_reducible rfl
      rotate_left
      ·simp only [Act.put, List.setIfInBounds_toArray, List.set_cons_zero, List.set_cons_succ, i64_w, i32_w]
       rfl
      refine pure_ (i := 6) (N := some 34) (v := ?_) (a' := ?_) #[true, true, true, true, true, true, true, false, false, false, false] rfl rfl (any_of HT_.out (by kernel_rfl)) (fun _ _ _ h => h) (Or.inl ⟨by rfl, ?_⟩) ?_ ?_
      rotate_left
      ·intro w'
       go_simp
       with_reducible rfl
      rotate_left
      ·simp only [Act.put, List.setIfInBounds_toArray, List.set_cons_zero, List.set_cons_succ, i64_w, i32_w]
       rfl
      refine pure_ (i := 7) (N := some 35) (v := ?_) (a' := ?_) #[true, true, true, true, true, true, true, true, false, false, false] rfl rfl (any_of HT_.out (by kernel_rfl)) (fun _ _ _ h => h) (Or.inl ⟨by rfl, ?_⟩) ?_ ?_
      rotate_left
      ·intro w'
       go_simp
       with_reducible rfl
      rotate_left
      ·simp only [Act.put, List.setIfInBounds_toArray, List.set_cons_zero, List.set_cons_succ, i64_w, i32_w]
       rfl
      refine one_ (i := 8) (N := some 9) #[true, true, true, true, true, true, true, true, true, false, false] rfl rfl (one_of HT_.out (by kernel_rfl)) (by decide) (fun K hK => ?_)
      refine box_step ?hg (N := 9) ?hd (cs := #[.int .u64 0, .int .u64 0]) (t := 40) ?hr ?_; (case hd => rfl); (case hg => rfl); (case hr => first | (go_simp; done) | (go_simp; rfl))
      intro gb298 hg w58 hbox hb
      have n0_ := Aside0.mk (blk_below (by exact BK287.out) hb)
      have n1_ := Aside0.mk (blk_below (by exact BK291.out) hb)
      have n2_ := Aside0.mk (below_step (by repeat (first | (with_reducible first | exact HB.out | apply below_alloc | apply pw_below_drewN | apply below_drew1 | refine below_set ?_ GE287.out | refine below_set ?_ GE291.out) | exact HB.out)) hb)
      have n3_ := Aside0.mk (hbox)
      have n4_ := Aside0.mk ((by rw [hg]; exact (below_size (by repeat (first | (with_reducible first | exact HB.out | apply below_alloc | apply pw_below_drewN | apply below_drew1 | refine below_set ?_ GE287.out | refine below_set ?_ GE291.out) | exact HB.out))) : w.heap.size ≤ gb298))
      have n5_ := Aside0.mk ((by rw [hg]; exact (below_size (by repeat (first | (with_reducible first | exact HB.out | apply below_alloc | apply pw_below_drewN | apply below_drew1 | refine below_set ?_ GE287.out | refine below_set ?_ GE291.out) | exact HB.out))) : w.heap.size ≤ gb298))
      have n6_ := Aside0.mk ((by rw [hg]; exact Nat.ne_of_lt (blk_lt (by exact BK287.out)) : gb287 ≠ gb298))
      have n7_ := Aside0.mk ((by rw [hg]; exact Nat.ne_of_gt (blk_lt (by exact BK287.out)) : gb298 ≠ gb287))
      have n8_ := Aside0.mk ((by rw [hg]; exact Nat.ne_of_lt (blk_lt (by exact BK291.out)) : gb291 ≠ gb298))
      have n9_ := Aside0.mk ((by rw [hg]; exact Nat.ne_of_gt (blk_lt (by exact BK291.out)) : gb298 ≠ gb291))
      clear BK287
      clear BK291
      clear HB
      have BK287 := n0_
      have BK291 := n1_
      have HB := n2_
      have BK298 := n3_
      have GW298 := n4_
      have GE298 := n5_
      have NB287_298 := n6_
      have NB298_287 := n7_
      have NB291_298 := n8_
      have NB298_291 := n9_
      clear n0_ n1_ n2_ n3_ n4_ n5_ n6_ n7_ n8_ n9_
      clear hb hbox hg
      refine hK.out _ _ ⟨(blk_cell BK287.out 0).trans rfl, (blk_cell BK287.out 1).trans rfl, (blk_cell BK291.out 0).trans rfl, (blk_cell BK291.out 1).trans rfl⟩ (fun hHeld => ?_)
      clear hK K
      refine norm_ (a' := ?_) ?_ ?_
      rotate_left
      ·show Act.put _ (some 9) _ = _
       simp only [Act.put, List.setIfInBounds_toArray, List.set_cons_zero, List.set_cons_succ, i64_w, i32_w]
       rfl
      exact norm_ (by simp only [putAll, Act.put, List.setIfInBounds_toArray, List.set_cons_zero, List.set_cons_succ]) (hCont (gb298) _ ⟨hHeld, (by exact BK287.out), (by exact BK291.out), (by exact BK298.out), GW298.out, GE298.out, NB287_298.out, NB298_287.out, NB291_298.out, NB298_291.out, (by repeat (first | (with_reducible first | exact HB.out | apply below_alloc | apply pw_below_drewN | apply below_drew1 | refine below_set ?_ GE287.out | refine below_set ?_ GE291.out | refine below_set ?_ GE298.out) | exact HB.out))⟩)
     ·skip
      refine box_step ?hg (N := 9) ?hd (cs := #[.int .u64 0, .int .u64 0]) (t := 40) ?hr ?_; (case hd => rfl); (case hg => rfl); (case hr => first | (go_simp; done) | (go_simp; rfl))
      intro gb298 hg w57 hbox hb
      have n0_ := Aside0.mk (blk_below (by exact BK287.out) hb)
      have n1_ := Aside0.mk (blk_below (by exact BK291.out) hb)
      have n2_ := Aside0.mk (below_step (by repeat (first | (with_reducible first | exact HB.out | apply below_alloc | apply pw_below_drewN | apply below_drew1 | refine below_set ?_ GE287.out | refine below_set ?_ GE291.out) | exact HB.out)) hb)
      have n3_ := Aside0.mk (hbox)
      have n4_ := Aside0.mk ((by rw [hg]; exact (below_size (by repeat (first | (with_reducible first | exact HB.out | apply below_alloc | apply pw_below_drewN | apply below_drew1 | refine below_set ?_ GE287.out | refine below_set ?_ GE291.out) | exact HB.out))) : w.heap.size ≤ gb298))
      have n5_ := Aside0.mk ((by rw [hg]; exact (below_size (by repeat (first | (with_reducible first | exact HB.out | apply below_alloc | apply pw_below_drewN | apply below_drew1 | refine below_set ?_ GE287.out | refine below_set ?_ GE291.out) | exact HB.out))) : w.heap.size ≤ gb298))
      have n6_ := Aside0.mk ((by rw [hg]; exact Nat.ne_of_lt (blk_lt (by exact BK287.out)) : gb287 ≠ gb298))
      have n7_ := Aside0.mk ((by rw [hg]; exact Nat.ne_of_gt (blk_lt (by exact BK287.out)) : gb298 ≠ gb287))
      have n8_ := Aside0.mk ((by rw [hg]; exact Nat.ne_of_lt (blk_lt (by exact BK291.out)) : gb291 ≠ gb298))
      have n9_ := Aside0.mk ((by rw [hg]; exact Nat.ne_of_gt (blk_lt (by exact BK291.out)) : gb298 ≠ gb291))
      clear BK287
      clear BK291
      clear HB
      have BK287 := n0_
      have BK291 := n1_
      have HB := n2_
      have BK298 := n3_
      have GW298 := n4_
      have GE298 := n5_
      have NB287_298 := n6_
      have NB298_287 := n7_
      have NB291_298 := n8_
      have NB298_291 := n9_
      clear n0_ n1_ n2_ n3_ n4_ n5_ n6_ n7_ n8_ n9_
      clear hb hbox hg
      refine hK.out _ _ ⟨(blk_cell BK287.out 0).trans rfl, (blk_cell BK287.out 1).trans rfl, (blk_cell BK291.out 0).trans rfl, (blk_cell BK291.out 1).trans rfl⟩ (fun hHeld => ?_)
      clear hK K
      refine norm_ (a' := ?_) ?_ ?_
      rotate_left
      ·show Act.put _ (some 9) _ = _
       simp only [Act.put, List.setIfInBounds_toArray, List.set_cons_zero, List.set_cons_succ, i64_w, i32_w]
       rfl
      refine one_ (i := 4) (N := some 33) #[true, true, true, true, true, false, false, false, true, false, false] rfl rfl (one_of HT_.out (by kernel_rfl)) (by decide) (fun K hK => ?_)
      refine goes_ Try.func43 (by kernel_rfl) rfl #[.agg #[.int .u64 t293, .int .u64 t294], .int .u64 t289] (by rfl) rfl rfl (by (try simp only [List.map_toArray, List.map_cons, List.map_nil]); first | done | rfl | (simp only [List.length_drop, List.length_take]; rfl)) ?_
      with_reducible refine (overfallref01_Div.calls k t293 t294 t289 t295 t296 t297 _ A24.out).mono ?_
      rintro e w58 ⟨rfl, hb⟩
      refine ⟨_, rfl, ?_⟩
      have n0_ := Aside0.mk (blk_below (by exact BK287.out) hb)
      have n1_ := Aside0.mk (blk_below (by exact BK291.out) hb)
      have n2_ := Aside0.mk (blk_below (by exact BK298.out) hb)
      have n3_ := Aside0.mk (below_step (by repeat (first | (with_reducible first | exact HB.out | apply below_alloc | apply pw_below_drewN | apply below_drew1 | refine below_set ?_ GE287.out | refine below_set ?_ GE291.out | refine below_set ?_ GE298.out) | exact HB.out)) hb)
      clear BK287
      clear BK291
      clear BK298
      clear HB
      have BK287 := n0_
      have BK291 := n1_
      have BK298 := n2_
      have HB := n3_
      clear n0_ n1_ n2_ n3_
      (try clear hb)
      (try clear hb2)
      (try clear hk)
      (try clear hi)
      refine hK.out _ _ ⟨(blk_cell BK287.out 0).trans rfl, (blk_cell BK287.out 1).trans rfl, (blk_cell BK291.out 0).trans rfl, (blk_cell BK291.out 1).trans rfl⟩ (fun hHeld => ?_)
      clear hK K
      refine norm_ (a' := ?_) ?_ ?_
      rotate_left
      ·show Act.put _ (some 33) _ = _
       simp only [Act.put, List.setIfInBounds_toArray, List.set_cons_zero, List.set_cons_succ, i64_w, i32_w]
       rfl
      refine pure_ (i := 5) (N := some 28) (v := ?_) (a' := ?_) #[true, true, true, true, true, true, false, false, true, false, false] rfl rfl (any_of HT_.out (by kernel_rfl)) (fun _ _ _ h => h) (Or.inl ⟨by rfl, ?_⟩) ?_ ?_
      rotate_left
      ·intro w'
       go_simp
       with_reducible rfl
      rotate_left
      ·simp only [Act.put, List.setIfInBounds_toArray, List.set_cons_zero, List.set_cons_succ, i64_w, i32_w]
       rfl
      refine pure_ (i := 6) (N := some 34) (v := ?_) (a' := ?_) #[true, true, true, true, true, true, true, false, true, false, false] rfl rfl (any_of HT_.out (by kernel_rfl)) (fun _ _ _ h => h) (Or.inl ⟨by rfl, ?_⟩) ?_ ?_
      rotate_left
      ·intro w'
       go_simp
       with_reducible rfl
      rotate_left
      ·simp only [Act.put, List.setIfInBounds_toArray, List.set_cons_zero, List.set_cons_succ, i64_w, i32_w]
       rfl
      refine pure_ (i := 7) (N := some 35) (v := ?_) (a' := ?_) #[true, true, true, true, true, true, true, true, true, false, false] rfl rfl (any_of HT_.out (by kernel_rfl)) (fun _ _ _ h => h) (Or.inl ⟨by rfl, ?_⟩) ?_ ?_
      rotate_left
      ·intro w'
       go_simp
       with_reducible rfl
      rotate_left
      ·simp only [Act.put, List.setIfInBounds_toArray, List.set_cons_zero, List.set_cons_succ, i64_w, i32_w]
       rfl
      exact norm_ (by simp only [putAll, Act.put, List.setIfInBounds_toArray, List.set_cons_zero, List.set_cons_succ]) (hCont (gb298) _ ⟨hHeld, (by exact BK287.out), (by exact BK291.out), (by exact BK298.out), GW298.out, GE298.out, NB287_298.out, NB298_287.out, NB291_298.out, NB298_291.out, (by repeat (first | (with_reducible first | exact HB.out | apply below_alloc | apply pw_below_drewN | apply below_drew1 | refine below_set ?_ GE287.out | refine below_set ?_ GE291.out | refine below_set ?_ GE298.out) | exact HB.out))⟩)
    ·skip
     refine box_step ?hg (N := 9) ?hd (cs := #[.int .u64 0, .int .u64 0]) (t := 40) ?hr ?_; (case hd => rfl); (case hg => rfl); (case hr => first | (go_simp; done) | (go_simp; rfl))
     intro gb298 hg w56 hbox hb
     have n0_ := Aside0.mk (blk_below (by exact BK287.out) hb)
     have n1_ := Aside0.mk (blk_below (by exact BK291.out) hb)
     have n2_ := Aside0.mk (below_step (by repeat (first | (with_reducible first | exact HB.out | apply below_alloc | apply pw_below_drewN | apply below_drew1 | refine below_set ?_ GE287.out | refine below_set ?_ GE291.out) | exact HB.out)) hb)
     have n3_ := Aside0.mk (hbox)
     have n4_ := Aside0.mk ((by rw [hg]; exact (below_size (by repeat (first | (with_reducible first | exact HB.out | apply below_alloc | apply pw_below_drewN | apply below_drew1 | refine below_set ?_ GE287.out | refine below_set ?_ GE291.out) | exact HB.out))) : w.heap.size ≤ gb298))
     have n5_ := Aside0.mk ((by rw [hg]; exact (below_size (by repeat (first | (with_reducible first | exact HB.out | apply below_alloc | apply pw_below_drewN | apply below_drew1 | refine below_set ?_ GE287.out | refine below_set ?_ GE291.out) | exact HB.out))) : w.heap.size ≤ gb298))
     have n6_ := Aside0.mk ((by rw [hg]; exact Nat.ne_of_lt (blk_lt (by exact BK287.out)) : gb287 ≠ gb298))
     have n7_ := Aside0.mk ((by rw [hg]; exact Nat.ne_of_gt (blk_lt (by exact BK287.out)) : gb298 ≠ gb287))
     have n8_ := Aside0.mk ((by rw [hg]; exact Nat.ne_of_lt (blk_lt (by exact BK291.out)) : gb291 ≠ gb298))
     have n9_ := Aside0.mk ((by rw [hg]; exact Nat.ne_of_gt (blk_lt (by exact BK291.out)) : gb298 ≠ gb291))
     clear BK287
     clear BK291
     clear HB
     have BK287 := n0_
     have BK291 := n1_
     have HB := n2_
     have BK298 := n3_
     have GW298 := n4_
     have GE298 := n5_
     have NB287_298 := n6_
     have NB298_287 := n7_
     have NB291_298 := n8_
     have NB298_291 := n9_
     clear n0_ n1_ n2_ n3_ n4_ n5_ n6_ n7_ n8_ n9_
     clear hb hbox hg
     refine hK.out _ _ ⟨(blk_cell BK287.out 0).trans rfl, (blk_cell BK287.out 1).trans rfl, (blk_cell BK291.out 0).trans rfl, (blk_cell BK291.out 1).trans rfl⟩ (fun hHeld => ?_)
     clear hK K
     refine norm_ (a' := ?_) ?_ ?_
     rotate_left
     ·show Act.put _ (some 9) _ = _
      simp only [Act.put, List.setIfInBounds_toArray, List.set_cons_zero, List.set_cons_succ, i64_w, i32_w]
      rfl
     refine one_ (i := 1) (N := some 30) #[true, true, true, true, false, false, false, false, true, false, false] rfl rfl (one_of HT_.out (by kernel_rfl)) (by decide) (fun K hK => ?_)
     refine goes_ Try.func44 (by kernel_rfl) rfl #[.agg #[.int .u64 t284, .int .u64 t285], .int .i64 32] (by rfl) rfl rfl (by (try simp only [List.map_toArray, List.map_cons, List.map_nil]); first | done | rfl | (simp only [List.length_drop, List.length_take]; rfl)) ?_
     with_reducible refine (overfallref01_Left.calls k t284 t285 32 t293 t294 _ A23.out).mono ?_
     rintro e w57 ⟨rfl, hb⟩
     refine ⟨_, rfl, ?_⟩
     have n0_ := Aside0.mk (blk_below (by exact BK287.out) hb)
     have n1_ := Aside0.mk (blk_below (by exact BK291.out) hb)
     have n2_ := Aside0.mk (blk_below (by exact BK298.out) hb)
     have n3_ := Aside0.mk (below_step (by repeat (first | (with_reducible first | exact HB.out | apply below_alloc | apply pw_below_drewN | apply below_drew1 | refine below_set ?_ GE287.out | refine below_set ?_ GE291.out | refine below_set ?_ GE298.out) | exact HB.out)) hb)
     clear BK287
     clear BK291
     clear BK298
     clear HB
     have BK287 := n0_
     have BK291 := n1_
     have BK298 := n2_
     have HB := n3_
     clear n0_ n1_ n2_ n3_
     (try clear hb)
     (try clear hb2)
     (try clear hk)
     (try clear hi)
     refine hK.out _ _ ⟨(blk_cell BK287.out 0).trans rfl, (blk_cell BK287.out 1).trans rfl, (blk_cell BK291.out 0).trans rfl, (blk_cell BK291.out 1).trans rfl⟩ (fun hHeld => ?_)
     clear hK K
     refine norm_ (a' := ?_) ?_ ?_
     rotate_left
     ·show Act.put _ (some 30) _ = _
      simp only [Act.put, List.setIfInBounds_toArray, List.set_cons_zero, List.set_cons_succ, i64_w, i32_w]
      rfl
     refine one_ (i := 4) (N := some 33) #[true, true, true, true, true, false, false, false, true, false, false] rfl rfl (one_of HT_.out (by kernel_rfl)) (by decide) (fun K hK => ?_)
     refine goes_ Try.func43 (by kernel_rfl) rfl #[.agg #[.int .u64 t293, .int .u64 t294], .int .u64 t289] (by rfl) rfl rfl (by (try simp only [List.map_toArray, List.map_cons, List.map_nil]); first | done | rfl | (simp only [List.length_drop, List.length_take]; rfl)) ?_
     with_reducible refine (overfallref01_Div.calls k t293 t294 t289 t295 t296 t297 _ A24.out).mono ?_
     rintro e w58 ⟨rfl, hb⟩
     refine ⟨_, rfl, ?_⟩
     have n0_ := Aside0.mk (blk_below (by exact BK287.out) hb)
     have n1_ := Aside0.mk (blk_below (by exact BK291.out) hb)
     have n2_ := Aside0.mk (blk_below (by exact BK298.out) hb)
     have n3_ := Aside0.mk (below_step (by repeat (first | (with_reducible first | exact HB.out | apply below_alloc | apply pw_below_drewN | apply below_drew1 | refine below_set ?_ GE287.out | refine below_set ?_ GE291.out | refine below_set ?_ GE298.out) | exact HB.out)) hb)
     clear BK287
     clear BK291
     clear BK298
     clear HB
     have BK287 := n0_
     have BK291 := n1_
     have BK298 := n2_
     have HB := n3_
     clear n0_ n1_ n2_ n3_
     (try clear hb)
     (try clear hb2)
     (try clear hk)
     (try clear hi)
     refine hK.out _ _ ⟨(blk_cell BK287.out 0).trans rfl, (blk_cell BK287.out 1).trans rfl, (blk_cell BK291.out 0).trans rfl, (blk_cell BK291.out 1).trans rfl⟩ (fun hHeld => ?_)
     clear hK K
     refine norm_ (a' := ?_) ?_ ?_
     rotate_left
     ·show Act.put _ (some 33) _ = _
      simp only [Act.put, List.setIfInBounds_toArray, List.set_cons_zero, List.set_cons_succ, i64_w, i32_w]
      rfl
     refine pure_ (i := 5) (N := some 28) (v := ?_) (a' := ?_) #[true, true, true, true, true, true, false, false, true, false, false] rfl rfl (any_of HT_.out (by kernel_rfl)) (fun _ _ _ h => h) (Or.inl ⟨by rfl, ?_⟩) ?_ ?_
     rotate_left
     ·intro w'
      go_simp
      with_reducible rfl
     rotate_left
     ·simp only [Act.put, List.setIfInBounds_toArray, List.set_cons_zero, List.set_cons_succ, i64_w, i32_w]
      rfl
     refine pure_ (i := 6) (N := some 34) (v := ?_) (a' := ?_) #[true, true, true, true, true, true, true, false, true, false, false] rfl rfl (any_of HT_.out (by kernel_rfl)) (fun _ _ _ h => h) (Or.inl ⟨by rfl, ?_⟩) ?_ ?_
     rotate_left
     ·intro w'
      go_simp
      with_reducible rfl
     rotate_left
     ·simp only [Act.put, List.setIfInBounds_toArray, List.set_cons_zero, List.set_cons_succ, i64_w, i32_w]
      rfl
     refine pure_ (i := 7) (N := some 35) (v := ?_) (a' := ?_) #[true, true, true, true, true, true, true, true, true, false, false] rfl rfl (any_of HT_.out (by kernel_rfl)) (fun _ _ _ h => h) (Or.inl ⟨by rfl, ?_⟩) ?_ ?_
     rotate_left
     ·intro w'
      go_simp
      with_reducible rfl
     rotate_left
     ·simp only [Act.put, List.setIfInBounds_toArray, List.set_cons_zero, List.set_cons_succ, i64_w, i32_w]
      rfl
     exact norm_ (by simp only [putAll, Act.put, List.setIfInBounds_toArray, List.set_cons_zero, List.set_cons_succ]) (hCont (gb298) _ ⟨hHeld, (by exact BK287.out), (by exact BK291.out), (by exact BK298.out), GW298.out, GE298.out, NB287_298.out, NB298_287.out, NB291_298.out, NB298_291.out, (by repeat (first | (with_reducible first | exact HB.out | apply below_alloc | apply pw_below_drewN | apply below_drew1 | refine below_set ?_ GE287.out | refine below_set ?_ GE291.out | refine below_set ?_ GE298.out) | exact HB.out))⟩)
   rintro gb298 w59 ⟨hS_, h0_, h1_, h2_, h3_, h4_, h5_, h6_, h7_, h8_, h9_⟩
   have n0_ : Aside0 (w59.heap[gb287]? = some (.cells #[.int .u64 t284, .int .u64 t285] 40 (0, 0))) := ⟨h0_⟩
   have n1_ : Aside0 (w59.heap[gb291]? = some (.cells #[.int .u64 t288, .int .u64 t289] 40 (0, 0))) := ⟨h1_⟩
   have n2_ : Aside0 (w59.heap[gb298]? = some (.cells #[.int .u64 0, .int .u64 0] 40 (0, 0))) := ⟨h2_⟩
   have n3_ : Aside0 (w.heap.size ≤ gb298) := ⟨h3_⟩
   have n4_ : Aside0 (w.heap.size ≤ gb298) := ⟨h4_⟩
   have n5_ : Aside0 (gb287 ≠ gb298) := ⟨h5_⟩
   have n6_ : Aside0 (gb298 ≠ gb287) := ⟨h6_⟩
   have n7_ : Aside0 (gb291 ≠ gb298) := ⟨h7_⟩
   have n8_ : Aside0 (gb298 ≠ gb291) := ⟨h8_⟩
   have n9_ : Aside0 (Below w.heap.size w w59) := ⟨h9_⟩
   clear BK287
   clear BK291
   clear HB
   clear h0_ h1_ h2_ h3_ h4_ h5_ h6_ h7_ h8_ h9_
   have BK287 := n0_
   have BK291 := n1_
   have BK298 := n2_
   have GW298 := n3_
   have GE298 := n4_
   have NB287_298 := n5_
   have NB298_287 := n6_
   have NB291_298 := n7_
   have NB298_291 := n8_
   have HB := n9_
   clear n0_ n1_ n2_ n3_ n4_ n5_ n6_ n7_ n8_ n9_
   have hHeld : w59.cell? ⟨gb287, 0, none⟩ = some (.int .u64 t284) ∧ w59.cell? ⟨gb287, 1, none⟩ = some (.int .u64 t285) ∧ w59.cell? ⟨gb291, 0, none⟩ = some (.int .u64 t288) ∧ w59.cell? ⟨gb291, 1, none⟩ = some (.int .u64 t289) := hS_
   refine norm_ (a' := ?_) ?_ ?_
   rotate_left
   ·simp only [putAll, Act.put, List.setIfInBounds_toArray, List.set_cons_zero, List.set_cons_succ]
    rfl
   refine one_ (i := 9) (N := none) #[true, true, true, true, true, true, true, true, true, true, false] rfl rfl (one_of HT_.out (by kernel_rfl)) (by decide) (fun K hK => ?_)
   have hs60 : w59.cell? ⟨gb298, 0, none⟩ = some (.int .u64 0) := (blk_cell BK298.out 0).trans rfl
   have hfs60 := blk_frozen BK298.out 0
   have hns60_0 := NB287_298.out
   have hns60_1 := NB291_298.out
   have hms60_0 := NB298_287.out
   have hms60_1 := NB298_291.out
   have hs61 : w59.cell? ⟨gb298, 1, none⟩ = some (.int .u64 0) := (blk_cell BK298.out 1).trans rfl
   have hfs61 := blk_frozen BK298.out 1
   have hns61_0 := NB287_298.out
   have hns61_1 := NB291_298.out
   have hms61_0 := NB298_287.out
   have hms61_1 := NB298_291.out
   refine skip_ (w1 := ?_) (by rfl) rfl ?_ ?_
   rotate_left
   ·go_simp
    rfl
   refine hK.out _ _ ⟨((cell_far (p := ⟨gb298, _, none⟩) NB287_298.out _).trans (((cell_far (p := ⟨gb298, _, none⟩) NB287_298.out _).trans (hHeld.1)))), ((cell_far (p := ⟨gb298, _, none⟩) NB287_298.out _).trans (((cell_far (p := ⟨gb298, _, none⟩) NB287_298.out _).trans (hHeld.2.1)))), ((cell_far (p := ⟨gb298, _, none⟩) NB291_298.out _).trans (((cell_far (p := ⟨gb298, _, none⟩) NB291_298.out _).trans (hHeld.2.2.1)))), ((cell_far (p := ⟨gb298, _, none⟩) NB291_298.out _).trans (((cell_far (p := ⟨gb298, _, none⟩) NB291_298.out _).trans (hHeld.2.2.2))))⟩ (fun hHeld => ?_)
   clear hK K
   refine pure_ (i := 10) (N := some 10) (v := ?_) (a' := ?_) #[true, true, true, true, true, true, true, true, true, true, true] rfl rfl (any_of HT_.out (by kernel_rfl)) (fun _ _ _ h => h) (Or.inl ⟨by rfl, ?_⟩) ?_ ?_
   rotate_left
   ·intro w'
    go_simp
    with_reducible rfl
   rotate_left
   ·simp only [Act.put, List.setIfInBounds_toArray, List.set_cons_zero, List.set_cons_succ, i64_w, i32_w]
    rfl
   refine done_ (done_of HT_.out (by kernel_rfl)) ?_
   have hnb62 := NB298_287.out
   have hnc62 := NB287_298.out
   have hnb63 := NB298_291.out
   have hnc63 := NB291_298.out
   have hcz64_0 : w59.cell? ⟨gb298, 0, none⟩ = some (.int .u64 0) := (blk_cell BK298.out 0).trans rfl
   have hcz64_1 : w59.cell? ⟨gb298, 1, none⟩ = some (.int .u64 0) := (blk_cell BK298.out 1).trans rfl
   have hfz64_0 := blk_frozen BK298.out 0
   have hfz64_1 := blk_frozen BK298.out 1
   try go_wp2_with (first | ((with_reducible refine gate_callee (f := 45) rfl ?_); refine goesL_ (some 46) rfl rfl Try.func45 (by kernel_rfl) rfl #[.agg #[.int .u64 t295, .int .u64 t296], .bool (decide (t297 > 0)), .bool false] rfl (by (try simp only [List.map_toArray, List.map_cons, List.map_nil]); first | done | rfl | (simp only [List.length_drop, List.length_take]; rfl)) ?_; (with_reducible refine (overfallref02_down.calls k t295 t296 (decide (t297 > 0)) false t300 _ A46.out).mono ?_); rintro e w65 ⟨rfl, hb⟩; refine ⟨_, rfl, ?_⟩; have n0_ := Aside0.mk (blk_below (g := gb287) (o := .cells #[.int .u64 t284, .int .u64 t285] 40 (0, 0)) (by refine blk_far ?_ NB287_298.out _; refine blk_far ?_ NB287_298.out _; exact BK287.out) hb); have n1_ := Aside0.mk (blk_below (g := gb291) (o := .cells #[.int .u64 t288, .int .u64 t289] 40 (0, 0)) (by refine blk_far ?_ NB291_298.out _; refine blk_far ?_ NB291_298.out _; exact BK291.out) hb); have n2_ := Aside0.mk (blk_below (g := gb298) (o := .cells #[.int .u64 t295, .int .u64 t296] 40 (0, 0)) (by refine blk_put (cs := #[.int .u64 t295, .int .u64 0]) ?_ 1 _ rfl; refine blk_put (cs := #[.int .u64 0, .int .u64 0]) ?_ 0 _ rfl; exact BK298.out) hb); have n3_ := Aside0.mk (below_step (by repeat (first | (with_reducible first | exact HB.out | apply below_alloc | apply pw_below_drewN | apply below_drew1 | refine below_set ?_ GE287.out | refine below_set ?_ GE291.out | refine below_set ?_ GE298.out) | exact HB.out)) hb); clear BK287; clear BK291; clear BK298; clear HB; have BK287 := n0_; have BK291 := n1_; have BK298 := n2_; have HB := n3_; clear n0_ n1_ n2_ n3_; (try clear hb); (try clear hb2); (try clear hk); (try clear hi)))
   go_ret
   exact ⟨by first | rfl | (simp [errW_none, errW_some] <;> rfl) | (simp [*, errW_none, errW_some] <;> rfl), by repeat (first | (with_reducible first | exact HB.out | apply below_alloc | apply pw_below_drewN | apply below_drew1 | refine below_set ?_ GE287.out | refine below_set ?_ GE291.out | refine below_set ?_ GE298.out) | exact HB.out)⟩

end Go.Proofs.Ytjgjmeefieikaaa.G

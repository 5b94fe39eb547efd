-- Laid by a program of this claim's session (wip/tools/myprint.py) over the kit's printer.
import Derived.Test.YthmapfhemiamhaaSx0
import Derived.Test.YthmapfhemiamhaaSx8
import Derived.Test.YthmapfhemiamhaaSx9
namespace Go.Proofs.Ythmapfhemiamhaa.S
open Go.RowKit Go.Proofs.YthmapfhemiamhaaW.PrintWords Go.Proofs.YthmapfhemiamhaaW.PrintLast Go.Proofs.YthmapfhemiamhaaW.PrintMore
attribute [local go_sem] max2_int min2_int max_two min_two max_three min_three max_four min_four   -- for this text's walks alone
set_option linter.unusedVariables false
set_option linter.unusedSimpArgs false

/-! ### overfallref01_Div: function 32 -/
mutual
def overfallref01_Div.l0 : Nat → Int → Int → Int → Int → Int → Int → Int → Int → Int → Option (Int × Int × Int)
 | 0, _, _, _, _, _, _, _, _, _ => none
 | k + 1, x9, x261000, x261001, x263000, x263001, x264000, x264001, x265000, x265001 => if x9 ≥ 0 then ((overfallref01_Twice.f k x263000 x263001).bind fun bt265 => ((overfallref01_Twice.f k x264000 x264001).bind fun bt267 => ((overfallref01_Bit.f k x261000 x261001 x9).bind fun t269 => (if t269 = 1 then ((overfallref01_Add.f k bt267.1 bt267.2 0 1).bind fun bt270 => (overfallref01_Div.j1 k x9 x261000 x261001 bt265.1 bt265.2 bt270.1 bt270.2.1 x265000 x265001)) else (overfallref01_Div.j1 k x9 x261000 x261001 bt265.1 bt265.2 bt267.1 bt267.2 x265000 x265001))))) else (some (x263000, x263001, x264001))
def overfallref01_Div.j1 : Nat → Int → Int → Int → Int → Int → Int → Int → Int → Int → Option (Int × Int × Int)
 | 0, _, _, _, _, _, _, _, _, _ => none
 | k + 1, x9, x261000, x261001, x263000, x263001, x264000, x264001, x265000, x265001 => (overfallref01_Less.f x264000 x264001 x265000 x265001).bind fun t273 => (if t273 = true then (overfallref01_Div.l0 k (wrap64 (x9 - 1)) x261000 x261001 x263000 x263001 x264000 x264001 x265000 x265001) else ((overfallref01_Sub.f k x264000 x264001 x265000 x265001).bind fun bt274 => ((overfallref01_Add.f k x263000 x263001 0 1).bind fun bt277 => (overfallref01_Div.l0 k (wrap64 (x9 - 1)) x261000 x261001 bt277.1 bt277.2.1 bt274.1 bt274.2.1 x265000 x265001))))
end
def overfallref01_Div.f (k : Nat) (a0_0 : Int) (a0_1 : Int) (a1 : Int) : Option (Int × Int × Int) := if a1 = 0 then (some (0, 0, 0)) else (overfallref01_Div.l0 k 127 a0_0 a0_1 0 0 0 0 0 a1)
theorem overfallref01_Div.mono_l : ∀ k, (∀ y0 y1 y2 y3 y4 y5 y6 y7 y8, LeO (overfallref01_Div.l0 k y0 y1 y2 y3 y4 y5 y6 y7 y8) (overfallref01_Div.l0 (k + 1) y0 y1 y2 y3 y4 y5 y6 y7 y8)) ∧ (∀ y0 y1 y2 y3 y4 y5 y6 y7 y8, LeO (overfallref01_Div.j1 k y0 y1 y2 y3 y4 y5 y6 y7 y8) (overfallref01_Div.j1 (k + 1) y0 y1 y2 y3 y4 y5 y6 y7 y8))
 | 0 => ⟨fun _ _ _ _ _ _ _ _ _ r h => by simp [overfallref01_Div.l0] at h, fun _ _ _ _ _ _ _ _ _ r h => by simp [overfallref01_Div.j1] at h⟩
 | k + 1 => by
  obtain ⟨ih0, ih1⟩ := overfallref01_Div.mono_l k
  refine ⟨?_, ?_⟩
  ·intro y0 y1 y2 y3 y4 y5 y6 y7 y8
   unfold overfallref01_Div.l0
   repeat' first
   | (with_reducible exact ih0 _ _ _ _ _ _ _ _ _)
   | (with_reducible exact ih1 _ _ _ _ _ _ _ _ _)
   | (with_reducible exact overfallref01_Add.mono _ _ _ _ _)
   | (with_reducible exact overfallref01_Bit.mono _ _ _ _)
   | (with_reducible exact overfallref01_Sub.mono _ _ _ _ _)
   | (with_reducible exact overfallref01_Twice.mono _ _ _)
   | (with_reducible exact LeO.refl _)
   | (with_reducible exact LeO.none _)
   | (with_reducible refine LeO.ite ?_ ?_)
   | (with_reducible refine LeO.bind ?_ (fun _ => ?_))
   | exact ih0 _ _ _ _ _ _ _ _ _
   | exact ih1 _ _ _ _ _ _ _ _ _
   | exact overfallref01_Add.mono _ _ _ _ _
   | exact overfallref01_Bit.mono _ _ _ _
   | exact overfallref01_Sub.mono _ _ _ _ _
   | exact overfallref01_Twice.mono _ _ _
   | exact LeO.none _
   | refine LeO.ite ?_ ?_
   | refine LeO.bind ?_ (fun _ => ?_)
  ·intro y0 y1 y2 y3 y4 y5 y6 y7 y8
   unfold overfallref01_Div.j1
   repeat' first
   | (with_reducible exact ih0 _ _ _ _ _ _ _ _ _)
   | (with_reducible exact ih1 _ _ _ _ _ _ _ _ _)
   | (with_reducible exact overfallref01_Add.mono _ _ _ _ _)
   | (with_reducible exact overfallref01_Bit.mono _ _ _ _)
   | (with_reducible exact overfallref01_Sub.mono _ _ _ _ _)
   | (with_reducible exact overfallref01_Twice.mono _ _ _)
   | (with_reducible exact LeO.refl _)
   | (with_reducible exact LeO.none _)
   | (with_reducible refine LeO.ite ?_ ?_)
   | (with_reducible refine LeO.bind ?_ (fun _ => ?_))
   | exact ih0 _ _ _ _ _ _ _ _ _
   | exact ih1 _ _ _ _ _ _ _ _ _
   | exact overfallref01_Add.mono _ _ _ _ _
   | exact overfallref01_Bit.mono _ _ _ _
   | exact overfallref01_Sub.mono _ _ _ _ _
   | exact overfallref01_Twice.mono _ _ _
   | exact LeO.none _
   | refine LeO.ite ?_ ?_
   | refine LeO.bind ?_ (fun _ => ?_)
theorem overfallref01_Div.mono : ∀ a0 a1 a2 k, LeO (overfallref01_Div.f k a0 a1 a2) (overfallref01_Div.f (k + 1) a0 a1 a2) := by
 intro a0 a1 a2 k
 obtain ⟨ih0, ih1⟩ := overfallref01_Div.mono_l k
 unfold overfallref01_Div.f
 repeat' first
   | (with_reducible exact ih0 _ _ _ _ _ _ _ _ _)
   | (with_reducible exact ih1 _ _ _ _ _ _ _ _ _)
   | (with_reducible exact overfallref01_Add.mono _ _ _ _ _)
   | (with_reducible exact overfallref01_Bit.mono _ _ _ _)
   | (with_reducible exact overfallref01_Sub.mono _ _ _ _ _)
   | (with_reducible exact overfallref01_Twice.mono _ _ _)
   | (with_reducible exact LeO.refl _)
   | (with_reducible exact LeO.none _)
   | (with_reducible refine LeO.ite ?_ ?_)
   | (with_reducible refine LeO.bind ?_ (fun _ => ?_))
   | exact ih0 _ _ _ _ _ _ _ _ _
   | exact ih1 _ _ _ _ _ _ _ _ _
   | exact overfallref01_Add.mono _ _ _ _ _
   | exact overfallref01_Bit.mono _ _ _ _
   | exact overfallref01_Sub.mono _ _ _ _ _
   | exact overfallref01_Twice.mono _ _ _
   | exact LeO.none _
   | refine LeO.ite ?_ ?_
   | refine LeO.bind ?_ (fun _ => ?_)
set_option maxHeartbeats 8000000 in
set_option maxRecDepth 100000 in
theorem overfallref01_Div.calls (k : Nat) (a0_0 : Int) (a0_1 : Int) (a1 : Int) (r1 : Int) (r2 : Int) (r3 : Int) (w : World) (h : overfallref01_Div.f k a0_0 a0_1 a1 = some (r1, r2, r3)) :
  Calls Try.prog 32 #[.agg #[.int .u64 a0_0, .int .u64 a0_1], .int .u64 a1] w fun e w' => e = .returned (.tuple #[.agg #[.int .u64 r1, .int .u64 r2], .int .u64 r3]) ∧ Below w.heap.size w w' := by
 have hu54 := Try.underlying54
 have HB := Aside0.mk (Below.refl w.heap.size w)
 have H : (if a1 = 0 then (some (0, 0, 0)) else (overfallref01_Div.l0 k 127 a0_0 a0_1 0 0 0 0 0 a1)) = some (r1, r2, r3) := h
 clear h
 by_cases c3 : a1 = 0
 ·rw [if_pos c3] at H
  have c3b0 : (a1 == 0) = true := beq_iff_eq.mpr c3
  have c3b1 : (a1 != 0) = false := bne_eq_false_iff_eq.mpr c3
  clear c3
  simp only [Option.some.injEq, Prod.mk.injEq] at H
  obtain ⟨rfl, rfl, rfl⟩ := H
  go_enter Try.func32, Try.ntmps32
  go_wp2_with (first | ((with_reducible refine gate_dst (N := 2) rfl ?_); refine box_event ?hg (N := 2) ?hd (cs := #[.int .u64 a0_0, .int .u64 a0_1]) (t := 54) ?hr ?_; (case hd => rfl); (case hg => rfl); (case hr => first | (go_simp; done) | (go_simp; rfl)); intro gb260 hg w4 hbox hb; have n0_ := Aside0.mk (below_step (by repeat (first | (with_reducible first | exact HB.out | apply below_alloc | apply pw_below_drewN | apply below_drew1) | exact HB.out)) hb); have n1_ := Aside0.mk (hbox); have n2_ := Aside0.mk ((by rw [hg]; exact (below_size (by repeat (first | (with_reducible first | exact HB.out | apply below_alloc | apply pw_below_drewN | apply below_drew1) | exact HB.out))) : w.heap.size ≤ gb260)); have n3_ := Aside0.mk ((by rw [hg]; exact (below_size (by repeat (first | (with_reducible first | exact HB.out | apply below_alloc | apply pw_below_drewN | apply below_drew1) | exact HB.out))) : w.heap.size ≤ gb260)); clear HB; have HB := n0_; have BK260 := n1_; have GW260 := n2_; have GE260 := n3_; clear n0_ n1_ n2_ n3_; clear hb hbox hg) | ((with_reducible refine gate_dst (N := 4) rfl ?_); refine box_event ?hg (N := 4) ?hd (cs := #[.int .u64 0, .int .u64 0]) (t := 54) ?hr ?_; (case hd => rfl); (case hg => rfl); (case hr => first | (go_simp; done) | (go_simp; rfl)); intro gb261 hg w5 hbox hb; have n0_ := Aside0.mk (blk_below (by exact BK260.out) hb); have n1_ := Aside0.mk (below_step (by repeat (first | (with_reducible first | exact HB.out | apply below_alloc | apply pw_below_drewN | apply below_drew1 | refine below_set ?_ GE260.out) | exact HB.out)) hb); have n2_ := Aside0.mk (hbox); have n3_ := Aside0.mk ((by rw [hg]; exact (below_size (by repeat (first | (with_reducible first | exact HB.out | apply below_alloc | apply pw_below_drewN | apply below_drew1 | refine below_set ?_ GE260.out) | exact HB.out))) : w.heap.size ≤ gb261)); have n4_ := Aside0.mk ((by rw [hg]; exact (below_size (by repeat (first | (with_reducible first | exact HB.out | apply below_alloc | apply pw_below_drewN | apply below_drew1 | refine below_set ?_ GE260.out) | exact HB.out))) : w.heap.size ≤ gb261)); have n5_ := Aside0.mk ((by rw [hg]; exact Nat.ne_of_lt (blk_lt (by exact BK260.out)) : gb260 ≠ gb261)); have n6_ := Aside0.mk ((by rw [hg]; exact Nat.ne_of_gt (blk_lt (by exact BK260.out)) : gb261 ≠ gb260)); clear BK260; clear HB; have BK260 := n0_; have HB := n1_; have BK261 := n2_; have GW261 := n3_; have GE261 := n4_; have NB260_261 := n5_; have NB261_260 := n6_; clear n0_ n1_ n2_ n3_ n4_ n5_ n6_; clear hb hbox hg; have hnb6 := NB261_260.out; have hnc6 := NB260_261.out; have hcz7_0 : w5.cell? ⟨gb261, 0, none⟩ = some (.int .u64 0) := (blk_cell BK261.out 0).trans rfl; have hcz7_1 : w5.cell? ⟨gb261, 1, none⟩ = some (.int .u64 0) := (blk_cell BK261.out 1).trans rfl; have hfz7_0 := blk_frozen BK261.out 0; have hfz7_1 := blk_frozen BK261.out 1))
  refine bodyPost_ret (results_ct rfl _ _ gb261 54 #[.int .u64 0, .int .u64 0] (0, 0) _ rfl (by refine blk_put (cs := #[.int .u64 0, .int .u64 0]) ?_ 1 _ rfl; refine blk_put (cs := #[.int .u64 0, .int .u64 0]) ?_ 0 _ rfl; exact BK261.out) Try.underlying54 rfl (by kernel_rfl)) rfl ?_
  exact ⟨by first | rfl | (simp [errW_none, errW_some] <;> rfl) | (simp [*, errW_none, errW_some] <;> rfl), by repeat (first | (with_reducible first | exact HB.out | apply below_alloc | apply pw_below_drewN | apply below_drew1 | refine below_set ?_ GE260.out | refine below_set ?_ GE261.out) | exact HB.out)⟩
 ·rw [if_neg c3] at H
  have c3b0 : (a1 == 0) = false := beq_eq_false_iff_ne.mpr c3
  have c3b1 : (a1 != 0) = true := bne_iff_ne.mpr c3
  have H' := Aside0.mk H
  clear H
  go_enter Try.func32, Try.ntmps32
  go_wp2_with (first | ((with_reducible refine gate_dst (N := 2) rfl ?_); refine box_event ?hg (N := 2) ?hd (cs := #[.int .u64 a0_0, .int .u64 a0_1]) (t := 54) ?hr ?_; (case hd => rfl); (case hg => rfl); (case hr => first | (go_simp; done) | (go_simp; rfl)); intro gb260 hg w8 hbox hb; have n0_ := Aside0.mk (below_step (by repeat (first | (with_reducible first | exact HB.out | apply below_alloc | apply pw_below_drewN | apply below_drew1) | exact HB.out)) hb); have n1_ := Aside0.mk (hbox); have n2_ := Aside0.mk ((by rw [hg]; exact (below_size (by repeat (first | (with_reducible first | exact HB.out | apply below_alloc | apply pw_below_drewN | apply below_drew1) | exact HB.out))) : w.heap.size ≤ gb260)); have n3_ := Aside0.mk ((by rw [hg]; exact (below_size (by repeat (first | (with_reducible first | exact HB.out | apply below_alloc | apply pw_below_drewN | apply below_drew1) | exact HB.out))) : w.heap.size ≤ gb260)); clear HB; have HB := n0_; have BK260 := n1_; have GW260 := n2_; have GE260 := n3_; clear n0_ n1_ n2_ n3_; clear hb hbox hg) | ((with_reducible refine gate_dst (N := 4) rfl ?_); refine box_event ?hg (N := 4) ?hd (cs := #[.int .u64 0, .int .u64 0]) (t := 54) ?hr ?_; (case hd => rfl); (case hg => rfl); (case hr => first | (go_simp; done) | (go_simp; rfl)); intro gb261 hg w9 hbox hb; have n0_ := Aside0.mk (blk_below (by exact BK260.out) hb); have n1_ := Aside0.mk (below_step (by repeat (first | (with_reducible first | exact HB.out | apply below_alloc | apply pw_below_drewN | apply below_drew1 | refine below_set ?_ GE260.out) | exact HB.out)) hb); have n2_ := Aside0.mk (hbox); have n3_ := Aside0.mk ((by rw [hg]; exact (below_size (by repeat (first | (with_reducible first | exact HB.out | apply below_alloc | apply pw_below_drewN | apply below_drew1 | refine below_set ?_ GE260.out) | exact HB.out))) : w.heap.size ≤ gb261)); have n4_ := Aside0.mk ((by rw [hg]; exact (below_size (by repeat (first | (with_reducible first | exact HB.out | apply below_alloc | apply pw_below_drewN | apply below_drew1 | refine below_set ?_ GE260.out) | exact HB.out))) : w.heap.size ≤ gb261)); have n5_ := Aside0.mk ((by rw [hg]; exact Nat.ne_of_lt (blk_lt (by exact BK260.out)) : gb260 ≠ gb261)); have n6_ := Aside0.mk ((by rw [hg]; exact Nat.ne_of_gt (blk_lt (by exact BK260.out)) : gb261 ≠ gb260)); clear BK260; clear HB; have BK260 := n0_; have HB := n1_; have BK261 := n2_; have GW261 := n3_; have GE261 := n4_; have NB260_261 := n5_; have NB261_260 := n6_; clear n0_ n1_ n2_ n3_ n4_ n5_ n6_; clear hb hbox hg) | ((with_reducible refine gate_dst (N := 6) rfl ?_); refine box_event ?hg (N := 6) ?hd (cs := #[.int .u64 0, .int .u64 0]) (t := 54) ?hr ?_; (case hd => rfl); (case hg => rfl); (case hr => first | (go_simp; done) | (go_simp; rfl)); intro gb262 hg w10 hbox hb; have n0_ := Aside0.mk (blk_below (by exact BK260.out) hb); have n1_ := Aside0.mk (blk_below (by exact BK261.out) hb); have n2_ := Aside0.mk (below_step (by repeat (first | (with_reducible first | exact HB.out | apply below_alloc | apply pw_below_drewN | apply below_drew1 | refine below_set ?_ GE260.out | refine below_set ?_ GE261.out) | exact HB.out)) hb); have n3_ := Aside0.mk (hbox); have n4_ := Aside0.mk ((by rw [hg]; exact (below_size (by repeat (first | (with_reducible first | exact HB.out | apply below_alloc | apply pw_below_drewN | apply below_drew1 | refine below_set ?_ GE260.out | refine below_set ?_ GE261.out) | exact HB.out))) : w.heap.size ≤ gb262)); have n5_ := Aside0.mk ((by rw [hg]; exact (below_size (by repeat (first | (with_reducible first | exact HB.out | apply below_alloc | apply pw_below_drewN | apply below_drew1 | refine below_set ?_ GE260.out | refine below_set ?_ GE261.out) | exact HB.out))) : w.heap.size ≤ gb262)); have n6_ := Aside0.mk ((by rw [hg]; exact Nat.ne_of_lt (blk_lt (by exact BK260.out)) : gb260 ≠ gb262)); have n7_ := Aside0.mk ((by rw [hg]; exact Nat.ne_of_gt (blk_lt (by exact BK260.out)) : gb262 ≠ gb260)); have n8_ := Aside0.mk ((by rw [hg]; exact Nat.ne_of_lt (blk_lt (by exact BK261.out)) : gb261 ≠ gb262)); have n9_ := Aside0.mk ((by rw [hg]; exact Nat.ne_of_gt (blk_lt (by exact BK261.out)) : gb262 ≠ gb261)); clear BK260; clear BK261; clear HB; have BK260 := n0_; have BK261 := n1_; have HB := n2_; have BK262 := n3_; have GW262 := n4_; have GE262 := n5_; have NB260_262 := n6_; have NB262_260 := n7_; have NB261_262 := n8_; have NB262_261 := n9_; clear n0_ n1_ n2_ n3_ n4_ n5_ n6_ n7_ n8_ n9_; clear hb hbox hg) | ((with_reducible refine gate_dst (N := 7) rfl ?_); refine box_event ?hg (N := 7) ?hd (cs := #[.int .u64 0, .int .u64 0]) (t := 54) ?hr ?_; (case hd => rfl); (case hg => rfl); (case hr => first | (go_simp; done) | (go_simp; rfl)); intro gb263 hg w11 hbox hb; have n0_ := Aside0.mk (blk_below (by exact BK260.out) hb); have n1_ := Aside0.mk (blk_below (by exact BK261.out) hb); have n2_ := Aside0.mk (blk_below (by exact BK262.out) hb); have n3_ := Aside0.mk (below_step (by repeat (first | (with_reducible first | exact HB.out | apply below_alloc | apply pw_below_drewN | apply below_drew1 | refine below_set ?_ GE260.out | refine below_set ?_ GE261.out | refine below_set ?_ GE262.out) | exact HB.out)) hb); have n4_ := Aside0.mk (hbox); have n5_ := Aside0.mk ((by rw [hg]; exact (below_size (by repeat (first | (with_reducible first | exact HB.out | apply below_alloc | apply pw_below_drewN | apply below_drew1 | refine below_set ?_ GE260.out | refine below_set ?_ GE261.out | refine below_set ?_ GE262.out) | exact HB.out))) : w.heap.size ≤ gb263)); have n6_ := Aside0.mk ((by rw [hg]; exact (below_size (by repeat (first | (with_reducible first | exact HB.out | apply below_alloc | apply pw_below_drewN | apply below_drew1 | refine below_set ?_ GE260.out | refine below_set ?_ GE261.out | refine below_set ?_ GE262.out) | exact HB.out))) : w.heap.size ≤ gb263)); have n7_ := Aside0.mk ((by rw [hg]; exact Nat.ne_of_lt (blk_lt (by exact BK260.out)) : gb260 ≠ gb263)); have n8_ := Aside0.mk ((by rw [hg]; exact Nat.ne_of_gt (blk_lt (by exact BK260.out)) : gb263 ≠ gb260)); have n9_ := Aside0.mk ((by rw [hg]; exact Nat.ne_of_lt (blk_lt (by exact BK261.out)) : gb261 ≠ gb263)); have n10_ := Aside0.mk ((by rw [hg]; exact Nat.ne_of_gt (blk_lt (by exact BK261.out)) : gb263 ≠ gb261)); have n11_ := Aside0.mk ((by rw [hg]; exact Nat.ne_of_lt (blk_lt (by exact BK262.out)) : gb262 ≠ gb263)); have n12_ := Aside0.mk ((by rw [hg]; exact Nat.ne_of_gt (blk_lt (by exact BK262.out)) : gb263 ≠ gb262)); clear BK260; clear BK261; clear BK262; clear HB; have BK260 := n0_; have BK261 := n1_; have BK262 := n2_; have HB := n3_; have BK263 := n4_; have GW263 := n5_; have GE263 := n6_; have NB260_263 := n7_; have NB263_260 := n8_; have NB261_263 := n9_; have NB263_261 := n10_; have NB262_263 := n11_; have NB263_262 := n12_; clear n0_ n1_ n2_ n3_ n4_ n5_ n6_ n7_ n8_ n9_ n10_ n11_ n12_; clear hb hbox hg; have hnb12 := NB262_260.out; have hnc12 := NB260_262.out; have hnb13 := NB262_261.out; have hnc13 := NB261_262.out; have hnb14 := NB262_263.out; have hnc14 := NB263_262.out; have hcz15_0 : w11.cell? ⟨gb262, 0, none⟩ = some (.int .u64 0) := (blk_cell BK262.out 0).trans rfl; have hcz15_1 : w11.cell? ⟨gb262, 1, none⟩ = some (.int .u64 0) := (blk_cell BK262.out 1).trans rfl; have hfz15_0 := blk_frozen BK262.out 0; have hfz15_1 := blk_frozen BK262.out 1; have hnb16 := NB263_260.out; have hnc16 := NB260_263.out; have hnb17 := NB263_261.out; have hnc17 := NB261_263.out; have hcz18_0 : w11.cell? ⟨gb263, 0, none⟩ = some (.int .u64 0) := (blk_cell BK263.out 0).trans rfl; have hcz18_1 : w11.cell? ⟨gb263, 1, none⟩ = some (.int .u64 0) := (blk_cell BK263.out 1).trans rfl; have hfz18_0 := blk_frozen BK263.out 0; have hfz18_1 := blk_frozen BK263.out 1) | ((with_reducible refine gate_dst (N := 8) rfl ?_); refine box_event ?hg (N := 8) ?hd (cs := #[.int .u64 0, .int .u64 0]) (t := 54) ?hr ?_; (case hd => rfl); (case hg => rfl); (case hr => first | (go_simp; done) | (go_simp; rfl)); intro gb264 hg w19 hbox hb; have n0_ := Aside0.mk (blk_below (g := gb260) (o := .cells #[.int .u64 a0_0, .int .u64 a0_1] 54 (0, 0)) (by refine blk_far ?_ NB260_263.out _; refine blk_far ?_ NB260_263.out _; refine blk_far ?_ NB260_262.out _; refine blk_far ?_ NB260_262.out _; exact BK260.out) hb); have n1_ := Aside0.mk (blk_below (g := gb261) (o := .cells #[.int .u64 0, .int .u64 0] 54 (0, 0)) (by refine blk_far ?_ NB261_263.out _; refine blk_far ?_ NB261_263.out _; refine blk_far ?_ NB261_262.out _; refine blk_far ?_ NB261_262.out _; exact BK261.out) hb); have n2_ := Aside0.mk (blk_below (g := gb262) (o := .cells #[.int .u64 0, .int .u64 0] 54 (0, 0)) (by refine blk_far ?_ NB262_263.out _; refine blk_far ?_ NB262_263.out _; refine blk_put (cs := #[.int .u64 0, .int .u64 0]) ?_ 1 _ rfl; refine blk_put (cs := #[.int .u64 0, .int .u64 0]) ?_ 0 _ rfl; exact BK262.out) hb); have n3_ := Aside0.mk (blk_below (g := gb263) (o := .cells #[.int .u64 0, .int .u64 0] 54 (0, 0)) (by refine blk_put (cs := #[.int .u64 0, .int .u64 0]) ?_ 1 _ rfl; refine blk_put (cs := #[.int .u64 0, .int .u64 0]) ?_ 0 _ rfl; refine blk_far ?_ NB263_262.out _; refine blk_far ?_ NB263_262.out _; exact BK263.out) hb); have n4_ := Aside0.mk (below_step (by repeat (first | (with_reducible first | exact HB.out | apply below_alloc | apply pw_below_drewN | apply below_drew1 | refine below_set ?_ GE260.out | refine below_set ?_ GE261.out | refine below_set ?_ GE262.out | refine below_set ?_ GE263.out) | exact HB.out)) hb); have n5_ := Aside0.mk (hbox); have n6_ := Aside0.mk ((by rw [hg]; exact (below_size (by repeat (first | (with_reducible first | exact HB.out | apply below_alloc | apply pw_below_drewN | apply below_drew1 | refine below_set ?_ GE260.out | refine below_set ?_ GE261.out | refine below_set ?_ GE262.out | refine below_set ?_ GE263.out) | exact HB.out))) : w.heap.size ≤ gb264)); have n7_ := Aside0.mk ((by rw [hg]; exact (below_size (by repeat (first | (with_reducible first | exact HB.out | apply below_alloc | apply pw_below_drewN | apply below_drew1 | refine below_set ?_ GE260.out | refine below_set ?_ GE261.out | refine below_set ?_ GE262.out | refine below_set ?_ GE263.out) | exact HB.out))) : w.heap.size ≤ gb264)); have n8_ := Aside0.mk ((by rw [hg]; exact Nat.ne_of_lt (blk_lt (g := gb260) (o := .cells #[.int .u64 a0_0, .int .u64 a0_1] 54 (0, 0)) (by refine blk_far ?_ NB260_263.out _; refine blk_far ?_ NB260_263.out _; refine blk_far ?_ NB260_262.out _; refine blk_far ?_ NB260_262.out _; exact BK260.out)) : gb260 ≠ gb264)); have n9_ := Aside0.mk ((by rw [hg]; exact Nat.ne_of_gt (blk_lt (g := gb260) (o := .cells #[.int .u64 a0_0, .int .u64 a0_1] 54 (0, 0)) (by refine blk_far ?_ NB260_263.out _; refine blk_far ?_ NB260_263.out _; refine blk_far ?_ NB260_262.out _; refine blk_far ?_ NB260_262.out _; exact BK260.out)) : gb264 ≠ gb260)); have n10_ := Aside0.mk ((by rw [hg]; exact Nat.ne_of_lt (blk_lt (g := gb261) (o := .cells #[.int .u64 0, .int .u64 0] 54 (0, 0)) (by refine blk_far ?_ NB261_263.out _; refine blk_far ?_ NB261_263.out _; refine blk_far ?_ NB261_262.out _; refine blk_far ?_ NB261_262.out _; exact BK261.out)) : gb261 ≠ gb264)); have n11_ := Aside0.mk ((by rw [hg]; exact Nat.ne_of_gt (blk_lt (g := gb261) (o := .cells #[.int .u64 0, .int .u64 0] 54 (0, 0)) (by refine blk_far ?_ NB261_263.out _; refine blk_far ?_ NB261_263.out _; refine blk_far ?_ NB261_262.out _; refine blk_far ?_ NB261_262.out _; exact BK261.out)) : gb264 ≠ gb261)); have n12_ := Aside0.mk ((by rw [hg]; exact Nat.ne_of_lt (blk_lt (g := gb262) (o := .cells #[.int .u64 0, .int .u64 0] 54 (0, 0)) (by refine blk_far ?_ NB262_263.out _; refine blk_far ?_ NB262_263.out _; refine blk_put (cs := #[.int .u64 0, .int .u64 0]) ?_ 1 _ rfl; refine blk_put (cs := #[.int .u64 0, .int .u64 0]) ?_ 0 _ rfl; exact BK262.out)) : gb262 ≠ gb264)); have n13_ := Aside0.mk ((by rw [hg]; exact Nat.ne_of_gt (blk_lt (g := gb262) (o := .cells #[.int .u64 0, .int .u64 0] 54 (0, 0)) (by refine blk_far ?_ NB262_263.out _; refine blk_far ?_ NB262_263.out _; refine blk_put (cs := #[.int .u64 0, .int .u64 0]) ?_ 1 _ rfl; refine blk_put (cs := #[.int .u64 0, .int .u64 0]) ?_ 0 _ rfl; exact BK262.out)) : gb264 ≠ gb262)); have n14_ := Aside0.mk ((by rw [hg]; exact Nat.ne_of_lt (blk_lt (g := gb263) (o := .cells #[.int .u64 0, .int .u64 0] 54 (0, 0)) (by refine blk_put (cs := #[.int .u64 0, .int .u64 0]) ?_ 1 _ rfl; refine blk_put (cs := #[.int .u64 0, .int .u64 0]) ?_ 0 _ rfl; refine blk_far ?_ NB263_262.out _; refine blk_far ?_ NB263_262.out _; exact BK263.out)) : gb263 ≠ gb264)); have n15_ := Aside0.mk ((by rw [hg]; exact Nat.ne_of_gt (blk_lt (g := gb263) (o := .cells #[.int .u64 0, .int .u64 0] 54 (0, 0)) (by refine blk_put (cs := #[.int .u64 0, .int .u64 0]) ?_ 1 _ rfl; refine blk_put (cs := #[.int .u64 0, .int .u64 0]) ?_ 0 _ rfl; refine blk_far ?_ NB263_262.out _; refine blk_far ?_ NB263_262.out _; exact BK263.out)) : gb264 ≠ gb263)); clear BK260; clear BK261; clear BK262; clear BK263; clear HB; have BK260 := n0_; have BK261 := n1_; have BK262 := n2_; have BK263 := n3_; have HB := n4_; have BK264 := n5_; have GW264 := n6_; have GE264 := n7_; have NB260_264 := n8_; have NB264_260 := n9_; have NB261_264 := n10_; have NB264_261 := n11_; have NB262_264 := n12_; have NB264_262 := n13_; have NB263_264 := n14_; have NB264_263 := n15_; clear n0_ n1_ n2_ n3_ n4_ n5_ n6_ n7_ n8_ n9_ n10_ n11_ n12_ n13_ n14_ n15_; clear hb hbox hg; have hnb20 := NB264_260.out; have hnc20 := NB260_264.out; have hnb21 := NB264_261.out; have hnc21 := NB261_264.out; have hnb22 := NB264_262.out; have hnc22 := NB262_264.out; have hnb23 := NB264_263.out; have hnc23 := NB263_264.out; have hcz24_0 : w19.cell? ⟨gb264, 0, none⟩ = some (.int .u64 0) := (blk_cell BK264.out 0).trans rfl; have hcz24_1 : w19.cell? ⟨gb264, 1, none⟩ = some (.int .u64 0) := (blk_cell BK264.out 1).trans rfl; have hfz24_0 := blk_frozen BK264.out 0; have hfz24_1 := blk_frozen BK264.out 1))
  go_loopg [9] k (fun kq v9 w' => ∃ (x9_1 : Int) (x263000_1 : Int) (x263001_1 : Int) (x264000_1 : Int) (x264001_1 : Int), v9 = .int .i64 x9_1 ∧ Aside0 (overfallref01_Div.l0 kq x9_1 a0_0 a0_1 x263000_1 x263001_1 x264000_1 x264001_1 0 a1 = some (r1, r2, r3)) ∧ Aside0 (kq ≤ k) ∧ Aside0 (w'.heap[gb260]? = some (.cells #[.int .u64 a0_0, .int .u64 a0_1] 54 (0, 0))) ∧ Aside0 (w'.heap[gb261]? = some (.cells #[.int .u64 0, .int .u64 0] 54 (0, 0))) ∧ Aside0 (w'.heap[gb262]? = some (.cells #[.int .u64 x263000_1, .int .u64 x263001_1] 54 (0, 0))) ∧ Aside0 (w'.heap[gb263]? = some (.cells #[.int .u64 x264000_1, .int .u64 x264001_1] 54 (0, 0))) ∧ Aside0 (w'.heap[gb264]? = some (.cells #[.int .u64 0, .int .u64 a1] 54 (0, 0))) ∧ Aside0 (Below w.heap.size w w'))
  case atStart => exact ⟨(127), (0), (0), (0), (0), (by first | rfl | (simp; done) | (simp [*]; done)), H', ⟨Nat.le_refl _⟩, ⟨by refine blk_far ?_ NB260_264.out _; refine blk_far ?_ NB260_264.out _; exact BK260.out⟩, ⟨by refine blk_far ?_ NB261_264.out _; refine blk_far ?_ NB261_264.out _; exact BK261.out⟩, ⟨by refine blk_far ?_ NB262_264.out _; refine blk_far ?_ NB262_264.out _; exact BK262.out⟩, ⟨by refine blk_far ?_ NB263_264.out _; refine blk_far ?_ NB263_264.out _; exact BK263.out⟩, ⟨by refine blk_put (cs := #[.int .u64 0, .int .u64 0]) ?_ 1 _ rfl; refine blk_put (cs := #[.int .u64 0, .int .u64 0]) ?_ 0 _ rfl; exact BK264.out⟩, ⟨by repeat (first | (with_reducible first | exact HB.out | apply below_alloc | apply pw_below_drewN | apply below_drew1 | refine below_set ?_ GE260.out | refine below_set ?_ GE261.out | refine below_set ?_ GE262.out | refine below_set ?_ GE263.out | refine below_set ?_ GE264.out) | exact HB.out)⟩⟩
  case round =>
   clear H'
   try clear c1
   try clear c2
   try clear p2
   try clear c3
   try clear c3b0
   try clear c3b1
   try clear c6
   try clear c12
   try clear c13
   try clear c14
   try clear c16
   try clear c17
   try clear c20
   try clear c21
   try clear c22
   try clear c23
   try clear hcz15_0
   try clear hcz15_1
   try clear hcz18_0
   try clear hcz18_1
   try clear hcz24_0
   try clear hcz24_1
   try clear hcz7_0
   try clear hcz7_1
   try clear hfz15_0
   try clear hfz15_1
   try clear hfz18_0
   try clear hfz18_1
   try clear hfz24_0
   try clear hfz24_1
   try clear hfz7_0
   try clear hfz7_1
   obtain ⟨x9_1, x263000_1, x263001_1, x264000_1, x264001_1, rfl, HA, HK1, BK260, BK261, BK262, BK263, BK264, HB⟩ := hrel
   cases gk with
   | zero => exact absurd HA.out (by simp [overfallref01_Div.l0])
   | succ k1 =>
    have H := HA.out
    clear HA
    simp only [overfallref01_Div.l0] at H
    by_cases c25 : x9_1 ≥ 0
    ·rw [if_pos c25] at H
     have c25b0 : decide (0 ≤ x9_1) = true := decide_eq_true c25
     clear c25
     replace H := Option.bind_eq_some_iff.mp H
     obtain ⟨⟨t265, t266⟩, A260, H⟩ := H
     replace H : ((overfallref01_Twice.f k1 x264000_1 x264001_1).bind fun bt267 => ((overfallref01_Bit.f k1 a0_0 a0_1 x9_1).bind fun t269 => (if t269 = 1 then ((overfallref01_Add.f k1 bt267.1 bt267.2 0 1).bind fun bt270 => (overfallref01_Div.j1 k1 x9_1 a0_0 a0_1 t265 t266 bt270.1 bt270.2.1 0 a1)) else (overfallref01_Div.j1 k1 x9_1 a0_0 a0_1 t265 t266 bt267.1 bt267.2 0 a1)))) = some (r1, r2, r3) := H
     have A26 := Aside0.mk A260
     clear A260
     replace H := Option.bind_eq_some_iff.mp H
     obtain ⟨⟨t267, t268⟩, A270, H⟩ := H
     replace H : ((overfallref01_Bit.f k1 a0_0 a0_1 x9_1).bind fun t269 => (if t269 = 1 then ((overfallref01_Add.f k1 t267 t268 0 1).bind fun bt270 => (overfallref01_Div.j1 k1 x9_1 a0_0 a0_1 t265 t266 bt270.1 bt270.2.1 0 a1)) else (overfallref01_Div.j1 k1 x9_1 a0_0 a0_1 t265 t266 t267 t268 0 a1))) = some (r1, r2, r3) := H
     have A27 := Aside0.mk A270
     clear A270
     replace H := Option.bind_eq_some_iff.mp H
     obtain ⟨t269, A280, H⟩ := H
     replace H : (if t269 = 1 then ((overfallref01_Add.f k1 t267 t268 0 1).bind fun bt270 => (overfallref01_Div.j1 k1 x9_1 a0_0 a0_1 t265 t266 bt270.1 bt270.2.1 0 a1)) else (overfallref01_Div.j1 k1 x9_1 a0_0 a0_1 t265 t266 t267 t268 0 a1)) = some (r1, r2, r3) := H
     have A28 := Aside0.mk A280
     clear A280
     have HC29 := Aside0.mk H
     clear H
     try go_wp2
     have n0_ := Aside0.mk (blk_drew BK260.out)
     have n1_ := Aside0.mk (blk_drew BK261.out)
     have n2_ := Aside0.mk (blk_drew BK262.out)
     have n3_ := Aside0.mk (blk_drew BK263.out)
     have n4_ := Aside0.mk (blk_drew BK264.out)
     have n5_ := Aside0.mk (below_drew1 HB.out)
     clear BK260
     clear BK261
     clear BK262
     clear BK263
     clear BK264
     clear HB
     have BK260 := n0_
     have BK261 := n1_
     have BK262 := n2_
     have BK263 := n3_
     have BK264 := n4_
     have HB := n5_
     clear n0_ n1_ n2_ n3_ n4_ n5_
     refine start_ (n := 6) (S := fun w' => w'.cell? ⟨gb262, 0, none⟩ = some (.int .u64 x263000_1) ∧ w'.cell? ⟨gb262, 1, none⟩ = some (.int .u64 x263001_1) ∧ w'.cell? ⟨gb263, 0, none⟩ = some (.int .u64 x264000_1) ∧ w'.cell? ⟨gb263, 1, none⟩ = some (.int .u64 x264001_1)) (ds := [4, 5]) #[false, false, false, false, false, false] (by kernel_rfl) rfl rfl ⟨(blk_cell BK262.out 0).trans rfl, (blk_cell BK262.out 1).trans rfl, (blk_cell BK263.out 0).trans rfl, (blk_cell BK263.out 1).trans rfl⟩ (fun hHeld => ?_)
     generalize wr.drew = w30 at BK260 BK261 BK262 BK263 BK264 HB hHeld ⊢
     refine take_ (i := 0) (N := some 21) (v := ?_) (a' := ?_) #[true, false, false, false, false, false] rfl rfl (by kernel_rfl) (fun _ _ _ h => h) (Or.inl ⟨by rfl, ?_⟩) hHeld ?_ ?_
     rotate_left
     ·rintro w' ⟨s0, s1, s2, s3⟩
      go_simp
      with_reducible rfl
     rotate_left
     ·simp only [Act.put, List.setIfInBounds_toArray, List.set_cons_zero, List.set_cons_succ, i64_w, i32_w]
      rfl
     refine take_ (i := 2) (N := some 23) (v := ?_) (a' := ?_) #[true, false, true, false, false, false] rfl rfl (by kernel_rfl) (fun _ _ _ h => h) (Or.inl ⟨by rfl, ?_⟩) hHeld ?_ ?_
     rotate_left
     ·rintro w' ⟨s0, s1, s2, s3⟩
      go_simp
      with_reducible rfl
     rotate_left
     ·simp only [Act.put, List.setIfInBounds_toArray, List.set_cons_zero, List.set_cons_succ, i64_w, i32_w]
      rfl
     refine one_ (i := 1) (N := some 22) #[true, true, true, false, false, false] rfl rfl (by kernel_rfl) (by decide) (fun K hK => ?_)
     refine goes_ Try.func44 (by kernel_rfl) rfl #[.agg #[.int .u64 x263000_1, .int .u64 x263001_1]] (by rfl) rfl rfl (by (try simp only [List.map_toArray, List.map_cons, List.map_nil]); first | done | rfl | (simp only [List.length_drop, List.length_take]; rfl)) ?_
     with_reducible refine (overfallref01_Twice.calls k1 x263000_1 x263001_1 t265 t266 _ A26.out).mono ?_
     rintro e w31 ⟨rfl, hb⟩
     refine ⟨_, rfl, ?_⟩
     have n0_ := Aside0.mk (blk_below (by exact BK260.out) hb)
     have n1_ := Aside0.mk (blk_below (by exact BK261.out) hb)
     have n2_ := Aside0.mk (blk_below (by exact BK262.out) hb)
     have n3_ := Aside0.mk (blk_below (by exact BK263.out) hb)
     have n4_ := Aside0.mk (blk_below (by exact BK264.out) hb)
     have n5_ := Aside0.mk (below_step (by repeat (first | (with_reducible first | exact HB.out | apply below_alloc | apply pw_below_drewN | apply below_drew1 | refine below_set ?_ GE260.out | refine below_set ?_ GE261.out | refine below_set ?_ GE262.out | refine below_set ?_ GE263.out | refine below_set ?_ GE264.out) | exact HB.out)) hb)
     clear BK260
     clear BK261
     clear BK262
     clear BK263
     clear BK264
     clear HB
     have BK260 := n0_
     have BK261 := n1_
     have BK262 := n2_
     have BK263 := n3_
     have BK264 := n4_
     have HB := n5_
     clear n0_ n1_ n2_ n3_ n4_ n5_
     (try clear hb)
     (try clear hb2)
     (try clear hk)
     (try clear hi)
     refine hK.out _ _ ⟨(blk_cell BK262.out 0).trans rfl, (blk_cell BK262.out 1).trans rfl, (blk_cell BK263.out 0).trans rfl, (blk_cell BK263.out 1).trans rfl⟩ (fun hHeld => ?_)
     clear hK K
     refine norm_ (a' := ?_) ?_ ?_
     rotate_left
     ·show Act.put _ (some 22) _ = _
      simp only [Act.put, List.setIfInBounds_toArray, List.set_cons_zero, List.set_cons_succ, i64_w, i32_w]
      rfl
     refine one_ (i := 3) (N := some 24) #[true, true, true, true, false, false] rfl rfl (by kernel_rfl) (by decide) (fun K hK => ?_)
     refine goes_ Try.func44 (by kernel_rfl) rfl #[.agg #[.int .u64 x264000_1, .int .u64 x264001_1]] (by rfl) rfl rfl (by (try simp only [List.map_toArray, List.map_cons, List.map_nil]); first | done | rfl | (simp only [List.length_drop, List.length_take]; rfl)) ?_
     with_reducible refine (overfallref01_Twice.calls k1 x264000_1 x264001_1 t267 t268 _ A27.out).mono ?_
     rintro e w32 ⟨rfl, hb⟩
     refine ⟨_, rfl, ?_⟩
     have n0_ := Aside0.mk (blk_below (by exact BK260.out) hb)
     have n1_ := Aside0.mk (blk_below (by exact BK261.out) hb)
     have n2_ := Aside0.mk (blk_below (by exact BK262.out) hb)
     have n3_ := Aside0.mk (blk_below (by exact BK263.out) hb)
     have n4_ := Aside0.mk (blk_below (by exact BK264.out) hb)
     have n5_ := Aside0.mk (below_step (by repeat (first | (with_reducible first | exact HB.out | apply below_alloc | apply pw_below_drewN | apply below_drew1 | refine below_set ?_ GE260.out | refine below_set ?_ GE261.out | refine below_set ?_ GE262.out | refine below_set ?_ GE263.out | refine below_set ?_ GE264.out) | exact HB.out)) hb)
     clear BK260
     clear BK261
     clear BK262
     clear BK263
     clear BK264
     clear HB
     have BK260 := n0_
     have BK261 := n1_
     have BK262 := n2_
     have BK263 := n3_
     have BK264 := n4_
     have HB := n5_
     clear n0_ n1_ n2_ n3_ n4_ n5_
     (try clear hb)
     (try clear hb2)
     (try clear hk)
     (try clear hi)
     refine hK.out _ _ ⟨(blk_cell BK262.out 0).trans rfl, (blk_cell BK262.out 1).trans rfl, (blk_cell BK263.out 0).trans rfl, (blk_cell BK263.out 1).trans rfl⟩ (fun hHeld => ?_)
     clear hK K
     refine norm_ (a' := ?_) ?_ ?_
     rotate_left
     ·show Act.put _ (some 24) _ = _
      simp only [Act.put, List.setIfInBounds_toArray, List.set_cons_zero, List.set_cons_succ, i64_w, i32_w]
      rfl
     refine last_ (i := 4) (N := none) #[true, true, true, true, true, false] rfl rfl (by kernel_rfl) (by decide) (fun K hK => ?_)
     have hs33 : w32.cell? ⟨gb262, 0, none⟩ = some (.int .u64 x263000_1) := (blk_cell BK262.out 0).trans rfl
     have hfs33 := blk_frozen BK262.out 0
     have hns33_0 := NB260_262.out
     have hns33_1 := NB261_262.out
     have hns33_3 := NB263_262.out
     have hns33_4 := NB264_262.out
     have hms33_0 := NB262_260.out
     have hms33_1 := NB262_261.out
     have hms33_3 := NB262_263.out
     have hms33_4 := NB262_264.out
     have hs34 : w32.cell? ⟨gb262, 1, none⟩ = some (.int .u64 x263001_1) := (blk_cell BK262.out 1).trans rfl
     have hfs34 := blk_frozen BK262.out 1
     have hns34_0 := NB260_262.out
     have hns34_1 := NB261_262.out
     have hns34_3 := NB263_262.out
     have hns34_4 := NB264_262.out
     have hms34_0 := NB262_260.out
     have hms34_1 := NB262_261.out
     have hms34_3 := NB262_263.out
     have hms34_4 := NB262_264.out
     refine skip_ (w1 := ?_) (by rfl) rfl ?_ ?_
     rotate_left
     ·go_simp
      rfl
     refine hK.out _ _ ?_
     clear hK K
     refine last_ (i := 5) (N := none) #[true, true, true, true, true, true] rfl rfl (by kernel_rfl) (by decide) (fun K hK => ?_)
     have hs35 : w32.cell? ⟨gb263, 0, none⟩ = some (.int .u64 x264000_1) := (blk_cell BK263.out 0).trans rfl
     have hfs35 := blk_frozen BK263.out 0
     have hns35_0 := NB260_263.out
     have hns35_1 := NB261_263.out
     have hns35_2 := NB262_263.out
     have hns35_4 := NB264_263.out
     have hms35_0 := NB263_260.out
     have hms35_1 := NB263_261.out
     have hms35_2 := NB263_262.out
     have hms35_4 := NB263_264.out
     have hs36 : w32.cell? ⟨gb263, 1, none⟩ = some (.int .u64 x264001_1) := (blk_cell BK263.out 1).trans rfl
     have hfs36 := blk_frozen BK263.out 1
     have hns36_0 := NB260_263.out
     have hns36_1 := NB261_263.out
     have hns36_2 := NB262_263.out
     have hns36_4 := NB264_263.out
     have hms36_0 := NB263_260.out
     have hms36_1 := NB263_261.out
     have hms36_2 := NB263_262.out
     have hms36_4 := NB263_264.out
     refine skip_ (w1 := ?_) (by rfl) rfl ?_ ?_
     rotate_left
     ·go_simp
      rfl
     refine hK.out _ _ ?_
     clear hK K
     refine done_ (by kernel_rfl) ?_
     have hnb37 := NB260_261.out
     have hnc37 := NB261_260.out
     have hnb38 := NB260_262.out
     have hnc38 := NB262_260.out
     have hnb39 := NB260_263.out
     have hnc39 := NB263_260.out
     have hnb40 := NB260_264.out
     have hnc40 := NB264_260.out
     have hcz41_0 : w32.cell? ⟨gb260, 0, none⟩ = some (.int .u64 a0_0) := (blk_cell BK260.out 0).trans rfl
     have hcz41_1 : w32.cell? ⟨gb260, 1, none⟩ = some (.int .u64 a0_1) := (blk_cell BK260.out 1).trans rfl
     have hfz41_0 := blk_frozen BK260.out 0
     have hfz41_1 := blk_frozen BK260.out 1
     go_upto_if 28 with (first | ((with_reducible refine gate_callee (f := 45) rfl ?_); refine goesL_ (some 27) rfl rfl Try.func45 (by kernel_rfl) rfl #[.agg #[.int .u64 a0_0, .int .u64 a0_1], .int .i64 x9_1] rfl (by (try simp only [List.map_toArray, List.map_cons, List.map_nil]); first | done | rfl | (simp only [List.length_drop, List.length_take]; rfl)) ?_; (with_reducible refine (overfallref01_Bit.calls k1 a0_0 a0_1 x9_1 t269 _ A28.out).mono ?_); rintro e w42 ⟨rfl, hb⟩; refine ⟨_, rfl, ?_⟩; have n0_ := Aside0.mk (blk_below (g := gb260) (o := .cells #[.int .u64 a0_0, .int .u64 a0_1] 54 (0, 0)) (by refine blk_far ?_ NB260_263.out _; refine blk_far ?_ NB260_263.out _; refine blk_far ?_ NB260_262.out _; refine blk_far ?_ NB260_262.out _; exact BK260.out) hb); have n1_ := Aside0.mk (blk_below (g := gb261) (o := .cells #[.int .u64 0, .int .u64 0] 54 (0, 0)) (by refine blk_far ?_ NB261_263.out _; refine blk_far ?_ NB261_263.out _; refine blk_far ?_ NB261_262.out _; refine blk_far ?_ NB261_262.out _; exact BK261.out) hb); have n2_ := Aside0.mk (blk_below (g := gb262) (o := .cells #[.int .u64 t265, .int .u64 t266] 54 (0, 0)) (by refine blk_far ?_ NB262_263.out _; refine blk_far ?_ NB262_263.out _; refine blk_put (cs := #[.int .u64 t265, .int .u64 x263001_1]) ?_ 1 _ rfl; refine blk_put (cs := #[.int .u64 x263000_1, .int .u64 x263001_1]) ?_ 0 _ rfl; exact BK262.out) hb); have n3_ := Aside0.mk (blk_below (g := gb263) (o := .cells #[.int .u64 t267, .int .u64 t268] 54 (0, 0)) (by refine blk_put (cs := #[.int .u64 t267, .int .u64 x264001_1]) ?_ 1 _ rfl; refine blk_put (cs := #[.int .u64 x264000_1, .int .u64 x264001_1]) ?_ 0 _ rfl; refine blk_far ?_ NB263_262.out _; refine blk_far ?_ NB263_262.out _; exact BK263.out) hb); have n4_ := Aside0.mk (blk_below (g := gb264) (o := .cells #[.int .u64 0, .int .u64 a1] 54 (0, 0)) (by refine blk_far ?_ NB264_263.out _; refine blk_far ?_ NB264_263.out _; refine blk_far ?_ NB264_262.out _; refine blk_far ?_ NB264_262.out _; exact BK264.out) hb); have n5_ := Aside0.mk (below_step (by repeat (first | (with_reducible first | exact HB.out | apply below_alloc | apply pw_below_drewN | apply below_drew1 | refine below_set ?_ GE260.out | refine below_set ?_ GE261.out | refine below_set ?_ GE262.out | refine below_set ?_ GE263.out | refine below_set ?_ GE264.out) | exact HB.out)) hb); clear BK260; clear BK261; clear BK262; clear BK263; clear BK264; clear HB; have BK260 := n0_; have BK261 := n1_; have BK262 := n2_; have BK263 := n3_; have BK264 := n4_; have HB := n5_; clear n0_ n1_ n2_ n3_ n4_ n5_; (try clear hb); (try clear hb2); (try clear hk); (try clear hi)))
     (try simp only [Act.put, List.setIfInBounds_toArray, List.set_cons_zero, List.set_cons_succ])
     go_cut [] (fun wc => ∃ (kq : Nat) (x264000_28 : Int) (x264001_28 : Int), Aside0 (overfallref01_Div.j1 kq x9_1 a0_0 a0_1 t265 t266 x264000_28 x264001_28 0 a1 = some (r1, r2, r3)) ∧ Aside0 (kq ≤ k1) ∧ Aside0 (wc.heap[gb260]? = some (.cells #[.int .u64 a0_0, .int .u64 a0_1] 54 (0, 0))) ∧ Aside0 (wc.heap[gb261]? = some (.cells #[.int .u64 0, .int .u64 0] 54 (0, 0))) ∧ Aside0 (wc.heap[gb262]? = some (.cells #[.int .u64 t265, .int .u64 t266] 54 (0, 0))) ∧ Aside0 (wc.heap[gb263]? = some (.cells #[.int .u64 x264000_28, .int .u64 x264001_28] 54 (0, 0))) ∧ Aside0 (wc.heap[gb264]? = some (.cells #[.int .u64 0, .int .u64 a1] 54 (0, 0))) ∧ Aside0 (Below w.heap.size w wc))
     case first =>
      have H := HC29.out
      clear HC29
      by_cases c43 : t269 = 1
      ·rw [if_pos c43] at H
       have c43b0 : (t269 == 1) = true := beq_iff_eq.mpr c43
       have c43b1 : (t269 != 1) = false := bne_eq_false_iff_eq.mpr c43
       clear c43
       (first | rw [c43b0] | (simp only [i64_w, i32_w]; rw [c43b0]) | skip)
       replace H := Option.bind_eq_some_iff.mp H
       obtain ⟨⟨t270, t271, t272⟩, A440, H⟩ := H
       replace H : (overfallref01_Div.j1 k1 x9_1 a0_0 a0_1 t265 t266 t270 t271 0 a1) = some (r1, r2, r3) := H
       have A44 := Aside0.mk A440
       clear A440
       have H' := Aside0.mk H
       clear H
       have hnb45 := NB263_260.out
       have hnc45 := NB260_263.out
       have hnb46 := NB263_261.out
       have hnc46 := NB261_263.out
       have hnb47 := NB263_262.out
       have hnc47 := NB262_263.out
       have hnb48 := NB263_264.out
       have hnc48 := NB264_263.out
       have hcz49_0 : w42.cell? ⟨gb263, 0, none⟩ = some (.int .u64 t267) := (blk_cell BK263.out 0).trans rfl
       have hcz49_1 : w42.cell? ⟨gb263, 1, none⟩ = some (.int .u64 t268) := (blk_cell BK263.out 1).trans rfl
       have hfz49_0 := blk_frozen BK263.out 0
       have hfz49_1 := blk_frozen BK263.out 1
       go_wp2_with (first | ((with_reducible refine gate_callee (f := 35) rfl ?_); refine goesL_ (some 32) rfl rfl Try.func35 (by kernel_rfl) rfl #[.agg #[.int .u64 t267, .int .u64 t268], .agg #[.int .u64 0, .int .u64 1]] rfl (by (try simp only [List.map_toArray, List.map_cons, List.map_nil]); first | done | rfl | (simp only [List.length_drop, List.length_take]; rfl)) ?_; (with_reducible refine (overfallref01_Add.calls k1 t267 t268 0 1 t270 t271 t272 _ A44.out).mono ?_); rintro e w50 ⟨rfl, hb⟩; refine ⟨_, rfl, ?_⟩; have n0_ := Aside0.mk (blk_below (by exact BK260.out) hb); have n1_ := Aside0.mk (blk_below (by exact BK261.out) hb); have n2_ := Aside0.mk (blk_below (by exact BK262.out) hb); have n3_ := Aside0.mk (blk_below (by exact BK263.out) hb); have n4_ := Aside0.mk (blk_below (by exact BK264.out) hb); have n5_ := Aside0.mk (below_step (by repeat (first | (with_reducible first | exact HB.out | apply below_alloc | apply pw_below_drewN | apply below_drew1 | refine below_set ?_ GE260.out | refine below_set ?_ GE261.out | refine below_set ?_ GE262.out | refine below_set ?_ GE263.out | refine below_set ?_ GE264.out) | exact HB.out)) hb); clear BK260; clear BK261; clear BK262; clear BK263; clear BK264; clear HB; have BK260 := n0_; have BK261 := n1_; have BK262 := n2_; have BK263 := n3_; have BK264 := n4_; have HB := n5_; clear n0_ n1_ n2_ n3_ n4_ n5_; (try clear hb); (try clear hb2); (try clear hk); (try clear hi); have hcz51_0 : w50.cell? ⟨gb263, 0, none⟩ = some (.int .u64 t267) := (blk_cell BK263.out 0).trans rfl; have hcz51_1 : w50.cell? ⟨gb263, 1, none⟩ = some (.int .u64 t268) := (blk_cell BK263.out 1).trans rfl; have hfz51_0 := blk_frozen BK263.out 0; have hfz51_1 := blk_frozen BK263.out 1))
       go_meet
       case rel => exact ⟨_, (t270), (t271), H', ⟨by have := HK1.out; first | omega | exact Nat.le_refl _⟩, ⟨by refine blk_far ?_ NB260_263.out _; refine blk_far ?_ NB260_263.out _; exact BK260.out⟩, ⟨by refine blk_far ?_ NB261_263.out _; refine blk_far ?_ NB261_263.out _; exact BK261.out⟩, ⟨by refine blk_far ?_ NB262_263.out _; refine blk_far ?_ NB262_263.out _; exact BK262.out⟩, ⟨by refine blk_put (cs := #[.int .u64 t270, .int .u64 t268]) ?_ 1 _ rfl; refine blk_put (cs := #[.int .u64 t267, .int .u64 t268]) ?_ 0 _ rfl; exact BK263.out⟩, ⟨by refine blk_far ?_ NB264_263.out _; refine blk_far ?_ NB264_263.out _; exact BK264.out⟩, ⟨by repeat (first | (with_reducible first | exact HB.out | apply below_alloc | apply pw_below_drewN | apply below_drew1 | refine below_set ?_ GE260.out | refine below_set ?_ GE261.out | refine below_set ?_ GE262.out | refine below_set ?_ GE263.out | refine below_set ?_ GE264.out) | exact HB.out)⟩⟩
      ·rw [if_neg c43] at H
       have c43b0 : (t269 == 1) = false := beq_eq_false_iff_ne.mpr c43
       have c43b1 : (t269 != 1) = true := bne_iff_ne.mpr c43
       (first | rw [c43b0] | (simp only [i64_w, i32_w]; rw [c43b0]) | skip)
       have H' := Aside0.mk H
       clear H
       go_wp2
       go_meet
       case rel => exact ⟨_, (t267), (t268), H', ⟨by have := HK1.out; first | omega | exact Nat.le_refl _⟩, ⟨by exact BK260.out⟩, ⟨by exact BK261.out⟩, ⟨by exact BK262.out⟩, ⟨by exact BK263.out⟩, ⟨by exact BK264.out⟩, ⟨by repeat (first | (with_reducible first | exact HB.out | apply below_alloc | apply pw_below_drewN | apply below_drew1 | refine below_set ?_ GE260.out | refine below_set ?_ GE261.out | refine below_set ?_ GE262.out | refine below_set ?_ GE263.out | refine below_set ?_ GE264.out) | exact HB.out)⟩⟩
     case rest =>
      clear HC29
      try clear c1
      try clear c2
      try clear p2
      try clear c3
      try clear c3b0
      try clear c3b1
      try clear c4
      try clear c6
      try clear c12
      try clear c13
      try clear c14
      try clear c16
      try clear c17
      try clear c20
      try clear c21
      try clear c22
      try clear c23
      try clear c25
      try clear c25b0
      try clear c32
      try clear c35
      try clear c37
      try clear c38
      try clear c39
      try clear c40
      try clear c43
      try clear c43b0
      try clear c43b1
      try clear c44
      try clear c45
      try clear c46
      try clear c47
      try clear c48
      try clear hcz15_0
      try clear hcz15_1
      try clear hcz18_0
      try clear hcz18_1
      try clear hcz24_0
      try clear hcz24_1
      try clear hcz41_0
      try clear hcz41_1
      try clear hcz49_0
      try clear hcz49_1
      try clear hcz51_0
      try clear hcz51_1
      try clear hcz7_0
      try clear hcz7_1
      try clear hfz15_0
      try clear hfz15_1
      try clear hfz18_0
      try clear hfz18_1
      try clear hfz24_0
      try clear hfz24_1
      try clear hfz41_0
      try clear hfz41_1
      try clear hfz49_0
      try clear hfz49_1
      try clear hfz51_0
      try clear hfz51_1
      try clear hfz7_0
      try clear hfz7_1
      try clear p2
      (try clear BK260); (try clear BK261); (try clear BK262); (try clear BK263); (try clear BK264); (try clear HB)
      obtain ⟨kq, x264000_28, x264001_28, HA, HJ28, BK260, BK261, BK262, BK263, BK264, HB⟩ := hcut
      cases kq with
      | zero => exact absurd HA.out (by simp [overfallref01_Div.j1])
      | succ kj28 =>
       have H := HA.out
       clear HA
       simp only [overfallref01_Div.j1] at H
       replace H := Option.bind_eq_some_iff.mp H
       obtain ⟨t273, A520, H⟩ := H
       replace H : (if t273 = true then (overfallref01_Div.l0 kj28 (wrap64 (x9_1 - 1)) a0_0 a0_1 t265 t266 x264000_28 x264001_28 0 a1) else ((overfallref01_Sub.f kj28 x264000_28 x264001_28 0 a1).bind fun bt274 => ((overfallref01_Add.f kj28 t265 t266 0 1).bind fun bt277 => (overfallref01_Div.l0 kj28 (wrap64 (x9_1 - 1)) a0_0 a0_1 bt277.1 bt277.2.1 bt274.1 bt274.2.1 0 a1)))) = some (r1, r2, r3) := H
       have A52 := Aside0.mk A520
       clear A520
       by_cases c53 : t273 = true
       ·subst c53
        have H1 : (overfallref01_Div.l0 kj28 (wrap64 (x9_1 - 1)) a0_0 a0_1 t265 t266 x264000_28 x264001_28 0 a1) = some (r1, r2, r3) := by rw [if_pos rfl] at H; exact H
        clear H
        have H := H1
        clear H1
        have H' := Aside0.mk H
        clear H
        have hnb54 := NB263_260.out
        have hnc54 := NB260_263.out
        have hnb55 := NB263_261.out
        have hnc55 := NB261_263.out
        have hnb56 := NB263_262.out
        have hnc56 := NB262_263.out
        have hnb57 := NB263_264.out
        have hnc57 := NB264_263.out
        have hcz58_0 : wc.cell? ⟨gb263, 0, none⟩ = some (.int .u64 x264000_28) := (blk_cell BK263.out 0).trans rfl
        have hcz58_1 : wc.cell? ⟨gb263, 1, none⟩ = some (.int .u64 x264001_28) := (blk_cell BK263.out 1).trans rfl
        have hfz58_0 := blk_frozen BK263.out 0
        have hfz58_1 := blk_frozen BK263.out 1
        have hnb59 := NB264_260.out
        have hnc59 := NB260_264.out
        have hnb60 := NB264_261.out
        have hnc60 := NB261_264.out
        have hnb61 := NB264_262.out
        have hnc61 := NB262_264.out
        have hcz62_0 : wc.cell? ⟨gb264, 0, none⟩ = some (.int .u64 0) := (blk_cell BK264.out 0).trans rfl
        have hcz62_1 : wc.cell? ⟨gb264, 1, none⟩ = some (.int .u64 a1) := (blk_cell BK264.out 1).trans rfl
        have hfz62_0 := blk_frozen BK264.out 0
        have hfz62_1 := blk_frozen BK264.out 1
        go_wp2_with (first | ((with_reducible refine gate_callee (f := 37) rfl ?_); refine goesL_ (some 37) rfl rfl Try.func37 (by kernel_rfl) rfl #[.agg #[.int .u64 x264000_28, .int .u64 x264001_28], .agg #[.int .u64 0, .int .u64 a1]] rfl (by (try simp only [List.map_toArray, List.map_cons, List.map_nil]); first | done | rfl | (simp only [List.length_drop, List.length_take]; rfl)) ?_; (with_reducible refine (overfallref01_Less.calls x264000_28 x264001_28 0 a1 true _ A52.out).mono ?_); rintro e w63 ⟨rfl, hb⟩; refine ⟨_, rfl, ?_⟩; have n0_ := Aside0.mk (blk_below (by exact BK260.out) hb); have n1_ := Aside0.mk (blk_below (by exact BK261.out) hb); have n2_ := Aside0.mk (blk_below (by exact BK262.out) hb); have n3_ := Aside0.mk (blk_below (by exact BK263.out) hb); have n4_ := Aside0.mk (blk_below (by exact BK264.out) hb); have n5_ := Aside0.mk (below_step (by repeat (first | (with_reducible first | exact HB.out | apply below_alloc | apply pw_below_drewN | apply below_drew1 | refine below_set ?_ GE260.out | refine below_set ?_ GE261.out | refine below_set ?_ GE262.out | refine below_set ?_ GE263.out | refine below_set ?_ GE264.out) | exact HB.out)) hb); clear BK260; clear BK261; clear BK262; clear BK263; clear BK264; clear HB; have BK260 := n0_; have BK261 := n1_; have BK262 := n2_; have BK263 := n3_; have BK264 := n4_; have HB := n5_; clear n0_ n1_ n2_ n3_ n4_ n5_; (try clear hb); (try clear hb2); (try clear hk); (try clear hi)))
        go_roundg kj28
        case measure => have := HK1.out; have := HJ28.out; omega
        case rel => exact ⟨(wrap64 (x9_1 - 1)), (t265), (t266), (x264000_28), (x264001_28), (by first | rfl | (simp; done) | (simp [*]; done)), H', ⟨by have := HK1.out; have := HJ28.out; omega⟩, ⟨by exact BK260.out⟩, ⟨by exact BK261.out⟩, ⟨by exact BK262.out⟩, ⟨by exact BK263.out⟩, ⟨by exact BK264.out⟩, ⟨by repeat (first | (with_reducible first | exact HB.out | apply below_alloc | apply pw_below_drewN | apply below_drew1 | refine below_set ?_ GE260.out | refine below_set ?_ GE261.out | refine below_set ?_ GE262.out | refine below_set ?_ GE263.out | refine below_set ?_ GE264.out) | exact HB.out)⟩⟩
       ·replace c53 := Bool.eq_false_iff.mpr c53
        subst c53
        have H1 : ((overfallref01_Sub.f kj28 x264000_28 x264001_28 0 a1).bind fun bt274 => ((overfallref01_Add.f kj28 t265 t266 0 1).bind fun bt277 => (overfallref01_Div.l0 kj28 (wrap64 (x9_1 - 1)) a0_0 a0_1 bt277.1 bt277.2.1 bt274.1 bt274.2.1 0 a1))) = some (r1, r2, r3) := by rw [if_neg (show ¬ (false = true) by decide)] at H; exact H
        clear H
        have H := H1
        clear H1
        replace H := Option.bind_eq_some_iff.mp H
        obtain ⟨⟨t274, t275, t276⟩, A640, H⟩ := H
        replace H : ((overfallref01_Add.f kj28 t265 t266 0 1).bind fun bt277 => (overfallref01_Div.l0 kj28 (wrap64 (x9_1 - 1)) a0_0 a0_1 bt277.1 bt277.2.1 t274 t275 0 a1)) = some (r1, r2, r3) := H
        have A64 := Aside0.mk A640
        clear A640
        replace H := Option.bind_eq_some_iff.mp H
        obtain ⟨⟨t277, t278, t279⟩, A650, H⟩ := H
        replace H : (overfallref01_Div.l0 kj28 (wrap64 (x9_1 - 1)) a0_0 a0_1 t277 t278 t274 t275 0 a1) = some (r1, r2, r3) := H
        have A65 := Aside0.mk A650
        clear A650
        have H' := Aside0.mk H
        clear H
        have hnb66 := NB263_260.out
        have hnc66 := NB260_263.out
        have hnb67 := NB263_261.out
        have hnc67 := NB261_263.out
        have hnb68 := NB263_262.out
        have hnc68 := NB262_263.out
        have hnb69 := NB263_264.out
        have hnc69 := NB264_263.out
        have hcz70_0 : wc.cell? ⟨gb263, 0, none⟩ = some (.int .u64 x264000_28) := (blk_cell BK263.out 0).trans rfl
        have hcz70_1 : wc.cell? ⟨gb263, 1, none⟩ = some (.int .u64 x264001_28) := (blk_cell BK263.out 1).trans rfl
        have hfz70_0 := blk_frozen BK263.out 0
        have hfz70_1 := blk_frozen BK263.out 1
        have hnb71 := NB264_260.out
        have hnc71 := NB260_264.out
        have hnb72 := NB264_261.out
        have hnc72 := NB261_264.out
        have hnb73 := NB264_262.out
        have hnc73 := NB262_264.out
        have hcz74_0 : wc.cell? ⟨gb264, 0, none⟩ = some (.int .u64 0) := (blk_cell BK264.out 0).trans rfl
        have hcz74_1 : wc.cell? ⟨gb264, 1, none⟩ = some (.int .u64 a1) := (blk_cell BK264.out 1).trans rfl
        have hfz74_0 := blk_frozen BK264.out 0
        have hfz74_1 := blk_frozen BK264.out 1
        go_wp2_with (first | ((with_reducible refine gate_callee (f := 37) rfl ?_); refine goesL_ (some 37) rfl rfl Try.func37 (by kernel_rfl) rfl #[.agg #[.int .u64 x264000_28, .int .u64 x264001_28], .agg #[.int .u64 0, .int .u64 a1]] rfl (by (try simp only [List.map_toArray, List.map_cons, List.map_nil]); first | done | rfl | (simp only [List.length_drop, List.length_take]; rfl)) ?_; (with_reducible refine (overfallref01_Less.calls x264000_28 x264001_28 0 a1 false _ A52.out).mono ?_); rintro e w75 ⟨rfl, hb⟩; refine ⟨_, rfl, ?_⟩; have n0_ := Aside0.mk (blk_below (by exact BK260.out) hb); have n1_ := Aside0.mk (blk_below (by exact BK261.out) hb); have n2_ := Aside0.mk (blk_below (by exact BK262.out) hb); have n3_ := Aside0.mk (blk_below (by exact BK263.out) hb); have n4_ := Aside0.mk (blk_below (by exact BK264.out) hb); have n5_ := Aside0.mk (below_step (by repeat (first | (with_reducible first | exact HB.out | apply below_alloc | apply pw_below_drewN | apply below_drew1 | refine below_set ?_ GE260.out | refine below_set ?_ GE261.out | refine below_set ?_ GE262.out | refine below_set ?_ GE263.out | refine below_set ?_ GE264.out) | exact HB.out)) hb); clear BK260; clear BK261; clear BK262; clear BK263; clear BK264; clear HB; have BK260 := n0_; have BK261 := n1_; have BK262 := n2_; have BK263 := n3_; have BK264 := n4_; have HB := n5_; clear n0_ n1_ n2_ n3_ n4_ n5_; (try clear hb); (try clear hb2); (try clear hk); (try clear hi); have hcz76_0 : w75.cell? ⟨gb263, 0, none⟩ = some (.int .u64 x264000_28) := (blk_cell BK263.out 0).trans rfl; have hcz76_1 : w75.cell? ⟨gb263, 1, none⟩ = some (.int .u64 x264001_28) := (blk_cell BK263.out 1).trans rfl; have hfz76_0 := blk_frozen BK263.out 0; have hfz76_1 := blk_frozen BK263.out 1; have hcz77_0 : w75.cell? ⟨gb264, 0, none⟩ = some (.int .u64 0) := (blk_cell BK264.out 0).trans rfl; have hcz77_1 : w75.cell? ⟨gb264, 1, none⟩ = some (.int .u64 a1) := (blk_cell BK264.out 1).trans rfl; have hfz77_0 := blk_frozen BK264.out 0; have hfz77_1 := blk_frozen BK264.out 1) | ((with_reducible refine gate_callee (f := 38) rfl ?_); refine goesL_ (some 42) rfl rfl Try.func38 (by kernel_rfl) rfl #[.agg #[.int .u64 x264000_28, .int .u64 x264001_28], .agg #[.int .u64 0, .int .u64 a1]] rfl (by (try simp only [List.map_toArray, List.map_cons, List.map_nil]); first | done | rfl | (simp only [List.length_drop, List.length_take]; rfl)) ?_; (with_reducible refine (overfallref01_Sub.calls kj28 x264000_28 x264001_28 0 a1 t274 t275 t276 _ A64.out).mono ?_); rintro e w78 ⟨rfl, hb⟩; refine ⟨_, rfl, ?_⟩; have n0_ := Aside0.mk (blk_below (by exact BK260.out) hb); have n1_ := Aside0.mk (blk_below (by exact BK261.out) hb); have n2_ := Aside0.mk (blk_below (by exact BK262.out) hb); have n3_ := Aside0.mk (blk_below (by exact BK263.out) hb); have n4_ := Aside0.mk (blk_below (by exact BK264.out) hb); have n5_ := Aside0.mk (below_step (by repeat (first | (with_reducible first | exact HB.out | apply below_alloc | apply pw_below_drewN | apply below_drew1 | refine below_set ?_ GE260.out | refine below_set ?_ GE261.out | refine below_set ?_ GE262.out | refine below_set ?_ GE263.out | refine below_set ?_ GE264.out) | exact HB.out)) hb); clear BK260; clear BK261; clear BK262; clear BK263; clear BK264; clear HB; have BK260 := n0_; have BK261 := n1_; have BK262 := n2_; have BK263 := n3_; have BK264 := n4_; have HB := n5_; clear n0_ n1_ n2_ n3_ n4_ n5_; (try clear hb); (try clear hb2); (try clear hk); (try clear hi); have hcz79_0 : w78.cell? ⟨gb263, 0, none⟩ = some (.int .u64 x264000_28) := (blk_cell BK263.out 0).trans rfl; have hcz79_1 : w78.cell? ⟨gb263, 1, none⟩ = some (.int .u64 x264001_28) := (blk_cell BK263.out 1).trans rfl; have hfz79_0 := blk_frozen BK263.out 0; have hfz79_1 := blk_frozen BK263.out 1; have hnb80 := NB262_260.out; have hnc80 := NB260_262.out; have hnb81 := NB262_261.out; have hnc81 := NB261_262.out; have hcz82_0 : w78.cell? ⟨gb262, 0, none⟩ = some (.int .u64 t265) := (blk_cell BK262.out 0).trans rfl; have hcz82_1 : w78.cell? ⟨gb262, 1, none⟩ = some (.int .u64 t266) := (blk_cell BK262.out 1).trans rfl; have hfz82_0 := blk_frozen BK262.out 0; have hfz82_1 := blk_frozen BK262.out 1) | ((with_reducible refine gate_callee (f := 35) rfl ?_); refine goesL_ (some 48) rfl rfl Try.func35 (by kernel_rfl) rfl #[.agg #[.int .u64 t265, .int .u64 t266], .agg #[.int .u64 0, .int .u64 1]] rfl (by (try simp only [List.map_toArray, List.map_cons, List.map_nil]); first | done | rfl | (simp only [List.length_drop, List.length_take]; rfl)) ?_; (with_reducible refine (overfallref01_Add.calls kj28 t265 t266 0 1 t277 t278 t279 _ A65.out).mono ?_); rintro e w83 ⟨rfl, hb⟩; refine ⟨_, rfl, ?_⟩; have n0_ := Aside0.mk (blk_below (g := gb260) (o := .cells #[.int .u64 a0_0, .int .u64 a0_1] 54 (0, 0)) (by refine blk_far ?_ NB260_263.out _; refine blk_far ?_ NB260_263.out _; exact BK260.out) hb); have n1_ := Aside0.mk (blk_below (g := gb261) (o := .cells #[.int .u64 0, .int .u64 0] 54 (0, 0)) (by refine blk_far ?_ NB261_263.out _; refine blk_far ?_ NB261_263.out _; exact BK261.out) hb); have n2_ := Aside0.mk (blk_below (g := gb262) (o := .cells #[.int .u64 t265, .int .u64 t266] 54 (0, 0)) (by refine blk_far ?_ NB262_263.out _; refine blk_far ?_ NB262_263.out _; exact BK262.out) hb); have n3_ := Aside0.mk (blk_below (g := gb263) (o := .cells #[.int .u64 t274, .int .u64 t275] 54 (0, 0)) (by refine blk_put (cs := #[.int .u64 t274, .int .u64 x264001_28]) ?_ 1 _ rfl; refine blk_put (cs := #[.int .u64 x264000_28, .int .u64 x264001_28]) ?_ 0 _ rfl; exact BK263.out) hb); have n4_ := Aside0.mk (blk_below (g := gb264) (o := .cells #[.int .u64 0, .int .u64 a1] 54 (0, 0)) (by refine blk_far ?_ NB264_263.out _; refine blk_far ?_ NB264_263.out _; exact BK264.out) hb); have n5_ := Aside0.mk (below_step (by repeat (first | (with_reducible first | exact HB.out | apply below_alloc | apply pw_below_drewN | apply below_drew1 | refine below_set ?_ GE260.out | refine below_set ?_ GE261.out | refine below_set ?_ GE262.out | refine below_set ?_ GE263.out | refine below_set ?_ GE264.out) | exact HB.out)) hb); clear BK260; clear BK261; clear BK262; clear BK263; clear BK264; clear HB; have BK260 := n0_; have BK261 := n1_; have BK262 := n2_; have BK263 := n3_; have BK264 := n4_; have HB := n5_; clear n0_ n1_ n2_ n3_ n4_ n5_; (try clear hb); (try clear hb2); (try clear hk); (try clear hi); have hcz84_0 : w83.cell? ⟨gb262, 0, none⟩ = some (.int .u64 t265) := (blk_cell BK262.out 0).trans rfl; have hcz84_1 : w83.cell? ⟨gb262, 1, none⟩ = some (.int .u64 t266) := (blk_cell BK262.out 1).trans rfl; have hfz84_0 := blk_frozen BK262.out 0; have hfz84_1 := blk_frozen BK262.out 1))
        go_roundg kj28
        case measure => have := HK1.out; have := HJ28.out; omega
        case rel => exact ⟨(wrap64 (x9_1 - 1)), (t277), (t278), (t274), (t275), (by first | rfl | (simp; done) | (simp [*]; done)), H', ⟨by have := HK1.out; have := HJ28.out; omega⟩, ⟨by refine blk_far ?_ NB260_262.out _; refine blk_far ?_ NB260_262.out _; exact BK260.out⟩, ⟨by refine blk_far ?_ NB261_262.out _; refine blk_far ?_ NB261_262.out _; exact BK261.out⟩, ⟨by refine blk_put (cs := #[.int .u64 t277, .int .u64 t266]) ?_ 1 _ rfl; refine blk_put (cs := #[.int .u64 t265, .int .u64 t266]) ?_ 0 _ rfl; exact BK262.out⟩, ⟨by refine blk_far ?_ NB263_262.out _; refine blk_far ?_ NB263_262.out _; exact BK263.out⟩, ⟨by refine blk_far ?_ NB264_262.out _; refine blk_far ?_ NB264_262.out _; exact BK264.out⟩, ⟨by repeat (first | (with_reducible first | exact HB.out | apply below_alloc | apply pw_below_drewN | apply below_drew1 | refine below_set ?_ GE260.out | refine below_set ?_ GE261.out | refine below_set ?_ GE262.out | refine below_set ?_ GE263.out | refine below_set ?_ GE264.out) | exact HB.out)⟩⟩
    ·rw [if_neg c25] at H
     have c25b0 : decide (0 ≤ x9_1) = false := decide_eq_false c25
     clear c25
     simp only [Option.some.injEq, Prod.mk.injEq] at H
     obtain ⟨rfl, rfl, rfl⟩ := H
     try go_wp2
     have n0_ := Aside0.mk (blk_drew BK260.out)
     have n1_ := Aside0.mk (blk_drew BK261.out)
     have n2_ := Aside0.mk (blk_drew BK262.out)
     have n3_ := Aside0.mk (blk_drew BK263.out)
     have n4_ := Aside0.mk (blk_drew BK264.out)
     have n5_ := Aside0.mk (below_drew1 HB.out)
     clear BK260
     clear BK261
     clear BK262
     clear BK263
     clear BK264
     clear HB
     have BK260 := n0_
     have BK261 := n1_
     have BK262 := n2_
     have BK263 := n3_
     have BK264 := n4_
     have HB := n5_
     clear n0_ n1_ n2_ n3_ n4_ n5_
     refine start_ (n := 5) (S := fun w' => w'.cell? ⟨gb262, 0, none⟩ = some (.int .u64 x263000_1) ∧ w'.cell? ⟨gb262, 1, none⟩ = some (.int .u64 x263001_1) ∧ w'.cell? ⟨gb263, 0, none⟩ = some (.int .u64 x264000_1) ∧ w'.cell? ⟨gb263, 1, none⟩ = some (.int .u64 x264001_1)) (ds := []) #[false, false, false, false, false] (by kernel_rfl) rfl rfl ⟨(blk_cell BK262.out 0).trans rfl, (blk_cell BK262.out 1).trans rfl, (blk_cell BK263.out 0).trans rfl, (blk_cell BK263.out 1).trans rfl⟩ (fun hHeld => ?_)
     generalize wr.drew = w85 at BK260 BK261 BK262 BK263 BK264 HB hHeld ⊢
     refine pure_ (i := 1) (N := some 52) (v := ?_) (a' := ?_) #[false, true, false, false, false] rfl rfl (by kernel_rfl) (fun _ _ _ h => h) (Or.inl ⟨by rfl, ?_⟩) ?_ ?_
     rotate_left
     ·intro w'
      go_simp
      with_reducible rfl
     rotate_left
     ·simp only [Act.put, List.setIfInBounds_toArray, List.set_cons_zero, List.set_cons_succ, i64_w, i32_w]
      rfl
     refine take_ (i := 0) (N := some 51) (v := ?_) (a' := ?_) #[true, true, false, false, false] rfl rfl (by kernel_rfl) (fun _ _ _ h => h) (Or.inl ⟨by rfl, ?_⟩) hHeld ?_ ?_
     rotate_left
     ·rintro w' ⟨s0, s1, s2, s3⟩
      go_simp
      with_reducible rfl
     rotate_left
     ·simp only [Act.put, List.setIfInBounds_toArray, List.set_cons_zero, List.set_cons_succ, i64_w, i32_w]
      rfl
     refine take_ (i := 2) (N := some 53) (v := ?_) (a' := ?_) #[true, true, true, false, false] rfl rfl (by kernel_rfl) (fun _ _ _ h => h) (Or.inl ⟨by rfl, ?_⟩) hHeld ?_ ?_
     rotate_left
     ·rintro w' ⟨s0, s1, s2, s3⟩
      go_simp
      with_reducible rfl
     rotate_left
     ·simp only [Act.put, List.setIfInBounds_toArray, List.set_cons_zero, List.set_cons_succ, i64_w, i32_w]
      rfl
     refine one_ (i := 3) (N := none) #[true, true, true, true, false] rfl rfl (by kernel_rfl) (by decide) (fun K hK => ?_)
     have hs86 : w85.cell? ⟨gb261, 0, none⟩ = some (.int .u64 0) := (blk_cell BK261.out 0).trans rfl
     have hfs86 := blk_frozen BK261.out 0
     have hns86_0 := NB260_261.out
     have hns86_2 := NB262_261.out
     have hns86_3 := NB263_261.out
     have hns86_4 := NB264_261.out
     have hms86_0 := NB261_260.out
     have hms86_2 := NB261_262.out
     have hms86_3 := NB261_263.out
     have hms86_4 := NB261_264.out
     have hs87 : w85.cell? ⟨gb261, 1, none⟩ = some (.int .u64 0) := (blk_cell BK261.out 1).trans rfl
     have hfs87 := blk_frozen BK261.out 1
     have hns87_0 := NB260_261.out
     have hns87_2 := NB262_261.out
     have hns87_3 := NB263_261.out
     have hns87_4 := NB264_261.out
     have hms87_0 := NB261_260.out
     have hms87_2 := NB261_262.out
     have hms87_3 := NB261_263.out
     have hms87_4 := NB261_264.out
     refine skip_ (w1 := ?_) (by rfl) rfl ?_ ?_
     rotate_left
     ·go_simp
      rfl
     refine hK.out _ _ ⟨((cell_far (p := ⟨gb261, _, none⟩) NB262_261.out _).trans (((cell_far (p := ⟨gb261, _, none⟩) NB262_261.out _).trans (hHeld.1)))), ((cell_far (p := ⟨gb261, _, none⟩) NB262_261.out _).trans (((cell_far (p := ⟨gb261, _, none⟩) NB262_261.out _).trans (hHeld.2.1)))), ((cell_far (p := ⟨gb261, _, none⟩) NB263_261.out _).trans (((cell_far (p := ⟨gb261, _, none⟩) NB263_261.out _).trans (hHeld.2.2.1)))), ((cell_far (p := ⟨gb261, _, none⟩) NB263_261.out _).trans (((cell_far (p := ⟨gb261, _, none⟩) NB263_261.out _).trans (hHeld.2.2.2))))⟩ (fun hHeld => ?_)
     clear hK K
     refine pure_ (i := 4) (N := some 5) (v := ?_) (a' := ?_) #[true, true, true, true, true] rfl rfl (by kernel_rfl) (fun _ _ _ h => h) (Or.inl ⟨by rfl, ?_⟩) ?_ ?_
     rotate_left
     ·intro w'
      go_simp
      with_reducible rfl
     rotate_left
     ·simp only [Act.put, List.setIfInBounds_toArray, List.set_cons_zero, List.set_cons_succ, i64_w, i32_w]
      rfl
     refine done_ (by kernel_rfl) ?_
     try go_wp2
     refine bodyPost_ret (results_ct rfl _ _ gb261 54 #[.int .u64 x263000_1, .int .u64 x263001_1] (0, 0) _ rfl (by refine blk_put (cs := #[.int .u64 x263000_1, .int .u64 0]) ?_ 1 _ rfl; refine blk_put (cs := #[.int .u64 0, .int .u64 0]) ?_ 0 _ rfl; exact BK261.out) Try.underlying54 rfl (by kernel_rfl)) rfl ?_
     exact ⟨by first | rfl | (simp [errW_none, errW_some] <;> rfl) | (simp [*, errW_none, errW_some] <;> rfl), by repeat (first | (with_reducible first | exact HB.out | apply below_alloc | apply pw_below_drewN | apply below_drew1 | refine below_set ?_ GE260.out | refine below_set ?_ GE261.out | refine below_set ?_ GE262.out | refine below_set ?_ GE263.out | refine below_set ?_ GE264.out) | exact HB.out)⟩

end Go.Proofs.Ythmapfhemiamhaa.S

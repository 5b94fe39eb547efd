-- Laid by a program of this claim's session (wip/tools/myprint.py) over the kit's printer.
import Derived.Test.YthmapfhemiamhaaSx0
import Derived.Test.YthmapfhemiamhaaSx1
import Derived.Test.YthmapfhemiamhaaSx3
import Derived.Test.YthmapfhemiamhaaSx6
import Derived.Test.YthmapfhemiamhaaSx7
import Derived.Test.YthmapfhemiamhaaSx12
import Derived.Test.YthmapfhemiamhaaSx13
namespace Go.Proofs.Ythmapfhemiamhaa.S
open Go.RowKit Go.Proofs.YthmapfhemiamhaaW.PrintWords Go.Proofs.YthmapfhemiamhaaW.PrintLast Go.Proofs.YthmapfhemiamhaaW.PrintMore
attribute [local go_sem] max2_int min2_int max_two min_two max_three min_three max_four min_four   -- for this text's walks alone
set_option linter.unusedVariables false
set_option linter.unusedSimpArgs false

attribute [local go_sem high] eqA30
/-! ### overfalllaw11_PidSamples: function 3 -/
def overfalllaw11_PidSamples.l0 : Nat → List Int → Int → Int → Int → Int → Int → Int → Int → Int → Int → Int → Int → Int → Int → Int → Int → Option (Bool)
 | 0, _, _, _, _, _, _, _, _, _, _, _, _, _, _, _, _ => none
 | k + 1, x14, x15, x16, x358000, x358001, x358002, x359000, x359001, x359002, x359003, x359004, x359005, x359006, x364000, x364001, x364002 => if x16 < x15 then (if 0 ≤ x16 then (if x16 < (x14.length : Int) then (if x16 ≥ 30 then ((pid_Params_Right.f x359000 x359001 x359002 x359003 x359004 x359005 x359006).bind fun t374 => ((overfalllaw11_own.f x359000 x359001 x359002 x359003 x359004 x359005 x359006).bind fun bt375 => ((overfallref11_Right.f bt375.1 bt375.2.1 bt375.2.2.1 bt375.2.2.2.1 bt375.2.2.2.2.1 bt375.2.2.2.2.2.1 bt375.2.2.2.2.2.2).bind fun t382 => (some (t374 == t382))))) else ((pid_State_Open.f x358000 x358001 x358002 x359000 x359001 x359002 x359003 x359004 x359005 x359006 (rd x14 x16)).bind fun t383 => (if (t383 != (decide ((rd x14 x16) > x359000))) = true then (none) else ((pid_State_Sample.f k x358000 x358001 x358002 x359000 x359001 x359002 x359003 x359004 x359005 x359006 (rd x14 x16)).bind fun bt384 => ((overfalllaw11_own.f x359000 x359001 x359002 x359003 x359004 x359005 x359006).bind fun bt387 => ((overfallref11_Sample.f k x364000 x364001 x364002 bt387.1 bt387.2.1 bt387.2.2.1 bt387.2.2.2.1 bt387.2.2.2.2.1 bt387.2.2.2.2.2.1 bt387.2.2.2.2.2.2 (rd x14 x16)).bind fun bt394 => ((overfalllaw11_state.f bt384.1 bt384.2.1 bt384.2.2).bind fun bt397 => (if (!(bt397.1 == bt394.1) || (!(bt397.2.1 == bt394.2.1) || (!(bt397.2.2 == bt394.2.2)))) = true then (none) else (overfalllaw11_PidSamples.l0 k x14 x15 (wrap64 (x16 + 1)) bt384.1 bt384.2.1 bt384.2.2 x359000 x359001 x359002 x359003 x359004 x359005 x359006 bt394.1 bt394.2.1 bt394.2.2))))))))) else (none)) else (none)) else ((pid_Params_Right.f x359000 x359001 x359002 x359003 x359004 x359005 x359006).bind fun t364 => ((overfalllaw11_own.f x359000 x359001 x359002 x359003 x359004 x359005 x359006).bind fun bt365 => ((overfallref11_Right.f bt365.1 bt365.2.1 bt365.2.2.1 bt365.2.2.2.1 bt365.2.2.2.2.1 bt365.2.2.2.2.2.1 bt365.2.2.2.2.2.2).bind fun t372 => (some (t364 == t372)))))
def overfalllaw11_PidSamples.f (k : Nat) (a0_0 : Int) (a0_1 : Int) (a0_2 : Int) (a1_0 : Int) (a1_1 : Int) (a1_2 : Int) (a1_3 : Int) (a1_4 : Int) (a1_5 : Int) (a1_6 : Int) (l2 : List Int) : Option (Bool) := (overfalllaw11_awake.f k).bind fun t359 => (if t359 = true then ((overfalllaw11_state.f a0_0 a0_1 a0_2).bind fun bt360 => (overfalllaw11_PidSamples.l0 k l2 (l2.length : Int) 0 a0_0 a0_1 a0_2 a1_0 a1_1 a1_2 a1_3 a1_4 a1_5 a1_6 bt360.1 bt360.2.1 bt360.2.2)) else (none))
theorem overfalllaw11_PidSamples.mono_l : ∀ k, (∀ y0 y1 y2 y3 y4 y5 y6 y7 y8 y9 y10 y11 y12 y13 y14 y15, LeO (overfalllaw11_PidSamples.l0 k y0 y1 y2 y3 y4 y5 y6 y7 y8 y9 y10 y11 y12 y13 y14 y15) (overfalllaw11_PidSamples.l0 (k + 1) y0 y1 y2 y3 y4 y5 y6 y7 y8 y9 y10 y11 y12 y13 y14 y15))
 | 0 => fun _ _ _ _ _ _ _ _ _ _ _ _ _ _ _ _ r h => by simp [overfalllaw11_PidSamples.l0] at h
 | k + 1 => by
  have ih0 := overfalllaw11_PidSamples.mono_l k
  ·intro y0 y1 y2 y3 y4 y5 y6 y7 y8 y9 y10 y11 y12 y13 y14 y15
   unfold overfalllaw11_PidSamples.l0
   repeat' first
   | (with_reducible exact ih0 _ _ _ _ _ _ _ _ _ _ _ _ _ _ _ _)
   | (with_reducible exact overfalllaw11_awake.mono _)
   | (with_reducible exact overfallref11_Sample.mono _ _ _ _ _ _ _ _ _ _ _ _)
   | (with_reducible exact pid_State_Sample.mono _ _ _ _ _ _ _ _ _ _ _ _)
   | (with_reducible exact LeO.refl _)
   | (with_reducible exact LeO.none _)
   | (with_reducible refine LeO.ite ?_ ?_)
   | (with_reducible refine LeO.bind ?_ (fun _ => ?_))
   | exact ih0 _ _ _ _ _ _ _ _ _ _ _ _ _ _ _ _
   | exact overfalllaw11_awake.mono _
   | exact overfallref11_Sample.mono _ _ _ _ _ _ _ _ _ _ _ _
   | exact pid_State_Sample.mono _ _ _ _ _ _ _ _ _ _ _ _
   | exact LeO.none _
   | refine LeO.ite ?_ ?_
   | refine LeO.bind ?_ (fun _ => ?_)
theorem overfalllaw11_PidSamples.mono : ∀ a0 a1 a2 a3 a4 a5 a6 a7 a8 a9 a10 k, LeO (overfalllaw11_PidSamples.f k a0 a1 a2 a3 a4 a5 a6 a7 a8 a9 a10) (overfalllaw11_PidSamples.f (k + 1) a0 a1 a2 a3 a4 a5 a6 a7 a8 a9 a10) := by
 intro a0 a1 a2 a3 a4 a5 a6 a7 a8 a9 a10 k
 have ih0 := overfalllaw11_PidSamples.mono_l k
 unfold overfalllaw11_PidSamples.f
 repeat' first
   | (with_reducible exact ih0 _ _ _ _ _ _ _ _ _ _ _ _ _ _ _ _)
   | (with_reducible exact overfalllaw11_awake.mono _)
   | (with_reducible exact overfallref11_Sample.mono _ _ _ _ _ _ _ _ _ _ _ _)
   | (with_reducible exact pid_State_Sample.mono _ _ _ _ _ _ _ _ _ _ _ _)
   | (with_reducible exact LeO.refl _)
   | (with_reducible exact LeO.none _)
   | (with_reducible refine LeO.ite ?_ ?_)
   | (with_reducible refine LeO.bind ?_ (fun _ => ?_))
   | exact ih0 _ _ _ _ _ _ _ _ _ _ _ _ _ _ _ _
   | exact overfalllaw11_awake.mono _
   | exact overfallref11_Sample.mono _ _ _ _ _ _ _ _ _ _ _ _
   | exact pid_State_Sample.mono _ _ _ _ _ _ _ _ _ _ _ _
   | exact LeO.none _
   | refine LeO.ite ?_ ?_
   | refine LeO.bind ?_ (fun _ => ?_)
def overfalllaw11_PidSamples.T8 : Bool × List (List Nat × List Nat) := (true, [([], []), ([], []), ([], []), ([0, 1, 2], [0, 1, 2]), ([], []), ([], []), ([5], [5]), ([4, 6], [4, 6]), ([3, 7], [3, 7])])
def overfalllaw11_PidSamples.B8 : List Nat := [0, 0, 0, 7, 0, 0, 32, 112, 255]
theorem overfalllaw11_PidSamples.tab8 : rtab .any (opsOf Try.f3 8) = overfalllaw11_PidSamples.T8 := by kernel_rfl
theorem overfalllaw11_PidSamples.bits8 : waitsOk overfalllaw11_PidSamples.T8.2 overfalllaw11_PidSamples.B8 = true := by kernel_rfl
def overfalllaw11_PidSamples.T10 : Bool × List (List Nat × List Nat) := (true, [([], []), ([], []), ([], []), ([0, 1, 2], [0, 1, 2]), ([], []), ([], []), ([5, 3], [5]), ([], []), ([4, 6, 7, 6], [4, 6, 7]), ([3, 8, 0, 1, 2, 3], [3]), ([8, 9, 0, 1, 2, 3, 4, 5, 6, 7, 8, 9], [8])])
def overfalllaw11_PidSamples.B10 : List Nat := [0, 0, 0, 7, 0, 0, 47, 0, 255, 511, 1023]
theorem overfalllaw11_PidSamples.tab10 : rtab .any (opsOf Try.f3 10) = overfalllaw11_PidSamples.T10 := by kernel_rfl
theorem overfalllaw11_PidSamples.bits10 : waitsOk overfalllaw11_PidSamples.T10.2 overfalllaw11_PidSamples.B10 = true := by kernel_rfl
set_option maxHeartbeats 8000000 in
set_option maxRecDepth 100000 in
theorem overfalllaw11_PidSamples.calls (k : Nat) (a0_0 : Int) (a0_1 : Int) (a0_2 : Int) (a1_0 : Int) (a1_1 : Int) (a1_2 : Int) (a1_3 : Int) (a1_4 : Int) (a1_5 : Int) (a1_6 : Int) (A2 : Option Addr) (c2 : Nat) (l2 : List Int) (r : Bool) (w : World) (hr2 : Kd.C (Kd.int .i64) w A2 l2.length l2) (hc2 : l2.length ≤ c2) (h : overfalllaw11_PidSamples.f k a0_0 a0_1 a0_2 a1_0 a1_1 a1_2 a1_3 a1_4 a1_5 a1_6 l2 = some r) :
  Calls Try.prog 3 #[.agg #[.int .i64 a0_0, .int .i64 a0_1, .int .i64 a0_2], .agg #[.int .i64 a1_0, .int .i64 a1_1, .int .i64 a1_2, .int .i64 a1_3, .int .i64 a1_4, .int .i64 a1_5, .int .i64 a1_6], .slice A2 l2.length c2] w fun e w' => e = .returned (.bool r) ∧ Below w.heap.size w w' := by
 have hu24 := Try.underlying24
 have hu26 := Try.underlying26
 have hu30 := Try.underlying30
 have HR2 := Aside0.mk hr2
 have HC2 := Aside0.mk hc2
 clear hr2 hc2
 have HB := Aside0.mk (Below.refl w.heap.size w)
 have H : ((overfalllaw11_awake.f k).bind fun t359 => (if t359 = true then ((overfalllaw11_state.f a0_0 a0_1 a0_2).bind fun bt360 => (overfalllaw11_PidSamples.l0 k l2 (l2.length : Int) 0 a0_0 a0_1 a0_2 a1_0 a1_1 a1_2 a1_3 a1_4 a1_5 a1_6 bt360.1 bt360.2.1 bt360.2.2)) else (none))) = some r := h
 clear h
 replace H := Option.bind_eq_some_iff.mp H
 obtain ⟨t359, A40, H⟩ := H
 replace H : (if t359 = true then ((overfalllaw11_state.f a0_0 a0_1 a0_2).bind fun bt360 => (overfalllaw11_PidSamples.l0 k l2 (l2.length : Int) 0 a0_0 a0_1 a0_2 a1_0 a1_1 a1_2 a1_3 a1_4 a1_5 a1_6 bt360.1 bt360.2.1 bt360.2.2)) else (none)) = some r := H
 have A4 := Aside0.mk A40
 clear A40
 by_cases c5 : t359 = true
 ·subst c5
  have H1 : ((overfalllaw11_state.f a0_0 a0_1 a0_2).bind fun bt360 => (overfalllaw11_PidSamples.l0 k l2 (l2.length : Int) 0 a0_0 a0_1 a0_2 a1_0 a1_1 a1_2 a1_3 a1_4 a1_5 a1_6 bt360.1 bt360.2.1 bt360.2.2)) = some r := by rw [if_pos rfl] at H; exact H
  clear H
  have H := H1
  clear H1
  replace H := Option.bind_eq_some_iff.mp H
  obtain ⟨⟨t360, t361, t362⟩, A60, H⟩ := H
  replace H : (overfalllaw11_PidSamples.l0 k l2 (l2.length : Int) 0 a0_0 a0_1 a0_2 a1_0 a1_1 a1_2 a1_3 a1_4 a1_5 a1_6 t360 t361 t362) = some r := H
  have A6 := Aside0.mk A60
  clear A60
  have H' := Aside0.mk H
  clear H
  go_enter Try.func3, Try.ntmps3
  go_wp2_with (first | ((with_reducible refine gate_dst (N := 3) rfl ?_); refine box_event ?hg (N := 3) ?hd (cs := #[.int .i64 a0_0, .int .i64 a0_1, .int .i64 a0_2]) (t := 24) ?hr ?_; (case hd => rfl); (case hg => rfl); (case hr => first | (go_simp; done) | (go_simp; rfl)); intro gb357 hg w7 hbox hb; have n0_ := Aside0.mk (below_step (by repeat (first | (with_reducible first | exact HB.out | apply below_alloc | apply pw_below_drewN | apply below_drew1) | exact HB.out)) hb); have n1_ := Aside0.mk (hbox); have n2_ := Aside0.mk ((by rw [hg]; exact (below_size (by repeat (first | (with_reducible first | exact HB.out | apply below_alloc | apply pw_below_drewN | apply below_drew1) | exact HB.out))) : w.heap.size ≤ gb357)); have n3_ := Aside0.mk ((by rw [hg]; exact (below_size (by repeat (first | (with_reducible first | exact HB.out | apply below_alloc | apply pw_below_drewN | apply below_drew1) | exact HB.out))) : w.heap.size ≤ gb357)); clear HB; have HB := n0_; have BK357 := n1_; have GW357 := n2_; have GE357 := n3_; clear n0_ n1_ n2_ n3_; clear hb hbox hg) | ((with_reducible refine gate_dst (N := 4) rfl ?_); refine box_event ?hg (N := 4) ?hd (cs := #[.int .i64 a1_0, .int .i64 a1_1, .int .i64 a1_2, .int .i64 a1_3, .int .i64 a1_4, .int .i64 a1_5, .int .i64 a1_6]) (t := 26) ?hr ?_; (case hd => rfl); (case hg => rfl); (case hr => first | (go_simp; done) | (go_simp; rfl)); intro gb358 hg w8 hbox hb; have n0_ := Aside0.mk (blk_below (by exact BK357.out) hb); have n1_ := Aside0.mk (below_step (by repeat (first | (with_reducible first | exact HB.out | apply below_alloc | apply pw_below_drewN | apply below_drew1 | refine below_set ?_ GE357.out) | exact HB.out)) hb); have n2_ := Aside0.mk (hbox); have n3_ := Aside0.mk ((by rw [hg]; exact (below_size (by repeat (first | (with_reducible first | exact HB.out | apply below_alloc | apply pw_below_drewN | apply below_drew1 | refine below_set ?_ GE357.out) | exact HB.out))) : w.heap.size ≤ gb358)); have n4_ := Aside0.mk ((by rw [hg]; exact (below_size (by repeat (first | (with_reducible first | exact HB.out | apply below_alloc | apply pw_below_drewN | apply below_drew1 | refine below_set ?_ GE357.out) | exact HB.out))) : w.heap.size ≤ gb358)); have n5_ := Aside0.mk ((by rw [hg]; exact Nat.ne_of_lt (blk_lt (by exact BK357.out)) : gb357 ≠ gb358)); have n6_ := Aside0.mk ((by rw [hg]; exact Nat.ne_of_gt (blk_lt (by exact BK357.out)) : gb358 ≠ gb357)); clear BK357; clear HB; have BK357 := n0_; have HB := n1_; have BK358 := n2_; have GW358 := n3_; have GE358 := n4_; have NB357_358 := n5_; have NB358_357 := n6_; clear n0_ n1_ n2_ n3_ n4_ n5_ n6_; clear hb hbox hg) | ((with_reducible refine gate_callee (f := 8) rfl ?_); refine goesL_ (some 10) rfl rfl Try.func8 (by kernel_rfl) rfl #[] rfl (by (try simp only [List.map_toArray, List.map_cons, List.map_nil]); first | done | rfl | (simp only [List.length_drop, List.length_take]; rfl)) ?_; (with_reducible refine (overfalllaw11_awake.calls k  true _ A4.out).mono ?_); rintro e w9 ⟨rfl, hb⟩; refine ⟨_, rfl, ?_⟩; have n0_ := Aside0.mk (blk_below (by exact BK357.out) hb); have n1_ := Aside0.mk (blk_below (by exact BK358.out) hb); have n2_ := Aside0.mk (below_step (by repeat (first | (with_reducible first | exact HB.out | apply below_alloc | apply pw_below_drewN | apply below_drew1 | refine below_set ?_ GE357.out | refine below_set ?_ GE358.out) | exact HB.out)) hb); clear BK357; clear BK358; clear HB; have BK357 := n0_; have BK358 := n1_; have HB := n2_; clear n0_ n1_ n2_; (try clear hb); (try clear hb2); (try clear hk); (try clear hi); have hnb10 := NB357_358.out; have hnc10 := NB358_357.out; have hcz11_0 : w9.cell? ⟨gb357, 0, none⟩ = some (.int .i64 a0_0) := (blk_cell BK357.out 0).trans rfl; have hcz11_1 : w9.cell? ⟨gb357, 1, none⟩ = some (.int .i64 a0_1) := (blk_cell BK357.out 1).trans rfl; have hcz11_2 : w9.cell? ⟨gb357, 2, none⟩ = some (.int .i64 a0_2) := (blk_cell BK357.out 2).trans rfl; have hfz11_0 := blk_frozen BK357.out 0; have hfz11_1 := blk_frozen BK357.out 1; have hfz11_2 := blk_frozen BK357.out 2) | ((with_reducible refine gate_callee (f := 9) rfl ?_); refine goesL_ (some 13) rfl rfl Try.func9 (by kernel_rfl) rfl #[.agg #[.int .i64 a0_0, .int .i64 a0_1, .int .i64 a0_2]] rfl (by (try simp only [List.map_toArray, List.map_cons, List.map_nil]); first | done | rfl | (simp only [List.length_drop, List.length_take]; rfl)) ?_; (with_reducible refine (overfalllaw11_state.calls a0_0 a0_1 a0_2 t360 t361 t362 _ A6.out).mono ?_); rintro e w12 ⟨rfl, hb⟩; refine ⟨_, rfl, ?_⟩; have n0_ := Aside0.mk (blk_below (by exact BK357.out) hb); have n1_ := Aside0.mk (blk_below (by exact BK358.out) hb); have n2_ := Aside0.mk (below_step (by repeat (first | (with_reducible first | exact HB.out | apply below_alloc | apply pw_below_drewN | apply below_drew1 | refine below_set ?_ GE357.out | refine below_set ?_ GE358.out) | exact HB.out)) hb); clear BK357; clear BK358; clear HB; have BK357 := n0_; have BK358 := n1_; have HB := n2_; clear n0_ n1_ n2_; (try clear hb); (try clear hb2); (try clear hk); (try clear hi)) | ((with_reducible refine gate_dst (N := 7) rfl ?_); refine box_event ?hg (N := 7) ?hd (cs := #[.int .i64 0, .int .i64 0, .int .i64 0]) (t := 30) ?hr ?_; (case hd => rfl); (case hg => rfl); (case hr => first | (go_simp; done) | (go_simp; rfl)); intro gb363 hg w13 hbox hb; have n0_ := Aside0.mk (blk_below (by exact BK357.out) hb); have n1_ := Aside0.mk (blk_below (by exact BK358.out) hb); have n2_ := Aside0.mk (below_step (by repeat (first | (with_reducible first | exact HB.out | apply below_alloc | apply pw_below_drewN | apply below_drew1 | refine below_set ?_ GE357.out | refine below_set ?_ GE358.out) | exact HB.out)) hb); have n3_ := Aside0.mk (hbox); have n4_ := Aside0.mk ((by rw [hg]; exact (below_size (by repeat (first | (with_reducible first | exact HB.out | apply below_alloc | apply pw_below_drewN | apply below_drew1 | refine below_set ?_ GE357.out | refine below_set ?_ GE358.out) | exact HB.out))) : w.heap.size ≤ gb363)); have n5_ := Aside0.mk ((by rw [hg]; exact (below_size (by repeat (first | (with_reducible first | exact HB.out | apply below_alloc | apply pw_below_drewN | apply below_drew1 | refine below_set ?_ GE357.out | refine below_set ?_ GE358.out) | exact HB.out))) : w.heap.size ≤ gb363)); have n6_ := Aside0.mk ((by rw [hg]; exact Nat.ne_of_lt (blk_lt (by exact BK357.out)) : gb357 ≠ gb363)); have n7_ := Aside0.mk ((by rw [hg]; exact Nat.ne_of_gt (blk_lt (by exact BK357.out)) : gb363 ≠ gb357)); have n8_ := Aside0.mk ((by rw [hg]; exact Nat.ne_of_lt (blk_lt (by exact BK358.out)) : gb358 ≠ gb363)); have n9_ := Aside0.mk ((by rw [hg]; exact Nat.ne_of_gt (blk_lt (by exact BK358.out)) : gb363 ≠ gb358)); clear BK357; clear BK358; clear HB; have BK357 := n0_; have BK358 := n1_; have HB := n2_; have BK363 := n3_; have GW363 := n4_; have GE363 := n5_; have NB357_363 := n6_; have NB363_357 := n7_; have NB358_363 := n8_; have NB363_358 := n9_; clear n0_ n1_ n2_ n3_ n4_ n5_ n6_ n7_ n8_ n9_; clear hb hbox hg; have hnb14 := NB363_357.out; have hnc14 := NB357_363.out; have hnb15 := NB363_358.out; have hnc15 := NB358_363.out; have hcz16_0 : w13.cell? ⟨gb363, 0, none⟩ = some (.int .i64 0) := (blk_cell BK363.out 0).trans rfl; have hcz16_1 : w13.cell? ⟨gb363, 1, none⟩ = some (.int .i64 0) := (blk_cell BK363.out 1).trans rfl; have hcz16_2 : w13.cell? ⟨gb363, 2, none⟩ = some (.int .i64 0) := (blk_cell BK363.out 2).trans rfl; have hfz16_0 := blk_frozen BK363.out 0; have hfz16_1 := blk_frozen BK363.out 1; have hfz16_2 := blk_frozen BK363.out 2))
  go_loopg [16] k (fun kq v16 w' => ∃ (x16_1 : Int) (x358000_1 : Int) (x358001_1 : Int) (x358002_1 : Int) (x364000_1 : Int) (x364001_1 : Int) (x364002_1 : Int), v16 = .int .i64 x16_1 ∧ Aside0 (overfalllaw11_PidSamples.l0 kq l2 (l2.length : Int) x16_1 x358000_1 x358001_1 x358002_1 a1_0 a1_1 a1_2 a1_3 a1_4 a1_5 a1_6 x364000_1 x364001_1 x364002_1 = some r) ∧ Aside0 (kq ≤ k) ∧ Aside0 (w'.heap[gb357]? = some (.cells #[.int .i64 x358000_1, .int .i64 x358001_1, .int .i64 x358002_1] 24 (0, 0))) ∧ Aside0 (w'.heap[gb358]? = some (.cells #[.int .i64 a1_0, .int .i64 a1_1, .int .i64 a1_2, .int .i64 a1_3, .int .i64 a1_4, .int .i64 a1_5, .int .i64 a1_6] 26 (0, 0))) ∧ Aside0 (w'.heap[gb363]? = some (.cells #[.int .i64 x364000_1, .int .i64 x364001_1, .int .i64 x364002_1] 30 (0, 0))) ∧ Aside0 (Below w.heap.size w w'))
  case atStart => exact ⟨(0), (a0_0), (a0_1), (a0_2), (t360), (t361), (t362), (by first | rfl | (simp; done) | (simp [*]; done)), H', ⟨Nat.le_refl _⟩, ⟨by refine blk_far ?_ NB357_363.out _; refine blk_far ?_ NB357_363.out _; refine blk_far ?_ NB357_363.out _; exact BK357.out⟩, ⟨by refine blk_far ?_ NB358_363.out _; refine blk_far ?_ NB358_363.out _; refine blk_far ?_ NB358_363.out _; exact BK358.out⟩, ⟨by refine blk_put (cs := #[.int .i64 t360, .int .i64 t361, .int .i64 0]) ?_ 2 _ rfl; refine blk_put (cs := #[.int .i64 t360, .int .i64 0, .int .i64 0]) ?_ 1 _ rfl; refine blk_put (cs := #[.int .i64 0, .int .i64 0, .int .i64 0]) ?_ 0 _ rfl; exact BK363.out⟩, ⟨by repeat (first | (with_reducible first | exact HB.out | apply below_alloc | apply pw_below_drewN | apply below_drew1 | refine below_set ?_ GE357.out | refine below_set ?_ GE358.out | refine below_set ?_ GE363.out) | exact HB.out)⟩⟩
  case round =>
   clear H'
   try clear c1
   try clear c2
   try clear p2
   try clear c3
   try clear c5
   try clear c8
   try clear c9
   try clear c10
   try clear c14
   try clear c15
   try clear hcz11_0
   try clear hcz11_1
   try clear hcz11_2
   try clear hcz16_0
   try clear hcz16_1
   try clear hcz16_2
   try clear hfz11_0
   try clear hfz11_1
   try clear hfz11_2
   try clear hfz16_0
   try clear hfz16_1
   try clear hfz16_2
   obtain ⟨x16_1, x358000_1, x358001_1, x358002_1, x364000_1, x364001_1, x364002_1, rfl, HA, HK1, BK357, BK358, BK363, HB⟩ := hrel
   cases gk with
   | zero => exact absurd HA.out (by simp [overfalllaw11_PidSamples.l0])
   | succ k1 =>
    have H := HA.out
    clear HA
    simp only [overfalllaw11_PidSamples.l0] at H
    by_cases c17 : x16_1 < (l2.length : Int)
    ·rw [if_pos c17] at H
     have c17b0 : decide (x16_1 < (l2.length : Int)) = true := decide_eq_true c17
     clear c17
     by_cases c18 : 0 ≤ x16_1
     ·rw [if_pos c18] at H
      have c18b0 : decide (0 ≤ x16_1) = true := decide_eq_true c18
      clear c18
      by_cases c19 : x16_1 < (l2.length : Int)
      ·rw [if_pos c19] at H
       have c19b0 : decide (x16_1 < (l2.length : Int)) = true := decide_eq_true c19
       clear c19
       by_cases c20 : x16_1 ≥ 30
       ·rw [if_pos c20] at H
        have c20b0 : decide (30 ≤ x16_1) = true := decide_eq_true c20
        clear c20
        replace H := Option.bind_eq_some_iff.mp H
        obtain ⟨t374, A210, H⟩ := H
        replace H : ((overfalllaw11_own.f a1_0 a1_1 a1_2 a1_3 a1_4 a1_5 a1_6).bind fun bt375 => ((overfallref11_Right.f bt375.1 bt375.2.1 bt375.2.2.1 bt375.2.2.2.1 bt375.2.2.2.2.1 bt375.2.2.2.2.2.1 bt375.2.2.2.2.2.2).bind fun t382 => (some (t374 == t382)))) = some r := H
        have A21 := Aside0.mk A210
        clear A210
        replace H := Option.bind_eq_some_iff.mp H
        obtain ⟨⟨t375, t376, t377, t378, t379, t380, t381⟩, A220, H⟩ := H
        replace H : ((overfallref11_Right.f t375 t376 t377 t378 t379 t380 t381).bind fun t382 => (some (t374 == t382))) = some r := H
        have A22 := Aside0.mk A220
        clear A220
        replace H := Option.bind_eq_some_iff.mp H
        obtain ⟨t382, A230, H⟩ := H
        replace H : (some (t374 == t382)) = some r := H
        have A23 := Aside0.mk A230
        clear A230
        obtain rfl := Option.some.inj H
        have p373 : 0 ≤ (x16_1 : Int) := of_decide_eq_true (by first | (with_reducible assumption) | assumption)
        have q373 : x16_1 < (l2.length : Int) := of_decide_eq_true (by first | (with_reducible assumption) | assumption)
        obtain ⟨ad373, e373, hx373_0⟩ := Kd.at_int HR2.out x16_1 p373 q373
        cases e373
        replace hx373_0 := (HB.out.cell (World.block_lt_of_cell? w _ hx373_0)).trans hx373_0
        replace p373 := eq_true p373
        replace q373 := eq_true q373
        try go_wp2
        have n0_ := Aside0.mk (blk_drew BK357.out)
        have n1_ := Aside0.mk (blk_drew BK358.out)
        have n2_ := Aside0.mk (blk_drew BK363.out)
        have n3_ := Aside0.mk (below_drew1 HB.out)
        clear BK357
        clear BK358
        clear BK363
        clear HB
        have BK357 := n0_
        have BK358 := n1_
        have BK363 := n2_
        have HB := n3_
        clear n0_ n1_ n2_ n3_
        refine start_ (n := 7) (S := fun w' => w'.cell? ⟨gb358, 0, none⟩ = some (.int .i64 a1_0) ∧ w'.cell? ⟨gb358, 1, none⟩ = some (.int .i64 a1_1) ∧ w'.cell? ⟨gb358, 2, none⟩ = some (.int .i64 a1_2) ∧ w'.cell? ⟨gb358, 3, none⟩ = some (.int .i64 a1_3) ∧ w'.cell? ⟨gb358, 4, none⟩ = some (.int .i64 a1_4) ∧ w'.cell? ⟨gb358, 5, none⟩ = some (.int .i64 a1_5) ∧ w'.cell? ⟨gb358, 6, none⟩ = some (.int .i64 a1_6)) (ds := []) #[false, false, false, false, false, false, false] (by kernel_rfl) rfl rfl ⟨(blk_cell BK358.out 0).trans rfl, (blk_cell BK358.out 1).trans rfl, (blk_cell BK358.out 2).trans rfl, (blk_cell BK358.out 3).trans rfl, (blk_cell BK358.out 4).trans rfl, (blk_cell BK358.out 5).trans rfl, (blk_cell BK358.out 6).trans rfl⟩ (fun hHeld => ?_)
        generalize wr.drew = w24 at BK357 BK358 BK363 HB hHeld ⊢
        refine take_ (i := 0) (N := some 46) (v := ?_) (a' := ?_) #[true, false, false, false, false, false, false] rfl rfl (by kernel_rfl) (fun _ _ _ h => h) (Or.inl ⟨by rfl, ?_⟩) hHeld ?_ ?_
        rotate_left
        ·rintro w' ⟨s0, s1, s2, s3, s4, s5, s6⟩
         go_simp
         with_reducible rfl
        rotate_left
        ·simp only [Act.put, List.setIfInBounds_toArray, List.set_cons_zero, List.set_cons_succ, i64_w, i32_w]
         rfl
        refine take_ (i := 2) (N := some 48) (v := ?_) (a' := ?_) #[true, false, true, false, false, false, false] rfl rfl (by kernel_rfl) (fun _ _ _ h => h) (Or.inl ⟨by rfl, ?_⟩) hHeld ?_ ?_
        rotate_left
        ·rintro w' ⟨s0, s1, s2, s3, s4, s5, s6⟩
         go_simp
         with_reducible rfl
        rotate_left
        ·simp only [Act.put, List.setIfInBounds_toArray, List.set_cons_zero, List.set_cons_succ, i64_w, i32_w]
         rfl
        refine one_ (i := 1) (N := some 47) #[true, true, true, false, false, false, false] rfl rfl (by kernel_rfl) (by decide) (fun K hK => ?_)
        refine goes_ Try.func14 (by kernel_rfl) rfl #[.agg #[.int .i64 a1_0, .int .i64 a1_1, .int .i64 a1_2, .int .i64 a1_3, .int .i64 a1_4, .int .i64 a1_5, .int .i64 a1_6]] (by rfl) rfl rfl (by (try simp only [List.map_toArray, List.map_cons, List.map_nil]); first | done | rfl | (simp only [List.length_drop, List.length_take]; rfl)) ?_
        with_reducible refine (pid_Params_Right.calls a1_0 a1_1 a1_2 a1_3 a1_4 a1_5 a1_6 t374 _ A21.out).mono ?_
        rintro e w25 ⟨rfl, hb⟩
        refine ⟨_, rfl, ?_⟩
        have n0_ := Aside0.mk (blk_below (by exact BK357.out) hb)
        have n1_ := Aside0.mk (blk_below (by exact BK358.out) hb)
        have n2_ := Aside0.mk (blk_below (by exact BK363.out) hb)
        have n3_ := Aside0.mk (below_step (by repeat (first | (with_reducible first | exact HB.out | apply below_alloc | apply pw_below_drewN | apply below_drew1 | refine below_set ?_ GE357.out | refine below_set ?_ GE358.out | refine below_set ?_ GE363.out) | exact HB.out)) hb)
        clear BK357
        clear BK358
        clear BK363
        clear HB
        have BK357 := n0_
        have BK358 := n1_
        have BK363 := n2_
        have HB := n3_
        clear n0_ n1_ n2_ n3_
        (try clear hb)
        (try clear hb2)
        (try clear hk)
        (try clear hi)
        refine hK.out _ _ ⟨(blk_cell BK358.out 0).trans rfl, (blk_cell BK358.out 1).trans rfl, (blk_cell BK358.out 2).trans rfl, (blk_cell BK358.out 3).trans rfl, (blk_cell BK358.out 4).trans rfl, (blk_cell BK358.out 5).trans rfl, (blk_cell BK358.out 6).trans rfl⟩ (fun hHeld => ?_)
        clear hK K
        refine norm_ (a' := ?_) ?_ ?_
        rotate_left
        ·show Act.put _ (some 47) _ = _
         simp only [Act.put, List.setIfInBounds_toArray, List.set_cons_zero, List.set_cons_succ, i64_w, i32_w]
         rfl
        refine one_ (i := 3) (N := some 49) #[true, true, true, true, false, false, false] rfl rfl (by kernel_rfl) (by decide) (fun K hK => ?_)
        refine goes_ Try.func13 (by kernel_rfl) rfl #[.agg #[.int .i64 a1_0, .int .i64 a1_1, .int .i64 a1_2, .int .i64 a1_3, .int .i64 a1_4, .int .i64 a1_5, .int .i64 a1_6]] (by rfl) rfl rfl (by (try simp only [List.map_toArray, List.map_cons, List.map_nil]); first | done | rfl | (simp only [List.length_drop, List.length_take]; rfl)) ?_
        with_reducible refine (overfalllaw11_own.calls a1_0 a1_1 a1_2 a1_3 a1_4 a1_5 a1_6 t375 t376 t377 t378 t379 t380 t381 _ A22.out).mono ?_
        rintro e w26 ⟨rfl, hb⟩
        refine ⟨_, rfl, ?_⟩
        have n0_ := Aside0.mk (blk_below (by exact BK357.out) hb)
        have n1_ := Aside0.mk (blk_below (by exact BK358.out) hb)
        have n2_ := Aside0.mk (blk_below (by exact BK363.out) hb)
        have n3_ := Aside0.mk (below_step (by repeat (first | (with_reducible first | exact HB.out | apply below_alloc | apply pw_below_drewN | apply below_drew1 | refine below_set ?_ GE357.out | refine below_set ?_ GE358.out | refine below_set ?_ GE363.out) | exact HB.out)) hb)
        clear BK357
        clear BK358
        clear BK363
        clear HB
        have BK357 := n0_
        have BK358 := n1_
        have BK363 := n2_
        have HB := n3_
        clear n0_ n1_ n2_ n3_
        (try clear hb)
        (try clear hb2)
        (try clear hk)
        (try clear hi)
        refine hK.out _ _ ⟨(blk_cell BK358.out 0).trans rfl, (blk_cell BK358.out 1).trans rfl, (blk_cell BK358.out 2).trans rfl, (blk_cell BK358.out 3).trans rfl, (blk_cell BK358.out 4).trans rfl, (blk_cell BK358.out 5).trans rfl, (blk_cell BK358.out 6).trans rfl⟩ (fun hHeld => ?_)
        clear hK K
        refine norm_ (a' := ?_) ?_ ?_
        rotate_left
        ·show Act.put _ (some 49) _ = _
         simp only [Act.put, List.setIfInBounds_toArray, List.set_cons_zero, List.set_cons_succ, i64_w, i32_w]
         rfl
        refine one_ (i := 4) (N := some 50) #[true, true, true, true, true, false, false] rfl rfl (by kernel_rfl) (by decide) (fun K hK => ?_)
        refine goes_ Try.func15 (by kernel_rfl) rfl #[.agg #[.int .i64 t375, .int .i64 t376, .int .i64 t377, .int .i64 t378, .int .i64 t379, .int .i64 t380, .int .i64 t381]] (by rfl) rfl rfl (by (try simp only [List.map_toArray, List.map_cons, List.map_nil]); first | done | rfl | (simp only [List.length_drop, List.length_take]; rfl)) ?_
        with_reducible refine (overfallref11_Right.calls t375 t376 t377 t378 t379 t380 t381 t382 _ A23.out).mono ?_
        rintro e w27 ⟨rfl, hb⟩
        refine ⟨_, rfl, ?_⟩
        have n0_ := Aside0.mk (blk_below (by exact BK357.out) hb)
        have n1_ := Aside0.mk (blk_below (by exact BK358.out) hb)
        have n2_ := Aside0.mk (blk_below (by exact BK363.out) hb)
        have n3_ := Aside0.mk (below_step (by repeat (first | (with_reducible first | exact HB.out | apply below_alloc | apply pw_below_drewN | apply below_drew1 | refine below_set ?_ GE357.out | refine below_set ?_ GE358.out | refine below_set ?_ GE363.out) | exact HB.out)) hb)
        clear BK357
        clear BK358
        clear BK363
        clear HB
        have BK357 := n0_
        have BK358 := n1_
        have BK363 := n2_
        have HB := n3_
        clear n0_ n1_ n2_ n3_
        (try clear hb)
        (try clear hb2)
        (try clear hk)
        (try clear hi)
        refine hK.out _ _ ⟨(blk_cell BK358.out 0).trans rfl, (blk_cell BK358.out 1).trans rfl, (blk_cell BK358.out 2).trans rfl, (blk_cell BK358.out 3).trans rfl, (blk_cell BK358.out 4).trans rfl, (blk_cell BK358.out 5).trans rfl, (blk_cell BK358.out 6).trans rfl⟩ (fun hHeld => ?_)
        clear hK K
        refine norm_ (a' := ?_) ?_ ?_
        rotate_left
        ·show Act.put _ (some 50) _ = _
         simp only [Act.put, List.setIfInBounds_toArray, List.set_cons_zero, List.set_cons_succ, i64_w, i32_w]
         rfl
        refine pure_ (i := 5) (N := some 51) (v := ?_) (a' := ?_) #[true, true, true, true, true, true, false] rfl rfl (by kernel_rfl) (fun _ _ _ h => h) (Or.inl ⟨by rfl, ?_⟩) ?_ ?_
        rotate_left
        ·intro w'
         go_simp
         with_reducible rfl
        rotate_left
        ·simp only [Act.put, List.setIfInBounds_toArray, List.set_cons_zero, List.set_cons_succ, i64_w, i32_w]
         rfl
        refine pure_ (i := 6) (N := some 6) (v := ?_) (a' := ?_) #[true, true, true, true, true, true, true] rfl rfl (by kernel_rfl) (fun _ _ _ h => h) (Or.inl ⟨by rfl, ?_⟩) ?_ ?_
        rotate_left
        ·intro w'
         go_simp
         with_reducible rfl
        rotate_left
        ·simp only [Act.put, List.setIfInBounds_toArray, List.set_cons_zero, List.set_cons_succ, i64_w, i32_w]
         rfl
        refine done_ (by kernel_rfl) ?_
        try go_wp2
        go_ret
        exact ⟨by first | rfl | (simp [errW_none, errW_some] <;> rfl) | (simp [*, errW_none, errW_some] <;> rfl), by repeat (first | (with_reducible first | exact HB.out | apply below_alloc | apply pw_below_drewN | apply below_drew1 | refine below_set ?_ GE357.out | refine below_set ?_ GE358.out | refine below_set ?_ GE363.out) | exact HB.out)⟩
       ·rw [if_neg c20] at H
        have c20b0 : decide (30 ≤ x16_1) = false := decide_eq_false c20
        clear c20
        replace H := Option.bind_eq_some_iff.mp H
        obtain ⟨t383, A280, H⟩ := H
        replace H : (if (t383 != (decide ((rd l2 x16_1) > a1_0))) = true then (none) else ((pid_State_Sample.f k1 x358000_1 x358001_1 x358002_1 a1_0 a1_1 a1_2 a1_3 a1_4 a1_5 a1_6 (rd l2 x16_1)).bind fun bt384 => ((overfalllaw11_own.f a1_0 a1_1 a1_2 a1_3 a1_4 a1_5 a1_6).bind fun bt387 => ((overfallref11_Sample.f k1 x364000_1 x364001_1 x364002_1 bt387.1 bt387.2.1 bt387.2.2.1 bt387.2.2.2.1 bt387.2.2.2.2.1 bt387.2.2.2.2.2.1 bt387.2.2.2.2.2.2 (rd l2 x16_1)).bind fun bt394 => ((overfalllaw11_state.f bt384.1 bt384.2.1 bt384.2.2).bind fun bt397 => (if (!(bt397.1 == bt394.1) || (!(bt397.2.1 == bt394.2.1) || (!(bt397.2.2 == bt394.2.2)))) = true then (none) else (overfalllaw11_PidSamples.l0 k1 l2 (l2.length : Int) (wrap64 (x16_1 + 1)) bt384.1 bt384.2.1 bt384.2.2 a1_0 a1_1 a1_2 a1_3 a1_4 a1_5 a1_6 bt394.1 bt394.2.1 bt394.2.2))))))) = some r := H
        have A28 := Aside0.mk A280
        clear A280
        by_cases c29 : (t383 != (decide ((rd l2 x16_1) > a1_0))) = true
        ·rw [if_pos c29] at H
         exact absurd H (by simp)
        ·rw [if_neg c29] at H
         have c29b0 : (t383 != (decide ((rd l2 x16_1) > a1_0))) = false := by simpa using c29
         (try (have c29b1 : decide (t383 = (decide ((rd l2 x16_1) > a1_0))) = true := by simpa using c29))
         (try (have c29b2 : (t383 == (decide ((rd l2 x16_1) > a1_0))) = true := by simpa using c29))
         clear c29
         replace H := Option.bind_eq_some_iff.mp H
         obtain ⟨⟨t384, t385, t386⟩, A300, H⟩ := H
         replace H : ((overfalllaw11_own.f a1_0 a1_1 a1_2 a1_3 a1_4 a1_5 a1_6).bind fun bt387 => ((overfallref11_Sample.f k1 x364000_1 x364001_1 x364002_1 bt387.1 bt387.2.1 bt387.2.2.1 bt387.2.2.2.1 bt387.2.2.2.2.1 bt387.2.2.2.2.2.1 bt387.2.2.2.2.2.2 (rd l2 x16_1)).bind fun bt394 => ((overfalllaw11_state.f t384 t385 t386).bind fun bt397 => (if (!(bt397.1 == bt394.1) || (!(bt397.2.1 == bt394.2.1) || (!(bt397.2.2 == bt394.2.2)))) = true then (none) else (overfalllaw11_PidSamples.l0 k1 l2 (l2.length : Int) (wrap64 (x16_1 + 1)) t384 t385 t386 a1_0 a1_1 a1_2 a1_3 a1_4 a1_5 a1_6 bt394.1 bt394.2.1 bt394.2.2))))) = some r := H
         have A30 := Aside0.mk A300
         clear A300
         replace H := Option.bind_eq_some_iff.mp H
         obtain ⟨⟨t387, t388, t389, t390, t391, t392, t393⟩, A310, H⟩ := H
         replace H : ((overfallref11_Sample.f k1 x364000_1 x364001_1 x364002_1 t387 t388 t389 t390 t391 t392 t393 (rd l2 x16_1)).bind fun bt394 => ((overfalllaw11_state.f t384 t385 t386).bind fun bt397 => (if (!(bt397.1 == bt394.1) || (!(bt397.2.1 == bt394.2.1) || (!(bt397.2.2 == bt394.2.2)))) = true then (none) else (overfalllaw11_PidSamples.l0 k1 l2 (l2.length : Int) (wrap64 (x16_1 + 1)) t384 t385 t386 a1_0 a1_1 a1_2 a1_3 a1_4 a1_5 a1_6 bt394.1 bt394.2.1 bt394.2.2)))) = some r := H
         have A31 := Aside0.mk A310
         clear A310
         replace H := Option.bind_eq_some_iff.mp H
         obtain ⟨⟨t394, t395, t396⟩, A320, H⟩ := H
         replace H : ((overfalllaw11_state.f t384 t385 t386).bind fun bt397 => (if (!(bt397.1 == t394) || (!(bt397.2.1 == t395) || (!(bt397.2.2 == t396)))) = true then (none) else (overfalllaw11_PidSamples.l0 k1 l2 (l2.length : Int) (wrap64 (x16_1 + 1)) t384 t385 t386 a1_0 a1_1 a1_2 a1_3 a1_4 a1_5 a1_6 t394 t395 t396))) = some r := H
         have A32 := Aside0.mk A320
         clear A320
         replace H := Option.bind_eq_some_iff.mp H
         obtain ⟨⟨t397, t398, t399⟩, A330, H⟩ := H
         replace H : (if (!(t397 == t394) || (!(t398 == t395) || (!(t399 == t396)))) = true then (none) else (overfalllaw11_PidSamples.l0 k1 l2 (l2.length : Int) (wrap64 (x16_1 + 1)) t384 t385 t386 a1_0 a1_1 a1_2 a1_3 a1_4 a1_5 a1_6 t394 t395 t396)) = some r := H
         have A33 := Aside0.mk A330
         clear A330
         by_cases c34 : (!(t397 == t394) || (!(t398 == t395) || (!(t399 == t396)))) = true
         ·rw [if_pos c34] at H
          exact absurd H (by simp)
         ·rw [if_neg c34] at H
          have c34b0 : (!(t397 == t394) || (!(t398 == t395) || (!(t399 == t396)))) = false := by simpa using c34
          clear c34
          have H' := Aside0.mk H
          clear H
          have p373 : 0 ≤ (x16_1 : Int) := of_decide_eq_true (by first | (with_reducible assumption) | assumption)
          have q373 : x16_1 < (l2.length : Int) := of_decide_eq_true (by first | (with_reducible assumption) | assumption)
          obtain ⟨ad373, e373, hx373_0⟩ := Kd.at_int HR2.out x16_1 p373 q373
          cases e373
          replace hx373_0 := (HB.out.cell (World.block_lt_of_cell? w _ hx373_0)).trans hx373_0
          replace p373 := eq_true p373
          replace q373 := eq_true q373
          try go_wp2
          have n0_ := Aside0.mk (blk_drew BK357.out)
          have n1_ := Aside0.mk (blk_drew BK358.out)
          have n2_ := Aside0.mk (blk_drew BK363.out)
          have n3_ := Aside0.mk (below_drew1 HB.out)
          clear BK357
          clear BK358
          clear BK363
          clear HB
          have BK357 := n0_
          have BK358 := n1_
          have BK363 := n2_
          have HB := n3_
          clear n0_ n1_ n2_ n3_
          refine start_ (n := 9) (S := fun w' => w'.cell? ⟨gb357, 0, none⟩ = some (.int .i64 x358000_1) ∧ w'.cell? ⟨gb357, 1, none⟩ = some (.int .i64 x358001_1) ∧ w'.cell? ⟨gb357, 2, none⟩ = some (.int .i64 x358002_1) ∧ w'.cell? ⟨gb358, 0, none⟩ = some (.int .i64 a1_0) ∧ w'.cell? ⟨gb358, 1, none⟩ = some (.int .i64 a1_1) ∧ w'.cell? ⟨gb358, 2, none⟩ = some (.int .i64 a1_2) ∧ w'.cell? ⟨gb358, 3, none⟩ = some (.int .i64 a1_3) ∧ w'.cell? ⟨gb358, 4, none⟩ = some (.int .i64 a1_4) ∧ w'.cell? ⟨gb358, 5, none⟩ = some (.int .i64 a1_5) ∧ w'.cell? ⟨gb358, 6, none⟩ = some (.int .i64 a1_6)) (ds := []) #[false, false, false, false, false, false, false, false, false] (by kernel_rfl) rfl rfl ⟨(blk_cell BK357.out 0).trans rfl, (blk_cell BK357.out 1).trans rfl, (blk_cell BK357.out 2).trans rfl, (blk_cell BK358.out 0).trans rfl, (blk_cell BK358.out 1).trans rfl, (blk_cell BK358.out 2).trans rfl, (blk_cell BK358.out 3).trans rfl, (blk_cell BK358.out 4).trans rfl, (blk_cell BK358.out 5).trans rfl, (blk_cell BK358.out 6).trans rfl⟩ (fun hHeld => ?_); refine with_tabW overfalllaw11_PidSamples.tab8 overfalllaw11_PidSamples.bits8 (fun HT_ HW_ => ?_)
          generalize wr.drew = w35 at BK357 BK358 BK363 HB hHeld ⊢
          refine pure_ (i := 2) (N := some 25) (v := ?_) (a' := ?_) #[false, false, true, false, false, false, false, false, false] rfl rfl (any_of HT_.out (by kernel_rfl)) (fun _ _ _ h => h) (Or.inl ⟨by rfl, ?_⟩) ?_ ?_
          rotate_left
          ·intro w'
           go_simp
           with_reducible rfl
          rotate_left
          ·simp only [Act.put, List.setIfInBounds_toArray, List.set_cons_zero, List.set_cons_succ, i64_w, i32_w]
           rfl
          refine pure_ (i := 4) (N := some 27) (v := ?_) (a' := ?_) #[false, false, true, false, true, false, false, false, false] rfl rfl (any_of HT_.out (by kernel_rfl)) (fun _ _ _ h => h) (Or.inl ⟨by rfl, ?_⟩) ?_ ?_
          rotate_left
          ·intro w'
           go_simp
           with_reducible rfl
          rotate_left
          ·simp only [Act.put, List.setIfInBounds_toArray, List.set_cons_zero, List.set_cons_succ, i64_w, i32_w]
           rfl
          refine pure_ (i := 5) (N := some 28) (v := ?_) (a' := ?_) #[false, false, true, false, true, true, false, false, false] rfl rfl (any_of HT_.out (by kernel_rfl)) (fun _ _ _ h => h) (Or.inl ⟨by rfl, ?_⟩) ?_ ?_
          rotate_left
          ·intro w'
           go_simp
           with_reducible rfl
          rotate_left
          ·simp only [Act.put, List.setIfInBounds_toArray, List.set_cons_zero, List.set_cons_succ, i64_w, i32_w]
           rfl
          refine take_ (i := 0) (N := some 23) (v := ?_) (a' := ?_) #[true, false, true, false, true, true, false, false, false] rfl rfl (take_ofW HT_.out HW_.out (by kernel_rfl)) (fun _ _ _ h => h) (Or.inl ⟨by rfl, ?_⟩) hHeld ?_ ?_
          rotate_left
          ·rintro w' ⟨s0, s1, s2, s3, s4, s5, s6, s7, s8, s9⟩
           go_simp
           with_reducible rfl
          rotate_left
          ·simp only [Act.put, List.setIfInBounds_toArray, List.set_cons_zero, List.set_cons_succ, i64_w, i32_w]
           rfl
          refine take_ (i := 1) (N := some 24) (v := ?_) (a' := ?_) #[true, true, true, false, true, true, false, false, false] rfl rfl (take_ofW HT_.out HW_.out (by kernel_rfl)) (fun _ _ _ h => h) (Or.inl ⟨by rfl, ?_⟩) hHeld ?_ ?_
          rotate_left
          ·rintro w' ⟨s0, s1, s2, s3, s4, s5, s6, s7, s8, s9⟩
           go_simp
           with_reducible rfl
          rotate_left
          ·simp only [Act.put, List.setIfInBounds_toArray, List.set_cons_zero, List.set_cons_succ, i64_w, i32_w]
           rfl
          refine take_ (i := 6) (N := some 29) (v := ?_) (a' := ?_) #[true, true, true, false, true, true, true, false, false] rfl rfl (take_ofW HT_.out HW_.out (by kernel_rfl)) (fun _ _ _ h => h) (Or.inl ⟨by rfl, ?_⟩) hHeld ?_ ?_
          rotate_left
          ·rintro w' ⟨s0, s1, s2, s3, s4, s5, s6, s7, s8, s9⟩
           go_simp
           with_reducible rfl
          rotate_left
          ·simp only [Act.put, List.setIfInBounds_toArray, List.set_cons_zero, List.set_cons_succ, i64_w, i32_w]
           rfl
          refine pure_ (i := 7) (N := some 30) (v := ?_) (a' := ?_) #[true, true, true, false, true, true, true, true, false] rfl rfl (any_of HT_.out (by kernel_rfl)) (fun _ _ _ h => h) (Or.inl ⟨by rfl, ?_⟩) ?_ ?_
          rotate_left
          ·intro w'
           go_simp
           with_reducible rfl
          rotate_left
          ·simp only [Act.put, List.setIfInBounds_toArray, List.set_cons_zero, List.set_cons_succ, i64_w, i32_w]
           rfl
          refine one_ (i := 3) (N := some 26) #[true, true, true, true, true, true, true, true, false] rfl rfl (one_of HT_.out (by kernel_rfl)) (by decide) (fun K hK => ?_)
          refine goes_ Try.func10 (by kernel_rfl) rfl #[.agg #[.int .i64 x358000_1, .int .i64 x358001_1, .int .i64 x358002_1], .agg #[.int .i64 a1_0, .int .i64 a1_1, .int .i64 a1_2, .int .i64 a1_3, .int .i64 a1_4, .int .i64 a1_5, .int .i64 a1_6], .int .i64 (rd l2 x16_1)] (by rfl) rfl rfl (by (try simp only [List.map_toArray, List.map_cons, List.map_nil]); first | done | rfl | (simp only [List.length_drop, List.length_take]; rfl)) ?_
          with_reducible refine (pid_State_Open.calls x358000_1 x358001_1 x358002_1 a1_0 a1_1 a1_2 a1_3 a1_4 a1_5 a1_6 (rd l2 x16_1) t383 _ A28.out).mono ?_
          rintro e w36 ⟨rfl, hb⟩
          refine ⟨_, rfl, ?_⟩
          have n0_ := Aside0.mk (blk_below (by exact BK357.out) hb)
          have n1_ := Aside0.mk (blk_below (by exact BK358.out) hb)
          have n2_ := Aside0.mk (blk_below (by exact BK363.out) hb)
          have n3_ := Aside0.mk (below_step (by repeat (first | (with_reducible first | exact HB.out | apply below_alloc | apply pw_below_drewN | apply below_drew1 | refine below_set ?_ GE357.out | refine below_set ?_ GE358.out | refine below_set ?_ GE363.out) | exact HB.out)) hb)
          clear BK357
          clear BK358
          clear BK363
          clear HB
          have BK357 := n0_
          have BK358 := n1_
          have BK363 := n2_
          have HB := n3_
          clear n0_ n1_ n2_ n3_
          (try clear hb)
          (try clear hb2)
          (try clear hk)
          (try clear hi)
          refine hK.out _ _ ⟨(blk_cell BK357.out 0).trans rfl, (blk_cell BK357.out 1).trans rfl, (blk_cell BK357.out 2).trans rfl, (blk_cell BK358.out 0).trans rfl, (blk_cell BK358.out 1).trans rfl, (blk_cell BK358.out 2).trans rfl, (blk_cell BK358.out 3).trans rfl, (blk_cell BK358.out 4).trans rfl, (blk_cell BK358.out 5).trans rfl, (blk_cell BK358.out 6).trans rfl⟩ (fun hHeld => ?_)
          clear hK K
          refine norm_ (a' := ?_) ?_ ?_
          rotate_left
          ·show Act.put _ (some 26) _ = _
           simp only [Act.put, List.setIfInBounds_toArray, List.set_cons_zero, List.set_cons_succ, i64_w, i32_w]
           rfl
          refine pure_ (i := 8) (N := some 31) (v := ?_) (a' := ?_) #[true, true, true, true, true, true, true, true, true] rfl rfl (any_of HT_.out (by kernel_rfl)) (fun _ _ _ h => h) (Or.inl ⟨by rfl, ?_⟩) ?_ ?_
          rotate_left
          ·intro w'
           go_simp
           with_reducible rfl
          rotate_left
          ·simp only [Act.put, List.setIfInBounds_toArray, List.set_cons_zero, List.set_cons_succ, i64_w, i32_w]
           rfl
          refine done_ (done_of HT_.out (by kernel_rfl)) ?_
          try go_wp2
          have n0_ := Aside0.mk (blk_drew BK357.out)
          have n1_ := Aside0.mk (blk_drew BK358.out)
          have n2_ := Aside0.mk (blk_drew BK363.out)
          have n3_ := Aside0.mk (below_drew1 HB.out)
          clear BK357
          clear BK358
          clear BK363
          clear HB
          have BK357 := n0_
          have BK358 := n1_
          have BK363 := n2_
          have HB := n3_
          clear n0_ n1_ n2_ n3_
          refine start_ (n := 11) (S := fun w' => w'.cell? ⟨gb357, 0, none⟩ = some (.int .i64 x358000_1) ∧ w'.cell? ⟨gb357, 1, none⟩ = some (.int .i64 x358001_1) ∧ w'.cell? ⟨gb357, 2, none⟩ = some (.int .i64 x358002_1) ∧ w'.cell? ⟨gb358, 0, none⟩ = some (.int .i64 a1_0) ∧ w'.cell? ⟨gb358, 1, none⟩ = some (.int .i64 a1_1) ∧ w'.cell? ⟨gb358, 2, none⟩ = some (.int .i64 a1_2) ∧ w'.cell? ⟨gb358, 3, none⟩ = some (.int .i64 a1_3) ∧ w'.cell? ⟨gb358, 4, none⟩ = some (.int .i64 a1_4) ∧ w'.cell? ⟨gb358, 5, none⟩ = some (.int .i64 a1_5) ∧ w'.cell? ⟨gb358, 6, none⟩ = some (.int .i64 a1_6) ∧ w'.cell? ⟨gb363, 0, none⟩ = some (.int .i64 x364000_1) ∧ w'.cell? ⟨gb363, 1, none⟩ = some (.int .i64 x364001_1) ∧ w'.cell? ⟨gb363, 2, none⟩ = some (.int .i64 x364002_1)) (ds := [9, 10]) #[false, false, false, false, false, false, false, false, false, false, false] (by kernel_rfl) rfl rfl ⟨(blk_cell BK357.out 0).trans rfl, (blk_cell BK357.out 1).trans rfl, (blk_cell BK357.out 2).trans rfl, (blk_cell BK358.out 0).trans rfl, (blk_cell BK358.out 1).trans rfl, (blk_cell BK358.out 2).trans rfl, (blk_cell BK358.out 3).trans rfl, (blk_cell BK358.out 4).trans rfl, (blk_cell BK358.out 5).trans rfl, (blk_cell BK358.out 6).trans rfl, (blk_cell BK363.out 0).trans rfl, (blk_cell BK363.out 1).trans rfl, (blk_cell BK363.out 2).trans rfl⟩ (fun hHeld => ?_); refine with_tabW overfalllaw11_PidSamples.tab10 overfalllaw11_PidSamples.bits10 (fun HT_ HW_ => ?_)
          generalize w36.drew = w37 at BK357 BK358 BK363 HB hHeld ⊢
          refine pure_ (i := 2) (N := some 34) (v := ?_) (a' := ?_) #[false, false, true, false, false, false, false, false, false, false, false] rfl rfl (any_of HT_.out (by kernel_rfl)) (fun _ _ _ h => h) (Or.inl ⟨by rfl, ?_⟩) ?_ ?_
          rotate_left
          ·intro w'
           go_simp
           with_reducible rfl
          rotate_left
          ·simp only [Act.put, List.setIfInBounds_toArray, List.set_cons_zero, List.set_cons_succ, i64_w, i32_w]
           rfl
          refine pure_ (i := 7) (N := some 39) (v := ?_) (a' := ?_) #[false, false, true, false, false, false, false, true, false, false, false] rfl rfl (any_of HT_.out (by kernel_rfl)) (fun _ _ _ h => h) (Or.inl ⟨by rfl, ?_⟩) ?_ ?_
          rotate_left
          ·intro w'
           go_simp
           with_reducible rfl
          rotate_left
          ·simp only [Act.put, List.setIfInBounds_toArray, List.set_cons_zero, List.set_cons_succ, i64_w, i32_w]
           rfl
          refine take_ (i := 0) (N := some 32) (v := ?_) (a' := ?_) #[true, false, true, false, false, false, false, true, false, false, false] rfl rfl (take_ofW HT_.out HW_.out (by kernel_rfl)) (fun _ _ _ h => h) (Or.inl ⟨by rfl, ?_⟩) hHeld ?_ ?_
          rotate_left
          ·rintro w' ⟨s0, s1, s2, s3, s4, s5, s6, s7, s8, s9, s10, s11, s12⟩
           go_simp
           with_reducible rfl
          rotate_left
          ·simp only [Act.put, List.setIfInBounds_toArray, List.set_cons_zero, List.set_cons_succ, i64_w, i32_w]
           rfl
          refine take_ (i := 1) (N := some 33) (v := ?_) (a' := ?_) #[true, true, true, false, false, false, false, true, false, false, false] rfl rfl (take_ofW HT_.out HW_.out (by kernel_rfl)) (fun _ _ _ h => h) (Or.inl ⟨by rfl, ?_⟩) hHeld ?_ ?_
          rotate_left
          ·rintro w' ⟨s0, s1, s2, s3, s4, s5, s6, s7, s8, s9, s10, s11, s12⟩
           go_simp
           with_reducible rfl
          rotate_left
          ·simp only [Act.put, List.setIfInBounds_toArray, List.set_cons_zero, List.set_cons_succ, i64_w, i32_w]
           rfl
          refine take_ (i := 4) (N := some 36) (v := ?_) (a' := ?_) #[true, true, true, false, true, false, false, true, false, false, false] rfl rfl (take_ofW HT_.out HW_.out (by kernel_rfl)) (fun _ _ _ h => h) (Or.inl ⟨by rfl, ?_⟩) hHeld ?_ ?_
          rotate_left
          ·rintro w' ⟨s0, s1, s2, s3, s4, s5, s6, s7, s8, s9, s10, s11, s12⟩
           go_simp
           with_reducible rfl
          rotate_left
          ·simp only [Act.put, List.setIfInBounds_toArray, List.set_cons_zero, List.set_cons_succ, i64_w, i32_w]
           rfl
          refine take_ (i := 5) (N := some 37) (v := ?_) (a' := ?_) #[true, true, true, false, true, true, false, true, false, false, false] rfl rfl (take_ofW HT_.out HW_.out (by kernel_rfl)) (fun _ _ _ h => h) (Or.inl ⟨by rfl, ?_⟩) hHeld ?_ ?_
          rotate_left
          ·rintro w' ⟨s0, s1, s2, s3, s4, s5, s6, s7, s8, s9, s10, s11, s12⟩
           go_simp
           with_reducible rfl
          rotate_left
          ·simp only [Act.put, List.setIfInBounds_toArray, List.set_cons_zero, List.set_cons_succ, i64_w, i32_w]
           rfl
          refine one_ (i := 3) (N := some 35) #[true, true, true, true, true, true, false, true, false, false, false] rfl rfl (one_of HT_.out (by kernel_rfl)) (by decide) (fun K hK => ?_)
          refine goes_ Try.func11 (by kernel_rfl) rfl #[.agg #[.int .i64 x358000_1, .int .i64 x358001_1, .int .i64 x358002_1], .agg #[.int .i64 a1_0, .int .i64 a1_1, .int .i64 a1_2, .int .i64 a1_3, .int .i64 a1_4, .int .i64 a1_5, .int .i64 a1_6], .int .i64 (rd l2 x16_1)] (by rfl) rfl rfl (by (try simp only [List.map_toArray, List.map_cons, List.map_nil]); first | done | rfl | (simp only [List.length_drop, List.length_take]; rfl)) ?_
          with_reducible refine (pid_State_Sample.calls k1 x358000_1 x358001_1 x358002_1 a1_0 a1_1 a1_2 a1_3 a1_4 a1_5 a1_6 (rd l2 x16_1) t384 t385 t386 _ A30.out).mono ?_
          rintro e w38 ⟨rfl, hb⟩
          refine ⟨_, rfl, ?_⟩
          have n0_ := Aside0.mk (blk_below (by exact BK357.out) hb)
          have n1_ := Aside0.mk (blk_below (by exact BK358.out) hb)
          have n2_ := Aside0.mk (blk_below (by exact BK363.out) hb)
          have n3_ := Aside0.mk (below_step (by repeat (first | (with_reducible first | exact HB.out | apply below_alloc | apply pw_below_drewN | apply below_drew1 | refine below_set ?_ GE357.out | refine below_set ?_ GE358.out | refine below_set ?_ GE363.out) | exact HB.out)) hb)
          clear BK357
          clear BK358
          clear BK363
          clear HB
          have BK357 := n0_
          have BK358 := n1_
          have BK363 := n2_
          have HB := n3_
          clear n0_ n1_ n2_ n3_
          (try clear hb)
          (try clear hb2)
          (try clear hk)
          (try clear hi)
          refine hK.out _ _ ⟨(blk_cell BK357.out 0).trans rfl, (blk_cell BK357.out 1).trans rfl, (blk_cell BK357.out 2).trans rfl, (blk_cell BK358.out 0).trans rfl, (blk_cell BK358.out 1).trans rfl, (blk_cell BK358.out 2).trans rfl, (blk_cell BK358.out 3).trans rfl, (blk_cell BK358.out 4).trans rfl, (blk_cell BK358.out 5).trans rfl, (blk_cell BK358.out 6).trans rfl, (blk_cell BK363.out 0).trans rfl, (blk_cell BK363.out 1).trans rfl, (blk_cell BK363.out 2).trans rfl⟩ (fun hHeld => ?_)
          clear hK K
          refine norm_ (a' := ?_) ?_ ?_
          rotate_left
          ·show Act.put _ (some 35) _ = _
           simp only [Act.put, List.setIfInBounds_toArray, List.set_cons_zero, List.set_cons_succ, i64_w, i32_w]
           rfl
          refine one_ (i := 6) (N := some 38) #[true, true, true, true, true, true, true, true, false, false, false] rfl rfl (one_of HT_.out (by kernel_rfl)) (by decide) (fun K hK => ?_)
          refine goes_ Try.func13 (by kernel_rfl) rfl #[.agg #[.int .i64 a1_0, .int .i64 a1_1, .int .i64 a1_2, .int .i64 a1_3, .int .i64 a1_4, .int .i64 a1_5, .int .i64 a1_6]] (by rfl) rfl rfl (by (try simp only [List.map_toArray, List.map_cons, List.map_nil]); first | done | rfl | (simp only [List.length_drop, List.length_take]; rfl)) ?_
          with_reducible refine (overfalllaw11_own.calls a1_0 a1_1 a1_2 a1_3 a1_4 a1_5 a1_6 t387 t388 t389 t390 t391 t392 t393 _ A31.out).mono ?_
          rintro e w39 ⟨rfl, hb⟩
          refine ⟨_, rfl, ?_⟩
          have n0_ := Aside0.mk (blk_below (by exact BK357.out) hb)
          have n1_ := Aside0.mk (blk_below (by exact BK358.out) hb)
          have n2_ := Aside0.mk (blk_below (by exact BK363.out) hb)
          have n3_ := Aside0.mk (below_step (by repeat (first | (with_reducible first | exact HB.out | apply below_alloc | apply pw_below_drewN | apply below_drew1 | refine below_set ?_ GE357.out | refine below_set ?_ GE358.out | refine below_set ?_ GE363.out) | exact HB.out)) hb)
          clear BK357
          clear BK358
          clear BK363
          clear HB
          have BK357 := n0_
          have BK358 := n1_
          have BK363 := n2_
          have HB := n3_
          clear n0_ n1_ n2_ n3_
          (try clear hb)
          (try clear hb2)
          (try clear hk)
          (try clear hi)
          refine hK.out _ _ ⟨(blk_cell BK357.out 0).trans rfl, (blk_cell BK357.out 1).trans rfl, (blk_cell BK357.out 2).trans rfl, (blk_cell BK358.out 0).trans rfl, (blk_cell BK358.out 1).trans rfl, (blk_cell BK358.out 2).trans rfl, (blk_cell BK358.out 3).trans rfl, (blk_cell BK358.out 4).trans rfl, (blk_cell BK358.out 5).trans rfl, (blk_cell BK358.out 6).trans rfl, (blk_cell BK363.out 0).trans rfl, (blk_cell BK363.out 1).trans rfl, (blk_cell BK363.out 2).trans rfl⟩ (fun hHeld => ?_)
          clear hK K
          refine norm_ (a' := ?_) ?_ ?_
          rotate_left
          ·show Act.put _ (some 38) _ = _
           simp only [Act.put, List.setIfInBounds_toArray, List.set_cons_zero, List.set_cons_succ, i64_w, i32_w]
           rfl
          refine one_ (i := 8) (N := some 40) #[true, true, true, true, true, true, true, true, true, false, false] rfl rfl (one_of HT_.out (by kernel_rfl)) (by decide) (fun K hK => ?_)
          refine goes_ Try.func12 (by kernel_rfl) rfl #[.agg #[.int .i64 x364000_1, .int .i64 x364001_1, .int .i64 x364002_1], .agg #[.int .i64 t387, .int .i64 t388, .int .i64 t389, .int .i64 t390, .int .i64 t391, .int .i64 t392, .int .i64 t393], .int .i64 (rd l2 x16_1)] (by rfl) rfl rfl (by (try simp only [List.map_toArray, List.map_cons, List.map_nil]); first | done | rfl | (simp only [List.length_drop, List.length_take]; rfl)) ?_
          with_reducible refine (overfallref11_Sample.calls k1 x364000_1 x364001_1 x364002_1 t387 t388 t389 t390 t391 t392 t393 (rd l2 x16_1) t394 t395 t396 _ A32.out).mono ?_
          rintro e w40 ⟨rfl, hb⟩
          refine ⟨_, rfl, ?_⟩
          have n0_ := Aside0.mk (blk_below (by exact BK357.out) hb)
          have n1_ := Aside0.mk (blk_below (by exact BK358.out) hb)
          have n2_ := Aside0.mk (blk_below (by exact BK363.out) hb)
          have n3_ := Aside0.mk (below_step (by repeat (first | (with_reducible first | exact HB.out | apply below_alloc | apply pw_below_drewN | apply below_drew1 | refine below_set ?_ GE357.out | refine below_set ?_ GE358.out | refine below_set ?_ GE363.out) | exact HB.out)) hb)
          clear BK357
          clear BK358
          clear BK363
          clear HB
          have BK357 := n0_
          have BK358 := n1_
          have BK363 := n2_
          have HB := n3_
          clear n0_ n1_ n2_ n3_
          (try clear hb)
          (try clear hb2)
          (try clear hk)
          (try clear hi)
          refine hK.out _ _ ⟨(blk_cell BK357.out 0).trans rfl, (blk_cell BK357.out 1).trans rfl, (blk_cell BK357.out 2).trans rfl, (blk_cell BK358.out 0).trans rfl, (blk_cell BK358.out 1).trans rfl, (blk_cell BK358.out 2).trans rfl, (blk_cell BK358.out 3).trans rfl, (blk_cell BK358.out 4).trans rfl, (blk_cell BK358.out 5).trans rfl, (blk_cell BK358.out 6).trans rfl, (blk_cell BK363.out 0).trans rfl, (blk_cell BK363.out 1).trans rfl, (blk_cell BK363.out 2).trans rfl⟩ (fun hHeld => ?_)
          clear hK K
          refine norm_ (a' := ?_) ?_ ?_
          rotate_left
          ·show Act.put _ (some 40) _ = _
           simp only [Act.put, List.setIfInBounds_toArray, List.set_cons_zero, List.set_cons_succ, i64_w, i32_w]
           rfl
          refine last_ (i := 9) (N := none) #[true, true, true, true, true, true, true, true, true, true, false] rfl rfl (one_of HT_.out (by kernel_rfl)) (by decide) (fun K hK => ?_)
          have hs41 : w40.cell? ⟨gb357, 0, none⟩ = some (.int .i64 x358000_1) := (blk_cell BK357.out 0).trans rfl
          have hfs41 := blk_frozen BK357.out 0
          have hns41_1 := NB358_357.out
          have hns41_2 := NB363_357.out
          have hms41_1 := NB357_358.out
          have hms41_2 := NB357_363.out
          have hs42 : w40.cell? ⟨gb357, 1, none⟩ = some (.int .i64 x358001_1) := (blk_cell BK357.out 1).trans rfl
          have hfs42 := blk_frozen BK357.out 1
          have hns42_1 := NB358_357.out
          have hns42_2 := NB363_357.out
          have hms42_1 := NB357_358.out
          have hms42_2 := NB357_363.out
          have hs43 : w40.cell? ⟨gb357, 2, none⟩ = some (.int .i64 x358002_1) := (blk_cell BK357.out 2).trans rfl
          have hfs43 := blk_frozen BK357.out 2
          have hns43_1 := NB358_357.out
          have hns43_2 := NB363_357.out
          have hms43_1 := NB357_358.out
          have hms43_2 := NB357_363.out
          refine skip_ (w1 := ?_) (by rfl) rfl ?_ ?_
          rotate_left
          ·go_simp
           rfl
          refine hK.out _ _ ?_
          clear hK K
          refine last_ (i := 10) (N := none) #[true, true, true, true, true, true, true, true, true, true, true] rfl rfl (one_of HT_.out (by kernel_rfl)) (by decide) (fun K hK => ?_)
          have hs44 : w40.cell? ⟨gb363, 0, none⟩ = some (.int .i64 x364000_1) := (blk_cell BK363.out 0).trans rfl
          have hfs44 := blk_frozen BK363.out 0
          have hns44_0 := NB357_363.out
          have hns44_1 := NB358_363.out
          have hms44_0 := NB363_357.out
          have hms44_1 := NB363_358.out
          have hs45 : w40.cell? ⟨gb363, 1, none⟩ = some (.int .i64 x364001_1) := (blk_cell BK363.out 1).trans rfl
          have hfs45 := blk_frozen BK363.out 1
          have hns45_0 := NB357_363.out
          have hns45_1 := NB358_363.out
          have hms45_0 := NB363_357.out
          have hms45_1 := NB363_358.out
          have hs46 : w40.cell? ⟨gb363, 2, none⟩ = some (.int .i64 x364002_1) := (blk_cell BK363.out 2).trans rfl
          have hfs46 := blk_frozen BK363.out 2
          have hns46_0 := NB357_363.out
          have hns46_1 := NB358_363.out
          have hms46_0 := NB363_357.out
          have hms46_1 := NB363_358.out
          refine skip_ (w1 := ?_) (by rfl) rfl ?_ ?_
          rotate_left
          ·go_simp
           rfl
          refine hK.out _ _ ?_
          clear hK K
          refine done_ (done_of HT_.out (by kernel_rfl)) ?_
          try go_wp2
          have n0_ : Aside0 (((((((w40.setCell ⟨gb357, 0, none⟩ (.int .i64 t384)).setCell ⟨gb357, 1, none⟩ (.int .i64 t385)).setCell ⟨gb357, 2, none⟩ (.int .i64 t386)).setCell ⟨gb363, 0, none⟩ (.int .i64 t394)).setCell ⟨gb363, 1, none⟩ (.int .i64 t395)).setCell ⟨gb363, 2, none⟩ (.int .i64 t396)).heap[gb357]? = some (.cells #[.int .i64 t384, .int .i64 t385, .int .i64 t386] 24 (0, 0))) := ⟨by refine blk_far ?_ NB357_363.out _; refine blk_far ?_ NB357_363.out _; refine blk_far ?_ NB357_363.out _; refine blk_put (cs := #[.int .i64 t384, .int .i64 t385, .int .i64 x358002_1]) ?_ 2 _ rfl; refine blk_put (cs := #[.int .i64 t384, .int .i64 x358001_1, .int .i64 x358002_1]) ?_ 1 _ rfl; refine blk_put (cs := #[.int .i64 x358000_1, .int .i64 x358001_1, .int .i64 x358002_1]) ?_ 0 _ rfl; exact BK357.out⟩
          have n1_ : Aside0 (((((((w40.setCell ⟨gb357, 0, none⟩ (.int .i64 t384)).setCell ⟨gb357, 1, none⟩ (.int .i64 t385)).setCell ⟨gb357, 2, none⟩ (.int .i64 t386)).setCell ⟨gb363, 0, none⟩ (.int .i64 t394)).setCell ⟨gb363, 1, none⟩ (.int .i64 t395)).setCell ⟨gb363, 2, none⟩ (.int .i64 t396)).heap[gb358]? = some (.cells #[.int .i64 a1_0, .int .i64 a1_1, .int .i64 a1_2, .int .i64 a1_3, .int .i64 a1_4, .int .i64 a1_5, .int .i64 a1_6] 26 (0, 0))) := ⟨by refine blk_far ?_ NB358_363.out _; refine blk_far ?_ NB358_363.out _; refine blk_far ?_ NB358_363.out _; refine blk_far ?_ NB358_357.out _; refine blk_far ?_ NB358_357.out _; refine blk_far ?_ NB358_357.out _; exact BK358.out⟩
          have n2_ : Aside0 (((((((w40.setCell ⟨gb357, 0, none⟩ (.int .i64 t384)).setCell ⟨gb357, 1, none⟩ (.int .i64 t385)).setCell ⟨gb357, 2, none⟩ (.int .i64 t386)).setCell ⟨gb363, 0, none⟩ (.int .i64 t394)).setCell ⟨gb363, 1, none⟩ (.int .i64 t395)).setCell ⟨gb363, 2, none⟩ (.int .i64 t396)).heap[gb363]? = some (.cells #[.int .i64 t394, .int .i64 t395, .int .i64 t396] 30 (0, 0))) := ⟨by refine blk_put (cs := #[.int .i64 t394, .int .i64 t395, .int .i64 x364002_1]) ?_ 2 _ rfl; refine blk_put (cs := #[.int .i64 t394, .int .i64 x364001_1, .int .i64 x364002_1]) ?_ 1 _ rfl; refine blk_put (cs := #[.int .i64 x364000_1, .int .i64 x364001_1, .int .i64 x364002_1]) ?_ 0 _ rfl; refine blk_far ?_ NB363_357.out _; refine blk_far ?_ NB363_357.out _; refine blk_far ?_ NB363_357.out _; exact BK363.out⟩
          have n3_ : Aside0 (Below w.heap.size w ((((((w40.setCell ⟨gb357, 0, none⟩ (.int .i64 t384)).setCell ⟨gb357, 1, none⟩ (.int .i64 t385)).setCell ⟨gb357, 2, none⟩ (.int .i64 t386)).setCell ⟨gb363, 0, none⟩ (.int .i64 t394)).setCell ⟨gb363, 1, none⟩ (.int .i64 t395)).setCell ⟨gb363, 2, none⟩ (.int .i64 t396))) := ⟨by repeat (first | (with_reducible first | exact HB.out | apply below_alloc | apply pw_below_drewN | apply below_drew1 | refine below_set ?_ GE357.out | refine below_set ?_ GE358.out | refine below_set ?_ GE363.out) | exact HB.out)⟩
          (try clear BK357)
          (try clear BK358)
          (try clear BK363)
          (try clear HB)
          generalize ((((((w40.setCell ⟨gb357, 0, none⟩ (.int .i64 t384)).setCell ⟨gb357, 1, none⟩ (.int .i64 t385)).setCell ⟨gb357, 2, none⟩ (.int .i64 t386)).setCell ⟨gb363, 0, none⟩ (.int .i64 t394)).setCell ⟨gb363, 1, none⟩ (.int .i64 t395)).setCell ⟨gb363, 2, none⟩ (.int .i64 t396)) = w47 at n0_ n1_ n2_ n3_ ⊢
          have BK357 := n0_
          have BK358 := n1_
          have BK363 := n2_
          have HB := n3_
          clear n0_ n1_ n2_ n3_
          have n0_ := Aside0.mk (blk_drew BK357.out)
          have n1_ := Aside0.mk (blk_drew BK358.out)
          have n2_ := Aside0.mk (blk_drew BK363.out)
          have n3_ := Aside0.mk (below_drew1 HB.out)
          clear BK357
          clear BK358
          clear BK363
          clear HB
          have BK357 := n0_
          have BK358 := n1_
          have BK363 := n2_
          have HB := n3_
          clear n0_ n1_ n2_ n3_
          refine start_ (n := 4) (S := fun w' => w'.cell? ⟨gb357, 0, none⟩ = some (.int .i64 t384) ∧ w'.cell? ⟨gb357, 1, none⟩ = some (.int .i64 t385) ∧ w'.cell? ⟨gb357, 2, none⟩ = some (.int .i64 t386) ∧ w'.cell? ⟨gb363, 0, none⟩ = some (.int .i64 t394) ∧ w'.cell? ⟨gb363, 1, none⟩ = some (.int .i64 t395) ∧ w'.cell? ⟨gb363, 2, none⟩ = some (.int .i64 t396)) (ds := []) #[false, false, false, false] (by kernel_rfl) rfl rfl ⟨(blk_cell BK357.out 0).trans rfl, (blk_cell BK357.out 1).trans rfl, (blk_cell BK357.out 2).trans rfl, (blk_cell BK363.out 0).trans rfl, (blk_cell BK363.out 1).trans rfl, (blk_cell BK363.out 2).trans rfl⟩ (fun hHeld => ?_)
          generalize w47.drew = w48 at BK357 BK358 BK363 HB hHeld ⊢
          refine take_ (i := 0) (N := some 41) (v := ?_) (a' := ?_) #[true, false, false, false] rfl rfl (by kernel_rfl) (fun _ _ _ h => h) (Or.inl ⟨by rfl, ?_⟩) hHeld ?_ ?_
          rotate_left
          ·rintro w' ⟨s0, s1, s2, s3, s4, s5⟩
           go_simp
           with_reducible rfl
          rotate_left
          ·simp only [Act.put, List.setIfInBounds_toArray, List.set_cons_zero, List.set_cons_succ, i64_w, i32_w]
           rfl
          refine take_ (i := 2) (N := some 43) (v := ?_) (a' := ?_) #[true, false, true, false] rfl rfl (by kernel_rfl) (fun _ _ _ h => h) (Or.inl ⟨by rfl, ?_⟩) hHeld ?_ ?_
          rotate_left
          ·rintro w' ⟨s0, s1, s2, s3, s4, s5⟩
           go_simp
           with_reducible rfl
          rotate_left
          ·simp only [Act.put, List.setIfInBounds_toArray, List.set_cons_zero, List.set_cons_succ, i64_w, i32_w]
           rfl
          refine one_ (i := 1) (N := some 42) #[true, true, true, false] rfl rfl (by kernel_rfl) (by decide) (fun K hK => ?_)
          refine goes_ Try.func9 (by kernel_rfl) rfl #[.agg #[.int .i64 t384, .int .i64 t385, .int .i64 t386]] (by rfl) rfl rfl (by (try simp only [List.map_toArray, List.map_cons, List.map_nil]); first | done | rfl | (simp only [List.length_drop, List.length_take]; rfl)) ?_
          with_reducible refine (overfalllaw11_state.calls t384 t385 t386 t397 t398 t399 _ A33.out).mono ?_
          rintro e w49 ⟨rfl, hb⟩
          refine ⟨_, rfl, ?_⟩
          have n0_ := Aside0.mk (blk_below (by exact BK357.out) hb)
          have n1_ := Aside0.mk (blk_below (by exact BK358.out) hb)
          have n2_ := Aside0.mk (blk_below (by exact BK363.out) hb)
          have n3_ := Aside0.mk (below_step (by repeat (first | (with_reducible first | exact HB.out | apply below_alloc | apply pw_below_drewN | apply below_drew1 | refine below_set ?_ GE357.out | refine below_set ?_ GE358.out | refine below_set ?_ GE363.out) | exact HB.out)) hb)
          clear BK357
          clear BK358
          clear BK363
          clear HB
          have BK357 := n0_
          have BK358 := n1_
          have BK363 := n2_
          have HB := n3_
          clear n0_ n1_ n2_ n3_
          (try clear hb)
          (try clear hb2)
          (try clear hk)
          (try clear hi)
          refine hK.out _ _ ⟨(blk_cell BK357.out 0).trans rfl, (blk_cell BK357.out 1).trans rfl, (blk_cell BK357.out 2).trans rfl, (blk_cell BK363.out 0).trans rfl, (blk_cell BK363.out 1).trans rfl, (blk_cell BK363.out 2).trans rfl⟩ (fun hHeld => ?_)
          clear hK K
          refine norm_ (a' := ?_) ?_ ?_
          rotate_left
          ·show Act.put _ (some 42) _ = _
           simp only [Act.put, List.setIfInBounds_toArray, List.set_cons_zero, List.set_cons_succ, i64_w, i32_w]
           rfl
          refine pure_ (i := 3) (N := some 44) (v := ?_) (a' := ?_) #[true, true, true, true] rfl rfl (by kernel_rfl) (fun _ _ _ h => h) (Or.inl ⟨by rfl, ?_⟩) ?_ ?_
          rotate_left
          ·intro w'
           go_simp
           with_reducible rfl
          rotate_left
          ·simp only [Act.put, List.setIfInBounds_toArray, List.set_cons_zero, List.set_cons_succ, i64_w, i32_w]
           rfl
          refine done_ (by kernel_rfl) ?_
          try go_wp2
          go_roundg k1
          case measure => have := HK1.out; omega
          case rel => exact ⟨(wrap64 (x16_1 + 1)), (t384), (t385), (t386), (t394), (t395), (t396), (by first | rfl | (simp; done) | (simp [*]; done)), H', ⟨by have := HK1.out; omega⟩, ⟨by exact BK357.out⟩, ⟨by exact BK358.out⟩, ⟨by exact BK363.out⟩, ⟨by repeat (first | (with_reducible first | exact HB.out | apply below_alloc | apply pw_below_drewN | apply below_drew1 | refine below_set ?_ GE357.out | refine below_set ?_ GE358.out | refine below_set ?_ GE363.out) | exact HB.out)⟩⟩
      ·rw [if_neg c19] at H
       exact absurd H (by simp)
     ·rw [if_neg c18] at H
      exact absurd H (by simp)
    ·rw [if_neg c17] at H
     have c17b0 : decide (x16_1 < (l2.length : Int)) = false := decide_eq_false c17
     clear c17
     replace H := Option.bind_eq_some_iff.mp H
     obtain ⟨t364, A500, H⟩ := H
     replace H : ((overfalllaw11_own.f a1_0 a1_1 a1_2 a1_3 a1_4 a1_5 a1_6).bind fun bt365 => ((overfallref11_Right.f bt365.1 bt365.2.1 bt365.2.2.1 bt365.2.2.2.1 bt365.2.2.2.2.1 bt365.2.2.2.2.2.1 bt365.2.2.2.2.2.2).bind fun t372 => (some (t364 == t372)))) = some r := H
     have A50 := Aside0.mk A500
     clear A500
     replace H := Option.bind_eq_some_iff.mp H
     obtain ⟨⟨t365, t366, t367, t368, t369, t370, t371⟩, A510, H⟩ := H
     replace H : ((overfallref11_Right.f t365 t366 t367 t368 t369 t370 t371).bind fun t372 => (some (t364 == t372))) = some r := H
     have A51 := Aside0.mk A510
     clear A510
     replace H := Option.bind_eq_some_iff.mp H
     obtain ⟨t372, A520, H⟩ := H
     replace H : (some (t364 == t372)) = some r := H
     have A52 := Aside0.mk A520
     clear A520
     obtain rfl := Option.some.inj H
     try go_wp2
     have n0_ := Aside0.mk (blk_drew BK357.out)
     have n1_ := Aside0.mk (blk_drew BK358.out)
     have n2_ := Aside0.mk (blk_drew BK363.out)
     have n3_ := Aside0.mk (below_drew1 HB.out)
     clear BK357
     clear BK358
     clear BK363
     clear HB
     have BK357 := n0_
     have BK358 := n1_
     have BK363 := n2_
     have HB := n3_
     clear n0_ n1_ n2_ n3_
     refine start_ (n := 7) (S := fun w' => w'.cell? ⟨gb358, 0, none⟩ = some (.int .i64 a1_0) ∧ w'.cell? ⟨gb358, 1, none⟩ = some (.int .i64 a1_1) ∧ w'.cell? ⟨gb358, 2, none⟩ = some (.int .i64 a1_2) ∧ w'.cell? ⟨gb358, 3, none⟩ = some (.int .i64 a1_3) ∧ w'.cell? ⟨gb358, 4, none⟩ = some (.int .i64 a1_4) ∧ w'.cell? ⟨gb358, 5, none⟩ = some (.int .i64 a1_5) ∧ w'.cell? ⟨gb358, 6, none⟩ = some (.int .i64 a1_6)) (ds := []) #[false, false, false, false, false, false, false] (by kernel_rfl) rfl rfl ⟨(blk_cell BK358.out 0).trans rfl, (blk_cell BK358.out 1).trans rfl, (blk_cell BK358.out 2).trans rfl, (blk_cell BK358.out 3).trans rfl, (blk_cell BK358.out 4).trans rfl, (blk_cell BK358.out 5).trans rfl, (blk_cell BK358.out 6).trans rfl⟩ (fun hHeld => ?_)
     generalize wr.drew = w53 at BK357 BK358 BK363 HB hHeld ⊢
     refine take_ (i := 0) (N := some 46) (v := ?_) (a' := ?_) #[true, false, false, false, false, false, false] rfl rfl (by kernel_rfl) (fun _ _ _ h => h) (Or.inl ⟨by rfl, ?_⟩) hHeld ?_ ?_
     rotate_left
     ·rintro w' ⟨s0, s1, s2, s3, s4, s5, s6⟩
      go_simp
      with_reducible rfl
     rotate_left
     ·simp only [Act.put, List.setIfInBounds_toArray, List.set_cons_zero, List.set_cons_succ, i64_w, i32_w]
      rfl
     refine take_ (i := 2) (N := some 48) (v := ?_) (a' := ?_) #[true, false, true, false, false, false, false] rfl rfl (by kernel_rfl) (fun _ _ _ h => h) (Or.inl ⟨by rfl, ?_⟩) hHeld ?_ ?_
     rotate_left
     ·rintro w' ⟨s0, s1, s2, s3, s4, s5, s6⟩
      go_simp
      with_reducible rfl
     rotate_left
     ·simp only [Act.put, List.setIfInBounds_toArray, List.set_cons_zero, List.set_cons_succ, i64_w, i32_w]
      rfl
     refine one_ (i := 1) (N := some 47) #[true, true, true, false, false, false, false] rfl rfl (by kernel_rfl) (by decide) (fun K hK => ?_)
     refine goes_ Try.func14 (by kernel_rfl) rfl #[.agg #[.int .i64 a1_0, .int .i64 a1_1, .int .i64 a1_2, .int .i64 a1_3, .int .i64 a1_4, .int .i64 a1_5, .int .i64 a1_6]] (by rfl) rfl rfl (by (try simp only [List.map_toArray, List.map_cons, List.map_nil]); first | done | rfl | (simp only [List.length_drop, List.length_take]; rfl)) ?_
     with_reducible refine (pid_Params_Right.calls a1_0 a1_1 a1_2 a1_3 a1_4 a1_5 a1_6 t364 _ A50.out).mono ?_
     rintro e w54 ⟨rfl, hb⟩
     refine ⟨_, rfl, ?_⟩
     have n0_ := Aside0.mk (blk_below (by exact BK357.out) hb)
     have n1_ := Aside0.mk (blk_below (by exact BK358.out) hb)
     have n2_ := Aside0.mk (blk_below (by exact BK363.out) hb)
     have n3_ := Aside0.mk (below_step (by repeat (first | (with_reducible first | exact HB.out | apply below_alloc | apply pw_below_drewN | apply below_drew1 | refine below_set ?_ GE357.out | refine below_set ?_ GE358.out | refine below_set ?_ GE363.out) | exact HB.out)) hb)
     clear BK357
     clear BK358
     clear BK363
     clear HB
     have BK357 := n0_
     have BK358 := n1_
     have BK363 := n2_
     have HB := n3_
     clear n0_ n1_ n2_ n3_
     (try clear hb)
     (try clear hb2)
     (try clear hk)
     (try clear hi)
     refine hK.out _ _ ⟨(blk_cell BK358.out 0).trans rfl, (blk_cell BK358.out 1).trans rfl, (blk_cell BK358.out 2).trans rfl, (blk_cell BK358.out 3).trans rfl, (blk_cell BK358.out 4).trans rfl, (blk_cell BK358.out 5).trans rfl, (blk_cell BK358.out 6).trans rfl⟩ (fun hHeld => ?_)
     clear hK K
     refine norm_ (a' := ?_) ?_ ?_
     rotate_left
     ·show Act.put _ (some 47) _ = _
      simp only [Act.put, List.setIfInBounds_toArray, List.set_cons_zero, List.set_cons_succ, i64_w, i32_w]
      rfl
     refine one_ (i := 3) (N := some 49) #[true, true, true, true, false, false, false] rfl rfl (by kernel_rfl) (by decide) (fun K hK => ?_)
     refine goes_ Try.func13 (by kernel_rfl) rfl #[.agg #[.int .i64 a1_0, .int .i64 a1_1, .int .i64 a1_2, .int .i64 a1_3, .int .i64 a1_4, .int .i64 a1_5, .int .i64 a1_6]] (by rfl) rfl rfl (by (try simp only [List.map_toArray, List.map_cons, List.map_nil]); first | done | rfl | (simp only [List.length_drop, List.length_take]; rfl)) ?_
     with_reducible refine (overfalllaw11_own.calls a1_0 a1_1 a1_2 a1_3 a1_4 a1_5 a1_6 t365 t366 t367 t368 t369 t370 t371 _ A51.out).mono ?_
     rintro e w55 ⟨rfl, hb⟩
     refine ⟨_, rfl, ?_⟩
     have n0_ := Aside0.mk (blk_below (by exact BK357.out) hb)
     have n1_ := Aside0.mk (blk_below (by exact BK358.out) hb)
     have n2_ := Aside0.mk (blk_below (by exact BK363.out) hb)
     have n3_ := Aside0.mk (below_step (by repeat (first | (with_reducible first | exact HB.out | apply below_alloc | apply pw_below_drewN | apply below_drew1 | refine below_set ?_ GE357.out | refine below_set ?_ GE358.out | refine below_set ?_ GE363.out) | exact HB.out)) hb)
     clear BK357
     clear BK358
     clear BK363
     clear HB
     have BK357 := n0_
     have BK358 := n1_
     have BK363 := n2_
     have HB := n3_
     clear n0_ n1_ n2_ n3_
     (try clear hb)
     (try clear hb2)
     (try clear hk)
     (try clear hi)
     refine hK.out _ _ ⟨(blk_cell BK358.out 0).trans rfl, (blk_cell BK358.out 1).trans rfl, (blk_cell BK358.out 2).trans rfl, (blk_cell BK358.out 3).trans rfl, (blk_cell BK358.out 4).trans rfl, (blk_cell BK358.out 5).trans rfl, (blk_cell BK358.out 6).trans rfl⟩ (fun hHeld => ?_)
     clear hK K
     refine norm_ (a' := ?_) ?_ ?_
     rotate_left
     ·show Act.put _ (some 49) _ = _
      simp only [Act.put, List.setIfInBounds_toArray, List.set_cons_zero, List.set_cons_succ, i64_w, i32_w]
      rfl
     refine one_ (i := 4) (N := some 50) #[true, true, true, true, true, false, false] rfl rfl (by kernel_rfl) (by decide) (fun K hK => ?_)
     refine goes_ Try.func15 (by kernel_rfl) rfl #[.agg #[.int .i64 t365, .int .i64 t366, .int .i64 t367, .int .i64 t368, .int .i64 t369, .int .i64 t370, .int .i64 t371]] (by rfl) rfl rfl (by (try simp only [List.map_toArray, List.map_cons, List.map_nil]); first | done | rfl | (simp only [List.length_drop, List.length_take]; rfl)) ?_
     with_reducible refine (overfallref11_Right.calls t365 t366 t367 t368 t369 t370 t371 t372 _ A52.out).mono ?_
     rintro e w56 ⟨rfl, hb⟩
     refine ⟨_, rfl, ?_⟩
     have n0_ := Aside0.mk (blk_below (by exact BK357.out) hb)
     have n1_ := Aside0.mk (blk_below (by exact BK358.out) hb)
     have n2_ := Aside0.mk (blk_below (by exact BK363.out) hb)
     have n3_ := Aside0.mk (below_step (by repeat (first | (with_reducible first | exact HB.out | apply below_alloc | apply pw_below_drewN | apply below_drew1 | refine below_set ?_ GE357.out | refine below_set ?_ GE358.out | refine below_set ?_ GE363.out) | exact HB.out)) hb)
     clear BK357
     clear BK358
     clear BK363
     clear HB
     have BK357 := n0_
     have BK358 := n1_
     have BK363 := n2_
     have HB := n3_
     clear n0_ n1_ n2_ n3_
     (try clear hb)
     (try clear hb2)
     (try clear hk)
     (try clear hi)
     refine hK.out _ _ ⟨(blk_cell BK358.out 0).trans rfl, (blk_cell BK358.out 1).trans rfl, (blk_cell BK358.out 2).trans rfl, (blk_cell BK358.out 3).trans rfl, (blk_cell BK358.out 4).trans rfl, (blk_cell BK358.out 5).trans rfl, (blk_cell BK358.out 6).trans rfl⟩ (fun hHeld => ?_)
     clear hK K
     refine norm_ (a' := ?_) ?_ ?_
     rotate_left
     ·show Act.put _ (some 50) _ = _
      simp only [Act.put, List.setIfInBounds_toArray, List.set_cons_zero, List.set_cons_succ, i64_w, i32_w]
      rfl
     refine pure_ (i := 5) (N := some 51) (v := ?_) (a' := ?_) #[true, true, true, true, true, true, false] rfl rfl (by kernel_rfl) (fun _ _ _ h => h) (Or.inl ⟨by rfl, ?_⟩) ?_ ?_
     rotate_left
     ·intro w'
      go_simp
      with_reducible rfl
     rotate_left
     ·simp only [Act.put, List.setIfInBounds_toArray, List.set_cons_zero, List.set_cons_succ, i64_w, i32_w]
      rfl
     refine pure_ (i := 6) (N := some 6) (v := ?_) (a' := ?_) #[true, true, true, true, true, true, true] rfl rfl (by kernel_rfl) (fun _ _ _ h => h) (Or.inl ⟨by rfl, ?_⟩) ?_ ?_
     rotate_left
     ·intro w'
      go_simp
      with_reducible rfl
     rotate_left
     ·simp only [Act.put, List.setIfInBounds_toArray, List.set_cons_zero, List.set_cons_succ, i64_w, i32_w]
      rfl
     refine done_ (by kernel_rfl) ?_
     try go_wp2
     go_ret
     exact ⟨by first | rfl | (simp [errW_none, errW_some] <;> rfl) | (simp [*, errW_none, errW_some] <;> rfl), by repeat (first | (with_reducible first | exact HB.out | apply below_alloc | apply pw_below_drewN | apply below_drew1 | refine below_set ?_ GE357.out | refine below_set ?_ GE358.out | refine below_set ?_ GE363.out) | exact HB.out)⟩
 ·replace c5 := Bool.eq_false_iff.mpr c5
  subst c5
  have H1 : (none) = some r := by rw [if_neg (show ¬ (false = true) by decide)] at H; exact H
  clear H
  have H := H1
  clear H1
  exact absurd H (by simp)

end Go.Proofs.Ythmapfhemiamhaa.S

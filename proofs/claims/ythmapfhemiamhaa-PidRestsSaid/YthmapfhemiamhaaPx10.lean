-- Laid by a program of this claim's session (wip/tools/myprint.py) over the kit's printer.
import Derived.Test.YthmapfhemiamhaaPx0
import Derived.Test.YthmapfhemiamhaaPx2
import Derived.Test.YthmapfhemiamhaaPx5
import Derived.Test.YthmapfhemiamhaaPx6
namespace Go.Proofs.Ythmapfhemiamhaa.P
open Go.RowKit Go.Proofs.YthmapfhemiamhaaW.PrintWords Go.Proofs.YthmapfhemiamhaaW.PrintLast Go.Proofs.YthmapfhemiamhaaW.PrintMore
attribute [local go_sem] max2_int min2_int max_two min_two max_three min_three max_four min_four   -- for this text's walks alone
set_option linter.unusedVariables false
set_option linter.unusedSimpArgs false

/-! ### overfalllaw11_PidRests: function 7 -/
mutual
def overfalllaw11_PidRests.l0 : Nat → List Int → Int → Int → Int → Int → Int → Int → Int → Int → Int → Int → Int → Int → Int → Int → Option (Bool)
 | 0, _, _, _, _, _, _, _, _, _, _, _, _, _, _, _ => none
 | k + 1, x2, x17, x240000, x240001, x240002, x241000, x241001, x241002, x241003, x241004, x241005, x241006, x250000, x250001, x250002 => if x17 < 64 then ((pid_State_Sample.f k x250000 x250001 x250002 x241000 x241001 x241002 x241003 x241004 x241005 x241006 x241000).bind fun bt250 => (if x250000 ≥ 0 then (if bt250.1 = (wrap64 (Int.tdiv x250000 2)) then (overfalllaw11_PidRests.l0 k x2 (wrap64 (x17 + 1)) x240000 x240001 x240002 x241000 x241001 x241002 x241003 x241004 x241005 x241006 bt250.1 bt250.2.1 bt250.2.2) else (none)) else (overfalllaw11_PidRests.l0 k x2 (wrap64 (x17 + 1)) x240000 x240001 x240002 x241000 x241001 x241002 x241003 x241004 x241005 x241006 bt250.1 bt250.2.1 bt250.2.2))) else (if x250000 = 0 then (overfalllaw11_PidRests.l1 k (mn (mx x240002 0) x241006) x2 (x2.length : Int) 0 0 x240001 (mn (mx x240002 0) x241006) x241000 0 0 0 x241004 x241005 x241006) else (none))
def overfalllaw11_PidRests.l1 : Nat → Int → List Int → Int → Int → Int → Int → Int → Int → Int → Int → Int → Int → Int → Int → Option (Bool)
 | 0, _, _, _, _, _, _, _, _, _, _, _, _, _, _ => none
 | k + 1, x9, x52, x53, x54, x240000, x240001, x240002, x241000, x241001, x241002, x241003, x241004, x241005, x241006 => if x54 < x53 then (if 0 ≤ x54 then (if x54 < (x52.length : Int) then (if x54 ≥ 20 then (some true) else ((fix_Add.f x241000 (wrap64 (1 + (wrap64 (rd x52 x54))))).bind fun t254 => ((pid_State_Sample.f k x240000 x240001 x240002 x241000 x241001 x241002 x241003 x241004 x241005 x241006 t254).bind fun bt255 => (if bt255.2.2 = x9 then (overfalllaw11_PidRests.l1 k x9 x52 x53 (wrap64 (x54 + 1)) bt255.1 bt255.2.1 bt255.2.2 x241000 x241001 x241002 x241003 x241004 x241005 x241006) else (if x241000 < 9223372036854775807 then (none) else (overfalllaw11_PidRests.l1 k x9 x52 x53 (wrap64 (x54 + 1)) bt255.1 bt255.2.1 bt255.2.2 x241000 x241001 x241002 x241003 x241004 x241005 x241006)))))) else (none)) else (none)) else (some true)
end
def overfalllaw11_PidRests.f (k : Nat) (a0_0 : Int) (a0_1 : Int) (a0_2 : Int) (a1_0 : Int) (a1_1 : Int) (a1_2 : Int) (a1_3 : Int) (a1_4 : Int) (a1_5 : Int) (a1_6 : Int) (l2 : List Int) : Option (Bool) := (overfalllaw11_awake.f k).bind fun t241 => (if t241 = true then ((overfalllaw11_right.f a1_0 a1_1 a1_2 a1_3 a1_4 a1_5 a1_6).bind fun bt242 => (overfalllaw11_PidRests.l0 k l2 0 a0_0 a0_1 a0_2 bt242.1 bt242.2.1 bt242.2.2.1 bt242.2.2.2.1 bt242.2.2.2.2.1 bt242.2.2.2.2.2.1 bt242.2.2.2.2.2.2 a0_0 a0_1 a0_2)) else (none))
theorem overfalllaw11_PidRests.mono_l : ∀ k, (∀ y0 y1 y2 y3 y4 y5 y6 y7 y8 y9 y10 y11 y12 y13 y14, LeO (overfalllaw11_PidRests.l0 k y0 y1 y2 y3 y4 y5 y6 y7 y8 y9 y10 y11 y12 y13 y14) (overfalllaw11_PidRests.l0 (k + 1) y0 y1 y2 y3 y4 y5 y6 y7 y8 y9 y10 y11 y12 y13 y14)) ∧ (∀ y0 y1 y2 y3 y4 y5 y6 y7 y8 y9 y10 y11 y12 y13, LeO (overfalllaw11_PidRests.l1 k y0 y1 y2 y3 y4 y5 y6 y7 y8 y9 y10 y11 y12 y13) (overfalllaw11_PidRests.l1 (k + 1) y0 y1 y2 y3 y4 y5 y6 y7 y8 y9 y10 y11 y12 y13))
 | 0 => ⟨fun _ _ _ _ _ _ _ _ _ _ _ _ _ _ _ r h => by simp [overfalllaw11_PidRests.l0] at h, fun _ _ _ _ _ _ _ _ _ _ _ _ _ _ r h => by simp [overfalllaw11_PidRests.l1] at h⟩
 | k + 1 => by
  obtain ⟨ih0, ih1⟩ := overfalllaw11_PidRests.mono_l k
  refine ⟨?_, ?_⟩
  ·intro y0 y1 y2 y3 y4 y5 y6 y7 y8 y9 y10 y11 y12 y13 y14
   unfold overfalllaw11_PidRests.l0
   repeat' first
   | (with_reducible exact ih0 _ _ _ _ _ _ _ _ _ _ _ _ _ _ _)
   | (with_reducible exact ih1 _ _ _ _ _ _ _ _ _ _ _ _ _ _)
   | (with_reducible exact overfalllaw11_awake.mono _)
   | (with_reducible exact pid_State_Sample.mono _ _ _ _ _ _ _ _ _ _ _ _)
   | (with_reducible exact LeO.refl _)
   | (with_reducible exact LeO.none _)
   | (with_reducible refine LeO.ite ?_ ?_)
   | (with_reducible refine LeO.bind ?_ (fun _ => ?_))
   | exact ih0 _ _ _ _ _ _ _ _ _ _ _ _ _ _ _
   | exact ih1 _ _ _ _ _ _ _ _ _ _ _ _ _ _
   | exact overfalllaw11_awake.mono _
   | exact pid_State_Sample.mono _ _ _ _ _ _ _ _ _ _ _ _
   | exact LeO.none _
   | refine LeO.ite ?_ ?_
   | refine LeO.bind ?_ (fun _ => ?_)
  ·intro y0 y1 y2 y3 y4 y5 y6 y7 y8 y9 y10 y11 y12 y13
   unfold overfalllaw11_PidRests.l1
   repeat' first
   | (with_reducible exact ih0 _ _ _ _ _ _ _ _ _ _ _ _ _ _ _)
   | (with_reducible exact ih1 _ _ _ _ _ _ _ _ _ _ _ _ _ _)
   | (with_reducible exact overfalllaw11_awake.mono _)
   | (with_reducible exact pid_State_Sample.mono _ _ _ _ _ _ _ _ _ _ _ _)
   | (with_reducible exact LeO.refl _)
   | (with_reducible exact LeO.none _)
   | (with_reducible refine LeO.ite ?_ ?_)
   | (with_reducible refine LeO.bind ?_ (fun _ => ?_))
   | exact ih0 _ _ _ _ _ _ _ _ _ _ _ _ _ _ _
   | exact ih1 _ _ _ _ _ _ _ _ _ _ _ _ _ _
   | exact overfalllaw11_awake.mono _
   | exact pid_State_Sample.mono _ _ _ _ _ _ _ _ _ _ _ _
   | exact LeO.none _
   | refine LeO.ite ?_ ?_
   | refine LeO.bind ?_ (fun _ => ?_)
theorem overfalllaw11_PidRests.mono : ∀ a0 a1 a2 a3 a4 a5 a6 a7 a8 a9 a10 k, LeO (overfalllaw11_PidRests.f k a0 a1 a2 a3 a4 a5 a6 a7 a8 a9 a10) (overfalllaw11_PidRests.f (k + 1) a0 a1 a2 a3 a4 a5 a6 a7 a8 a9 a10) := by
 intro a0 a1 a2 a3 a4 a5 a6 a7 a8 a9 a10 k
 obtain ⟨ih0, ih1⟩ := overfalllaw11_PidRests.mono_l k
 unfold overfalllaw11_PidRests.f
 repeat' first
   | (with_reducible exact ih0 _ _ _ _ _ _ _ _ _ _ _ _ _ _ _)
   | (with_reducible exact ih1 _ _ _ _ _ _ _ _ _ _ _ _ _ _)
   | (with_reducible exact overfalllaw11_awake.mono _)
   | (with_reducible exact pid_State_Sample.mono _ _ _ _ _ _ _ _ _ _ _ _)
   | (with_reducible exact LeO.refl _)
   | (with_reducible exact LeO.none _)
   | (with_reducible refine LeO.ite ?_ ?_)
   | (with_reducible refine LeO.bind ?_ (fun _ => ?_))
   | exact ih0 _ _ _ _ _ _ _ _ _ _ _ _ _ _ _
   | exact ih1 _ _ _ _ _ _ _ _ _ _ _ _ _ _
   | exact overfalllaw11_awake.mono _
   | exact pid_State_Sample.mono _ _ _ _ _ _ _ _ _ _ _ _
   | exact LeO.none _
   | refine LeO.ite ?_ ?_
   | refine LeO.bind ?_ (fun _ => ?_)
def overfalllaw11_PidRests.T21 : Bool × List (List Nat × List Nat) := (true, [([], []), ([], []), ([], []), ([2], [2]), ([], []), ([4], [4]), ([5], [5]), ([3, 6], [3, 6]), ([0, 1, 7, 7], [0, 1, 7]), ([8, 8, 0, 1, 2, 3, 4, 5, 6, 7, 8], [8])])
def overfalllaw11_PidRests.B21 : List Nat := [0, 0, 0, 4, 0, 16, 48, 124, 255, 511]
theorem overfalllaw11_PidRests.tab21 : rtab .any (opsOf Try.f7 21) = overfalllaw11_PidRests.T21 := by kernel_rfl
theorem overfalllaw11_PidRests.bits21 : waitsOk overfalllaw11_PidRests.T21.2 overfalllaw11_PidRests.B21 = true := by kernel_rfl
set_option maxHeartbeats 8000000 in
set_option maxRecDepth 100000 in
theorem overfalllaw11_PidRests.calls (k : Nat) (a0_0 : Int) (a0_1 : Int) (a0_2 : Int) (a1_0 : Int) (a1_1 : Int) (a1_2 : Int) (a1_3 : Int) (a1_4 : Int) (a1_5 : Int) (a1_6 : Int) (A2 : Option Addr) (c2 : Nat) (l2 : List Int) (r : Bool) (w : World) (hr2 : Kd.C (Kd.int .u32) w A2 l2.length l2) (hc2 : l2.length ≤ c2) (h : overfalllaw11_PidRests.f k a0_0 a0_1 a0_2 a1_0 a1_1 a1_2 a1_3 a1_4 a1_5 a1_6 l2 = some r) :
  Calls Try.prog 7 #[.agg #[.int .i64 a0_0, .int .i64 a0_1, .int .i64 a0_2], .agg #[.int .i64 a1_0, .int .i64 a1_1, .int .i64 a1_2, .int .i64 a1_3, .int .i64 a1_4, .int .i64 a1_5, .int .i64 a1_6], .slice A2 l2.length c2] w fun e w' => e = .returned (.bool r) ∧ Below w.heap.size w w' := by
 have hu24 := Try.underlying24
 have hu26 := Try.underlying26
 have HR2 := Aside0.mk hr2
 have HC2 := Aside0.mk hc2
 clear hr2 hc2
 have HB := Aside0.mk (Below.refl w.heap.size w)
 have H : ((overfalllaw11_awake.f k).bind fun t241 => (if t241 = true then ((overfalllaw11_right.f a1_0 a1_1 a1_2 a1_3 a1_4 a1_5 a1_6).bind fun bt242 => (overfalllaw11_PidRests.l0 k l2 0 a0_0 a0_1 a0_2 bt242.1 bt242.2.1 bt242.2.2.1 bt242.2.2.2.1 bt242.2.2.2.2.1 bt242.2.2.2.2.2.1 bt242.2.2.2.2.2.2 a0_0 a0_1 a0_2)) else (none))) = some r := h
 clear h
 replace H := Option.bind_eq_some_iff.mp H
 obtain ⟨t241, A40, H⟩ := H
 replace H : (if t241 = true then ((overfalllaw11_right.f a1_0 a1_1 a1_2 a1_3 a1_4 a1_5 a1_6).bind fun bt242 => (overfalllaw11_PidRests.l0 k l2 0 a0_0 a0_1 a0_2 bt242.1 bt242.2.1 bt242.2.2.1 bt242.2.2.2.1 bt242.2.2.2.2.1 bt242.2.2.2.2.2.1 bt242.2.2.2.2.2.2 a0_0 a0_1 a0_2)) else (none)) = some r := H
 have A4 := Aside0.mk A40
 clear A40
 by_cases c5 : t241 = true
 ·subst c5
  have H1 : ((overfalllaw11_right.f a1_0 a1_1 a1_2 a1_3 a1_4 a1_5 a1_6).bind fun bt242 => (overfalllaw11_PidRests.l0 k l2 0 a0_0 a0_1 a0_2 bt242.1 bt242.2.1 bt242.2.2.1 bt242.2.2.2.1 bt242.2.2.2.2.1 bt242.2.2.2.2.2.1 bt242.2.2.2.2.2.2 a0_0 a0_1 a0_2)) = some r := by rw [if_pos rfl] at H; exact H
  clear H
  have H := H1
  clear H1
  replace H := Option.bind_eq_some_iff.mp H
  obtain ⟨⟨t242, t243, t244, t245, t246, t247, t248⟩, A60, H⟩ := H
  replace H : (overfalllaw11_PidRests.l0 k l2 0 a0_0 a0_1 a0_2 t242 t243 t244 t245 t246 t247 t248 a0_0 a0_1 a0_2) = some r := H
  have A6 := Aside0.mk A60
  clear A60
  have H' := Aside0.mk H
  clear H
  go_enter Try.func7, Try.ntmps7
  go_wp2_with (first | ((with_reducible refine gate_dst (N := 3) rfl ?_); refine box_event ?hg (N := 3) ?hd (cs := #[.int .i64 a0_0, .int .i64 a0_1, .int .i64 a0_2]) (t := 24) ?hr ?_; (case hd => rfl); (case hg => rfl); (case hr => first | (go_simp; done) | (go_simp; rfl)); intro gb239 hg w7 hbox hb; have n0_ := Aside0.mk (below_step (by repeat (first | (with_reducible first | exact HB.out | apply below_alloc | apply pw_below_drewN | apply below_drew1) | exact HB.out)) hb); have n1_ := Aside0.mk (hbox); have n2_ := Aside0.mk ((by rw [hg]; exact (below_size (by repeat (first | (with_reducible first | exact HB.out | apply below_alloc | apply pw_below_drewN | apply below_drew1) | exact HB.out))) : w.heap.size ≤ gb239)); have n3_ := Aside0.mk ((by rw [hg]; exact (below_size (by repeat (first | (with_reducible first | exact HB.out | apply below_alloc | apply pw_below_drewN | apply below_drew1) | exact HB.out))) : w.heap.size ≤ gb239)); clear HB; have HB := n0_; have BK239 := n1_; have GW239 := n2_; have GE239 := n3_; clear n0_ n1_ n2_ n3_; clear hb hbox hg) | ((with_reducible refine gate_dst (N := 4) rfl ?_); refine box_event ?hg (N := 4) ?hd (cs := #[.int .i64 a1_0, .int .i64 a1_1, .int .i64 a1_2, .int .i64 a1_3, .int .i64 a1_4, .int .i64 a1_5, .int .i64 a1_6]) (t := 26) ?hr ?_; (case hd => rfl); (case hg => rfl); (case hr => first | (go_simp; done) | (go_simp; rfl)); intro gb240 hg w8 hbox hb; have n0_ := Aside0.mk (blk_below (by exact BK239.out) hb); have n1_ := Aside0.mk (below_step (by repeat (first | (with_reducible first | exact HB.out | apply below_alloc | apply pw_below_drewN | apply below_drew1 | refine below_set ?_ GE239.out) | exact HB.out)) hb); have n2_ := Aside0.mk (hbox); have n3_ := Aside0.mk ((by rw [hg]; exact (below_size (by repeat (first | (with_reducible first | exact HB.out | apply below_alloc | apply pw_below_drewN | apply below_drew1 | refine below_set ?_ GE239.out) | exact HB.out))) : w.heap.size ≤ gb240)); have n4_ := Aside0.mk ((by rw [hg]; exact (below_size (by repeat (first | (with_reducible first | exact HB.out | apply below_alloc | apply pw_below_drewN | apply below_drew1 | refine below_set ?_ GE239.out) | exact HB.out))) : w.heap.size ≤ gb240)); have n5_ := Aside0.mk ((by rw [hg]; exact Nat.ne_of_lt (blk_lt (by exact BK239.out)) : gb239 ≠ gb240)); have n6_ := Aside0.mk ((by rw [hg]; exact Nat.ne_of_gt (blk_lt (by exact BK239.out)) : gb240 ≠ gb239)); clear BK239; clear HB; have BK239 := n0_; have HB := n1_; have BK240 := n2_; have GW240 := n3_; have GE240 := n4_; have NB239_240 := n5_; have NB240_239 := n6_; clear n0_ n1_ n2_ n3_ n4_ n5_ n6_; clear hb hbox hg) | ((with_reducible refine gate_callee (f := 8) rfl ?_); refine goesL_ (some 12) rfl rfl Try.func8 (by kernel_rfl) rfl #[] rfl (by (try simp only [List.map_toArray, List.map_cons, List.map_nil]); first | done | rfl | (simp only [List.length_drop, List.length_take]; rfl)) ?_; (with_reducible refine (overfalllaw11_awake.calls k  true _ A4.out).mono ?_); rintro e w9 ⟨rfl, hb⟩; refine ⟨_, rfl, ?_⟩; have n0_ := Aside0.mk (blk_below (by exact BK239.out) hb); have n1_ := Aside0.mk (blk_below (by exact BK240.out) hb); have n2_ := Aside0.mk (below_step (by repeat (first | (with_reducible first | exact HB.out | apply below_alloc | apply pw_below_drewN | apply below_drew1 | refine below_set ?_ GE239.out | refine below_set ?_ GE240.out) | exact HB.out)) hb); clear BK239; clear BK240; clear HB; have BK239 := n0_; have BK240 := n1_; have HB := n2_; clear n0_ n1_ n2_; (try clear hb); (try clear hb2); (try clear hk); (try clear hi); have hnb10 := NB240_239.out; have hnc10 := NB239_240.out; have hcz11_0 : w9.cell? ⟨gb240, 0, none⟩ = some (.int .i64 a1_0) := (blk_cell BK240.out 0).trans rfl; have hcz11_1 : w9.cell? ⟨gb240, 1, none⟩ = some (.int .i64 a1_1) := (blk_cell BK240.out 1).trans rfl; have hcz11_2 : w9.cell? ⟨gb240, 2, none⟩ = some (.int .i64 a1_2) := (blk_cell BK240.out 2).trans rfl; have hcz11_3 : w9.cell? ⟨gb240, 3, none⟩ = some (.int .i64 a1_3) := (blk_cell BK240.out 3).trans rfl; have hcz11_4 : w9.cell? ⟨gb240, 4, none⟩ = some (.int .i64 a1_4) := (blk_cell BK240.out 4).trans rfl; have hcz11_5 : w9.cell? ⟨gb240, 5, none⟩ = some (.int .i64 a1_5) := (blk_cell BK240.out 5).trans rfl; have hcz11_6 : w9.cell? ⟨gb240, 6, none⟩ = some (.int .i64 a1_6) := (blk_cell BK240.out 6).trans rfl; have hfz11_0 := blk_frozen BK240.out 0; have hfz11_1 := blk_frozen BK240.out 1; have hfz11_2 := blk_frozen BK240.out 2; have hfz11_3 := blk_frozen BK240.out 3; have hfz11_4 := blk_frozen BK240.out 4; have hfz11_5 := blk_frozen BK240.out 5; have hfz11_6 := blk_frozen BK240.out 6) | ((with_reducible refine gate_callee (f := 16) rfl ?_); refine goesL_ (some 15) rfl rfl Try.func16 (by kernel_rfl) rfl #[.agg #[.int .i64 a1_0, .int .i64 a1_1, .int .i64 a1_2, .int .i64 a1_3, .int .i64 a1_4, .int .i64 a1_5, .int .i64 a1_6]] rfl (by (try simp only [List.map_toArray, List.map_cons, List.map_nil]); first | done | rfl | (simp only [List.length_drop, List.length_take]; rfl)) ?_; (with_reducible refine (overfalllaw11_right.calls a1_0 a1_1 a1_2 a1_3 a1_4 a1_5 a1_6 t242 t243 t244 t245 t246 t247 t248 _ A6.out).mono ?_); rintro e w12 ⟨rfl, hb⟩; refine ⟨_, rfl, ?_⟩; have n0_ := Aside0.mk (blk_below (by exact BK239.out) hb); have n1_ := Aside0.mk (blk_below (by exact BK240.out) hb); have n2_ := Aside0.mk (below_step (by repeat (first | (with_reducible first | exact HB.out | apply below_alloc | apply pw_below_drewN | apply below_drew1 | refine below_set ?_ GE239.out | refine below_set ?_ GE240.out) | exact HB.out)) hb); clear BK239; clear BK240; clear HB; have BK239 := n0_; have BK240 := n1_; have HB := n2_; clear n0_ n1_ n2_; (try clear hb); (try clear hb2); (try clear hk); (try clear hi); have hcz13_0 : w12.cell? ⟨gb240, 0, none⟩ = some (.int .i64 a1_0) := (blk_cell BK240.out 0).trans rfl; have hcz13_1 : w12.cell? ⟨gb240, 1, none⟩ = some (.int .i64 a1_1) := (blk_cell BK240.out 1).trans rfl; have hcz13_2 : w12.cell? ⟨gb240, 2, none⟩ = some (.int .i64 a1_2) := (blk_cell BK240.out 2).trans rfl; have hcz13_3 : w12.cell? ⟨gb240, 3, none⟩ = some (.int .i64 a1_3) := (blk_cell BK240.out 3).trans rfl; have hcz13_4 : w12.cell? ⟨gb240, 4, none⟩ = some (.int .i64 a1_4) := (blk_cell BK240.out 4).trans rfl; have hcz13_5 : w12.cell? ⟨gb240, 5, none⟩ = some (.int .i64 a1_5) := (blk_cell BK240.out 5).trans rfl; have hcz13_6 : w12.cell? ⟨gb240, 6, none⟩ = some (.int .i64 a1_6) := (blk_cell BK240.out 6).trans rfl; have hfz13_0 := blk_frozen BK240.out 0; have hfz13_1 := blk_frozen BK240.out 1; have hfz13_2 := blk_frozen BK240.out 2; have hfz13_3 := blk_frozen BK240.out 3; have hfz13_4 := blk_frozen BK240.out 4; have hfz13_5 := blk_frozen BK240.out 5; have hfz13_6 := blk_frozen BK240.out 6; have hcz14_0 : w12.cell? ⟨gb239, 0, none⟩ = some (.int .i64 a0_0) := (blk_cell BK239.out 0).trans rfl; have hcz14_1 : w12.cell? ⟨gb239, 1, none⟩ = some (.int .i64 a0_1) := (blk_cell BK239.out 1).trans rfl; have hcz14_2 : w12.cell? ⟨gb239, 2, none⟩ = some (.int .i64 a0_2) := (blk_cell BK239.out 2).trans rfl; have hfz14_0 := blk_frozen BK239.out 0; have hfz14_1 := blk_frozen BK239.out 1; have hfz14_2 := blk_frozen BK239.out 2) | ((with_reducible refine gate_dst (N := 7) rfl ?_); refine box_event ?hg (N := 7) ?hd (cs := #[.int .i64 0, .int .i64 0, .int .i64 0]) (t := 24) ?hr ?_; (case hd => rfl); (case hg => rfl); (case hr => first | (go_simp; done) | (go_simp; rfl)); intro gb249 hg w15 hbox hb; have n0_ := Aside0.mk (blk_below (g := gb239) (o := .cells #[.int .i64 a0_0, .int .i64 a0_1, .int .i64 a0_2] 24 (0, 0)) (by refine blk_far ?_ NB239_240.out _; refine blk_far ?_ NB239_240.out _; refine blk_far ?_ NB239_240.out _; refine blk_far ?_ NB239_240.out _; refine blk_far ?_ NB239_240.out _; refine blk_far ?_ NB239_240.out _; refine blk_far ?_ NB239_240.out _; exact BK239.out) hb); have n1_ := Aside0.mk (blk_below (g := gb240) (o := .cells #[.int .i64 t242, .int .i64 t243, .int .i64 t244, .int .i64 t245, .int .i64 t246, .int .i64 t247, .int .i64 t248] 26 (0, 0)) (by refine blk_put (cs := #[.int .i64 t242, .int .i64 t243, .int .i64 t244, .int .i64 t245, .int .i64 t246, .int .i64 t247, .int .i64 a1_6]) ?_ 6 _ rfl; refine blk_put (cs := #[.int .i64 t242, .int .i64 t243, .int .i64 t244, .int .i64 t245, .int .i64 t246, .int .i64 a1_5, .int .i64 a1_6]) ?_ 5 _ rfl; refine blk_put (cs := #[.int .i64 t242, .int .i64 t243, .int .i64 t244, .int .i64 t245, .int .i64 a1_4, .int .i64 a1_5, .int .i64 a1_6]) ?_ 4 _ rfl; refine blk_put (cs := #[.int .i64 t242, .int .i64 t243, .int .i64 t244, .int .i64 a1_3, .int .i64 a1_4, .int .i64 a1_5, .int .i64 a1_6]) ?_ 3 _ rfl; refine blk_put (cs := #[.int .i64 t242, .int .i64 t243, .int .i64 a1_2, .int .i64 a1_3, .int .i64 a1_4, .int .i64 a1_5, .int .i64 a1_6]) ?_ 2 _ rfl; refine blk_put (cs := #[.int .i64 t242, .int .i64 a1_1, .int .i64 a1_2, .int .i64 a1_3, .int .i64 a1_4, .int .i64 a1_5, .int .i64 a1_6]) ?_ 1 _ rfl; refine blk_put (cs := #[.int .i64 a1_0, .int .i64 a1_1, .int .i64 a1_2, .int .i64 a1_3, .int .i64 a1_4, .int .i64 a1_5, .int .i64 a1_6]) ?_ 0 _ rfl; exact BK240.out) hb); have n2_ := Aside0.mk (below_step (by repeat (first | (with_reducible first | exact HB.out | apply below_alloc | apply pw_below_drewN | apply below_drew1 | refine below_set ?_ GE239.out | refine below_set ?_ GE240.out) | exact HB.out)) hb); have n3_ := Aside0.mk (hbox); have n4_ := Aside0.mk ((by rw [hg]; exact (below_size (by repeat (first | (with_reducible first | exact HB.out | apply below_alloc | apply pw_below_drewN | apply below_drew1 | refine below_set ?_ GE239.out | refine below_set ?_ GE240.out) | exact HB.out))) : w.heap.size ≤ gb249)); have n5_ := Aside0.mk ((by rw [hg]; exact (below_size (by repeat (first | (with_reducible first | exact HB.out | apply below_alloc | apply pw_below_drewN | apply below_drew1 | refine below_set ?_ GE239.out | refine below_set ?_ GE240.out) | exact HB.out))) : w.heap.size ≤ gb249)); have n6_ := Aside0.mk ((by rw [hg]; exact Nat.ne_of_lt (blk_lt (g := gb239) (o := .cells #[.int .i64 a0_0, .int .i64 a0_1, .int .i64 a0_2] 24 (0, 0)) (by refine blk_far ?_ NB239_240.out _; refine blk_far ?_ NB239_240.out _; refine blk_far ?_ NB239_240.out _; refine blk_far ?_ NB239_240.out _; refine blk_far ?_ NB239_240.out _; refine blk_far ?_ NB239_240.out _; refine blk_far ?_ NB239_240.out _; exact BK239.out)) : gb239 ≠ gb249)); have n7_ := Aside0.mk ((by rw [hg]; exact Nat.ne_of_gt (blk_lt (g := gb239) (o := .cells #[.int .i64 a0_0, .int .i64 a0_1, .int .i64 a0_2] 24 (0, 0)) (by refine blk_far ?_ NB239_240.out _; refine blk_far ?_ NB239_240.out _; refine blk_far ?_ NB239_240.out _; refine blk_far ?_ NB239_240.out _; refine blk_far ?_ NB239_240.out _; refine blk_far ?_ NB239_240.out _; refine blk_far ?_ NB239_240.out _; exact BK239.out)) : gb249 ≠ gb239)); have n8_ := Aside0.mk ((by rw [hg]; exact Nat.ne_of_lt (blk_lt (g := gb240) (o := .cells #[.int .i64 t242, .int .i64 t243, .int .i64 t244, .int .i64 t245, .int .i64 t246, .int .i64 t247, .int .i64 t248] 26 (0, 0)) (by refine blk_put (cs := #[.int .i64 t242, .int .i64 t243, .int .i64 t244, .int .i64 t245, .int .i64 t246, .int .i64 t247, .int .i64 a1_6]) ?_ 6 _ rfl; refine blk_put (cs := #[.int .i64 t242, .int .i64 t243, .int .i64 t244, .int .i64 t245, .int .i64 t246, .int .i64 a1_5, .int .i64 a1_6]) ?_ 5 _ rfl; refine blk_put (cs := #[.int .i64 t242, .int .i64 t243, .int .i64 t244, .int .i64 t245, .int .i64 a1_4, .int .i64 a1_5, .int .i64 a1_6]) ?_ 4 _ rfl; refine blk_put (cs := #[.int .i64 t242, .int .i64 t243, .int .i64 t244, .int .i64 a1_3, .int .i64 a1_4, .int .i64 a1_5, .int .i64 a1_6]) ?_ 3 _ rfl; refine blk_put (cs := #[.int .i64 t242, .int .i64 t243, .int .i64 a1_2, .int .i64 a1_3, .int .i64 a1_4, .int .i64 a1_5, .int .i64 a1_6]) ?_ 2 _ rfl; refine blk_put (cs := #[.int .i64 t242, .int .i64 a1_1, .int .i64 a1_2, .int .i64 a1_3, .int .i64 a1_4, .int .i64 a1_5, .int .i64 a1_6]) ?_ 1 _ rfl; refine blk_put (cs := #[.int .i64 a1_0, .int .i64 a1_1, .int .i64 a1_2, .int .i64 a1_3, .int .i64 a1_4, .int .i64 a1_5, .int .i64 a1_6]) ?_ 0 _ rfl; exact BK240.out)) : gb240 ≠ gb249)); have n9_ := Aside0.mk ((by rw [hg]; exact Nat.ne_of_gt (blk_lt (g := gb240) (o := .cells #[.int .i64 t242, .int .i64 t243, .int .i64 t244, .int .i64 t245, .int .i64 t246, .int .i64 t247, .int .i64 t248] 26 (0, 0)) (by refine blk_put (cs := #[.int .i64 t242, .int .i64 t243, .int .i64 t244, .int .i64 t245, .int .i64 t246, .int .i64 t247, .int .i64 a1_6]) ?_ 6 _ rfl; refine blk_put (cs := #[.int .i64 t242, .int .i64 t243, .int .i64 t244, .int .i64 t245, .int .i64 t246, .int .i64 a1_5, .int .i64 a1_6]) ?_ 5 _ rfl; refine blk_put (cs := #[.int .i64 t242, .int .i64 t243, .int .i64 t244, .int .i64 t245, .int .i64 a1_4, .int .i64 a1_5, .int .i64 a1_6]) ?_ 4 _ rfl; refine blk_put (cs := #[.int .i64 t242, .int .i64 t243, .int .i64 t244, .int .i64 a1_3, .int .i64 a1_4, .int .i64 a1_5, .int .i64 a1_6]) ?_ 3 _ rfl; refine blk_put (cs := #[.int .i64 t242, .int .i64 t243, .int .i64 a1_2, .int .i64 a1_3, .int .i64 a1_4, .int .i64 a1_5, .int .i64 a1_6]) ?_ 2 _ rfl; refine blk_put (cs := #[.int .i64 t242, .int .i64 a1_1, .int .i64 a1_2, .int .i64 a1_3, .int .i64 a1_4, .int .i64 a1_5, .int .i64 a1_6]) ?_ 1 _ rfl; refine blk_put (cs := #[.int .i64 a1_0, .int .i64 a1_1, .int .i64 a1_2, .int .i64 a1_3, .int .i64 a1_4, .int .i64 a1_5, .int .i64 a1_6]) ?_ 0 _ rfl; exact BK240.out)) : gb249 ≠ gb240)); clear BK239; clear BK240; clear HB; have BK239 := n0_; have BK240 := n1_; have HB := n2_; have BK249 := n3_; have GW249 := n4_; have GE249 := n5_; have NB239_249 := n6_; have NB249_239 := n7_; have NB240_249 := n8_; have NB249_240 := n9_; clear n0_ n1_ n2_ n3_ n4_ n5_ n6_ n7_ n8_ n9_; clear hb hbox hg; have hnb16 := NB249_239.out; have hnc16 := NB239_249.out; have hnb17 := NB249_240.out; have hnc17 := NB240_249.out; have hcz18_0 : w15.cell? ⟨gb249, 0, none⟩ = some (.int .i64 0) := (blk_cell BK249.out 0).trans rfl; have hcz18_1 : w15.cell? ⟨gb249, 1, none⟩ = some (.int .i64 0) := (blk_cell BK249.out 1).trans rfl; have hcz18_2 : w15.cell? ⟨gb249, 2, none⟩ = some (.int .i64 0) := (blk_cell BK249.out 2).trans rfl; have hfz18_0 := blk_frozen BK249.out 0; have hfz18_1 := blk_frozen BK249.out 1; have hfz18_2 := blk_frozen BK249.out 2))
  go_loopg [17] k (fun kq v17 w' => ∃ (x17_1 : Int) (x250000_1 : Int) (x250001_1 : Int) (x250002_1 : Int), v17 = .int .i64 x17_1 ∧ Aside0 (overfalllaw11_PidRests.l0 kq l2 x17_1 a0_0 a0_1 a0_2 t242 t243 t244 t245 t246 t247 t248 x250000_1 x250001_1 x250002_1 = some r) ∧ Aside0 (kq ≤ k) ∧ Aside0 (w'.heap[gb239]? = some (.cells #[.int .i64 a0_0, .int .i64 a0_1, .int .i64 a0_2] 24 (0, 0))) ∧ Aside0 (w'.heap[gb240]? = some (.cells #[.int .i64 t242, .int .i64 t243, .int .i64 t244, .int .i64 t245, .int .i64 t246, .int .i64 t247, .int .i64 t248] 26 (0, 0))) ∧ Aside0 (w'.heap[gb249]? = some (.cells #[.int .i64 x250000_1, .int .i64 x250001_1, .int .i64 x250002_1] 24 (0, 0))) ∧ Aside0 (Below w.heap.size w w'))
  case atStart => exact ⟨(0), (a0_0), (a0_1), (a0_2), (by first | rfl | (simp; done) | (simp [*]; done)), H', ⟨Nat.le_refl _⟩, ⟨by refine blk_far ?_ NB239_249.out _; refine blk_far ?_ NB239_249.out _; refine blk_far ?_ NB239_249.out _; exact BK239.out⟩, ⟨by refine blk_far ?_ NB240_249.out _; refine blk_far ?_ NB240_249.out _; refine blk_far ?_ NB240_249.out _; exact BK240.out⟩, ⟨by refine blk_put (cs := #[.int .i64 a0_0, .int .i64 a0_1, .int .i64 0]) ?_ 2 _ rfl; refine blk_put (cs := #[.int .i64 a0_0, .int .i64 0, .int .i64 0]) ?_ 1 _ rfl; refine blk_put (cs := #[.int .i64 0, .int .i64 0, .int .i64 0]) ?_ 0 _ rfl; exact BK249.out⟩, ⟨by repeat (first | (with_reducible first | exact HB.out | apply below_alloc | apply pw_below_drewN | apply below_drew1 | refine below_set ?_ GE239.out | refine below_set ?_ GE240.out | refine below_set ?_ GE249.out) | exact HB.out)⟩⟩
  case round =>
   clear H'
   try clear c1
   try clear c2
   try clear p2
   try clear c5
   try clear c7
   try clear c8
   try clear c10
   try clear c16
   try clear c17
   try clear hcz11_0
   try clear hcz11_1
   try clear hcz11_2
   try clear hcz11_3
   try clear hcz11_4
   try clear hcz11_5
   try clear hcz11_6
   try clear hcz13_0
   try clear hcz13_1
   try clear hcz13_2
   try clear hcz13_3
   try clear hcz13_4
   try clear hcz13_5
   try clear hcz13_6
   try clear hcz14_0
   try clear hcz14_1
   try clear hcz14_2
   try clear hcz18_0
   try clear hcz18_1
   try clear hcz18_2
   try clear hfz11_0
   try clear hfz11_1
   try clear hfz11_2
   try clear hfz11_3
   try clear hfz11_4
   try clear hfz11_5
   try clear hfz11_6
   try clear hfz13_0
   try clear hfz13_1
   try clear hfz13_2
   try clear hfz13_3
   try clear hfz13_4
   try clear hfz13_5
   try clear hfz13_6
   try clear hfz14_0
   try clear hfz14_1
   try clear hfz14_2
   try clear hfz18_0
   try clear hfz18_1
   try clear hfz18_2
   obtain ⟨x17_1, x250000_1, x250001_1, x250002_1, rfl, HA, HK1, BK239, BK240, BK249, HB⟩ := hrel
   cases gk with
   | zero => exact absurd HA.out (by simp [overfalllaw11_PidRests.l0])
   | succ k1 =>
    have H := HA.out
    clear HA
    simp only [overfalllaw11_PidRests.l0] at H
    by_cases c19 : x17_1 < 64
    ·rw [if_pos c19] at H
     have c19b0 : decide (x17_1 < 64) = true := decide_eq_true c19
     clear c19
     replace H := Option.bind_eq_some_iff.mp H
     obtain ⟨⟨t250, t251, t252⟩, A200, H⟩ := H
     replace H : (if x250000_1 ≥ 0 then (if t250 = (wrap64 (Int.tdiv x250000_1 2)) then (overfalllaw11_PidRests.l0 k1 l2 (wrap64 (x17_1 + 1)) a0_0 a0_1 a0_2 t242 t243 t244 t245 t246 t247 t248 t250 t251 t252) else (none)) else (overfalllaw11_PidRests.l0 k1 l2 (wrap64 (x17_1 + 1)) a0_0 a0_1 a0_2 t242 t243 t244 t245 t246 t247 t248 t250 t251 t252)) = some r := H
     have A20 := Aside0.mk A200
     clear A200
     by_cases c21 : x250000_1 ≥ 0
     ·rw [if_pos c21] at H
      have c21b0 : decide (0 ≤ x250000_1) = true := decide_eq_true c21
      clear c21
      by_cases c22 : t250 = (wrap64 (Int.tdiv x250000_1 2))
      ·rw [if_pos c22] at H
       have c22b0 : (t250 == (wrap64 (Int.tdiv x250000_1 2))) = true := beq_iff_eq.mpr c22
       have c22b1 : (t250 != (wrap64 (Int.tdiv x250000_1 2))) = false := bne_eq_false_iff_eq.mpr c22
       clear c22
       have H' := Aside0.mk H
       clear H
       have hnb23 := NB249_239.out
       have hnc23 := NB239_249.out
       have hnb24 := NB249_240.out
       have hnc24 := NB240_249.out
       have hcz25_0 : wr.cell? ⟨gb249, 0, none⟩ = some (.int .i64 x250000_1) := (blk_cell BK249.out 0).trans rfl
       have hcz25_1 : wr.cell? ⟨gb249, 1, none⟩ = some (.int .i64 x250001_1) := (blk_cell BK249.out 1).trans rfl
       have hcz25_2 : wr.cell? ⟨gb249, 2, none⟩ = some (.int .i64 x250002_1) := (blk_cell BK249.out 2).trans rfl
       have hfz25_0 := blk_frozen BK249.out 0
       have hfz25_1 := blk_frozen BK249.out 1
       have hfz25_2 := blk_frozen BK249.out 2
       have hnb26 := NB240_239.out
       have hnc26 := NB239_240.out
       have hcz27_0 : wr.cell? ⟨gb240, 0, none⟩ = some (.int .i64 t242) := (blk_cell BK240.out 0).trans rfl
       have hcz27_1 : wr.cell? ⟨gb240, 1, none⟩ = some (.int .i64 t243) := (blk_cell BK240.out 1).trans rfl
       have hcz27_2 : wr.cell? ⟨gb240, 2, none⟩ = some (.int .i64 t244) := (blk_cell BK240.out 2).trans rfl
       have hcz27_3 : wr.cell? ⟨gb240, 3, none⟩ = some (.int .i64 t245) := (blk_cell BK240.out 3).trans rfl
       have hcz27_4 : wr.cell? ⟨gb240, 4, none⟩ = some (.int .i64 t246) := (blk_cell BK240.out 4).trans rfl
       have hcz27_5 : wr.cell? ⟨gb240, 5, none⟩ = some (.int .i64 t247) := (blk_cell BK240.out 5).trans rfl
       have hcz27_6 : wr.cell? ⟨gb240, 6, none⟩ = some (.int .i64 t248) := (blk_cell BK240.out 6).trans rfl
       have hfz27_0 := blk_frozen BK240.out 0
       have hfz27_1 := blk_frozen BK240.out 1
       have hfz27_2 := blk_frozen BK240.out 2
       have hfz27_3 := blk_frozen BK240.out 3
       have hfz27_4 := blk_frozen BK240.out 4
       have hfz27_5 := blk_frozen BK240.out 5
       have hfz27_6 := blk_frozen BK240.out 6
       go_wp2_with (first | ((with_reducible refine gate_callee (f := 11) rfl ?_); refine goesL_ (some 25) rfl rfl Try.func11 (by kernel_rfl) rfl #[.agg #[.int .i64 x250000_1, .int .i64 x250001_1, .int .i64 x250002_1], .agg #[.int .i64 t242, .int .i64 t243, .int .i64 t244, .int .i64 t245, .int .i64 t246, .int .i64 t247, .int .i64 t248], .int .i64 t242] rfl (by (try simp only [List.map_toArray, List.map_cons, List.map_nil]); first | done | rfl | (simp only [List.length_drop, List.length_take]; rfl)) ?_; (with_reducible refine (pid_State_Sample.calls k1 x250000_1 x250001_1 x250002_1 t242 t243 t244 t245 t246 t247 t248 t242 t250 t251 t252 _ A20.out).mono ?_); rintro e w28 ⟨rfl, hb⟩; refine ⟨_, rfl, ?_⟩; have n0_ := Aside0.mk (blk_below (by exact BK239.out) hb); have n1_ := Aside0.mk (blk_below (by exact BK240.out) hb); have n2_ := Aside0.mk (blk_below (by exact BK249.out) hb); have n3_ := Aside0.mk (below_step (by repeat (first | (with_reducible first | exact HB.out | apply below_alloc | apply pw_below_drewN | apply below_drew1 | refine below_set ?_ GE239.out | refine below_set ?_ GE240.out | refine below_set ?_ GE249.out) | exact HB.out)) hb); clear BK239; clear BK240; clear BK249; clear HB; have BK239 := n0_; have BK240 := n1_; have BK249 := n2_; have HB := n3_; clear n0_ n1_ n2_ n3_; (try clear hb); (try clear hb2); (try clear hk); (try clear hi); have hcz29_0 : w28.cell? ⟨gb249, 0, none⟩ = some (.int .i64 x250000_1) := (blk_cell BK249.out 0).trans rfl; have hcz29_1 : w28.cell? ⟨gb249, 1, none⟩ = some (.int .i64 x250001_1) := (blk_cell BK249.out 1).trans rfl; have hcz29_2 : w28.cell? ⟨gb249, 2, none⟩ = some (.int .i64 x250002_1) := (blk_cell BK249.out 2).trans rfl; have hfz29_0 := blk_frozen BK249.out 0; have hfz29_1 := blk_frozen BK249.out 1; have hfz29_2 := blk_frozen BK249.out 2))
       go_roundg k1
       case measure => have := HK1.out; omega
       case rel => exact ⟨(wrap64 (x17_1 + 1)), (t250), (t251), (t252), (by first | rfl | (simp; done) | (simp [*]; done)), H', ⟨by have := HK1.out; omega⟩, ⟨by refine blk_far ?_ NB239_249.out _; refine blk_far ?_ NB239_249.out _; refine blk_far ?_ NB239_249.out _; exact BK239.out⟩, ⟨by refine blk_far ?_ NB240_249.out _; refine blk_far ?_ NB240_249.out _; refine blk_far ?_ NB240_249.out _; exact BK240.out⟩, ⟨by refine blk_put (cs := #[.int .i64 t250, .int .i64 t251, .int .i64 x250002_1]) ?_ 2 _ rfl; refine blk_put (cs := #[.int .i64 t250, .int .i64 x250001_1, .int .i64 x250002_1]) ?_ 1 _ rfl; refine blk_put (cs := #[.int .i64 x250000_1, .int .i64 x250001_1, .int .i64 x250002_1]) ?_ 0 _ rfl; exact BK249.out⟩, ⟨by repeat (first | (with_reducible first | exact HB.out | apply below_alloc | apply pw_below_drewN | apply below_drew1 | refine below_set ?_ GE239.out | refine below_set ?_ GE240.out | refine below_set ?_ GE249.out) | exact HB.out)⟩⟩
      ·rw [if_neg c22] at H
       exact absurd H (by simp)
     ·rw [if_neg c21] at H
      have c21b0 : decide (0 ≤ x250000_1) = false := decide_eq_false c21
      clear c21
      have H' := Aside0.mk H
      clear H
      have hnb30 := NB249_239.out
      have hnc30 := NB239_249.out
      have hnb31 := NB249_240.out
      have hnc31 := NB240_249.out
      have hcz32_0 : wr.cell? ⟨gb249, 0, none⟩ = some (.int .i64 x250000_1) := (blk_cell BK249.out 0).trans rfl
      have hcz32_1 : wr.cell? ⟨gb249, 1, none⟩ = some (.int .i64 x250001_1) := (blk_cell BK249.out 1).trans rfl
      have hcz32_2 : wr.cell? ⟨gb249, 2, none⟩ = some (.int .i64 x250002_1) := (blk_cell BK249.out 2).trans rfl
      have hfz32_0 := blk_frozen BK249.out 0
      have hfz32_1 := blk_frozen BK249.out 1
      have hfz32_2 := blk_frozen BK249.out 2
      have hnb33 := NB240_239.out
      have hnc33 := NB239_240.out
      have hcz34_0 : wr.cell? ⟨gb240, 0, none⟩ = some (.int .i64 t242) := (blk_cell BK240.out 0).trans rfl
      have hcz34_1 : wr.cell? ⟨gb240, 1, none⟩ = some (.int .i64 t243) := (blk_cell BK240.out 1).trans rfl
      have hcz34_2 : wr.cell? ⟨gb240, 2, none⟩ = some (.int .i64 t244) := (blk_cell BK240.out 2).trans rfl
      have hcz34_3 : wr.cell? ⟨gb240, 3, none⟩ = some (.int .i64 t245) := (blk_cell BK240.out 3).trans rfl
      have hcz34_4 : wr.cell? ⟨gb240, 4, none⟩ = some (.int .i64 t246) := (blk_cell BK240.out 4).trans rfl
      have hcz34_5 : wr.cell? ⟨gb240, 5, none⟩ = some (.int .i64 t247) := (blk_cell BK240.out 5).trans rfl
      have hcz34_6 : wr.cell? ⟨gb240, 6, none⟩ = some (.int .i64 t248) := (blk_cell BK240.out 6).trans rfl
      have hfz34_0 := blk_frozen BK240.out 0
      have hfz34_1 := blk_frozen BK240.out 1
      have hfz34_2 := blk_frozen BK240.out 2
      have hfz34_3 := blk_frozen BK240.out 3
      have hfz34_4 := blk_frozen BK240.out 4
      have hfz34_5 := blk_frozen BK240.out 5
      have hfz34_6 := blk_frozen BK240.out 6
      go_wp2_with (first | ((with_reducible refine gate_callee (f := 11) rfl ?_); refine goesL_ (some 25) rfl rfl Try.func11 (by kernel_rfl) rfl #[.agg #[.int .i64 x250000_1, .int .i64 x250001_1, .int .i64 x250002_1], .agg #[.int .i64 t242, .int .i64 t243, .int .i64 t244, .int .i64 t245, .int .i64 t246, .int .i64 t247, .int .i64 t248], .int .i64 t242] rfl (by (try simp only [List.map_toArray, List.map_cons, List.map_nil]); first | done | rfl | (simp only [List.length_drop, List.length_take]; rfl)) ?_; (with_reducible refine (pid_State_Sample.calls k1 x250000_1 x250001_1 x250002_1 t242 t243 t244 t245 t246 t247 t248 t242 t250 t251 t252 _ A20.out).mono ?_); rintro e w35 ⟨rfl, hb⟩; refine ⟨_, rfl, ?_⟩; have n0_ := Aside0.mk (blk_below (by exact BK239.out) hb); have n1_ := Aside0.mk (blk_below (by exact BK240.out) hb); have n2_ := Aside0.mk (blk_below (by exact BK249.out) hb); have n3_ := Aside0.mk (below_step (by repeat (first | (with_reducible first | exact HB.out | apply below_alloc | apply pw_below_drewN | apply below_drew1 | refine below_set ?_ GE239.out | refine below_set ?_ GE240.out | refine below_set ?_ GE249.out) | exact HB.out)) hb); clear BK239; clear BK240; clear BK249; clear HB; have BK239 := n0_; have BK240 := n1_; have BK249 := n2_; have HB := n3_; clear n0_ n1_ n2_ n3_; (try clear hb); (try clear hb2); (try clear hk); (try clear hi); have hcz36_0 : w35.cell? ⟨gb249, 0, none⟩ = some (.int .i64 x250000_1) := (blk_cell BK249.out 0).trans rfl; have hcz36_1 : w35.cell? ⟨gb249, 1, none⟩ = some (.int .i64 x250001_1) := (blk_cell BK249.out 1).trans rfl; have hcz36_2 : w35.cell? ⟨gb249, 2, none⟩ = some (.int .i64 x250002_1) := (blk_cell BK249.out 2).trans rfl; have hfz36_0 := blk_frozen BK249.out 0; have hfz36_1 := blk_frozen BK249.out 1; have hfz36_2 := blk_frozen BK249.out 2))
      go_roundg k1
      case measure => have := HK1.out; omega
      case rel => exact ⟨(wrap64 (x17_1 + 1)), (t250), (t251), (t252), (by first | rfl | (simp; done) | (simp [*]; done)), H', ⟨by have := HK1.out; omega⟩, ⟨by refine blk_far ?_ NB239_249.out _; refine blk_far ?_ NB239_249.out _; refine blk_far ?_ NB239_249.out _; exact BK239.out⟩, ⟨by refine blk_far ?_ NB240_249.out _; refine blk_far ?_ NB240_249.out _; refine blk_far ?_ NB240_249.out _; exact BK240.out⟩, ⟨by refine blk_put (cs := #[.int .i64 t250, .int .i64 t251, .int .i64 x250002_1]) ?_ 2 _ rfl; refine blk_put (cs := #[.int .i64 t250, .int .i64 x250001_1, .int .i64 x250002_1]) ?_ 1 _ rfl; refine blk_put (cs := #[.int .i64 x250000_1, .int .i64 x250001_1, .int .i64 x250002_1]) ?_ 0 _ rfl; exact BK249.out⟩, ⟨by repeat (first | (with_reducible first | exact HB.out | apply below_alloc | apply pw_below_drewN | apply below_drew1 | refine below_set ?_ GE239.out | refine below_set ?_ GE240.out | refine below_set ?_ GE249.out) | exact HB.out)⟩⟩
    ·rw [if_neg c19] at H
     have c19b0 : decide (x17_1 < 64) = false := decide_eq_false c19
     clear c19
     by_cases c37 : x250000_1 = 0
     ·rw [if_pos c37] at H
      have c37b0 : (x250000_1 == 0) = true := beq_iff_eq.mpr c37
      have c37b1 : (x250000_1 != 0) = false := bne_eq_false_iff_eq.mpr c37
      clear c37
      obtain ⟨ji38, hji38⟩ : ∃ j_ : Int, (mx a0_2 0) = j_ := ⟨_, rfl⟩
      replace H : (overfalllaw11_PidRests.l1 k1 (mn (ji38) t248) l2 (l2.length : Int) 0 0 a0_1 (mn (ji38) t248) t242 0 0 0 t246 t247 t248) = some r := by first | (rw [hji38] at H; exact H) | (simp only [hji38] at H ⊢; exact H)
      (try (have hji38l : 0 ≤ ji38 := by (rw [← hji38]; unfold mx; (repeat' split) <;> omega)))
      (try (have hji38m : 0 ≤ ji38 := by omega))
      have hji38_ : (if a0_2 < 0 then 0 else a0_2) = ji38 := hji38
      obtain ⟨ji39, hji39⟩ : ∃ j_ : Int, (mn (ji38) t248) = j_ := ⟨_, rfl⟩
      replace H : (overfalllaw11_PidRests.l1 k1 ji39 l2 (l2.length : Int) 0 0 a0_1 ji39 t242 0 0 0 t246 t247 t248) = some r := by first | (rw [hji39] at H; exact H) | (simp only [hji39] at H ⊢; exact H)
      have hji39_ : (if t248 < (ji38) then t248 else (ji38)) = ji39 := hji39
      have H' := Aside0.mk H
      clear H
      have hnb40 := NB249_239.out
      have hnc40 := NB239_249.out
      have hnb41 := NB249_240.out
      have hnc41 := NB240_249.out
      have hcz42_0 : wr.cell? ⟨gb249, 0, none⟩ = some (.int .i64 x250000_1) := (blk_cell BK249.out 0).trans rfl
      have hcz42_1 : wr.cell? ⟨gb249, 1, none⟩ = some (.int .i64 x250001_1) := (blk_cell BK249.out 1).trans rfl
      have hcz42_2 : wr.cell? ⟨gb249, 2, none⟩ = some (.int .i64 x250002_1) := (blk_cell BK249.out 2).trans rfl
      have hfz42_0 := blk_frozen BK249.out 0
      have hfz42_1 := blk_frozen BK249.out 1
      have hfz42_2 := blk_frozen BK249.out 2
      have hnb43 := NB240_239.out
      have hnc43 := NB239_240.out
      have hcz44_0 : wr.cell? ⟨gb240, 0, none⟩ = some (.int .i64 t242) := (blk_cell BK240.out 0).trans rfl
      have hcz44_1 : wr.cell? ⟨gb240, 1, none⟩ = some (.int .i64 t243) := (blk_cell BK240.out 1).trans rfl
      have hcz44_2 : wr.cell? ⟨gb240, 2, none⟩ = some (.int .i64 t244) := (blk_cell BK240.out 2).trans rfl
      have hcz44_3 : wr.cell? ⟨gb240, 3, none⟩ = some (.int .i64 t245) := (blk_cell BK240.out 3).trans rfl
      have hcz44_4 : wr.cell? ⟨gb240, 4, none⟩ = some (.int .i64 t246) := (blk_cell BK240.out 4).trans rfl
      have hcz44_5 : wr.cell? ⟨gb240, 5, none⟩ = some (.int .i64 t247) := (blk_cell BK240.out 5).trans rfl
      have hcz44_6 : wr.cell? ⟨gb240, 6, none⟩ = some (.int .i64 t248) := (blk_cell BK240.out 6).trans rfl
      have hfz44_0 := blk_frozen BK240.out 0
      have hfz44_1 := blk_frozen BK240.out 1
      have hfz44_2 := blk_frozen BK240.out 2
      have hfz44_3 := blk_frozen BK240.out 3
      have hfz44_4 := blk_frozen BK240.out 4
      have hfz44_5 := blk_frozen BK240.out 5
      have hfz44_6 := blk_frozen BK240.out 6
      have hcz45_0 : wr.cell? ⟨gb239, 0, none⟩ = some (.int .i64 a0_0) := (blk_cell BK239.out 0).trans rfl
      have hcz45_1 : wr.cell? ⟨gb239, 1, none⟩ = some (.int .i64 a0_1) := (blk_cell BK239.out 1).trans rfl
      have hcz45_2 : wr.cell? ⟨gb239, 2, none⟩ = some (.int .i64 a0_2) := (blk_cell BK239.out 2).trans rfl
      have hfz45_0 := blk_frozen BK239.out 0
      have hfz45_1 := blk_frozen BK239.out 1
      have hfz45_2 := blk_frozen BK239.out 2
      go_wp2
      go_loopg [54] k1 (fun kq v54 w' => ∃ (x54_2 : Int) (x240000_2 : Int) (x240001_2 : Int) (x240002_2 : Int), v54 = .int .i64 x54_2 ∧ Aside0 (overfalllaw11_PidRests.l1 kq ji39 l2 (l2.length : Int) x54_2 x240000_2 x240001_2 x240002_2 t242 0 0 0 t246 t247 t248 = some r) ∧ Aside0 (kq ≤ k1) ∧ Aside0 (w'.heap[gb239]? = some (.cells #[.int .i64 x240000_2, .int .i64 x240001_2, .int .i64 x240002_2] 24 (0, 0))) ∧ Aside0 (w'.heap[gb240]? = some (.cells #[.int .i64 t242, .int .i64 0, .int .i64 0, .int .i64 0, .int .i64 t246, .int .i64 t247, .int .i64 t248] 26 (0, 0))) ∧ Aside0 (w'.heap[gb249]? = some (.cells #[.int .i64 x250000_1, .int .i64 x250001_1, .int .i64 x250002_1] 24 (0, 0))) ∧ Aside0 (Below w.heap.size w w'))
      case atStart => exact ⟨(0), (0), (a0_1), (ji39), (by first | rfl | (simp; done) | (simp [*]; done)), H', ⟨Nat.le_refl _⟩, ⟨by refine blk_put (cs := #[.int .i64 a0_0, .int .i64 a0_1, .int .i64 ji39]) ?_ 0 _ rfl; refine blk_put (cs := #[.int .i64 a0_0, .int .i64 a0_1, .int .i64 a0_2]) ?_ 2 _ rfl; refine blk_far ?_ NB239_240.out _; refine blk_far ?_ NB239_240.out _; refine blk_far ?_ NB239_240.out _; exact BK239.out⟩, ⟨by refine blk_far ?_ NB240_239.out _; refine blk_far ?_ NB240_239.out _; refine blk_put (cs := #[.int .i64 t242, .int .i64 0, .int .i64 0, .int .i64 t245, .int .i64 t246, .int .i64 t247, .int .i64 t248]) ?_ 3 _ rfl; refine blk_put (cs := #[.int .i64 t242, .int .i64 0, .int .i64 t244, .int .i64 t245, .int .i64 t246, .int .i64 t247, .int .i64 t248]) ?_ 2 _ rfl; refine blk_put (cs := #[.int .i64 t242, .int .i64 t243, .int .i64 t244, .int .i64 t245, .int .i64 t246, .int .i64 t247, .int .i64 t248]) ?_ 1 _ rfl; exact BK240.out⟩, ⟨by refine blk_far ?_ NB249_239.out _; refine blk_far ?_ NB249_239.out _; refine blk_far ?_ NB249_240.out _; refine blk_far ?_ NB249_240.out _; refine blk_far ?_ NB249_240.out _; exact BK249.out⟩, ⟨by repeat (first | (with_reducible first | exact HB.out | apply below_alloc | apply pw_below_drewN | apply below_drew1 | refine below_set ?_ GE239.out | refine below_set ?_ GE240.out | refine below_set ?_ GE249.out) | exact HB.out)⟩⟩
      case round =>
       clear H'
       try clear c1
       try clear c2
       try clear p2
       try clear c3
       try clear c4
       try clear c5
       try clear p6
       try clear c7
       try clear c8
       try clear c10
       try clear c11
       try clear c16
       try clear c17
       try clear c19
       try clear c19b0
       try clear c21
       try clear c21b0
       try clear c22
       try clear c22b0
       try clear c22b1
       try clear c23
       try clear c24
       try clear c26
       try clear c30
       try clear c31
       try clear c33
       try clear c37
       try clear c37b0
       try clear c37b1
       try clear c40
       try clear c41
       try clear c43
       try clear hcz11_0
       try clear hcz11_1
       try clear hcz11_2
       try clear hcz11_3
       try clear hcz11_4
       try clear hcz11_5
       try clear hcz11_6
       try clear hcz13_0
       try clear hcz13_1
       try clear hcz13_2
       try clear hcz13_3
       try clear hcz13_4
       try clear hcz13_5
       try clear hcz13_6
       try clear hcz14_0
       try clear hcz14_1
       try clear hcz14_2
       try clear hcz18_0
       try clear hcz18_1
       try clear hcz18_2
       try clear hcz25_0
       try clear hcz25_1
       try clear hcz25_2
       try clear hcz27_0
       try clear hcz27_1
       try clear hcz27_2
       try clear hcz27_3
       try clear hcz27_4
       try clear hcz27_5
       try clear hcz27_6
       try clear hcz29_0
       try clear hcz29_1
       try clear hcz29_2
       try clear hcz32_0
       try clear hcz32_1
       try clear hcz32_2
       try clear hcz34_0
       try clear hcz34_1
       try clear hcz34_2
       try clear hcz34_3
       try clear hcz34_4
       try clear hcz34_5
       try clear hcz34_6
       try clear hcz36_0
       try clear hcz36_1
       try clear hcz36_2
       try clear hcz42_0
       try clear hcz42_1
       try clear hcz42_2
       try clear hcz44_0
       try clear hcz44_1
       try clear hcz44_2
       try clear hcz44_3
       try clear hcz44_4
       try clear hcz44_5
       try clear hcz44_6
       try clear hcz45_0
       try clear hcz45_1
       try clear hcz45_2
       try clear hfz11_0
       try clear hfz11_1
       try clear hfz11_2
       try clear hfz11_3
       try clear hfz11_4
       try clear hfz11_5
       try clear hfz11_6
       try clear hfz13_0
       try clear hfz13_1
       try clear hfz13_2
       try clear hfz13_3
       try clear hfz13_4
       try clear hfz13_5
       try clear hfz13_6
       try clear hfz14_0
       try clear hfz14_1
       try clear hfz14_2
       try clear hfz18_0
       try clear hfz18_1
       try clear hfz18_2
       try clear hfz25_0
       try clear hfz25_1
       try clear hfz25_2
       try clear hfz27_0
       try clear hfz27_1
       try clear hfz27_2
       try clear hfz27_3
       try clear hfz27_4
       try clear hfz27_5
       try clear hfz27_6
       try clear hfz29_0
       try clear hfz29_1
       try clear hfz29_2
       try clear hfz32_0
       try clear hfz32_1
       try clear hfz32_2
       try clear hfz34_0
       try clear hfz34_1
       try clear hfz34_2
       try clear hfz34_3
       try clear hfz34_4
       try clear hfz34_5
       try clear hfz34_6
       try clear hfz36_0
       try clear hfz36_1
       try clear hfz36_2
       try clear hfz42_0
       try clear hfz42_1
       try clear hfz42_2
       try clear hfz44_0
       try clear hfz44_1
       try clear hfz44_2
       try clear hfz44_3
       try clear hfz44_4
       try clear hfz44_5
       try clear hfz44_6
       try clear hfz45_0
       try clear hfz45_1
       try clear hfz45_2
       try clear p2
       obtain ⟨x54_2, x240000_2, x240001_2, x240002_2, rfl, HA, HK2, BK239, BK240, BK249, HB⟩ := hrel
       cases gk with
       | zero => exact absurd HA.out (by simp [overfalllaw11_PidRests.l1])
       | succ k2 =>
        have H := HA.out
        clear HA
        simp only [overfalllaw11_PidRests.l1] at H
        by_cases c46 : x54_2 < (l2.length : Int)
        ·rw [if_pos c46] at H
         have c46b0 : decide (x54_2 < (l2.length : Int)) = true := decide_eq_true c46
         clear c46
         by_cases c47 : 0 ≤ x54_2
         ·rw [if_pos c47] at H
          have c47b0 : decide (0 ≤ x54_2) = true := decide_eq_true c47
          clear c47
          by_cases c48 : x54_2 < (l2.length : Int)
          ·rw [if_pos c48] at H
           have c48b0 : decide (x54_2 < (l2.length : Int)) = true := decide_eq_true c48
           clear c48
           by_cases c49 : x54_2 ≥ 20
           ·rw [if_pos c49] at H
            have c49b0 : decide (20 ≤ x54_2) = true := decide_eq_true c49
            clear c49
            obtain rfl := Option.some.inj H
            have p253 : 0 ≤ (x54_2 : Int) := of_decide_eq_true (by first | (with_reducible assumption) | assumption)
            have q253 : x54_2 < (l2.length : Int) := of_decide_eq_true (by first | (with_reducible assumption) | assumption)
            obtain ⟨ad253, e253, hx253_0⟩ := Kd.at_int HR2.out x54_2 p253 q253
            cases e253
            replace hx253_0 := (HB.out.cell (World.block_lt_of_cell? w _ hx253_0)).trans hx253_0
            replace p253 := eq_true p253
            replace q253 := eq_true q253
            go_wp2
            go_ret
            exact ⟨by first | rfl | (simp [errW_none, errW_some] <;> rfl) | (simp only [← hji38, ← hji39]; first | rfl | (simp [errW_none, errW_some] <;> rfl)) | (simp [*, errW_none, errW_some] <;> rfl), by repeat (first | (with_reducible first | exact HB.out | apply below_alloc | apply pw_below_drewN | apply below_drew1 | refine below_set ?_ GE239.out | refine below_set ?_ GE240.out | refine below_set ?_ GE249.out) | exact HB.out)⟩
           ·rw [if_neg c49] at H
            have c49b0 : decide (20 ≤ x54_2) = false := decide_eq_false c49
            clear c49
            replace H := Option.bind_eq_some_iff.mp H
            obtain ⟨t254, A500, H⟩ := H
            replace H : ((pid_State_Sample.f k2 x240000_2 x240001_2 x240002_2 t242 0 0 0 t246 t247 t248 t254).bind fun bt255 => (if bt255.2.2 = ji39 then (overfalllaw11_PidRests.l1 k2 ji39 l2 (l2.length : Int) (wrap64 (x54_2 + 1)) bt255.1 bt255.2.1 bt255.2.2 t242 0 0 0 t246 t247 t248) else (if t242 < 9223372036854775807 then (none) else (overfalllaw11_PidRests.l1 k2 ji39 l2 (l2.length : Int) (wrap64 (x54_2 + 1)) bt255.1 bt255.2.1 bt255.2.2 t242 0 0 0 t246 t247 t248)))) = some r := H
            have A50 := Aside0.mk A500
            clear A500
            replace H := Option.bind_eq_some_iff.mp H
            obtain ⟨⟨t255, t256, t257⟩, A510, H⟩ := H
            replace H : (if t257 = ji39 then (overfalllaw11_PidRests.l1 k2 ji39 l2 (l2.length : Int) (wrap64 (x54_2 + 1)) t255 t256 t257 t242 0 0 0 t246 t247 t248) else (if t242 < 9223372036854775807 then (none) else (overfalllaw11_PidRests.l1 k2 ji39 l2 (l2.length : Int) (wrap64 (x54_2 + 1)) t255 t256 t257 t242 0 0 0 t246 t247 t248))) = some r := H
            have A51 := Aside0.mk A510
            clear A510
            by_cases c52 : t257 = ji39
            ·rw [if_pos c52] at H
             have c52b0 : (t257 == ji39) = true := beq_iff_eq.mpr c52
             have c52b1 : (t257 != ji39) = false := bne_eq_false_iff_eq.mpr c52
             clear c52
             have H' := Aside0.mk H
             clear H
             have p253 : 0 ≤ (x54_2 : Int) := of_decide_eq_true (by first | (with_reducible assumption) | assumption)
             have q253 : x54_2 < (l2.length : Int) := of_decide_eq_true (by first | (with_reducible assumption) | assumption)
             obtain ⟨ad253, e253, hx253_0⟩ := Kd.at_int HR2.out x54_2 p253 q253
             cases e253
             replace hx253_0 := (HB.out.cell (World.block_lt_of_cell? w _ hx253_0)).trans hx253_0
             replace p253 := eq_true p253
             replace q253 := eq_true q253
             try go_wp2
             have n0_ := Aside0.mk (blk_drew BK239.out)
             have n1_ := Aside0.mk (blk_drew BK240.out)
             have n2_ := Aside0.mk (blk_drew BK249.out)
             have n3_ := Aside0.mk (below_drew1 HB.out)
             clear BK239
             clear BK240
             clear BK249
             clear HB
             have BK239 := n0_
             have BK240 := n1_
             have BK249 := n2_
             have HB := n3_
             clear n0_ n1_ n2_ n3_
             refine start_ (n := 10) (S := fun w' => w'.cell? ⟨gb239, 0, none⟩ = some (.int .i64 x240000_2) ∧ w'.cell? ⟨gb239, 1, none⟩ = some (.int .i64 x240001_2) ∧ w'.cell? ⟨gb239, 2, none⟩ = some (.int .i64 x240002_2) ∧ w'.cell? ⟨gb240, 0, none⟩ = some (.int .i64 t242) ∧ w'.cell? ⟨gb240, 1, none⟩ = some (.int .i64 0) ∧ w'.cell? ⟨gb240, 2, none⟩ = some (.int .i64 0) ∧ w'.cell? ⟨gb240, 3, none⟩ = some (.int .i64 0) ∧ w'.cell? ⟨gb240, 4, none⟩ = some (.int .i64 t246) ∧ w'.cell? ⟨gb240, 5, none⟩ = some (.int .i64 t247) ∧ w'.cell? ⟨gb240, 6, none⟩ = some (.int .i64 t248)) (ds := [9]) #[false, false, false, false, false, false, false, false, false, false] (by kernel_rfl) rfl rfl ⟨(blk_cell BK239.out 0).trans rfl, (blk_cell BK239.out 1).trans rfl, (blk_cell BK239.out 2).trans rfl, (blk_cell BK240.out 0).trans rfl, (blk_cell BK240.out 1).trans rfl, (blk_cell BK240.out 2).trans rfl, (blk_cell BK240.out 3).trans rfl, (blk_cell BK240.out 4).trans rfl, (blk_cell BK240.out 5).trans rfl, (blk_cell BK240.out 6).trans rfl⟩ (fun hHeld => ?_); refine with_tabW overfalllaw11_PidRests.tab21 overfalllaw11_PidRests.bits21 (fun HT_ HW_ => ?_)
             generalize wr.drew = w53 at BK239 BK240 BK249 HB hHeld ⊢
             refine pure_ (i := 2) (N := some 63) (v := ?_) (a' := ?_) #[false, false, true, false, false, false, false, false, false, false] rfl rfl (any_of HT_.out (by kernel_rfl)) (fun _ _ _ h => h) (Or.inl ⟨by rfl, ?_⟩) ?_ ?_
             rotate_left
             ·intro w'
              go_simp
              with_reducible rfl
             rotate_left
             ·simp only [Act.put, List.setIfInBounds_toArray, List.set_cons_zero, List.set_cons_succ, i64_w, i32_w]
              rfl
             refine pure_ (i := 4) (N := some 65) (v := ?_) (a' := ?_) #[false, false, true, false, true, false, false, false, false, false] rfl rfl (any_of HT_.out (by kernel_rfl)) (fun _ _ _ h => h) (Or.inl ⟨by rfl, ?_⟩) ?_ ?_
             rotate_left
             ·intro w'
              go_simp
              with_reducible rfl
             rotate_left
             ·simp only [Act.put, List.setIfInBounds_toArray, List.set_cons_zero, List.set_cons_succ, i64_w, i32_w]
              rfl
             refine pure_ (i := 5) (N := some 66) (v := ?_) (a' := ?_) #[false, false, true, false, true, true, false, false, false, false] rfl rfl (any_of HT_.out (by kernel_rfl)) (fun _ _ _ h => h) (Or.inl ⟨by rfl, ?_⟩) ?_ ?_
             rotate_left
             ·intro w'
              go_simp
              with_reducible rfl
             rotate_left
             ·simp only [Act.put, List.setIfInBounds_toArray, List.set_cons_zero, List.set_cons_succ, i64_w, i32_w]
              rfl
             refine pure_ (i := 6) (N := some 67) (v := ?_) (a' := ?_) #[false, false, true, false, true, true, true, false, false, false] rfl rfl (any_of HT_.out (by kernel_rfl)) (fun _ _ _ h => h) (Or.inl ⟨by rfl, ?_⟩) ?_ ?_
             rotate_left
             ·intro w'
              go_simp
              with_reducible rfl
             rotate_left
             ·simp only [Act.put, List.setIfInBounds_toArray, List.set_cons_zero, List.set_cons_succ, i64_w, i32_w]
              rfl
             refine take_ (i := 0) (N := some 61) (v := ?_) (a' := ?_) #[true, false, true, false, true, true, true, false, false, false] rfl rfl (take_ofW HT_.out HW_.out (by kernel_rfl)) (fun _ _ _ h => h) (Or.inl ⟨by rfl, ?_⟩) hHeld ?_ ?_
             rotate_left
             ·rintro w' ⟨s0, s1, s2, s3, s4, s5, s6, s7, s8, s9⟩
              go_simp
              with_reducible rfl
             rotate_left
             ·simp only [Act.put, List.setIfInBounds_toArray, List.set_cons_zero, List.set_cons_succ, i64_w, i32_w]
              rfl
             refine take_ (i := 1) (N := some 62) (v := ?_) (a' := ?_) #[true, true, true, false, true, true, true, false, false, false] rfl rfl (take_ofW HT_.out HW_.out (by kernel_rfl)) (fun _ _ _ h => h) (Or.inl ⟨by rfl, ?_⟩) hHeld ?_ ?_
             rotate_left
             ·rintro w' ⟨s0, s1, s2, s3, s4, s5, s6, s7, s8, s9⟩
              go_simp
              with_reducible rfl
             rotate_left
             ·simp only [Act.put, List.setIfInBounds_toArray, List.set_cons_zero, List.set_cons_succ, i64_w, i32_w]
              rfl
             refine take_ (i := 3) (N := some 64) (v := ?_) (a' := ?_) #[true, true, true, true, true, true, true, false, false, false] rfl rfl (take_ofW HT_.out HW_.out (by kernel_rfl)) (fun _ _ _ h => h) (Or.inl ⟨by rfl, ?_⟩) hHeld ?_ ?_
             rotate_left
             ·rintro w' ⟨s0, s1, s2, s3, s4, s5, s6, s7, s8, s9⟩
              go_simp
              with_reducible rfl
             rotate_left
             ·simp only [Act.put, List.setIfInBounds_toArray, List.set_cons_zero, List.set_cons_succ, i64_w, i32_w]
              rfl
             refine one_ (i := 7) (N := some 68) #[true, true, true, true, true, true, true, true, false, false] rfl rfl (one_of HT_.out (by kernel_rfl)) (by decide) (fun K hK => ?_)
             refine goes_ Try.func17 (by kernel_rfl) rfl #[.int .i64 t242, .int .i64 (wrap64 (1 + (wrap64 (rd l2 x54_2))))] (by rfl) rfl rfl (by (try simp only [List.map_toArray, List.map_cons, List.map_nil]); first | done | rfl | (simp only [List.length_drop, List.length_take]; rfl)) ?_
             with_reducible refine (fix_Add.calls t242 (wrap64 (1 + (wrap64 (rd l2 x54_2)))) t254 _ A50.out).mono ?_
             rintro e w' ⟨rfl, ⟨nd, rfl⟩⟩
             refine ⟨_, rfl, ?_⟩
             refine hK.out _ _ ⟨(blk_cell BK239.out 0).trans rfl, (blk_cell BK239.out 1).trans rfl, (blk_cell BK239.out 2).trans rfl, (blk_cell BK240.out 0).trans rfl, (blk_cell BK240.out 1).trans rfl, (blk_cell BK240.out 2).trans rfl, (blk_cell BK240.out 3).trans rfl, (blk_cell BK240.out 4).trans rfl, (blk_cell BK240.out 5).trans rfl, (blk_cell BK240.out 6).trans rfl⟩ (fun hHeld => ?_)
             clear hK K
             refine norm_ (a' := ?_) ?_ ?_
             rotate_left
             ·show Act.put _ (some 68) _ = _
              simp only [Act.put, List.setIfInBounds_toArray, List.set_cons_zero, List.set_cons_succ, i64_w, i32_w]
              rfl
             refine one_ (i := 8) (N := some 69) #[true, true, true, true, true, true, true, true, true, false] rfl rfl (one_of HT_.out (by kernel_rfl)) (by decide) (fun K hK => ?_)
             refine goes_ Try.func11 (by kernel_rfl) rfl #[.agg #[.int .i64 x240000_2, .int .i64 x240001_2, .int .i64 x240002_2], .agg #[.int .i64 t242, .int .i64 0, .int .i64 0, .int .i64 0, .int .i64 t246, .int .i64 t247, .int .i64 t248], .int .i64 t254] (by rfl) rfl rfl (by (try simp only [List.map_toArray, List.map_cons, List.map_nil]); first | done | rfl | (simp only [List.length_drop, List.length_take]; rfl)) ?_
             with_reducible refine (pid_State_Sample.calls k2 x240000_2 x240001_2 x240002_2 t242 0 0 0 t246 t247 t248 t254 t255 t256 t257 _ A51.out).mono ?_
             rintro e w54 ⟨rfl, hb⟩
             refine ⟨_, rfl, ?_⟩
             have n0_ := Aside0.mk (blk_below (by exact BK239.out) hb)
             have n1_ := Aside0.mk (blk_below (by exact BK240.out) hb)
             have n2_ := Aside0.mk (blk_below (by exact BK249.out) hb)
             have n3_ := Aside0.mk (below_step (by repeat (first | (with_reducible first | exact HB.out | apply below_alloc | apply pw_below_drewN | apply below_drew1 | refine below_set ?_ GE239.out | refine below_set ?_ GE240.out | refine below_set ?_ GE249.out) | exact HB.out)) hb)
             clear BK239
             clear BK240
             clear BK249
             clear HB
             have BK239 := n0_
             have BK240 := n1_
             have BK249 := n2_
             have HB := n3_
             clear n0_ n1_ n2_ n3_
             (try clear hb)
             (try clear hb2)
             (try clear hk)
             (try clear hi)
             refine hK.out _ _ ⟨(blk_cell BK239.out 0).trans rfl, (blk_cell BK239.out 1).trans rfl, (blk_cell BK239.out 2).trans rfl, (blk_cell BK240.out 0).trans rfl, (blk_cell BK240.out 1).trans rfl, (blk_cell BK240.out 2).trans rfl, (blk_cell BK240.out 3).trans rfl, (blk_cell BK240.out 4).trans rfl, (blk_cell BK240.out 5).trans rfl, (blk_cell BK240.out 6).trans rfl⟩ (fun hHeld => ?_)
             clear hK K
             refine norm_ (a' := ?_) ?_ ?_
             rotate_left
             ·show Act.put _ (some 69) _ = _
              simp only [Act.put, List.setIfInBounds_toArray, List.set_cons_zero, List.set_cons_succ, i64_w, i32_w]
              rfl
             refine last_ (i := 9) (N := none) #[true, true, true, true, true, true, true, true, true, true] rfl rfl (one_of HT_.out (by kernel_rfl)) (by decide) (fun K hK => ?_)
             have hs55 : w54.cell? ⟨gb239, 0, none⟩ = some (.int .i64 x240000_2) := (blk_cell BK239.out 0).trans rfl
             have hfs55 := blk_frozen BK239.out 0
             have hns55_1 := NB240_239.out
             have hns55_2 := NB249_239.out
             have hms55_1 := NB239_240.out
             have hms55_2 := NB239_249.out
             have hs56 : w54.cell? ⟨gb239, 1, none⟩ = some (.int .i64 x240001_2) := (blk_cell BK239.out 1).trans rfl
             have hfs56 := blk_frozen BK239.out 1
             have hns56_1 := NB240_239.out
             have hns56_2 := NB249_239.out
             have hms56_1 := NB239_240.out
             have hms56_2 := NB239_249.out
             have hs57 : w54.cell? ⟨gb239, 2, none⟩ = some (.int .i64 x240002_2) := (blk_cell BK239.out 2).trans rfl
             have hfs57 := blk_frozen BK239.out 2
             have hns57_1 := NB240_239.out
             have hns57_2 := NB249_239.out
             have hms57_1 := NB239_240.out
             have hms57_2 := NB239_249.out
             refine skip_ (w1 := ?_) (by rfl) rfl ?_ ?_
             rotate_left
             ·go_simp
              rfl
             refine hK.out _ _ ?_
             clear hK K
             refine done_ (done_of HT_.out (by kernel_rfl)) ?_
             have hnb58 := NB239_240.out
             have hnc58 := NB240_239.out
             have hnb59 := NB239_249.out
             have hnc59 := NB249_239.out
             have hcz60_0 : w54.cell? ⟨gb239, 0, none⟩ = some (.int .i64 x240000_2) := (blk_cell BK239.out 0).trans rfl
             have hcz60_1 : w54.cell? ⟨gb239, 1, none⟩ = some (.int .i64 x240001_2) := (blk_cell BK239.out 1).trans rfl
             have hcz60_2 : w54.cell? ⟨gb239, 2, none⟩ = some (.int .i64 x240002_2) := (blk_cell BK239.out 2).trans rfl
             have hfz60_0 := blk_frozen BK239.out 0
             have hfz60_1 := blk_frozen BK239.out 1
             have hfz60_2 := blk_frozen BK239.out 2
             try go_wp2
             go_roundg k2
             case measure => have := HK1.out; have := HK2.out; omega
             case rel => exact ⟨(wrap64 (x54_2 + 1)), (t255), (t256), (t257), (by first | rfl | (simp; done) | (simp [*]; done)), H', ⟨by have := HK1.out; have := HK2.out; omega⟩, ⟨by refine blk_put (cs := #[.int .i64 t255, .int .i64 t256, .int .i64 x240002_2]) ?_ 2 _ rfl; refine blk_put (cs := #[.int .i64 t255, .int .i64 x240001_2, .int .i64 x240002_2]) ?_ 1 _ rfl; refine blk_put (cs := #[.int .i64 x240000_2, .int .i64 x240001_2, .int .i64 x240002_2]) ?_ 0 _ rfl; exact BK239.out⟩, ⟨by refine blk_far ?_ NB240_239.out _; refine blk_far ?_ NB240_239.out _; refine blk_far ?_ NB240_239.out _; exact BK240.out⟩, ⟨by refine blk_far ?_ NB249_239.out _; refine blk_far ?_ NB249_239.out _; refine blk_far ?_ NB249_239.out _; exact BK249.out⟩, ⟨by repeat (first | (with_reducible first | exact HB.out | apply below_alloc | apply pw_below_drewN | apply below_drew1 | refine below_set ?_ GE239.out | refine below_set ?_ GE240.out | refine below_set ?_ GE249.out) | exact HB.out)⟩⟩
            ·rw [if_neg c52] at H
             have c52b0 : (t257 == ji39) = false := beq_eq_false_iff_ne.mpr c52
             have c52b1 : (t257 != ji39) = true := bne_iff_ne.mpr c52
             by_cases c61 : t242 < 9223372036854775807
             ·rw [if_pos c61] at H
              exact absurd H (by simp)
             ·rw [if_neg c61] at H
              have c61b0 : decide (t242 < 9223372036854775807) = false := decide_eq_false c61
              clear c61
              have H' := Aside0.mk H
              clear H
              have p253 : 0 ≤ (x54_2 : Int) := of_decide_eq_true (by first | (with_reducible assumption) | assumption)
              have q253 : x54_2 < (l2.length : Int) := of_decide_eq_true (by first | (with_reducible assumption) | assumption)
              obtain ⟨ad253, e253, hx253_0⟩ := Kd.at_int HR2.out x54_2 p253 q253
              cases e253
              replace hx253_0 := (HB.out.cell (World.block_lt_of_cell? w _ hx253_0)).trans hx253_0
              replace p253 := eq_true p253
              replace q253 := eq_true q253
              try go_wp2
              have n0_ := Aside0.mk (blk_drew BK239.out)
              have n1_ := Aside0.mk (blk_drew BK240.out)
              have n2_ := Aside0.mk (blk_drew BK249.out)
              have n3_ := Aside0.mk (below_drew1 HB.out)
              clear BK239
              clear BK240
              clear BK249
              clear HB
              have BK239 := n0_
              have BK240 := n1_
              have BK249 := n2_
              have HB := n3_
              clear n0_ n1_ n2_ n3_
              refine start_ (n := 10) (S := fun w' => w'.cell? ⟨gb239, 0, none⟩ = some (.int .i64 x240000_2) ∧ w'.cell? ⟨gb239, 1, none⟩ = some (.int .i64 x240001_2) ∧ w'.cell? ⟨gb239, 2, none⟩ = some (.int .i64 x240002_2) ∧ w'.cell? ⟨gb240, 0, none⟩ = some (.int .i64 t242) ∧ w'.cell? ⟨gb240, 1, none⟩ = some (.int .i64 0) ∧ w'.cell? ⟨gb240, 2, none⟩ = some (.int .i64 0) ∧ w'.cell? ⟨gb240, 3, none⟩ = some (.int .i64 0) ∧ w'.cell? ⟨gb240, 4, none⟩ = some (.int .i64 t246) ∧ w'.cell? ⟨gb240, 5, none⟩ = some (.int .i64 t247) ∧ w'.cell? ⟨gb240, 6, none⟩ = some (.int .i64 t248)) (ds := [9]) #[false, false, false, false, false, false, false, false, false, false] (by kernel_rfl) rfl rfl ⟨(blk_cell BK239.out 0).trans rfl, (blk_cell BK239.out 1).trans rfl, (blk_cell BK239.out 2).trans rfl, (blk_cell BK240.out 0).trans rfl, (blk_cell BK240.out 1).trans rfl, (blk_cell BK240.out 2).trans rfl, (blk_cell BK240.out 3).trans rfl, (blk_cell BK240.out 4).trans rfl, (blk_cell BK240.out 5).trans rfl, (blk_cell BK240.out 6).trans rfl⟩ (fun hHeld => ?_); refine with_tabW overfalllaw11_PidRests.tab21 overfalllaw11_PidRests.bits21 (fun HT_ HW_ => ?_)
              generalize wr.drew = w62 at BK239 BK240 BK249 HB hHeld ⊢
              refine pure_ (i := 2) (N := some 63) (v := ?_) (a' := ?_) #[false, false, true, false, false, false, false, false, false, false] rfl rfl (any_of HT_.out (by kernel_rfl)) (fun _ _ _ h => h) (Or.inl ⟨by rfl, ?_⟩) ?_ ?_
              rotate_left
              ·intro w'
               go_simp
               with_reducible rfl
              rotate_left
              ·simp only [Act.put, List.setIfInBounds_toArray, List.set_cons_zero, List.set_cons_succ, i64_w, i32_w]
               rfl
              refine pure_ (i := 4) (N := some 65) (v := ?_) (a' := ?_) #[false, false, true, false, true, false, false, false, false, false] rfl rfl (any_of HT_.out (by kernel_rfl)) (fun _ _ _ h => h) (Or.inl ⟨by rfl, ?_⟩) ?_ ?_
              rotate_left
              ·intro w'
               go_simp
               with_reducible rfl
              rotate_left
              ·simp only [Act.put, List.setIfInBounds_toArray, List.set_cons_zero, List.set_cons_succ, i64_w, i32_w]
               rfl
              refine pure_ (i := 5) (N := some 66) (v := ?_) (a' := ?_) #[false, false, true, false, true, true, false, false, false, false] rfl rfl (any_of HT_.out (by kernel_rfl)) (fun _ _ _ h => h) (Or.inl ⟨by rfl, ?_⟩) ?_ ?_
              rotate_left
              ·intro w'
               go_simp
               with_reducible rfl
              rotate_left
              ·simp only [Act.put, List.setIfInBounds_toArray, List.set_cons_zero, List.set_cons_succ, i64_w, i32_w]
               rfl
              refine pure_ (i := 6) (N := some 67) (v := ?_) (a' := ?_) #[false, false, true, false, true, true, true, false, false, false] rfl rfl (any_of HT_.out (by kernel_rfl)) (fun _ _ _ h => h) (Or.inl ⟨by rfl, ?_⟩) ?_ ?_
              rotate_left
              ·intro w'
               go_simp
               with_reducible rfl
              rotate_left
              ·simp only [Act.put, List.setIfInBounds_toArray, List.set_cons_zero, List.set_cons_succ, i64_w, i32_w]
               rfl
              refine take_ (i := 0) (N := some 61) (v := ?_) (a' := ?_) #[true, false, true, false, true, true, true, false, false, false] rfl rfl (take_ofW HT_.out HW_.out (by kernel_rfl)) (fun _ _ _ h => h) (Or.inl ⟨by rfl, ?_⟩) hHeld ?_ ?_
              rotate_left
              ·rintro w' ⟨s0, s1, s2, s3, s4, s5, s6, s7, s8, s9⟩
               go_simp
               with_reducible rfl
              rotate_left
              ·simp only [Act.put, List.setIfInBounds_toArray, List.set_cons_zero, List.set_cons_succ, i64_w, i32_w]
               rfl
              refine take_ (i := 1) (N := some 62) (v := ?_) (a' := ?_) #[true, true, true, false, true, true, true, false, false, false] rfl rfl (take_ofW HT_.out HW_.out (by kernel_rfl)) (fun _ _ _ h => h) (Or.inl ⟨by rfl, ?_⟩) hHeld ?_ ?_
              rotate_left
              ·rintro w' ⟨s0, s1, s2, s3, s4, s5, s6, s7, s8, s9⟩
               go_simp
               with_reducible rfl
              rotate_left
              ·simp only [Act.put, List.setIfInBounds_toArray, List.set_cons_zero, List.set_cons_succ, i64_w, i32_w]
               rfl
              refine take_ (i := 3) (N := some 64) (v := ?_) (a' := ?_) #[true, true, true, true, true, true, true, false, false, false] rfl rfl (take_ofW HT_.out HW_.out (by kernel_rfl)) (fun _ _ _ h => h) (Or.inl ⟨by rfl, ?_⟩) hHeld ?_ ?_
              rotate_left
              ·rintro w' ⟨s0, s1, s2, s3, s4, s5, s6, s7, s8, s9⟩
               go_simp
               with_reducible rfl
              rotate_left
              ·simp only [Act.put, List.setIfInBounds_toArray, List.set_cons_zero, List.set_cons_succ, i64_w, i32_w]
               rfl
              refine one_ (i := 7) (N := some 68) #[true, true, true, true, true, true, true, true, false, false] rfl rfl (one_of HT_.out (by kernel_rfl)) (by decide) (fun K hK => ?_)
              refine goes_ Try.func17 (by kernel_rfl) rfl #[.int .i64 t242, .int .i64 (wrap64 (1 + (wrap64 (rd l2 x54_2))))] (by rfl) rfl rfl (by (try simp only [List.map_toArray, List.map_cons, List.map_nil]); first | done | rfl | (simp only [List.length_drop, List.length_take]; rfl)) ?_
              with_reducible refine (fix_Add.calls t242 (wrap64 (1 + (wrap64 (rd l2 x54_2)))) t254 _ A50.out).mono ?_
              rintro e w' ⟨rfl, ⟨nd, rfl⟩⟩
              refine ⟨_, rfl, ?_⟩
              refine hK.out _ _ ⟨(blk_cell BK239.out 0).trans rfl, (blk_cell BK239.out 1).trans rfl, (blk_cell BK239.out 2).trans rfl, (blk_cell BK240.out 0).trans rfl, (blk_cell BK240.out 1).trans rfl, (blk_cell BK240.out 2).trans rfl, (blk_cell BK240.out 3).trans rfl, (blk_cell BK240.out 4).trans rfl, (blk_cell BK240.out 5).trans rfl, (blk_cell BK240.out 6).trans rfl⟩ (fun hHeld => ?_)
              clear hK K
              refine norm_ (a' := ?_) ?_ ?_
              rotate_left
              ·show Act.put _ (some 68) _ = _
               simp only [Act.put, List.setIfInBounds_toArray, List.set_cons_zero, List.set_cons_succ, i64_w, i32_w]
               rfl
              refine one_ (i := 8) (N := some 69) #[true, true, true, true, true, true, true, true, true, false] rfl rfl (one_of HT_.out (by kernel_rfl)) (by decide) (fun K hK => ?_)
              refine goes_ Try.func11 (by kernel_rfl) rfl #[.agg #[.int .i64 x240000_2, .int .i64 x240001_2, .int .i64 x240002_2], .agg #[.int .i64 t242, .int .i64 0, .int .i64 0, .int .i64 0, .int .i64 t246, .int .i64 t247, .int .i64 t248], .int .i64 t254] (by rfl) rfl rfl (by (try simp only [List.map_toArray, List.map_cons, List.map_nil]); first | done | rfl | (simp only [List.length_drop, List.length_take]; rfl)) ?_
              with_reducible refine (pid_State_Sample.calls k2 x240000_2 x240001_2 x240002_2 t242 0 0 0 t246 t247 t248 t254 t255 t256 t257 _ A51.out).mono ?_
              rintro e w63 ⟨rfl, hb⟩
              refine ⟨_, rfl, ?_⟩
              have n0_ := Aside0.mk (blk_below (by exact BK239.out) hb)
              have n1_ := Aside0.mk (blk_below (by exact BK240.out) hb)
              have n2_ := Aside0.mk (blk_below (by exact BK249.out) hb)
              have n3_ := Aside0.mk (below_step (by repeat (first | (with_reducible first | exact HB.out | apply below_alloc | apply pw_below_drewN | apply below_drew1 | refine below_set ?_ GE239.out | refine below_set ?_ GE240.out | refine below_set ?_ GE249.out) | exact HB.out)) hb)
              clear BK239
              clear BK240
              clear BK249
              clear HB
              have BK239 := n0_
              have BK240 := n1_
              have BK249 := n2_
              have HB := n3_
              clear n0_ n1_ n2_ n3_
              (try clear hb)
              (try clear hb2)
              (try clear hk)
              (try clear hi)
              refine hK.out _ _ ⟨(blk_cell BK239.out 0).trans rfl, (blk_cell BK239.out 1).trans rfl, (blk_cell BK239.out 2).trans rfl, (blk_cell BK240.out 0).trans rfl, (blk_cell BK240.out 1).trans rfl, (blk_cell BK240.out 2).trans rfl, (blk_cell BK240.out 3).trans rfl, (blk_cell BK240.out 4).trans rfl, (blk_cell BK240.out 5).trans rfl, (blk_cell BK240.out 6).trans rfl⟩ (fun hHeld => ?_)
              clear hK K
              refine norm_ (a' := ?_) ?_ ?_
              rotate_left
              ·show Act.put _ (some 69) _ = _
               simp only [Act.put, List.setIfInBounds_toArray, List.set_cons_zero, List.set_cons_succ, i64_w, i32_w]
               rfl
              refine last_ (i := 9) (N := none) #[true, true, true, true, true, true, true, true, true, true] rfl rfl (one_of HT_.out (by kernel_rfl)) (by decide) (fun K hK => ?_)
              have hs64 : w63.cell? ⟨gb239, 0, none⟩ = some (.int .i64 x240000_2) := (blk_cell BK239.out 0).trans rfl
              have hfs64 := blk_frozen BK239.out 0
              have hns64_1 := NB240_239.out
              have hns64_2 := NB249_239.out
              have hms64_1 := NB239_240.out
              have hms64_2 := NB239_249.out
              have hs65 : w63.cell? ⟨gb239, 1, none⟩ = some (.int .i64 x240001_2) := (blk_cell BK239.out 1).trans rfl
              have hfs65 := blk_frozen BK239.out 1
              have hns65_1 := NB240_239.out
              have hns65_2 := NB249_239.out
              have hms65_1 := NB239_240.out
              have hms65_2 := NB239_249.out
              have hs66 : w63.cell? ⟨gb239, 2, none⟩ = some (.int .i64 x240002_2) := (blk_cell BK239.out 2).trans rfl
              have hfs66 := blk_frozen BK239.out 2
              have hns66_1 := NB240_239.out
              have hns66_2 := NB249_239.out
              have hms66_1 := NB239_240.out
              have hms66_2 := NB239_249.out
              refine skip_ (w1 := ?_) (by rfl) rfl ?_ ?_
              rotate_left
              ·go_simp
               rfl
              refine hK.out _ _ ?_
              clear hK K
              refine done_ (done_of HT_.out (by kernel_rfl)) ?_
              have hnb67 := NB239_240.out
              have hnc67 := NB240_239.out
              have hnb68 := NB239_249.out
              have hnc68 := NB249_239.out
              have hcz69_0 : w63.cell? ⟨gb239, 0, none⟩ = some (.int .i64 x240000_2) := (blk_cell BK239.out 0).trans rfl
              have hcz69_1 : w63.cell? ⟨gb239, 1, none⟩ = some (.int .i64 x240001_2) := (blk_cell BK239.out 1).trans rfl
              have hcz69_2 : w63.cell? ⟨gb239, 2, none⟩ = some (.int .i64 x240002_2) := (blk_cell BK239.out 2).trans rfl
              have hfz69_0 := blk_frozen BK239.out 0
              have hfz69_1 := blk_frozen BK239.out 1
              have hfz69_2 := blk_frozen BK239.out 2
              have hnb70 := NB240_249.out
              have hnc70 := NB249_240.out
              have hcz71_0 : w63.cell? ⟨gb240, 0, none⟩ = some (.int .i64 t242) := (blk_cell BK240.out 0).trans rfl
              have hcz71_1 : w63.cell? ⟨gb240, 1, none⟩ = some (.int .i64 0) := (blk_cell BK240.out 1).trans rfl
              have hcz71_2 : w63.cell? ⟨gb240, 2, none⟩ = some (.int .i64 0) := (blk_cell BK240.out 2).trans rfl
              have hcz71_3 : w63.cell? ⟨gb240, 3, none⟩ = some (.int .i64 0) := (blk_cell BK240.out 3).trans rfl
              have hcz71_4 : w63.cell? ⟨gb240, 4, none⟩ = some (.int .i64 t246) := (blk_cell BK240.out 4).trans rfl
              have hcz71_5 : w63.cell? ⟨gb240, 5, none⟩ = some (.int .i64 t247) := (blk_cell BK240.out 5).trans rfl
              have hcz71_6 : w63.cell? ⟨gb240, 6, none⟩ = some (.int .i64 t248) := (blk_cell BK240.out 6).trans rfl
              have hfz71_0 := blk_frozen BK240.out 0
              have hfz71_1 := blk_frozen BK240.out 1
              have hfz71_2 := blk_frozen BK240.out 2
              have hfz71_3 := blk_frozen BK240.out 3
              have hfz71_4 := blk_frozen BK240.out 4
              have hfz71_5 := blk_frozen BK240.out 5
              have hfz71_6 := blk_frozen BK240.out 6
              try go_wp2
              go_roundg k2
              case measure => have := HK1.out; have := HK2.out; omega
              case rel => exact ⟨(wrap64 (x54_2 + 1)), (t255), (t256), (t257), (by first | rfl | (simp; done) | (simp [*]; done)), H', ⟨by have := HK1.out; have := HK2.out; omega⟩, ⟨by refine blk_put (cs := #[.int .i64 t255, .int .i64 t256, .int .i64 x240002_2]) ?_ 2 _ rfl; refine blk_put (cs := #[.int .i64 t255, .int .i64 x240001_2, .int .i64 x240002_2]) ?_ 1 _ rfl; refine blk_put (cs := #[.int .i64 x240000_2, .int .i64 x240001_2, .int .i64 x240002_2]) ?_ 0 _ rfl; exact BK239.out⟩, ⟨by refine blk_far ?_ NB240_239.out _; refine blk_far ?_ NB240_239.out _; refine blk_far ?_ NB240_239.out _; exact BK240.out⟩, ⟨by refine blk_far ?_ NB249_239.out _; refine blk_far ?_ NB249_239.out _; refine blk_far ?_ NB249_239.out _; exact BK249.out⟩, ⟨by repeat (first | (with_reducible first | exact HB.out | apply below_alloc | apply pw_below_drewN | apply below_drew1 | refine below_set ?_ GE239.out | refine below_set ?_ GE240.out | refine below_set ?_ GE249.out) | exact HB.out)⟩⟩
          ·rw [if_neg c48] at H
           exact absurd H (by simp)
         ·rw [if_neg c47] at H
          exact absurd H (by simp)
        ·rw [if_neg c46] at H
         have c46b0 : decide (x54_2 < (l2.length : Int)) = false := decide_eq_false c46
         clear c46
         obtain rfl := Option.some.inj H
         go_wp2
         go_ret
         exact ⟨by first | rfl | (simp [errW_none, errW_some] <;> rfl) | (simp only [← hji38, ← hji39]; first | rfl | (simp [errW_none, errW_some] <;> rfl)) | (simp [*, errW_none, errW_some] <;> rfl), by repeat (first | (with_reducible first | exact HB.out | apply below_alloc | apply pw_below_drewN | apply below_drew1 | refine below_set ?_ GE239.out | refine below_set ?_ GE240.out | refine below_set ?_ GE249.out) | exact HB.out)⟩
     ·rw [if_neg c37] at H
      exact absurd H (by simp)
 ·replace c5 := Bool.eq_false_iff.mpr c5
  subst c5
  have H1 : (none) = some r := by rw [if_neg (show ¬ (false = true) by decide)] at H; exact H
  clear H
  have H := H1
  clear H1
  exact absurd H (by simp)

end Go.Proofs.Ythmapfhemiamhaa.P

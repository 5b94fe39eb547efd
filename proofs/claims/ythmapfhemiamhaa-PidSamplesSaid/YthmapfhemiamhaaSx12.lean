-- Laid by a program of this claim's session (wip/tools/myprint.py) over the kit's printer.
import Derived.Test.YthmapfhemiamhaaSx0
import Derived.Test.YthmapfhemiamhaaSx9
import Derived.Test.YthmapfhemiamhaaSx11
namespace Go.Proofs.Ythmapfhemiamhaa.S
open Go.RowKit Go.Proofs.YthmapfhemiamhaaW.PrintWords Go.Proofs.YthmapfhemiamhaaW.PrintLast Go.Proofs.YthmapfhemiamhaaW.PrintMore
attribute [local go_sem] max2_int min2_int max_two min_two max_three min_three max_four min_four   -- for this text's walks alone
set_option linter.unusedVariables false
set_option linter.unusedSimpArgs false

/-! ### overfallref11_Sample: function 12 -/
def overfallref11_Sample.j0 : Nat → Int → Int → Int → Int → Int → Int → Int → Int → Int → Int → Int → Int → Int → Option (Int × Int × Int)
 | 0, _, _, _, _, _, _, _, _, _, _, _, _, _ => none
 | k + 1, x333000, x333001, x333002, x334000, x334001, x334002, x334003, x334004, x334005, x334006, x337000, x337001, x337002 => (overfallref02_Add.f k x333002 x334005).bind fun t351 => (if x337002 > t351 then ((overfallref02_Clamp.f t351 0 x334006).bind fun t352 => (some (x337000, x337001, t352))) else ((overfallref02_Clamp.f x337002 0 x334006).bind fun t353 => (some (x337000, x337001, t353))))
def overfallref11_Sample.f (k : Nat) (a0_0 : Int) (a0_1 : Int) (a0_2 : Int) (a1_0 : Int) (a1_1 : Int) (a1_2 : Int) (a1_3 : Int) (a1_4 : Int) (a1_5 : Int) (a1_6 : Int) (a2 : Int) : Option (Int × Int × Int) := (overfallref02_Sub.f k a2 a1_0).bind fun t335 => (if a2 ≤ a1_0 then ((overfallref02_Of.f k a0_0 2147483648).bind fun t337 => (if t337 < 0 then ((overfallref02_Sub.f k a0_2 1).bind fun t338 => ((overfallref02_Clamp.f t338 0 a1_6).bind fun t339 => (some (0, t335, t339)))) else ((overfallref02_Sub.f k a0_2 1).bind fun t340 => ((overfallref02_Clamp.f t340 0 a1_6).bind fun t341 => (some (t337, t335, t341)))))) else ((overfallref02_Of.f k a1_2 t335).bind fun t342 => ((overfallref02_Add.f k a0_0 t342).bind fun t343 => ((overfallref02_Clamp.f t343 0 a1_4).bind fun t344 => ((overfallref02_Of.f k a1_1 t335).bind fun t345 => ((overfallref02_Add.f k t345 t344).bind fun t346 => ((overfallref02_Sub.f k t335 a0_1).bind fun t347 => ((overfallref02_Of.f k a1_3 t347).bind fun t348 => ((overfallref02_Add.f k t346 t348).bind fun t349 => ((overfallref02_Floor.f k t349).bind fun t350 => (if t350 > a0_2 then (overfallref11_Sample.j0 k a0_0 a0_1 a0_2 a1_0 a1_1 a1_2 a1_3 a1_4 a1_5 a1_6 t344 t335 t350) else (overfallref11_Sample.j0 k a0_0 a0_1 a0_2 a1_0 a1_1 a1_2 a1_3 a1_4 a1_5 a1_6 t344 t335 a0_2))))))))))))
theorem overfallref11_Sample.mono_l : ∀ k, (∀ y0 y1 y2 y3 y4 y5 y6 y7 y8 y9 y10 y11 y12, LeO (overfallref11_Sample.j0 k y0 y1 y2 y3 y4 y5 y6 y7 y8 y9 y10 y11 y12) (overfallref11_Sample.j0 (k + 1) y0 y1 y2 y3 y4 y5 y6 y7 y8 y9 y10 y11 y12))
 | 0 => fun _ _ _ _ _ _ _ _ _ _ _ _ _ r h => by simp [overfallref11_Sample.j0] at h
 | k + 1 => by
  have ih0 := overfallref11_Sample.mono_l k
  ·intro y0 y1 y2 y3 y4 y5 y6 y7 y8 y9 y10 y11 y12
   unfold overfallref11_Sample.j0
   repeat' first
   | (with_reducible exact ih0 _ _ _ _ _ _ _ _ _ _ _ _ _)
   | (with_reducible exact overfallref02_Add.mono _ _ _)
   | (with_reducible exact overfallref02_Floor.mono _ _)
   | (with_reducible exact overfallref02_Of.mono _ _ _)
   | (with_reducible exact overfallref02_Sub.mono _ _ _)
   | (with_reducible exact LeO.refl _)
   | (with_reducible exact LeO.none _)
   | (with_reducible refine LeO.ite ?_ ?_)
   | (with_reducible refine LeO.bind ?_ (fun _ => ?_))
   | exact ih0 _ _ _ _ _ _ _ _ _ _ _ _ _
   | exact overfallref02_Add.mono _ _ _
   | exact overfallref02_Floor.mono _ _
   | exact overfallref02_Of.mono _ _ _
   | exact overfallref02_Sub.mono _ _ _
   | exact LeO.none _
   | refine LeO.ite ?_ ?_
   | refine LeO.bind ?_ (fun _ => ?_)
theorem overfallref11_Sample.mono : ∀ a0 a1 a2 a3 a4 a5 a6 a7 a8 a9 a10 k, LeO (overfallref11_Sample.f k a0 a1 a2 a3 a4 a5 a6 a7 a8 a9 a10) (overfallref11_Sample.f (k + 1) a0 a1 a2 a3 a4 a5 a6 a7 a8 a9 a10) := by
 intro a0 a1 a2 a3 a4 a5 a6 a7 a8 a9 a10 k
 have ih0 := overfallref11_Sample.mono_l k
 unfold overfallref11_Sample.f
 repeat' first
   | (with_reducible exact ih0 _ _ _ _ _ _ _ _ _ _ _ _ _)
   | (with_reducible exact overfallref02_Add.mono _ _ _)
   | (with_reducible exact overfallref02_Floor.mono _ _)
   | (with_reducible exact overfallref02_Of.mono _ _ _)
   | (with_reducible exact overfallref02_Sub.mono _ _ _)
   | (with_reducible exact LeO.refl _)
   | (with_reducible exact LeO.none _)
   | (with_reducible refine LeO.ite ?_ ?_)
   | (with_reducible refine LeO.bind ?_ (fun _ => ?_))
   | exact ih0 _ _ _ _ _ _ _ _ _ _ _ _ _
   | exact overfallref02_Add.mono _ _ _
   | exact overfallref02_Floor.mono _ _
   | exact overfallref02_Of.mono _ _ _
   | exact overfallref02_Sub.mono _ _ _
   | exact LeO.none _
   | refine LeO.ite ?_ ?_
   | refine LeO.bind ?_ (fun _ => ?_)
def overfallref11_Sample.T7 : Bool × List (List Nat × List Nat) := (true, [([], []), ([0], [0]), ([1], [1]), ([], []), ([3], [3]), ([2, 4, 2], [2, 4]), ([0, 1, 2, 3, 4, 5], []), ([6, 5, 5, 0, 1, 2, 3, 4, 5], [5, 6])])
def overfallref11_Sample.B7 : List Nat := [0, 1, 3, 0, 8, 31, 63, 127]
theorem overfallref11_Sample.tab7 : rtab .any (opsOf Try.f12 7) = overfallref11_Sample.T7 := by kernel_rfl
theorem overfallref11_Sample.bits7 : waitsOk overfallref11_Sample.T7.2 overfallref11_Sample.B7 = true := by kernel_rfl
def overfallref11_Sample.T9 : Bool × List (List Nat × List Nat) := (true, [([], []), ([0], [0]), ([], []), ([2], [2]), ([], []), ([3, 4], [3, 4]), ([1, 5, 5], [1, 5]), ([], []), ([7], [7]), ([6, 8, 6], [6, 8]), ([0, 1, 2, 3, 4, 5, 6, 7, 8, 9], []), ([10, 9, 9, 0, 1, 2, 3, 4, 5, 6, 7, 8, 9], [9, 10])])
def overfallref11_Sample.B9 : List Nat := [0, 1, 0, 4, 0, 28, 63, 0, 128, 511, 1023, 2047]
theorem overfallref11_Sample.tab9 : rtab .any (opsOf Try.f12 9) = overfallref11_Sample.T9 := by kernel_rfl
theorem overfallref11_Sample.bits9 : waitsOk overfallref11_Sample.T9.2 overfallref11_Sample.B9 = true := by kernel_rfl
def overfallref11_Sample.T10 : Bool × List (List Nat × List Nat) := (true, [([], []), ([0], [0]), ([], []), ([1, 2], [1, 2]), ([], []), ([4], [4]), ([3, 5, 3], [3, 5]), ([], []), ([7], [7]), ([], []), ([], []), ([10], [10]), ([9, 11, 6], [9, 11]), ([8, 12, 12], [8, 12]), ([6, 13, 13], [6, 13]), ([14, 14, 0, 1, 2, 3, 4, 5, 6, 7, 8, 9, 10, 11, 12, 13, 14], [14])])
def overfallref11_Sample.B10 : List Nat := [0, 1, 0, 7, 0, 16, 63, 0, 128, 0, 0, 1024, 3711, 8191, 16383, 32767]
theorem overfallref11_Sample.tab10 : rtab .any (opsOf Try.f12 10) = overfallref11_Sample.T10 := by kernel_rfl
theorem overfallref11_Sample.bits10 : waitsOk overfallref11_Sample.T10.2 overfallref11_Sample.B10 = true := by kernel_rfl
set_option maxHeartbeats 8000000 in
set_option maxRecDepth 100000 in
theorem overfallref11_Sample.calls (k : Nat) (a0_0 : Int) (a0_1 : Int) (a0_2 : Int) (a1_0 : Int) (a1_1 : Int) (a1_2 : Int) (a1_3 : Int) (a1_4 : Int) (a1_5 : Int) (a1_6 : Int) (a2 : Int) (r1 : Int) (r2 : Int) (r3 : Int) (w : World) (h : overfallref11_Sample.f k a0_0 a0_1 a0_2 a1_0 a1_1 a1_2 a1_3 a1_4 a1_5 a1_6 a2 = some (r1, r2, r3)) :
  Calls Try.prog 12 #[.agg #[.int .i64 a0_0, .int .i64 a0_1, .int .i64 a0_2], .agg #[.int .i64 a1_0, .int .i64 a1_1, .int .i64 a1_2, .int .i64 a1_3, .int .i64 a1_4, .int .i64 a1_5, .int .i64 a1_6], .int .i64 a2] w fun e w' => e = .returned (.agg #[.int .i64 r1, .int .i64 r2, .int .i64 r3]) ∧ Below w.heap.size w w' := by
 have hu30 := Try.underlying30
 have hu36 := Try.underlying36
 have HB := Aside0.mk (Below.refl w.heap.size w)
 have H : ((overfallref02_Sub.f k a2 a1_0).bind fun t335 => (if a2 ≤ a1_0 then ((overfallref02_Of.f k a0_0 2147483648).bind fun t337 => (if t337 < 0 then ((overfallref02_Sub.f k a0_2 1).bind fun t338 => ((overfallref02_Clamp.f t338 0 a1_6).bind fun t339 => (some (0, t335, t339)))) else ((overfallref02_Sub.f k a0_2 1).bind fun t340 => ((overfallref02_Clamp.f t340 0 a1_6).bind fun t341 => (some (t337, t335, t341)))))) else ((overfallref02_Of.f k a1_2 t335).bind fun t342 => ((overfallref02_Add.f k a0_0 t342).bind fun t343 => ((overfallref02_Clamp.f t343 0 a1_4).bind fun t344 => ((overfallref02_Of.f k a1_1 t335).bind fun t345 => ((overfallref02_Add.f k t345 t344).bind fun t346 => ((overfallref02_Sub.f k t335 a0_1).bind fun t347 => ((overfallref02_Of.f k a1_3 t347).bind fun t348 => ((overfallref02_Add.f k t346 t348).bind fun t349 => ((overfallref02_Floor.f k t349).bind fun t350 => (if t350 > a0_2 then (overfallref11_Sample.j0 k a0_0 a0_1 a0_2 a1_0 a1_1 a1_2 a1_3 a1_4 a1_5 a1_6 t344 t335 t350) else (overfallref11_Sample.j0 k a0_0 a0_1 a0_2 a1_0 a1_1 a1_2 a1_3 a1_4 a1_5 a1_6 t344 t335 a0_2))))))))))))) = some (r1, r2, r3) := h
 clear h
 replace H := Option.bind_eq_some_iff.mp H
 obtain ⟨t335, A40, H⟩ := H
 replace H : (if a2 ≤ a1_0 then ((overfallref02_Of.f k a0_0 2147483648).bind fun t337 => (if t337 < 0 then ((overfallref02_Sub.f k a0_2 1).bind fun t338 => ((overfallref02_Clamp.f t338 0 a1_6).bind fun t339 => (some (0, t335, t339)))) else ((overfallref02_Sub.f k a0_2 1).bind fun t340 => ((overfallref02_Clamp.f t340 0 a1_6).bind fun t341 => (some (t337, t335, t341)))))) else ((overfallref02_Of.f k a1_2 t335).bind fun t342 => ((overfallref02_Add.f k a0_0 t342).bind fun t343 => ((overfallref02_Clamp.f t343 0 a1_4).bind fun t344 => ((overfallref02_Of.f k a1_1 t335).bind fun t345 => ((overfallref02_Add.f k t345 t344).bind fun t346 => ((overfallref02_Sub.f k t335 a0_1).bind fun t347 => ((overfallref02_Of.f k a1_3 t347).bind fun t348 => ((overfallref02_Add.f k t346 t348).bind fun t349 => ((overfallref02_Floor.f k t349).bind fun t350 => (if t350 > a0_2 then (overfallref11_Sample.j0 k a0_0 a0_1 a0_2 a1_0 a1_1 a1_2 a1_3 a1_4 a1_5 a1_6 t344 t335 t350) else (overfallref11_Sample.j0 k a0_0 a0_1 a0_2 a1_0 a1_1 a1_2 a1_3 a1_4 a1_5 a1_6 t344 t335 a0_2)))))))))))) = some (r1, r2, r3) := H
 have A4 := Aside0.mk A40
 clear A40
 by_cases c5 : a2 ≤ a1_0
 ·rw [if_pos c5] at H
  have c5b0 : decide (a2 ≤ a1_0) = true := decide_eq_true c5
  clear c5
  replace H := Option.bind_eq_some_iff.mp H
  obtain ⟨t337, A60, H⟩ := H
  replace H : (if t337 < 0 then ((overfallref02_Sub.f k a0_2 1).bind fun t338 => ((overfallref02_Clamp.f t338 0 a1_6).bind fun t339 => (some (0, t335, t339)))) else ((overfallref02_Sub.f k a0_2 1).bind fun t340 => ((overfallref02_Clamp.f t340 0 a1_6).bind fun t341 => (some (t337, t335, t341))))) = some (r1, r2, r3) := H
  have A6 := Aside0.mk A60
  clear A60
  by_cases c7 : t337 < 0
  ·rw [if_pos c7] at H
   have c7b0 : decide (t337 < 0) = true := decide_eq_true c7
   clear c7
   replace H := Option.bind_eq_some_iff.mp H
   obtain ⟨t338, A80, H⟩ := H
   replace H : ((overfallref02_Clamp.f t338 0 a1_6).bind fun t339 => (some (0, t335, t339))) = some (r1, r2, r3) := H
   have A8 := Aside0.mk A80
   clear A80
   replace H := Option.bind_eq_some_iff.mp H
   obtain ⟨t339, A90, H⟩ := H
   replace H : (some (0, t335, t339)) = some (r1, r2, r3) := H
   have A9 := Aside0.mk A90
   clear A90
   simp only [Option.some.injEq, Prod.mk.injEq] at H
   obtain ⟨rfl, rfl, rfl⟩ := H
   go_enter Try.func12, Try.ntmps12
   try go_wp2_with (first | ((with_reducible refine gate_dst (N := 3) rfl ?_); refine box_event ?hg (N := 3) ?hd (cs := #[.int .i64 a0_0, .int .i64 a0_1, .int .i64 a0_2]) (t := 30) ?hr ?_; (case hd => rfl); (case hg => rfl); (case hr => first | (go_simp; done) | (go_simp; rfl)); intro gb332 hg w10 hbox hb; have n0_ := Aside0.mk (below_step (by repeat (first | (with_reducible first | exact HB.out | apply below_alloc | apply pw_below_drewN | apply below_drew1) | exact HB.out)) hb); have n1_ := Aside0.mk (hbox); have n2_ := Aside0.mk ((by rw [hg]; exact (below_size (by repeat (first | (with_reducible first | exact HB.out | apply below_alloc | apply pw_below_drewN | apply below_drew1) | exact HB.out))) : w.heap.size ≤ gb332)); have n3_ := Aside0.mk ((by rw [hg]; exact (below_size (by repeat (first | (with_reducible first | exact HB.out | apply below_alloc | apply pw_below_drewN | apply below_drew1) | exact HB.out))) : w.heap.size ≤ gb332)); clear HB; have HB := n0_; have BK332 := n1_; have GW332 := n2_; have GE332 := n3_; clear n0_ n1_ n2_ n3_; clear hb hbox hg) | ((with_reducible refine gate_dst (N := 4) rfl ?_); refine box_event ?hg (N := 4) ?hd (cs := #[.int .i64 a1_0, .int .i64 a1_1, .int .i64 a1_2, .int .i64 a1_3, .int .i64 a1_4, .int .i64 a1_5, .int .i64 a1_6]) (t := 36) ?hr ?_; (case hd => rfl); (case hg => rfl); (case hr => first | (go_simp; done) | (go_simp; rfl)); intro gb333 hg w11 hbox hb; have n0_ := Aside0.mk (blk_below (by exact BK332.out) hb); have n1_ := Aside0.mk (below_step (by repeat (first | (with_reducible first | exact HB.out | apply below_alloc | apply pw_below_drewN | apply below_drew1 | refine below_set ?_ GE332.out) | exact HB.out)) hb); have n2_ := Aside0.mk (hbox); have n3_ := Aside0.mk ((by rw [hg]; exact (below_size (by repeat (first | (with_reducible first | exact HB.out | apply below_alloc | apply pw_below_drewN | apply below_drew1 | refine below_set ?_ GE332.out) | exact HB.out))) : w.heap.size ≤ gb333)); have n4_ := Aside0.mk ((by rw [hg]; exact (below_size (by repeat (first | (with_reducible first | exact HB.out | apply below_alloc | apply pw_below_drewN | apply below_drew1 | refine below_set ?_ GE332.out) | exact HB.out))) : w.heap.size ≤ gb333)); have n5_ := Aside0.mk ((by rw [hg]; exact Nat.ne_of_lt (blk_lt (by exact BK332.out)) : gb332 ≠ gb333)); have n6_ := Aside0.mk ((by rw [hg]; exact Nat.ne_of_gt (blk_lt (by exact BK332.out)) : gb333 ≠ gb332)); clear BK332; clear HB; have BK332 := n0_; have HB := n1_; have BK333 := n2_; have GW333 := n3_; have GE333 := n4_; have NB332_333 := n5_; have NB333_332 := n6_; clear n0_ n1_ n2_ n3_ n4_ n5_ n6_; clear hb hbox hg) | ((with_reducible refine gate_dst (N := 6) rfl ?_); refine box_event ?hg (N := 6) ?hd (cs := #[.int .i64 0, .int .i64 0, .int .i64 0]) (t := 30) ?hr ?_; (case hd => rfl); (case hg => rfl); (case hr => first | (go_simp; done) | (go_simp; rfl)); intro gb334 hg w12 hbox hb; have n0_ := Aside0.mk (blk_below (by exact BK332.out) hb); have n1_ := Aside0.mk (blk_below (by exact BK333.out) hb); have n2_ := Aside0.mk (below_step (by repeat (first | (with_reducible first | exact HB.out | apply below_alloc | apply pw_below_drewN | apply below_drew1 | refine below_set ?_ GE332.out | refine below_set ?_ GE333.out) | exact HB.out)) hb); have n3_ := Aside0.mk (hbox); have n4_ := Aside0.mk ((by rw [hg]; exact (below_size (by repeat (first | (with_reducible first | exact HB.out | apply below_alloc | apply pw_below_drewN | apply below_drew1 | refine below_set ?_ GE332.out | refine below_set ?_ GE333.out) | exact HB.out))) : w.heap.size ≤ gb334)); have n5_ := Aside0.mk ((by rw [hg]; exact (below_size (by repeat (first | (with_reducible first | exact HB.out | apply below_alloc | apply pw_below_drewN | apply below_drew1 | refine below_set ?_ GE332.out | refine below_set ?_ GE333.out) | exact HB.out))) : w.heap.size ≤ gb334)); have n6_ := Aside0.mk ((by rw [hg]; exact Nat.ne_of_lt (blk_lt (by exact BK332.out)) : gb332 ≠ gb334)); have n7_ := Aside0.mk ((by rw [hg]; exact Nat.ne_of_gt (blk_lt (by exact BK332.out)) : gb334 ≠ gb332)); have n8_ := Aside0.mk ((by rw [hg]; exact Nat.ne_of_lt (blk_lt (by exact BK333.out)) : gb333 ≠ gb334)); have n9_ := Aside0.mk ((by rw [hg]; exact Nat.ne_of_gt (blk_lt (by exact BK333.out)) : gb334 ≠ gb333)); clear BK332; clear BK333; clear HB; have BK332 := n0_; have BK333 := n1_; have HB := n2_; have BK334 := n3_; have GW334 := n4_; have GE334 := n5_; have NB332_334 := n6_; have NB334_332 := n7_; have NB333_334 := n8_; have NB334_333 := n9_; clear n0_ n1_ n2_ n3_ n4_ n5_ n6_ n7_ n8_ n9_; clear hb hbox hg; have hnb13 := NB333_332.out; have hnc13 := NB332_333.out; have hnb14 := NB333_334.out; have hnc14 := NB334_333.out; have hcz15_0 : w12.cell? ⟨gb333, 0, none⟩ = some (.int .i64 a1_0) := (blk_cell BK333.out 0).trans rfl; have hcz15_1 : w12.cell? ⟨gb333, 1, none⟩ = some (.int .i64 a1_1) := (blk_cell BK333.out 1).trans rfl; have hcz15_2 : w12.cell? ⟨gb333, 2, none⟩ = some (.int .i64 a1_2) := (blk_cell BK333.out 2).trans rfl; have hcz15_3 : w12.cell? ⟨gb333, 3, none⟩ = some (.int .i64 a1_3) := (blk_cell BK333.out 3).trans rfl; have hcz15_4 : w12.cell? ⟨gb333, 4, none⟩ = some (.int .i64 a1_4) := (blk_cell BK333.out 4).trans rfl; have hcz15_5 : w12.cell? ⟨gb333, 5, none⟩ = some (.int .i64 a1_5) := (blk_cell BK333.out 5).trans rfl; have hcz15_6 : w12.cell? ⟨gb333, 6, none⟩ = some (.int .i64 a1_6) := (blk_cell BK333.out 6).trans rfl; have hfz15_0 := blk_frozen BK333.out 0; have hfz15_1 := blk_frozen BK333.out 1; have hfz15_2 := blk_frozen BK333.out 2; have hfz15_3 := blk_frozen BK333.out 3; have hfz15_4 := blk_frozen BK333.out 4; have hfz15_5 := blk_frozen BK333.out 5; have hfz15_6 := blk_frozen BK333.out 6) | ((with_reducible refine gate_callee (f := 24) rfl ?_); refine goesL_ (some 15) rfl rfl Try.func24 (by kernel_rfl) rfl #[.int .i64 a2, .int .i64 a1_0] rfl (by (try simp only [List.map_toArray, List.map_cons, List.map_nil]); first | done | rfl | (simp only [List.length_drop, List.length_take]; rfl)) ?_; (with_reducible refine (overfallref02_Sub.calls k a2 a1_0 t335 _ A4.out).mono ?_); rintro e w16 ⟨rfl, hb⟩; refine ⟨_, rfl, ?_⟩; have n0_ := Aside0.mk (blk_below (by exact BK332.out) hb); have n1_ := Aside0.mk (blk_below (by exact BK333.out) hb); have n2_ := Aside0.mk (blk_below (by exact BK334.out) hb); have n3_ := Aside0.mk (below_step (by repeat (first | (with_reducible first | exact HB.out | apply below_alloc | apply pw_below_drewN | apply below_drew1 | refine below_set ?_ GE332.out | refine below_set ?_ GE333.out | refine below_set ?_ GE334.out) | exact HB.out)) hb); clear BK332; clear BK333; clear BK334; clear HB; have BK332 := n0_; have BK333 := n1_; have BK334 := n2_; have HB := n3_; clear n0_ n1_ n2_ n3_; (try clear hb); (try clear hb2); (try clear hk); (try clear hi)) | ((with_reducible refine gate_dst (N := 8) rfl ?_); refine box_event ?hg (N := 8) ?hd (cs := #[.int .i64 0, .int .i64 0, .int .i64 0]) (t := 30) ?hr ?_; (case hd => rfl); (case hg => rfl); (case hr => first | (go_simp; done) | (go_simp; rfl)); intro gb336 hg w17 hbox hb; have n0_ := Aside0.mk (blk_below (by exact BK332.out) hb); have n1_ := Aside0.mk (blk_below (by exact BK333.out) hb); have n2_ := Aside0.mk (blk_below (by exact BK334.out) hb); have n3_ := Aside0.mk (below_step (by repeat (first | (with_reducible first | exact HB.out | apply below_alloc | apply pw_below_drewN | apply below_drew1 | refine below_set ?_ GE332.out | refine below_set ?_ GE333.out | refine below_set ?_ GE334.out) | exact HB.out)) hb); have n4_ := Aside0.mk (hbox); have n5_ := Aside0.mk ((by rw [hg]; exact (below_size (by repeat (first | (with_reducible first | exact HB.out | apply below_alloc | apply pw_below_drewN | apply below_drew1 | refine below_set ?_ GE332.out | refine below_set ?_ GE333.out | refine below_set ?_ GE334.out) | exact HB.out))) : w.heap.size ≤ gb336)); have n6_ := Aside0.mk ((by rw [hg]; exact (below_size (by repeat (first | (with_reducible first | exact HB.out | apply below_alloc | apply pw_below_drewN | apply below_drew1 | refine below_set ?_ GE332.out | refine below_set ?_ GE333.out | refine below_set ?_ GE334.out) | exact HB.out))) : w.heap.size ≤ gb336)); have n7_ := Aside0.mk ((by rw [hg]; exact Nat.ne_of_lt (blk_lt (by exact BK332.out)) : gb332 ≠ gb336)); have n8_ := Aside0.mk ((by rw [hg]; exact Nat.ne_of_gt (blk_lt (by exact BK332.out)) : gb336 ≠ gb332)); have n9_ := Aside0.mk ((by rw [hg]; exact Nat.ne_of_lt (blk_lt (by exact BK333.out)) : gb333 ≠ gb336)); have n10_ := Aside0.mk ((by rw [hg]; exact Nat.ne_of_gt (blk_lt (by exact BK333.out)) : gb336 ≠ gb333)); have n11_ := Aside0.mk ((by rw [hg]; exact Nat.ne_of_lt (blk_lt (by exact BK334.out)) : gb334 ≠ gb336)); have n12_ := Aside0.mk ((by rw [hg]; exact Nat.ne_of_gt (blk_lt (by exact BK334.out)) : gb336 ≠ gb334)); clear BK332; clear BK333; clear BK334; clear HB; have BK332 := n0_; have BK333 := n1_; have BK334 := n2_; have HB := n3_; have BK336 := n4_; have GW336 := n5_; have GE336 := n6_; have NB332_336 := n7_; have NB336_332 := n8_; have NB333_336 := n9_; have NB336_333 := n10_; have NB334_336 := n11_; have NB336_334 := n12_; clear n0_ n1_ n2_ n3_ n4_ n5_ n6_ n7_ n8_ n9_ n10_ n11_ n12_; clear hb hbox hg; have hnb18 := NB336_332.out; have hnc18 := NB332_336.out; have hnb19 := NB336_333.out; have hnc19 := NB333_336.out; have hnb20 := NB336_334.out; have hnc20 := NB334_336.out; have hcz21_0 : w17.cell? ⟨gb336, 0, none⟩ = some (.int .i64 0) := (blk_cell BK336.out 0).trans rfl; have hcz21_1 : w17.cell? ⟨gb336, 1, none⟩ = some (.int .i64 0) := (blk_cell BK336.out 1).trans rfl; have hcz21_2 : w17.cell? ⟨gb336, 2, none⟩ = some (.int .i64 0) := (blk_cell BK336.out 2).trans rfl; have hfz21_0 := blk_frozen BK336.out 0; have hfz21_1 := blk_frozen BK336.out 1; have hfz21_2 := blk_frozen BK336.out 2; have hcz22_0 : w17.cell? ⟨gb333, 0, none⟩ = some (.int .i64 a1_0) := (blk_cell BK333.out 0).trans rfl; have hcz22_1 : w17.cell? ⟨gb333, 1, none⟩ = some (.int .i64 a1_1) := (blk_cell BK333.out 1).trans rfl; have hcz22_2 : w17.cell? ⟨gb333, 2, none⟩ = some (.int .i64 a1_2) := (blk_cell BK333.out 2).trans rfl; have hcz22_3 : w17.cell? ⟨gb333, 3, none⟩ = some (.int .i64 a1_3) := (blk_cell BK333.out 3).trans rfl; have hcz22_4 : w17.cell? ⟨gb333, 4, none⟩ = some (.int .i64 a1_4) := (blk_cell BK333.out 4).trans rfl; have hcz22_5 : w17.cell? ⟨gb333, 5, none⟩ = some (.int .i64 a1_5) := (blk_cell BK333.out 5).trans rfl; have hcz22_6 : w17.cell? ⟨gb333, 6, none⟩ = some (.int .i64 a1_6) := (blk_cell BK333.out 6).trans rfl; have hfz22_0 := blk_frozen BK333.out 0; have hfz22_1 := blk_frozen BK333.out 1; have hfz22_2 := blk_frozen BK333.out 2; have hfz22_3 := blk_frozen BK333.out 3; have hfz22_4 := blk_frozen BK333.out 4; have hfz22_5 := blk_frozen BK333.out 5; have hfz22_6 := blk_frozen BK333.out 6; have hnb23 := NB332_334.out; have hnc23 := NB334_332.out; have hcz24_0 : w17.cell? ⟨gb332, 0, none⟩ = some (.int .i64 a0_0) := (blk_cell BK332.out 0).trans rfl; have hcz24_1 : w17.cell? ⟨gb332, 1, none⟩ = some (.int .i64 a0_1) := (blk_cell BK332.out 1).trans rfl; have hcz24_2 : w17.cell? ⟨gb332, 2, none⟩ = some (.int .i64 a0_2) := (blk_cell BK332.out 2).trans rfl; have hfz24_0 := blk_frozen BK332.out 0; have hfz24_1 := blk_frozen BK332.out 1; have hfz24_2 := blk_frozen BK332.out 2) | ((with_reducible refine gate_callee (f := 25) rfl ?_); refine goesL_ (some 24) rfl rfl Try.func25 (by kernel_rfl) rfl #[.int .i64 a0_0, .int .i64 2147483648] rfl (by (try simp only [List.map_toArray, List.map_cons, List.map_nil]); first | done | rfl | (simp only [List.length_drop, List.length_take]; rfl)) ?_; (with_reducible refine (overfallref02_Of.calls k a0_0 2147483648 t337 _ A6.out).mono ?_); rintro e w25 ⟨rfl, hb⟩; refine ⟨_, rfl, ?_⟩; have n0_ := Aside0.mk (blk_below (g := gb332) (o := .cells #[.int .i64 a0_0, .int .i64 a0_1, .int .i64 a0_2] 30 (0, 0)) (by refine blk_far ?_ NB332_336.out _; refine blk_far ?_ NB332_336.out _; refine blk_far ?_ NB332_336.out _; exact BK332.out) hb); have n1_ := Aside0.mk (blk_below (g := gb333) (o := .cells #[.int .i64 a1_0, .int .i64 a1_1, .int .i64 a1_2, .int .i64 a1_3, .int .i64 a1_4, .int .i64 a1_5, .int .i64 a1_6] 36 (0, 0)) (by refine blk_far ?_ NB333_336.out _; refine blk_far ?_ NB333_336.out _; refine blk_far ?_ NB333_336.out _; exact BK333.out) hb); have n2_ := Aside0.mk (blk_below (g := gb334) (o := .cells #[.int .i64 0, .int .i64 0, .int .i64 0] 30 (0, 0)) (by refine blk_far ?_ NB334_336.out _; refine blk_far ?_ NB334_336.out _; refine blk_far ?_ NB334_336.out _; exact BK334.out) hb); have n3_ := Aside0.mk (blk_below (g := gb336) (o := .cells #[.int .i64 0, .int .i64 t335, .int .i64 0] 30 (0, 0)) (by refine blk_put (cs := #[.int .i64 0, .int .i64 t335, .int .i64 0]) ?_ 2 _ rfl; refine blk_put (cs := #[.int .i64 0, .int .i64 0, .int .i64 0]) ?_ 1 _ rfl; refine blk_put (cs := #[.int .i64 0, .int .i64 0, .int .i64 0]) ?_ 0 _ rfl; exact BK336.out) hb); have n4_ := Aside0.mk (below_step (by repeat (first | (with_reducible first | exact HB.out | apply below_alloc | apply pw_below_drewN | apply below_drew1 | refine below_set ?_ GE332.out | refine below_set ?_ GE333.out | refine below_set ?_ GE334.out | refine below_set ?_ GE336.out) | exact HB.out)) hb); clear BK332; clear BK333; clear BK334; clear BK336; clear HB; have BK332 := n0_; have BK333 := n1_; have BK334 := n2_; have BK336 := n3_; have HB := n4_; clear n0_ n1_ n2_ n3_ n4_; (try clear hb); (try clear hb2); (try clear hk); (try clear hi); have hcz26_0 : w25.cell? ⟨gb336, 0, none⟩ = some (.int .i64 0) := (blk_cell BK336.out 0).trans rfl; have hcz26_1 : w25.cell? ⟨gb336, 1, none⟩ = some (.int .i64 t335) := (blk_cell BK336.out 1).trans rfl; have hcz26_2 : w25.cell? ⟨gb336, 2, none⟩ = some (.int .i64 0) := (blk_cell BK336.out 2).trans rfl; have hfz26_0 := blk_frozen BK336.out 0; have hfz26_1 := blk_frozen BK336.out 1; have hfz26_2 := blk_frozen BK336.out 2))
   have n0_ : Aside0 (((w25.setCell ⟨gb336, 0, none⟩ (.int .i64 t337)).setCell ⟨gb336, 0, none⟩ (.int .i64 0)).heap[gb332]? = some (.cells #[.int .i64 a0_0, .int .i64 a0_1, .int .i64 a0_2] 30 (0, 0))) := ⟨by refine blk_far ?_ NB332_336.out _; refine blk_far ?_ NB332_336.out _; exact BK332.out⟩
   have n1_ : Aside0 (((w25.setCell ⟨gb336, 0, none⟩ (.int .i64 t337)).setCell ⟨gb336, 0, none⟩ (.int .i64 0)).heap[gb333]? = some (.cells #[.int .i64 a1_0, .int .i64 a1_1, .int .i64 a1_2, .int .i64 a1_3, .int .i64 a1_4, .int .i64 a1_5, .int .i64 a1_6] 36 (0, 0))) := ⟨by refine blk_far ?_ NB333_336.out _; refine blk_far ?_ NB333_336.out _; exact BK333.out⟩
   have n2_ : Aside0 (((w25.setCell ⟨gb336, 0, none⟩ (.int .i64 t337)).setCell ⟨gb336, 0, none⟩ (.int .i64 0)).heap[gb334]? = some (.cells #[.int .i64 0, .int .i64 0, .int .i64 0] 30 (0, 0))) := ⟨by refine blk_far ?_ NB334_336.out _; refine blk_far ?_ NB334_336.out _; exact BK334.out⟩
   have n3_ : Aside0 (((w25.setCell ⟨gb336, 0, none⟩ (.int .i64 t337)).setCell ⟨gb336, 0, none⟩ (.int .i64 0)).heap[gb336]? = some (.cells #[.int .i64 0, .int .i64 t335, .int .i64 0] 30 (0, 0))) := ⟨by refine blk_put (cs := #[.int .i64 t337, .int .i64 t335, .int .i64 0]) ?_ 0 _ rfl; refine blk_put (cs := #[.int .i64 0, .int .i64 t335, .int .i64 0]) ?_ 0 _ rfl; exact BK336.out⟩
   have n4_ : Aside0 (Below w.heap.size w ((w25.setCell ⟨gb336, 0, none⟩ (.int .i64 t337)).setCell ⟨gb336, 0, none⟩ (.int .i64 0))) := ⟨by repeat (first | (with_reducible first | exact HB.out | apply below_alloc | apply pw_below_drewN | apply below_drew1 | refine below_set ?_ GE332.out | refine below_set ?_ GE333.out | refine below_set ?_ GE334.out | refine below_set ?_ GE336.out) | exact HB.out)⟩
   (try clear BK332)
   (try clear BK333)
   (try clear BK334)
   (try clear BK336)
   (try clear HB)
   generalize ((w25.setCell ⟨gb336, 0, none⟩ (.int .i64 t337)).setCell ⟨gb336, 0, none⟩ (.int .i64 0)) = w27 at n0_ n1_ n2_ n3_ n4_ ⊢
   have BK332 := n0_
   have BK333 := n1_
   have BK334 := n2_
   have BK336 := n3_
   have HB := n4_
   clear n0_ n1_ n2_ n3_ n4_
   have n0_ := Aside0.mk (blk_drew BK332.out)
   have n1_ := Aside0.mk (blk_drew BK333.out)
   have n2_ := Aside0.mk (blk_drew BK334.out)
   have n3_ := Aside0.mk (blk_drew BK336.out)
   have n4_ := Aside0.mk (below_drew1 HB.out)
   clear BK332
   clear BK333
   clear BK334
   clear BK336
   clear HB
   have BK332 := n0_
   have BK333 := n1_
   have BK334 := n2_
   have BK336 := n3_
   have HB := n4_
   clear n0_ n1_ n2_ n3_ n4_
   refine start_ (n := 8) (S := fun w' => w'.cell? ⟨gb332, 0, none⟩ = some (.int .i64 a0_0) ∧ w'.cell? ⟨gb332, 1, none⟩ = some (.int .i64 a0_1) ∧ w'.cell? ⟨gb332, 2, none⟩ = some (.int .i64 a0_2) ∧ w'.cell? ⟨gb333, 0, none⟩ = some (.int .i64 a1_0) ∧ w'.cell? ⟨gb333, 1, none⟩ = some (.int .i64 a1_1) ∧ w'.cell? ⟨gb333, 2, none⟩ = some (.int .i64 a1_2) ∧ w'.cell? ⟨gb333, 3, none⟩ = some (.int .i64 a1_3) ∧ w'.cell? ⟨gb333, 4, none⟩ = some (.int .i64 a1_4) ∧ w'.cell? ⟨gb333, 5, none⟩ = some (.int .i64 a1_5) ∧ w'.cell? ⟨gb333, 6, none⟩ = some (.int .i64 a1_6)) (ds := []) #[false, false, false, false, false, false, false, false] (by kernel_rfl) rfl rfl ⟨(blk_cell BK332.out 0).trans rfl, (blk_cell BK332.out 1).trans rfl, (blk_cell BK332.out 2).trans rfl, (blk_cell BK333.out 0).trans rfl, (blk_cell BK333.out 1).trans rfl, (blk_cell BK333.out 2).trans rfl, (blk_cell BK333.out 3).trans rfl, (blk_cell BK333.out 4).trans rfl, (blk_cell BK333.out 5).trans rfl, (blk_cell BK333.out 6).trans rfl⟩ (fun hHeld => ?_); refine with_tabW overfallref11_Sample.tab7 overfallref11_Sample.bits7 (fun HT_ HW_ => ?_)
   generalize w27.drew = w28 at BK332 BK333 BK334 BK336 HB hHeld ⊢
   refine pure_ (i := 0) (N := some 30) (v := ?_) (a' := ?_) #[true, false, false, false, false, false, false, false] rfl rfl (any_of HT_.out (by kernel_rfl)) (fun _ _ _ h => h) (Or.inl ⟨by rfl, ?_⟩) ?_ ?_
   rotate_left
   ·intro w'
    go_simp
    with_reducible rfl
   rotate_left
   ·simp only [Act.put, List.setIfInBounds_toArray, List.set_cons_zero, List.set_cons_succ, i64_w, i32_w]
    rfl
   refine pure_ (i := 3) (N := some 33) (v := ?_) (a' := ?_) #[true, false, false, true, false, false, false, false] rfl rfl (any_of HT_.out (by kernel_rfl)) (fun _ _ _ h => h) (Or.inl ⟨by rfl, ?_⟩) ?_ ?_
   rotate_left
   ·intro w'
    go_simp
    with_reducible rfl
   rotate_left
   ·simp only [Act.put, List.setIfInBounds_toArray, List.set_cons_zero, List.set_cons_succ, i64_w, i32_w]
    rfl
   refine take_ (i := 1) (N := some 31) (v := ?_) (a' := ?_) #[true, true, false, true, false, false, false, false] rfl rfl (take_ofW HT_.out HW_.out (by kernel_rfl)) (fun _ _ _ h => h) (Or.inl ⟨by rfl, ?_⟩) hHeld ?_ ?_
   rotate_left
   ·rintro w' ⟨s0, s1, s2, s3, s4, s5, s6, s7, s8, s9⟩
    go_simp
    with_reducible rfl
   rotate_left
   ·simp only [Act.put, List.setIfInBounds_toArray, List.set_cons_zero, List.set_cons_succ, i64_w, i32_w]
    rfl
   refine take_ (i := 4) (N := some 34) (v := ?_) (a' := ?_) #[true, true, false, true, true, false, false, false] rfl rfl (take_ofW HT_.out HW_.out (by kernel_rfl)) (fun _ _ _ h => h) (Or.inl ⟨by rfl, ?_⟩) hHeld ?_ ?_
   rotate_left
   ·rintro w' ⟨s0, s1, s2, s3, s4, s5, s6, s7, s8, s9⟩
    go_simp
    with_reducible rfl
   rotate_left
   ·simp only [Act.put, List.setIfInBounds_toArray, List.set_cons_zero, List.set_cons_succ, i64_w, i32_w]
    rfl
   refine one_ (i := 2) (N := some 32) #[true, true, true, true, true, false, false, false] rfl rfl (one_of HT_.out (by kernel_rfl)) (by decide) (fun K hK => ?_)
   refine goes_ Try.func24 (by kernel_rfl) rfl #[.int .i64 a0_2, .int .i64 1] (by rfl) rfl rfl (by (try simp only [List.map_toArray, List.map_cons, List.map_nil]); first | done | rfl | (simp only [List.length_drop, List.length_take]; rfl)) ?_
   with_reducible refine (overfallref02_Sub.calls k a0_2 1 t338 _ A8.out).mono ?_
   rintro e w29 ⟨rfl, hb⟩
   refine ⟨_, rfl, ?_⟩
   have n0_ := Aside0.mk (blk_below (by exact BK332.out) hb)
   have n1_ := Aside0.mk (blk_below (by exact BK333.out) hb)
   have n2_ := Aside0.mk (blk_below (by exact BK334.out) hb)
   have n3_ := Aside0.mk (blk_below (by exact BK336.out) hb)
   have n4_ := Aside0.mk (below_step (by repeat (first | (with_reducible first | exact HB.out | apply below_alloc | apply pw_below_drewN | apply below_drew1 | refine below_set ?_ GE332.out | refine below_set ?_ GE333.out | refine below_set ?_ GE334.out | refine below_set ?_ GE336.out) | exact HB.out)) hb)
   clear BK332
   clear BK333
   clear BK334
   clear BK336
   clear HB
   have BK332 := n0_
   have BK333 := n1_
   have BK334 := n2_
   have BK336 := n3_
   have HB := n4_
   clear n0_ n1_ n2_ n3_ n4_
   (try clear hb)
   (try clear hb2)
   (try clear hk)
   (try clear hi)
   refine hK.out _ _ ⟨(blk_cell BK332.out 0).trans rfl, (blk_cell BK332.out 1).trans rfl, (blk_cell BK332.out 2).trans rfl, (blk_cell BK333.out 0).trans rfl, (blk_cell BK333.out 1).trans rfl, (blk_cell BK333.out 2).trans rfl, (blk_cell BK333.out 3).trans rfl, (blk_cell BK333.out 4).trans rfl, (blk_cell BK333.out 5).trans rfl, (blk_cell BK333.out 6).trans rfl⟩ (fun hHeld => ?_)
   clear hK K
   refine norm_ (a' := ?_) ?_ ?_
   rotate_left
   ·show Act.put _ (some 32) _ = _
    simp only [Act.put, List.setIfInBounds_toArray, List.set_cons_zero, List.set_cons_succ, i64_w, i32_w]
    rfl
   refine one_ (i := 5) (N := some 35) #[true, true, true, true, true, true, false, false] rfl rfl (one_of HT_.out (by kernel_rfl)) (by decide) (fun K hK => ?_)
   refine goes_ Try.func26 (by kernel_rfl) rfl #[.int .i64 t338, .int .i64 0, .int .i64 a1_6] (by rfl) rfl rfl (by (try simp only [List.map_toArray, List.map_cons, List.map_nil]); first | done | rfl | (simp only [List.length_drop, List.length_take]; rfl)) ?_
   with_reducible refine (overfallref02_Clamp.calls t338 0 a1_6 t339 _ A9.out).mono ?_
   rintro e w' ⟨rfl, ⟨nd, rfl⟩⟩
   refine ⟨_, rfl, ?_⟩
   refine hK.out _ _ ⟨(blk_cell BK332.out 0).trans rfl, (blk_cell BK332.out 1).trans rfl, (blk_cell BK332.out 2).trans rfl, (blk_cell BK333.out 0).trans rfl, (blk_cell BK333.out 1).trans rfl, (blk_cell BK333.out 2).trans rfl, (blk_cell BK333.out 3).trans rfl, (blk_cell BK333.out 4).trans rfl, (blk_cell BK333.out 5).trans rfl, (blk_cell BK333.out 6).trans rfl⟩ (fun hHeld => ?_)
   clear hK K
   refine norm_ (a' := ?_) ?_ ?_
   rotate_left
   ·show Act.put _ (some 35) _ = _
    simp only [Act.put, List.setIfInBounds_toArray, List.set_cons_zero, List.set_cons_succ, i64_w, i32_w]
    rfl
   refine pure_ (i := 6) (N := some 36) (v := ?_) (a' := ?_) #[true, true, true, true, true, true, true, false] rfl rfl (any_of HT_.out (by kernel_rfl)) (fun _ _ _ h => h) (Or.inl ⟨by rfl, ?_⟩) ?_ ?_
   rotate_left
   ·intro w'
    go_simp
    with_reducible rfl
   rotate_left
   ·simp only [Act.put, List.setIfInBounds_toArray, List.set_cons_zero, List.set_cons_succ, i64_w, i32_w]
    rfl
   refine one_ (i := 7) (N := none) #[true, true, true, true, true, true, true, true] rfl rfl (one_of HT_.out (by kernel_rfl)) (by decide) (fun K hK => ?_)
   have hs30 : w29.cell? ⟨gb336, 2, none⟩ = some (.int .i64 0) := (blk_cell BK336.out 2).trans rfl
   have hfs30 := blk_frozen BK336.out 2
   have hns30_0 := NB332_336.out
   have hns30_1 := NB333_336.out
   have hns30_2 := NB334_336.out
   have hms30_0 := NB336_332.out
   have hms30_1 := NB336_333.out
   have hms30_2 := NB336_334.out
   refine skip_ (w1 := ?_) (by rfl) rfl ?_ ?_
   rotate_left
   ·go_simp
    rfl
   refine hK.out _ _ ⟨((cell_far (p := ⟨gb336, _, none⟩) NB332_336.out _).trans (hHeld.1)), ((cell_far (p := ⟨gb336, _, none⟩) NB332_336.out _).trans (hHeld.2.1)), ((cell_far (p := ⟨gb336, _, none⟩) NB332_336.out _).trans (hHeld.2.2.1)), ((cell_far (p := ⟨gb336, _, none⟩) NB333_336.out _).trans (hHeld.2.2.2.1)), ((cell_far (p := ⟨gb336, _, none⟩) NB333_336.out _).trans (hHeld.2.2.2.2.1)), ((cell_far (p := ⟨gb336, _, none⟩) NB333_336.out _).trans (hHeld.2.2.2.2.2.1)), ((cell_far (p := ⟨gb336, _, none⟩) NB333_336.out _).trans (hHeld.2.2.2.2.2.2.1)), ((cell_far (p := ⟨gb336, _, none⟩) NB333_336.out _).trans (hHeld.2.2.2.2.2.2.2.1)), ((cell_far (p := ⟨gb336, _, none⟩) NB333_336.out _).trans (hHeld.2.2.2.2.2.2.2.2.1)), ((cell_far (p := ⟨gb336, _, none⟩) NB333_336.out _).trans (hHeld.2.2.2.2.2.2.2.2.2))⟩ (fun hHeld => ?_)
   clear hK K
   refine done_ (done_of HT_.out (by kernel_rfl)) ?_
   have hcz31_0 : w29.cell? ⟨gb336, 0, none⟩ = some (.int .i64 0) := (blk_cell BK336.out 0).trans rfl
   have hcz31_1 : w29.cell? ⟨gb336, 1, none⟩ = some (.int .i64 t335) := (blk_cell BK336.out 1).trans rfl
   have hcz31_2 : w29.cell? ⟨gb336, 2, none⟩ = some (.int .i64 0) := (blk_cell BK336.out 2).trans rfl
   have hfz31_0 := blk_frozen BK336.out 0
   have hfz31_1 := blk_frozen BK336.out 1
   have hfz31_2 := blk_frozen BK336.out 2
   have hcz32_0 : w29.cell? ⟨gb334, 0, none⟩ = some (.int .i64 0) := (blk_cell BK334.out 0).trans rfl
   have hcz32_1 : w29.cell? ⟨gb334, 1, none⟩ = some (.int .i64 0) := (blk_cell BK334.out 1).trans rfl
   have hcz32_2 : w29.cell? ⟨gb334, 2, none⟩ = some (.int .i64 0) := (blk_cell BK334.out 2).trans rfl
   have hfz32_0 := blk_frozen BK334.out 0
   have hfz32_1 := blk_frozen BK334.out 1
   have hfz32_2 := blk_frozen BK334.out 2
   try go_wp2
   refine bodyPost_ret (results_cell_row rfl _ _ gb334 30 #[.int .i64 0, .int .i64 t335, .int .i64 t339] (0, 0) _ rfl (by refine blk_put (cs := #[.int .i64 0, .int .i64 t335, .int .i64 0]) ?_ 2 _ rfl; refine blk_put (cs := #[.int .i64 0, .int .i64 0, .int .i64 0]) ?_ 1 _ rfl; refine blk_put (cs := #[.int .i64 0, .int .i64 0, .int .i64 0]) ?_ 0 _ rfl; refine blk_far ?_ NB334_336.out _; exact BK334.out) Try.underlying30 rfl (by kernel_rfl)) rfl ?_
   exact ⟨by first | rfl | (simp [errW_none, errW_some] <;> rfl) | (simp [*, errW_none, errW_some] <;> rfl), by repeat (first | (with_reducible first | exact HB.out | apply below_alloc | apply pw_below_drewN | apply below_drew1 | refine below_set ?_ GE332.out | refine below_set ?_ GE333.out | refine below_set ?_ GE334.out | refine below_set ?_ GE336.out) | exact HB.out)⟩
  ·rw [if_neg c7] at H
   have c7b0 : decide (t337 < 0) = false := decide_eq_false c7
   clear c7
   replace H := Option.bind_eq_some_iff.mp H
   obtain ⟨t340, A330, H⟩ := H
   replace H : ((overfallref02_Clamp.f t340 0 a1_6).bind fun t341 => (some (t337, t335, t341))) = some (r1, r2, r3) := H
   have A33 := Aside0.mk A330
   clear A330
   replace H := Option.bind_eq_some_iff.mp H
   obtain ⟨t341, A340, H⟩ := H
   replace H : (some (t337, t335, t341)) = some (r1, r2, r3) := H
   have A34 := Aside0.mk A340
   clear A340
   simp only [Option.some.injEq, Prod.mk.injEq] at H
   obtain ⟨rfl, rfl, rfl⟩ := H
   go_enter Try.func12, Try.ntmps12
   try go_wp2_with (first | ((with_reducible refine gate_dst (N := 3) rfl ?_); refine box_event ?hg (N := 3) ?hd (cs := #[.int .i64 a0_0, .int .i64 a0_1, .int .i64 a0_2]) (t := 30) ?hr ?_; (case hd => rfl); (case hg => rfl); (case hr => first | (go_simp; done) | (go_simp; rfl)); intro gb332 hg w35 hbox hb; have n0_ := Aside0.mk (below_step (by repeat (first | (with_reducible first | exact HB.out | apply below_alloc | apply pw_below_drewN | apply below_drew1) | exact HB.out)) hb); have n1_ := Aside0.mk (hbox); have n2_ := Aside0.mk ((by rw [hg]; exact (below_size (by repeat (first | (with_reducible first | exact HB.out | apply below_alloc | apply pw_below_drewN | apply below_drew1) | exact HB.out))) : w.heap.size ≤ gb332)); have n3_ := Aside0.mk ((by rw [hg]; exact (below_size (by repeat (first | (with_reducible first | exact HB.out | apply below_alloc | apply pw_below_drewN | apply below_drew1) | exact HB.out))) : w.heap.size ≤ gb332)); clear HB; have HB := n0_; have BK332 := n1_; have GW332 := n2_; have GE332 := n3_; clear n0_ n1_ n2_ n3_; clear hb hbox hg) | ((with_reducible refine gate_dst (N := 4) rfl ?_); refine box_event ?hg (N := 4) ?hd (cs := #[.int .i64 a1_0, .int .i64 a1_1, .int .i64 a1_2, .int .i64 a1_3, .int .i64 a1_4, .int .i64 a1_5, .int .i64 a1_6]) (t := 36) ?hr ?_; (case hd => rfl); (case hg => rfl); (case hr => first | (go_simp; done) | (go_simp; rfl)); intro gb333 hg w36 hbox hb; have n0_ := Aside0.mk (blk_below (by exact BK332.out) hb); have n1_ := Aside0.mk (below_step (by repeat (first | (with_reducible first | exact HB.out | apply below_alloc | apply pw_below_drewN | apply below_drew1 | refine below_set ?_ GE332.out) | exact HB.out)) hb); have n2_ := Aside0.mk (hbox); have n3_ := Aside0.mk ((by rw [hg]; exact (below_size (by repeat (first | (with_reducible first | exact HB.out | apply below_alloc | apply pw_below_drewN | apply below_drew1 | refine below_set ?_ GE332.out) | exact HB.out))) : w.heap.size ≤ gb333)); have n4_ := Aside0.mk ((by rw [hg]; exact (below_size (by repeat (first | (with_reducible first | exact HB.out | apply below_alloc | apply pw_below_drewN | apply below_drew1 | refine below_set ?_ GE332.out) | exact HB.out))) : w.heap.size ≤ gb333)); have n5_ := Aside0.mk ((by rw [hg]; exact Nat.ne_of_lt (blk_lt (by exact BK332.out)) : gb332 ≠ gb333)); have n6_ := Aside0.mk ((by rw [hg]; exact Nat.ne_of_gt (blk_lt (by exact BK332.out)) : gb333 ≠ gb332)); clear BK332; clear HB; have BK332 := n0_; have HB := n1_; have BK333 := n2_; have GW333 := n3_; have GE333 := n4_; have NB332_333 := n5_; have NB333_332 := n6_; clear n0_ n1_ n2_ n3_ n4_ n5_ n6_; clear hb hbox hg) | ((with_reducible refine gate_dst (N := 6) rfl ?_); refine box_event ?hg (N := 6) ?hd (cs := #[.int .i64 0, .int .i64 0, .int .i64 0]) (t := 30) ?hr ?_; (case hd => rfl); (case hg => rfl); (case hr => first | (go_simp; done) | (go_simp; rfl)); intro gb334 hg w37 hbox hb; have n0_ := Aside0.mk (blk_below (by exact BK332.out) hb); have n1_ := Aside0.mk (blk_below (by exact BK333.out) hb); have n2_ := Aside0.mk (below_step (by repeat (first | (with_reducible first | exact HB.out | apply below_alloc | apply pw_below_drewN | apply below_drew1 | refine below_set ?_ GE332.out | refine below_set ?_ GE333.out) | exact HB.out)) hb); have n3_ := Aside0.mk (hbox); have n4_ := Aside0.mk ((by rw [hg]; exact (below_size (by repeat (first | (with_reducible first | exact HB.out | apply below_alloc | apply pw_below_drewN | apply below_drew1 | refine below_set ?_ GE332.out | refine below_set ?_ GE333.out) | exact HB.out))) : w.heap.size ≤ gb334)); have n5_ := Aside0.mk ((by rw [hg]; exact (below_size (by repeat (first | (with_reducible first | exact HB.out | apply below_alloc | apply pw_below_drewN | apply below_drew1 | refine below_set ?_ GE332.out | refine below_set ?_ GE333.out) | exact HB.out))) : w.heap.size ≤ gb334)); have n6_ := Aside0.mk ((by rw [hg]; exact Nat.ne_of_lt (blk_lt (by exact BK332.out)) : gb332 ≠ gb334)); have n7_ := Aside0.mk ((by rw [hg]; exact Nat.ne_of_gt (blk_lt (by exact BK332.out)) : gb334 ≠ gb332)); have n8_ := Aside0.mk ((by rw [hg]; exact Nat.ne_of_lt (blk_lt (by exact BK333.out)) : gb333 ≠ gb334)); have n9_ := Aside0.mk ((by rw [hg]; exact Nat.ne_of_gt (blk_lt (by exact BK333.out)) : gb334 ≠ gb333)); clear BK332; clear BK333; clear HB; have BK332 := n0_; have BK333 := n1_; have HB := n2_; have BK334 := n3_; have GW334 := n4_; have GE334 := n5_; have NB332_334 := n6_; have NB334_332 := n7_; have NB333_334 := n8_; have NB334_333 := n9_; clear n0_ n1_ n2_ n3_ n4_ n5_ n6_ n7_ n8_ n9_; clear hb hbox hg; have hnb38 := NB333_332.out; have hnc38 := NB332_333.out; have hnb39 := NB333_334.out; have hnc39 := NB334_333.out; have hcz40_0 : w37.cell? ⟨gb333, 0, none⟩ = some (.int .i64 a1_0) := (blk_cell BK333.out 0).trans rfl; have hcz40_1 : w37.cell? ⟨gb333, 1, none⟩ = some (.int .i64 a1_1) := (blk_cell BK333.out 1).trans rfl; have hcz40_2 : w37.cell? ⟨gb333, 2, none⟩ = some (.int .i64 a1_2) := (blk_cell BK333.out 2).trans rfl; have hcz40_3 : w37.cell? ⟨gb333, 3, none⟩ = some (.int .i64 a1_3) := (blk_cell BK333.out 3).trans rfl; have hcz40_4 : w37.cell? ⟨gb333, 4, none⟩ = some (.int .i64 a1_4) := (blk_cell BK333.out 4).trans rfl; have hcz40_5 : w37.cell? ⟨gb333, 5, none⟩ = some (.int .i64 a1_5) := (blk_cell BK333.out 5).trans rfl; have hcz40_6 : w37.cell? ⟨gb333, 6, none⟩ = some (.int .i64 a1_6) := (blk_cell BK333.out 6).trans rfl; have hfz40_0 := blk_frozen BK333.out 0; have hfz40_1 := blk_frozen BK333.out 1; have hfz40_2 := blk_frozen BK333.out 2; have hfz40_3 := blk_frozen BK333.out 3; have hfz40_4 := blk_frozen BK333.out 4; have hfz40_5 := blk_frozen BK333.out 5; have hfz40_6 := blk_frozen BK333.out 6) | ((with_reducible refine gate_callee (f := 24) rfl ?_); refine goesL_ (some 15) rfl rfl Try.func24 (by kernel_rfl) rfl #[.int .i64 a2, .int .i64 a1_0] rfl (by (try simp only [List.map_toArray, List.map_cons, List.map_nil]); first | done | rfl | (simp only [List.length_drop, List.length_take]; rfl)) ?_; (with_reducible refine (overfallref02_Sub.calls k a2 a1_0 t335 _ A4.out).mono ?_); rintro e w41 ⟨rfl, hb⟩; refine ⟨_, rfl, ?_⟩; have n0_ := Aside0.mk (blk_below (by exact BK332.out) hb); have n1_ := Aside0.mk (blk_below (by exact BK333.out) hb); have n2_ := Aside0.mk (blk_below (by exact BK334.out) hb); have n3_ := Aside0.mk (below_step (by repeat (first | (with_reducible first | exact HB.out | apply below_alloc | apply pw_below_drewN | apply below_drew1 | refine below_set ?_ GE332.out | refine below_set ?_ GE333.out | refine below_set ?_ GE334.out) | exact HB.out)) hb); clear BK332; clear BK333; clear BK334; clear HB; have BK332 := n0_; have BK333 := n1_; have BK334 := n2_; have HB := n3_; clear n0_ n1_ n2_ n3_; (try clear hb); (try clear hb2); (try clear hk); (try clear hi)) | ((with_reducible refine gate_dst (N := 8) rfl ?_); refine box_event ?hg (N := 8) ?hd (cs := #[.int .i64 0, .int .i64 0, .int .i64 0]) (t := 30) ?hr ?_; (case hd => rfl); (case hg => rfl); (case hr => first | (go_simp; done) | (go_simp; rfl)); intro gb336 hg w42 hbox hb; have n0_ := Aside0.mk (blk_below (by exact BK332.out) hb); have n1_ := Aside0.mk (blk_below (by exact BK333.out) hb); have n2_ := Aside0.mk (blk_below (by exact BK334.out) hb); have n3_ := Aside0.mk (below_step (by repeat (first | (with_reducible first | exact HB.out | apply below_alloc | apply pw_below_drewN | apply below_drew1 | refine below_set ?_ GE332.out | refine below_set ?_ GE333.out | refine below_set ?_ GE334.out) | exact HB.out)) hb); have n4_ := Aside0.mk (hbox); have n5_ := Aside0.mk ((by rw [hg]; exact (below_size (by repeat (first | (with_reducible first | exact HB.out | apply below_alloc | apply pw_below_drewN | apply below_drew1 | refine below_set ?_ GE332.out | refine below_set ?_ GE333.out | refine below_set ?_ GE334.out) | exact HB.out))) : w.heap.size ≤ gb336)); have n6_ := Aside0.mk ((by rw [hg]; exact (below_size (by repeat (first | (with_reducible first | exact HB.out | apply below_alloc | apply pw_below_drewN | apply below_drew1 | refine below_set ?_ GE332.out | refine below_set ?_ GE333.out | refine below_set ?_ GE334.out) | exact HB.out))) : w.heap.size ≤ gb336)); have n7_ := Aside0.mk ((by rw [hg]; exact Nat.ne_of_lt (blk_lt (by exact BK332.out)) : gb332 ≠ gb336)); have n8_ := Aside0.mk ((by rw [hg]; exact Nat.ne_of_gt (blk_lt (by exact BK332.out)) : gb336 ≠ gb332)); have n9_ := Aside0.mk ((by rw [hg]; exact Nat.ne_of_lt (blk_lt (by exact BK333.out)) : gb333 ≠ gb336)); have n10_ := Aside0.mk ((by rw [hg]; exact Nat.ne_of_gt (blk_lt (by exact BK333.out)) : gb336 ≠ gb333)); have n11_ := Aside0.mk ((by rw [hg]; exact Nat.ne_of_lt (blk_lt (by exact BK334.out)) : gb334 ≠ gb336)); have n12_ := Aside0.mk ((by rw [hg]; exact Nat.ne_of_gt (blk_lt (by exact BK334.out)) : gb336 ≠ gb334)); clear BK332; clear BK333; clear BK334; clear HB; have BK332 := n0_; have BK333 := n1_; have BK334 := n2_; have HB := n3_; have BK336 := n4_; have GW336 := n5_; have GE336 := n6_; have NB332_336 := n7_; have NB336_332 := n8_; have NB333_336 := n9_; have NB336_333 := n10_; have NB334_336 := n11_; have NB336_334 := n12_; clear n0_ n1_ n2_ n3_ n4_ n5_ n6_ n7_ n8_ n9_ n10_ n11_ n12_; clear hb hbox hg; have hnb43 := NB336_332.out; have hnc43 := NB332_336.out; have hnb44 := NB336_333.out; have hnc44 := NB333_336.out; have hnb45 := NB336_334.out; have hnc45 := NB334_336.out; have hcz46_0 : w42.cell? ⟨gb336, 0, none⟩ = some (.int .i64 0) := (blk_cell BK336.out 0).trans rfl; have hcz46_1 : w42.cell? ⟨gb336, 1, none⟩ = some (.int .i64 0) := (blk_cell BK336.out 1).trans rfl; have hcz46_2 : w42.cell? ⟨gb336, 2, none⟩ = some (.int .i64 0) := (blk_cell BK336.out 2).trans rfl; have hfz46_0 := blk_frozen BK336.out 0; have hfz46_1 := blk_frozen BK336.out 1; have hfz46_2 := blk_frozen BK336.out 2; have hcz47_0 : w42.cell? ⟨gb333, 0, none⟩ = some (.int .i64 a1_0) := (blk_cell BK333.out 0).trans rfl; have hcz47_1 : w42.cell? ⟨gb333, 1, none⟩ = some (.int .i64 a1_1) := (blk_cell BK333.out 1).trans rfl; have hcz47_2 : w42.cell? ⟨gb333, 2, none⟩ = some (.int .i64 a1_2) := (blk_cell BK333.out 2).trans rfl; have hcz47_3 : w42.cell? ⟨gb333, 3, none⟩ = some (.int .i64 a1_3) := (blk_cell BK333.out 3).trans rfl; have hcz47_4 : w42.cell? ⟨gb333, 4, none⟩ = some (.int .i64 a1_4) := (blk_cell BK333.out 4).trans rfl; have hcz47_5 : w42.cell? ⟨gb333, 5, none⟩ = some (.int .i64 a1_5) := (blk_cell BK333.out 5).trans rfl; have hcz47_6 : w42.cell? ⟨gb333, 6, none⟩ = some (.int .i64 a1_6) := (blk_cell BK333.out 6).trans rfl; have hfz47_0 := blk_frozen BK333.out 0; have hfz47_1 := blk_frozen BK333.out 1; have hfz47_2 := blk_frozen BK333.out 2; have hfz47_3 := blk_frozen BK333.out 3; have hfz47_4 := blk_frozen BK333.out 4; have hfz47_5 := blk_frozen BK333.out 5; have hfz47_6 := blk_frozen BK333.out 6; have hnb48 := NB332_334.out; have hnc48 := NB334_332.out; have hcz49_0 : w42.cell? ⟨gb332, 0, none⟩ = some (.int .i64 a0_0) := (blk_cell BK332.out 0).trans rfl; have hcz49_1 : w42.cell? ⟨gb332, 1, none⟩ = some (.int .i64 a0_1) := (blk_cell BK332.out 1).trans rfl; have hcz49_2 : w42.cell? ⟨gb332, 2, none⟩ = some (.int .i64 a0_2) := (blk_cell BK332.out 2).trans rfl; have hfz49_0 := blk_frozen BK332.out 0; have hfz49_1 := blk_frozen BK332.out 1; have hfz49_2 := blk_frozen BK332.out 2) | ((with_reducible refine gate_callee (f := 25) rfl ?_); refine goesL_ (some 24) rfl rfl Try.func25 (by kernel_rfl) rfl #[.int .i64 a0_0, .int .i64 2147483648] rfl (by (try simp only [List.map_toArray, List.map_cons, List.map_nil]); first | done | rfl | (simp only [List.length_drop, List.length_take]; rfl)) ?_; (with_reducible refine (overfallref02_Of.calls k a0_0 2147483648 t337 _ A6.out).mono ?_); rintro e w50 ⟨rfl, hb⟩; refine ⟨_, rfl, ?_⟩; have n0_ := Aside0.mk (blk_below (g := gb332) (o := .cells #[.int .i64 a0_0, .int .i64 a0_1, .int .i64 a0_2] 30 (0, 0)) (by refine blk_far ?_ NB332_336.out _; refine blk_far ?_ NB332_336.out _; refine blk_far ?_ NB332_336.out _; exact BK332.out) hb); have n1_ := Aside0.mk (blk_below (g := gb333) (o := .cells #[.int .i64 a1_0, .int .i64 a1_1, .int .i64 a1_2, .int .i64 a1_3, .int .i64 a1_4, .int .i64 a1_5, .int .i64 a1_6] 36 (0, 0)) (by refine blk_far ?_ NB333_336.out _; refine blk_far ?_ NB333_336.out _; refine blk_far ?_ NB333_336.out _; exact BK333.out) hb); have n2_ := Aside0.mk (blk_below (g := gb334) (o := .cells #[.int .i64 0, .int .i64 0, .int .i64 0] 30 (0, 0)) (by refine blk_far ?_ NB334_336.out _; refine blk_far ?_ NB334_336.out _; refine blk_far ?_ NB334_336.out _; exact BK334.out) hb); have n3_ := Aside0.mk (blk_below (g := gb336) (o := .cells #[.int .i64 0, .int .i64 t335, .int .i64 0] 30 (0, 0)) (by refine blk_put (cs := #[.int .i64 0, .int .i64 t335, .int .i64 0]) ?_ 2 _ rfl; refine blk_put (cs := #[.int .i64 0, .int .i64 0, .int .i64 0]) ?_ 1 _ rfl; refine blk_put (cs := #[.int .i64 0, .int .i64 0, .int .i64 0]) ?_ 0 _ rfl; exact BK336.out) hb); have n4_ := Aside0.mk (below_step (by repeat (first | (with_reducible first | exact HB.out | apply below_alloc | apply pw_below_drewN | apply below_drew1 | refine below_set ?_ GE332.out | refine below_set ?_ GE333.out | refine below_set ?_ GE334.out | refine below_set ?_ GE336.out) | exact HB.out)) hb); clear BK332; clear BK333; clear BK334; clear BK336; clear HB; have BK332 := n0_; have BK333 := n1_; have BK334 := n2_; have BK336 := n3_; have HB := n4_; clear n0_ n1_ n2_ n3_ n4_; (try clear hb); (try clear hb2); (try clear hk); (try clear hi); have hcz51_0 : w50.cell? ⟨gb336, 0, none⟩ = some (.int .i64 0) := (blk_cell BK336.out 0).trans rfl; have hcz51_1 : w50.cell? ⟨gb336, 1, none⟩ = some (.int .i64 t335) := (blk_cell BK336.out 1).trans rfl; have hcz51_2 : w50.cell? ⟨gb336, 2, none⟩ = some (.int .i64 0) := (blk_cell BK336.out 2).trans rfl; have hfz51_0 := blk_frozen BK336.out 0; have hfz51_1 := blk_frozen BK336.out 1; have hfz51_2 := blk_frozen BK336.out 2))
   (try (rw [drewN_self w50]; generalize hq_ : World.drewN w50 _ = w50; have m0_ := Aside0.mk (blk_at hq_ BK332.out); have m1_ := Aside0.mk (blk_at hq_ BK333.out); have m2_ := Aside0.mk (blk_at hq_ BK334.out); have m3_ := Aside0.mk (blk_at hq_ BK336.out); have mh_ := Aside0.mk (below_at hq_ HB.out); clear BK332 BK333 BK334 BK336 HB hq_; have BK332 := m0_; have BK333 := m1_; have BK334 := m2_; have BK336 := m3_; have HB := mh_; clear m0_ m1_ m2_ m3_ mh_))
   have n0_ : Aside0 ((w50.setCell ⟨gb336, 0, none⟩ (.int .i64 t337)).heap[gb332]? = some (.cells #[.int .i64 a0_0, .int .i64 a0_1, .int .i64 a0_2] 30 (0, 0))) := ⟨by refine blk_far ?_ NB332_336.out _; exact BK332.out⟩
   have n1_ : Aside0 ((w50.setCell ⟨gb336, 0, none⟩ (.int .i64 t337)).heap[gb333]? = some (.cells #[.int .i64 a1_0, .int .i64 a1_1, .int .i64 a1_2, .int .i64 a1_3, .int .i64 a1_4, .int .i64 a1_5, .int .i64 a1_6] 36 (0, 0))) := ⟨by refine blk_far ?_ NB333_336.out _; exact BK333.out⟩
   have n2_ : Aside0 ((w50.setCell ⟨gb336, 0, none⟩ (.int .i64 t337)).heap[gb334]? = some (.cells #[.int .i64 0, .int .i64 0, .int .i64 0] 30 (0, 0))) := ⟨by refine blk_far ?_ NB334_336.out _; exact BK334.out⟩
   have n3_ : Aside0 ((w50.setCell ⟨gb336, 0, none⟩ (.int .i64 t337)).heap[gb336]? = some (.cells #[.int .i64 t337, .int .i64 t335, .int .i64 0] 30 (0, 0))) := ⟨by refine blk_put (cs := #[.int .i64 0, .int .i64 t335, .int .i64 0]) ?_ 0 _ rfl; exact BK336.out⟩
   have n4_ : Aside0 (Below w.heap.size w (w50.setCell ⟨gb336, 0, none⟩ (.int .i64 t337))) := ⟨by repeat (first | (with_reducible first | exact HB.out | apply below_alloc | apply pw_below_drewN | apply below_drew1 | refine below_set ?_ GE332.out | refine below_set ?_ GE333.out | refine below_set ?_ GE334.out | refine below_set ?_ GE336.out) | exact HB.out)⟩
   (try clear BK332)
   (try clear BK333)
   (try clear BK334)
   (try clear BK336)
   (try clear HB)
   generalize (w50.setCell ⟨gb336, 0, none⟩ (.int .i64 t337)) = w52 at n0_ n1_ n2_ n3_ n4_ ⊢
   have BK332 := n0_
   have BK333 := n1_
   have BK334 := n2_
   have BK336 := n3_
   have HB := n4_
   clear n0_ n1_ n2_ n3_ n4_
   have n0_ := Aside0.mk (blk_drew BK332.out)
   have n1_ := Aside0.mk (blk_drew BK333.out)
   have n2_ := Aside0.mk (blk_drew BK334.out)
   have n3_ := Aside0.mk (blk_drew BK336.out)
   have n4_ := Aside0.mk (below_drew1 HB.out)
   clear BK332
   clear BK333
   clear BK334
   clear BK336
   clear HB
   have BK332 := n0_
   have BK333 := n1_
   have BK334 := n2_
   have BK336 := n3_
   have HB := n4_
   clear n0_ n1_ n2_ n3_ n4_
   refine start_ (n := 8) (S := fun w' => w'.cell? ⟨gb332, 0, none⟩ = some (.int .i64 a0_0) ∧ w'.cell? ⟨gb332, 1, none⟩ = some (.int .i64 a0_1) ∧ w'.cell? ⟨gb332, 2, none⟩ = some (.int .i64 a0_2) ∧ w'.cell? ⟨gb333, 0, none⟩ = some (.int .i64 a1_0) ∧ w'.cell? ⟨gb333, 1, none⟩ = some (.int .i64 a1_1) ∧ w'.cell? ⟨gb333, 2, none⟩ = some (.int .i64 a1_2) ∧ w'.cell? ⟨gb333, 3, none⟩ = some (.int .i64 a1_3) ∧ w'.cell? ⟨gb333, 4, none⟩ = some (.int .i64 a1_4) ∧ w'.cell? ⟨gb333, 5, none⟩ = some (.int .i64 a1_5) ∧ w'.cell? ⟨gb333, 6, none⟩ = some (.int .i64 a1_6)) (ds := []) #[false, false, false, false, false, false, false, false] (by kernel_rfl) rfl rfl ⟨(blk_cell BK332.out 0).trans rfl, (blk_cell BK332.out 1).trans rfl, (blk_cell BK332.out 2).trans rfl, (blk_cell BK333.out 0).trans rfl, (blk_cell BK333.out 1).trans rfl, (blk_cell BK333.out 2).trans rfl, (blk_cell BK333.out 3).trans rfl, (blk_cell BK333.out 4).trans rfl, (blk_cell BK333.out 5).trans rfl, (blk_cell BK333.out 6).trans rfl⟩ (fun hHeld => ?_); refine with_tabW overfallref11_Sample.tab7 overfallref11_Sample.bits7 (fun HT_ HW_ => ?_)
   generalize w52.drew = w53 at BK332 BK333 BK334 BK336 HB hHeld ⊢
   refine pure_ (i := 0) (N := some 30) (v := ?_) (a' := ?_) #[true, false, false, false, false, false, false, false] rfl rfl (any_of HT_.out (by kernel_rfl)) (fun _ _ _ h => h) (Or.inl ⟨by rfl, ?_⟩) ?_ ?_
   rotate_left
   ·intro w'
    go_simp
    with_reducible rfl
   rotate_left
   ·simp only [Act.put, List.setIfInBounds_toArray, List.set_cons_zero, List.set_cons_succ, i64_w, i32_w]
    rfl
   refine pure_ (i := 3) (N := some 33) (v := ?_) (a' := ?_) #[true, false, false, true, false, false, false, false] rfl rfl (any_of HT_.out (by kernel_rfl)) (fun _ _ _ h => h) (Or.inl ⟨by rfl, ?_⟩) ?_ ?_
   rotate_left
   ·intro w'
    go_simp
    with_reducible rfl
   rotate_left
   ·simp only [Act.put, List.setIfInBounds_toArray, List.set_cons_zero, List.set_cons_succ, i64_w, i32_w]
    rfl
   refine take_ (i := 1) (N := some 31) (v := ?_) (a' := ?_) #[true, true, false, true, false, false, false, false] rfl rfl (take_ofW HT_.out HW_.out (by kernel_rfl)) (fun _ _ _ h => h) (Or.inl ⟨by rfl, ?_⟩) hHeld ?_ ?_
   rotate_left
   ·rintro w' ⟨s0, s1, s2, s3, s4, s5, s6, s7, s8, s9⟩
    go_simp
    with_reducible rfl
   rotate_left
   ·simp only [Act.put, List.setIfInBounds_toArray, List.set_cons_zero, List.set_cons_succ, i64_w, i32_w]
    rfl
   refine take_ (i := 4) (N := some 34) (v := ?_) (a' := ?_) #[true, true, false, true, true, false, false, false] rfl rfl (take_ofW HT_.out HW_.out (by kernel_rfl)) (fun _ _ _ h => h) (Or.inl ⟨by rfl, ?_⟩) hHeld ?_ ?_
   rotate_left
   ·rintro w' ⟨s0, s1, s2, s3, s4, s5, s6, s7, s8, s9⟩
    go_simp
    with_reducible rfl
   rotate_left
   ·simp only [Act.put, List.setIfInBounds_toArray, List.set_cons_zero, List.set_cons_succ, i64_w, i32_w]
    rfl
   refine one_ (i := 2) (N := some 32) #[true, true, true, true, true, false, false, false] rfl rfl (one_of HT_.out (by kernel_rfl)) (by decide) (fun K hK => ?_)
   refine goes_ Try.func24 (by kernel_rfl) rfl #[.int .i64 a0_2, .int .i64 1] (by rfl) rfl rfl (by (try simp only [List.map_toArray, List.map_cons, List.map_nil]); first | done | rfl | (simp only [List.length_drop, List.length_take]; rfl)) ?_
   with_reducible refine (overfallref02_Sub.calls k a0_2 1 t340 _ A33.out).mono ?_
   rintro e w54 ⟨rfl, hb⟩
   refine ⟨_, rfl, ?_⟩
   have n0_ := Aside0.mk (blk_below (by exact BK332.out) hb)
   have n1_ := Aside0.mk (blk_below (by exact BK333.out) hb)
   have n2_ := Aside0.mk (blk_below (by exact BK334.out) hb)
   have n3_ := Aside0.mk (blk_below (by exact BK336.out) hb)
   have n4_ := Aside0.mk (below_step (by repeat (first | (with_reducible first | exact HB.out | apply below_alloc | apply pw_below_drewN | apply below_drew1 | refine below_set ?_ GE332.out | refine below_set ?_ GE333.out | refine below_set ?_ GE334.out | refine below_set ?_ GE336.out) | exact HB.out)) hb)
   clear BK332
   clear BK333
   clear BK334
   clear BK336
   clear HB
   have BK332 := n0_
   have BK333 := n1_
   have BK334 := n2_
   have BK336 := n3_
   have HB := n4_
   clear n0_ n1_ n2_ n3_ n4_
   (try clear hb)
   (try clear hb2)
   (try clear hk)
   (try clear hi)
   refine hK.out _ _ ⟨(blk_cell BK332.out 0).trans rfl, (blk_cell BK332.out 1).trans rfl, (blk_cell BK332.out 2).trans rfl, (blk_cell BK333.out 0).trans rfl, (blk_cell BK333.out 1).trans rfl, (blk_cell BK333.out 2).trans rfl, (blk_cell BK333.out 3).trans rfl, (blk_cell BK333.out 4).trans rfl, (blk_cell BK333.out 5).trans rfl, (blk_cell BK333.out 6).trans rfl⟩ (fun hHeld => ?_)
   clear hK K
   refine norm_ (a' := ?_) ?_ ?_
   rotate_left
   ·show Act.put _ (some 32) _ = _
    simp only [Act.put, List.setIfInBounds_toArray, List.set_cons_zero, List.set_cons_succ, i64_w, i32_w]
    rfl
   refine one_ (i := 5) (N := some 35) #[true, true, true, true, true, true, false, false] rfl rfl (one_of HT_.out (by kernel_rfl)) (by decide) (fun K hK => ?_)
   refine goes_ Try.func26 (by kernel_rfl) rfl #[.int .i64 t340, .int .i64 0, .int .i64 a1_6] (by rfl) rfl rfl (by (try simp only [List.map_toArray, List.map_cons, List.map_nil]); first | done | rfl | (simp only [List.length_drop, List.length_take]; rfl)) ?_
   with_reducible refine (overfallref02_Clamp.calls t340 0 a1_6 t341 _ A34.out).mono ?_
   rintro e w' ⟨rfl, ⟨nd, rfl⟩⟩
   refine ⟨_, rfl, ?_⟩
   refine hK.out _ _ ⟨(blk_cell BK332.out 0).trans rfl, (blk_cell BK332.out 1).trans rfl, (blk_cell BK332.out 2).trans rfl, (blk_cell BK333.out 0).trans rfl, (blk_cell BK333.out 1).trans rfl, (blk_cell BK333.out 2).trans rfl, (blk_cell BK333.out 3).trans rfl, (blk_cell BK333.out 4).trans rfl, (blk_cell BK333.out 5).trans rfl, (blk_cell BK333.out 6).trans rfl⟩ (fun hHeld => ?_)
   clear hK K
   refine norm_ (a' := ?_) ?_ ?_
   rotate_left
   ·show Act.put _ (some 35) _ = _
    simp only [Act.put, List.setIfInBounds_toArray, List.set_cons_zero, List.set_cons_succ, i64_w, i32_w]
    rfl
   refine pure_ (i := 6) (N := some 36) (v := ?_) (a' := ?_) #[true, true, true, true, true, true, true, false] rfl rfl (any_of HT_.out (by kernel_rfl)) (fun _ _ _ h => h) (Or.inl ⟨by rfl, ?_⟩) ?_ ?_
   rotate_left
   ·intro w'
    go_simp
    with_reducible rfl
   rotate_left
   ·simp only [Act.put, List.setIfInBounds_toArray, List.set_cons_zero, List.set_cons_succ, i64_w, i32_w]
    rfl
   refine one_ (i := 7) (N := none) #[true, true, true, true, true, true, true, true] rfl rfl (one_of HT_.out (by kernel_rfl)) (by decide) (fun K hK => ?_)
   have hs55 : w54.cell? ⟨gb336, 2, none⟩ = some (.int .i64 0) := (blk_cell BK336.out 2).trans rfl
   have hfs55 := blk_frozen BK336.out 2
   have hns55_0 := NB332_336.out
   have hns55_1 := NB333_336.out
   have hns55_2 := NB334_336.out
   have hms55_0 := NB336_332.out
   have hms55_1 := NB336_333.out
   have hms55_2 := NB336_334.out
   refine skip_ (w1 := ?_) (by rfl) rfl ?_ ?_
   rotate_left
   ·go_simp
    rfl
   refine hK.out _ _ ⟨((cell_far (p := ⟨gb336, _, none⟩) NB332_336.out _).trans (hHeld.1)), ((cell_far (p := ⟨gb336, _, none⟩) NB332_336.out _).trans (hHeld.2.1)), ((cell_far (p := ⟨gb336, _, none⟩) NB332_336.out _).trans (hHeld.2.2.1)), ((cell_far (p := ⟨gb336, _, none⟩) NB333_336.out _).trans (hHeld.2.2.2.1)), ((cell_far (p := ⟨gb336, _, none⟩) NB333_336.out _).trans (hHeld.2.2.2.2.1)), ((cell_far (p := ⟨gb336, _, none⟩) NB333_336.out _).trans (hHeld.2.2.2.2.2.1)), ((cell_far (p := ⟨gb336, _, none⟩) NB333_336.out _).trans (hHeld.2.2.2.2.2.2.1)), ((cell_far (p := ⟨gb336, _, none⟩) NB333_336.out _).trans (hHeld.2.2.2.2.2.2.2.1)), ((cell_far (p := ⟨gb336, _, none⟩) NB333_336.out _).trans (hHeld.2.2.2.2.2.2.2.2.1)), ((cell_far (p := ⟨gb336, _, none⟩) NB333_336.out _).trans (hHeld.2.2.2.2.2.2.2.2.2))⟩ (fun hHeld => ?_)
   clear hK K
   refine done_ (done_of HT_.out (by kernel_rfl)) ?_
   have hcz56_0 : w54.cell? ⟨gb336, 0, none⟩ = some (.int .i64 t337) := (blk_cell BK336.out 0).trans rfl
   have hcz56_1 : w54.cell? ⟨gb336, 1, none⟩ = some (.int .i64 t335) := (blk_cell BK336.out 1).trans rfl
   have hcz56_2 : w54.cell? ⟨gb336, 2, none⟩ = some (.int .i64 0) := (blk_cell BK336.out 2).trans rfl
   have hfz56_0 := blk_frozen BK336.out 0
   have hfz56_1 := blk_frozen BK336.out 1
   have hfz56_2 := blk_frozen BK336.out 2
   have hcz57_0 : w54.cell? ⟨gb334, 0, none⟩ = some (.int .i64 0) := (blk_cell BK334.out 0).trans rfl
   have hcz57_1 : w54.cell? ⟨gb334, 1, none⟩ = some (.int .i64 0) := (blk_cell BK334.out 1).trans rfl
   have hcz57_2 : w54.cell? ⟨gb334, 2, none⟩ = some (.int .i64 0) := (blk_cell BK334.out 2).trans rfl
   have hfz57_0 := blk_frozen BK334.out 0
   have hfz57_1 := blk_frozen BK334.out 1
   have hfz57_2 := blk_frozen BK334.out 2
   try go_wp2
   refine bodyPost_ret (results_cell_row rfl _ _ gb334 30 #[.int .i64 t337, .int .i64 t335, .int .i64 t341] (0, 0) _ rfl (by refine blk_put (cs := #[.int .i64 t337, .int .i64 t335, .int .i64 0]) ?_ 2 _ rfl; refine blk_put (cs := #[.int .i64 t337, .int .i64 0, .int .i64 0]) ?_ 1 _ rfl; refine blk_put (cs := #[.int .i64 0, .int .i64 0, .int .i64 0]) ?_ 0 _ rfl; refine blk_far ?_ NB334_336.out _; exact BK334.out) Try.underlying30 rfl (by kernel_rfl)) rfl ?_
   exact ⟨by first | rfl | (simp [errW_none, errW_some] <;> rfl) | (simp [*, errW_none, errW_some] <;> rfl), by repeat (first | (with_reducible first | exact HB.out | apply below_alloc | apply pw_below_drewN | apply below_drew1 | refine below_set ?_ GE332.out | refine below_set ?_ GE333.out | refine below_set ?_ GE334.out | refine below_set ?_ GE336.out) | exact HB.out)⟩
 ·rw [if_neg c5] at H
  have c5b0 : decide (a2 ≤ a1_0) = false := decide_eq_false c5
  clear c5
  replace H := Option.bind_eq_some_iff.mp H
  obtain ⟨t342, A580, H⟩ := H
  replace H : ((overfallref02_Add.f k a0_0 t342).bind fun t343 => ((overfallref02_Clamp.f t343 0 a1_4).bind fun t344 => ((overfallref02_Of.f k a1_1 t335).bind fun t345 => ((overfallref02_Add.f k t345 t344).bind fun t346 => ((overfallref02_Sub.f k t335 a0_1).bind fun t347 => ((overfallref02_Of.f k a1_3 t347).bind fun t348 => ((overfallref02_Add.f k t346 t348).bind fun t349 => ((overfallref02_Floor.f k t349).bind fun t350 => (if t350 > a0_2 then (overfallref11_Sample.j0 k a0_0 a0_1 a0_2 a1_0 a1_1 a1_2 a1_3 a1_4 a1_5 a1_6 t344 t335 t350) else (overfallref11_Sample.j0 k a0_0 a0_1 a0_2 a1_0 a1_1 a1_2 a1_3 a1_4 a1_5 a1_6 t344 t335 a0_2)))))))))) = some (r1, r2, r3) := H
  have A58 := Aside0.mk A580
  clear A580
  replace H := Option.bind_eq_some_iff.mp H
  obtain ⟨t343, A590, H⟩ := H
  replace H : ((overfallref02_Clamp.f t343 0 a1_4).bind fun t344 => ((overfallref02_Of.f k a1_1 t335).bind fun t345 => ((overfallref02_Add.f k t345 t344).bind fun t346 => ((overfallref02_Sub.f k t335 a0_1).bind fun t347 => ((overfallref02_Of.f k a1_3 t347).bind fun t348 => ((overfallref02_Add.f k t346 t348).bind fun t349 => ((overfallref02_Floor.f k t349).bind fun t350 => (if t350 > a0_2 then (overfallref11_Sample.j0 k a0_0 a0_1 a0_2 a1_0 a1_1 a1_2 a1_3 a1_4 a1_5 a1_6 t344 t335 t350) else (overfallref11_Sample.j0 k a0_0 a0_1 a0_2 a1_0 a1_1 a1_2 a1_3 a1_4 a1_5 a1_6 t344 t335 a0_2))))))))) = some (r1, r2, r3) := H
  have A59 := Aside0.mk A590
  clear A590
  replace H := Option.bind_eq_some_iff.mp H
  obtain ⟨t344, A600, H⟩ := H
  replace H : ((overfallref02_Of.f k a1_1 t335).bind fun t345 => ((overfallref02_Add.f k t345 t344).bind fun t346 => ((overfallref02_Sub.f k t335 a0_1).bind fun t347 => ((overfallref02_Of.f k a1_3 t347).bind fun t348 => ((overfallref02_Add.f k t346 t348).bind fun t349 => ((overfallref02_Floor.f k t349).bind fun t350 => (if t350 > a0_2 then (overfallref11_Sample.j0 k a0_0 a0_1 a0_2 a1_0 a1_1 a1_2 a1_3 a1_4 a1_5 a1_6 t344 t335 t350) else (overfallref11_Sample.j0 k a0_0 a0_1 a0_2 a1_0 a1_1 a1_2 a1_3 a1_4 a1_5 a1_6 t344 t335 a0_2)))))))) = some (r1, r2, r3) := H
  have A60 := Aside0.mk A600
  clear A600
  replace H := Option.bind_eq_some_iff.mp H
  obtain ⟨t345, A610, H⟩ := H
  replace H : ((overfallref02_Add.f k t345 t344).bind fun t346 => ((overfallref02_Sub.f k t335 a0_1).bind fun t347 => ((overfallref02_Of.f k a1_3 t347).bind fun t348 => ((overfallref02_Add.f k t346 t348).bind fun t349 => ((overfallref02_Floor.f k t349).bind fun t350 => (if t350 > a0_2 then (overfallref11_Sample.j0 k a0_0 a0_1 a0_2 a1_0 a1_1 a1_2 a1_3 a1_4 a1_5 a1_6 t344 t335 t350) else (overfallref11_Sample.j0 k a0_0 a0_1 a0_2 a1_0 a1_1 a1_2 a1_3 a1_4 a1_5 a1_6 t344 t335 a0_2))))))) = some (r1, r2, r3) := H
  have A61 := Aside0.mk A610
  clear A610
  replace H := Option.bind_eq_some_iff.mp H
  obtain ⟨t346, A620, H⟩ := H
  replace H : ((overfallref02_Sub.f k t335 a0_1).bind fun t347 => ((overfallref02_Of.f k a1_3 t347).bind fun t348 => ((overfallref02_Add.f k t346 t348).bind fun t349 => ((overfallref02_Floor.f k t349).bind fun t350 => (if t350 > a0_2 then (overfallref11_Sample.j0 k a0_0 a0_1 a0_2 a1_0 a1_1 a1_2 a1_3 a1_4 a1_5 a1_6 t344 t335 t350) else (overfallref11_Sample.j0 k a0_0 a0_1 a0_2 a1_0 a1_1 a1_2 a1_3 a1_4 a1_5 a1_6 t344 t335 a0_2)))))) = some (r1, r2, r3) := H
  have A62 := Aside0.mk A620
  clear A620
  replace H := Option.bind_eq_some_iff.mp H
  obtain ⟨t347, A630, H⟩ := H
  replace H : ((overfallref02_Of.f k a1_3 t347).bind fun t348 => ((overfallref02_Add.f k t346 t348).bind fun t349 => ((overfallref02_Floor.f k t349).bind fun t350 => (if t350 > a0_2 then (overfallref11_Sample.j0 k a0_0 a0_1 a0_2 a1_0 a1_1 a1_2 a1_3 a1_4 a1_5 a1_6 t344 t335 t350) else (overfallref11_Sample.j0 k a0_0 a0_1 a0_2 a1_0 a1_1 a1_2 a1_3 a1_4 a1_5 a1_6 t344 t335 a0_2))))) = some (r1, r2, r3) := H
  have A63 := Aside0.mk A630
  clear A630
  replace H := Option.bind_eq_some_iff.mp H
  obtain ⟨t348, A640, H⟩ := H
  replace H : ((overfallref02_Add.f k t346 t348).bind fun t349 => ((overfallref02_Floor.f k t349).bind fun t350 => (if t350 > a0_2 then (overfallref11_Sample.j0 k a0_0 a0_1 a0_2 a1_0 a1_1 a1_2 a1_3 a1_4 a1_5 a1_6 t344 t335 t350) else (overfallref11_Sample.j0 k a0_0 a0_1 a0_2 a1_0 a1_1 a1_2 a1_3 a1_4 a1_5 a1_6 t344 t335 a0_2)))) = some (r1, r2, r3) := H
  have A64 := Aside0.mk A640
  clear A640
  replace H := Option.bind_eq_some_iff.mp H
  obtain ⟨t349, A650, H⟩ := H
  replace H : ((overfallref02_Floor.f k t349).bind fun t350 => (if t350 > a0_2 then (overfallref11_Sample.j0 k a0_0 a0_1 a0_2 a1_0 a1_1 a1_2 a1_3 a1_4 a1_5 a1_6 t344 t335 t350) else (overfallref11_Sample.j0 k a0_0 a0_1 a0_2 a1_0 a1_1 a1_2 a1_3 a1_4 a1_5 a1_6 t344 t335 a0_2))) = some (r1, r2, r3) := H
  have A65 := Aside0.mk A650
  clear A650
  replace H := Option.bind_eq_some_iff.mp H
  obtain ⟨t350, A660, H⟩ := H
  replace H : (if t350 > a0_2 then (overfallref11_Sample.j0 k a0_0 a0_1 a0_2 a1_0 a1_1 a1_2 a1_3 a1_4 a1_5 a1_6 t344 t335 t350) else (overfallref11_Sample.j0 k a0_0 a0_1 a0_2 a1_0 a1_1 a1_2 a1_3 a1_4 a1_5 a1_6 t344 t335 a0_2)) = some (r1, r2, r3) := H
  have A66 := Aside0.mk A660
  clear A660
  have HC67 := Aside0.mk H
  clear H
  go_enter Try.func12, Try.ntmps12
  try go_wp2_with (first | ((with_reducible refine gate_dst (N := 3) rfl ?_); refine box_event ?hg (N := 3) ?hd (cs := #[.int .i64 a0_0, .int .i64 a0_1, .int .i64 a0_2]) (t := 30) ?hr ?_; (case hd => rfl); (case hg => rfl); (case hr => first | (go_simp; done) | (go_simp; rfl)); intro gb332 hg w68 hbox hb; have n0_ := Aside0.mk (below_step (by repeat (first | (with_reducible first | exact HB.out | apply below_alloc | apply pw_below_drewN | apply below_drew1) | exact HB.out)) hb); have n1_ := Aside0.mk (hbox); have n2_ := Aside0.mk ((by rw [hg]; exact (below_size (by repeat (first | (with_reducible first | exact HB.out | apply below_alloc | apply pw_below_drewN | apply below_drew1) | exact HB.out))) : w.heap.size ≤ gb332)); have n3_ := Aside0.mk ((by rw [hg]; exact (below_size (by repeat (first | (with_reducible first | exact HB.out | apply below_alloc | apply pw_below_drewN | apply below_drew1) | exact HB.out))) : w.heap.size ≤ gb332)); clear HB; have HB := n0_; have BK332 := n1_; have GW332 := n2_; have GE332 := n3_; clear n0_ n1_ n2_ n3_; clear hb hbox hg) | ((with_reducible refine gate_dst (N := 4) rfl ?_); refine box_event ?hg (N := 4) ?hd (cs := #[.int .i64 a1_0, .int .i64 a1_1, .int .i64 a1_2, .int .i64 a1_3, .int .i64 a1_4, .int .i64 a1_5, .int .i64 a1_6]) (t := 36) ?hr ?_; (case hd => rfl); (case hg => rfl); (case hr => first | (go_simp; done) | (go_simp; rfl)); intro gb333 hg w69 hbox hb; have n0_ := Aside0.mk (blk_below (by exact BK332.out) hb); have n1_ := Aside0.mk (below_step (by repeat (first | (with_reducible first | exact HB.out | apply below_alloc | apply pw_below_drewN | apply below_drew1 | refine below_set ?_ GE332.out) | exact HB.out)) hb); have n2_ := Aside0.mk (hbox); have n3_ := Aside0.mk ((by rw [hg]; exact (below_size (by repeat (first | (with_reducible first | exact HB.out | apply below_alloc | apply pw_below_drewN | apply below_drew1 | refine below_set ?_ GE332.out) | exact HB.out))) : w.heap.size ≤ gb333)); have n4_ := Aside0.mk ((by rw [hg]; exact (below_size (by repeat (first | (with_reducible first | exact HB.out | apply below_alloc | apply pw_below_drewN | apply below_drew1 | refine below_set ?_ GE332.out) | exact HB.out))) : w.heap.size ≤ gb333)); have n5_ := Aside0.mk ((by rw [hg]; exact Nat.ne_of_lt (blk_lt (by exact BK332.out)) : gb332 ≠ gb333)); have n6_ := Aside0.mk ((by rw [hg]; exact Nat.ne_of_gt (blk_lt (by exact BK332.out)) : gb333 ≠ gb332)); clear BK332; clear HB; have BK332 := n0_; have HB := n1_; have BK333 := n2_; have GW333 := n3_; have GE333 := n4_; have NB332_333 := n5_; have NB333_332 := n6_; clear n0_ n1_ n2_ n3_ n4_ n5_ n6_; clear hb hbox hg) | ((with_reducible refine gate_dst (N := 6) rfl ?_); refine box_event ?hg (N := 6) ?hd (cs := #[.int .i64 0, .int .i64 0, .int .i64 0]) (t := 30) ?hr ?_; (case hd => rfl); (case hg => rfl); (case hr => first | (go_simp; done) | (go_simp; rfl)); intro gb334 hg w70 hbox hb; have n0_ := Aside0.mk (blk_below (by exact BK332.out) hb); have n1_ := Aside0.mk (blk_below (by exact BK333.out) hb); have n2_ := Aside0.mk (below_step (by repeat (first | (with_reducible first | exact HB.out | apply below_alloc | apply pw_below_drewN | apply below_drew1 | refine below_set ?_ GE332.out | refine below_set ?_ GE333.out) | exact HB.out)) hb); have n3_ := Aside0.mk (hbox); have n4_ := Aside0.mk ((by rw [hg]; exact (below_size (by repeat (first | (with_reducible first | exact HB.out | apply below_alloc | apply pw_below_drewN | apply below_drew1 | refine below_set ?_ GE332.out | refine below_set ?_ GE333.out) | exact HB.out))) : w.heap.size ≤ gb334)); have n5_ := Aside0.mk ((by rw [hg]; exact (below_size (by repeat (first | (with_reducible first | exact HB.out | apply below_alloc | apply pw_below_drewN | apply below_drew1 | refine below_set ?_ GE332.out | refine below_set ?_ GE333.out) | exact HB.out))) : w.heap.size ≤ gb334)); have n6_ := Aside0.mk ((by rw [hg]; exact Nat.ne_of_lt (blk_lt (by exact BK332.out)) : gb332 ≠ gb334)); have n7_ := Aside0.mk ((by rw [hg]; exact Nat.ne_of_gt (blk_lt (by exact BK332.out)) : gb334 ≠ gb332)); have n8_ := Aside0.mk ((by rw [hg]; exact Nat.ne_of_lt (blk_lt (by exact BK333.out)) : gb333 ≠ gb334)); have n9_ := Aside0.mk ((by rw [hg]; exact Nat.ne_of_gt (blk_lt (by exact BK333.out)) : gb334 ≠ gb333)); clear BK332; clear BK333; clear HB; have BK332 := n0_; have BK333 := n1_; have HB := n2_; have BK334 := n3_; have GW334 := n4_; have GE334 := n5_; have NB332_334 := n6_; have NB334_332 := n7_; have NB333_334 := n8_; have NB334_333 := n9_; clear n0_ n1_ n2_ n3_ n4_ n5_ n6_ n7_ n8_ n9_; clear hb hbox hg; have hnb71 := NB333_332.out; have hnc71 := NB332_333.out; have hnb72 := NB333_334.out; have hnc72 := NB334_333.out; have hcz73_0 : w70.cell? ⟨gb333, 0, none⟩ = some (.int .i64 a1_0) := (blk_cell BK333.out 0).trans rfl; have hcz73_1 : w70.cell? ⟨gb333, 1, none⟩ = some (.int .i64 a1_1) := (blk_cell BK333.out 1).trans rfl; have hcz73_2 : w70.cell? ⟨gb333, 2, none⟩ = some (.int .i64 a1_2) := (blk_cell BK333.out 2).trans rfl; have hcz73_3 : w70.cell? ⟨gb333, 3, none⟩ = some (.int .i64 a1_3) := (blk_cell BK333.out 3).trans rfl; have hcz73_4 : w70.cell? ⟨gb333, 4, none⟩ = some (.int .i64 a1_4) := (blk_cell BK333.out 4).trans rfl; have hcz73_5 : w70.cell? ⟨gb333, 5, none⟩ = some (.int .i64 a1_5) := (blk_cell BK333.out 5).trans rfl; have hcz73_6 : w70.cell? ⟨gb333, 6, none⟩ = some (.int .i64 a1_6) := (blk_cell BK333.out 6).trans rfl; have hfz73_0 := blk_frozen BK333.out 0; have hfz73_1 := blk_frozen BK333.out 1; have hfz73_2 := blk_frozen BK333.out 2; have hfz73_3 := blk_frozen BK333.out 3; have hfz73_4 := blk_frozen BK333.out 4; have hfz73_5 := blk_frozen BK333.out 5; have hfz73_6 := blk_frozen BK333.out 6) | ((with_reducible refine gate_callee (f := 24) rfl ?_); refine goesL_ (some 15) rfl rfl Try.func24 (by kernel_rfl) rfl #[.int .i64 a2, .int .i64 a1_0] rfl (by (try simp only [List.map_toArray, List.map_cons, List.map_nil]); first | done | rfl | (simp only [List.length_drop, List.length_take]; rfl)) ?_; (with_reducible refine (overfallref02_Sub.calls k a2 a1_0 t335 _ A4.out).mono ?_); rintro e w74 ⟨rfl, hb⟩; refine ⟨_, rfl, ?_⟩; have n0_ := Aside0.mk (blk_below (by exact BK332.out) hb); have n1_ := Aside0.mk (blk_below (by exact BK333.out) hb); have n2_ := Aside0.mk (blk_below (by exact BK334.out) hb); have n3_ := Aside0.mk (below_step (by repeat (first | (with_reducible first | exact HB.out | apply below_alloc | apply pw_below_drewN | apply below_drew1 | refine below_set ?_ GE332.out | refine below_set ?_ GE333.out | refine below_set ?_ GE334.out) | exact HB.out)) hb); clear BK332; clear BK333; clear BK334; clear HB; have BK332 := n0_; have BK333 := n1_; have BK334 := n2_; have HB := n3_; clear n0_ n1_ n2_ n3_; (try clear hb); (try clear hb2); (try clear hk); (try clear hi)) | ((with_reducible refine gate_dst (N := 8) rfl ?_); refine box_event ?hg (N := 8) ?hd (cs := #[.int .i64 0, .int .i64 0, .int .i64 0]) (t := 30) ?hr ?_; (case hd => rfl); (case hg => rfl); (case hr => first | (go_simp; done) | (go_simp; rfl)); intro gb336 hg w75 hbox hb; have n0_ := Aside0.mk (blk_below (by exact BK332.out) hb); have n1_ := Aside0.mk (blk_below (by exact BK333.out) hb); have n2_ := Aside0.mk (blk_below (by exact BK334.out) hb); have n3_ := Aside0.mk (below_step (by repeat (first | (with_reducible first | exact HB.out | apply below_alloc | apply pw_below_drewN | apply below_drew1 | refine below_set ?_ GE332.out | refine below_set ?_ GE333.out | refine below_set ?_ GE334.out) | exact HB.out)) hb); have n4_ := Aside0.mk (hbox); have n5_ := Aside0.mk ((by rw [hg]; exact (below_size (by repeat (first | (with_reducible first | exact HB.out | apply below_alloc | apply pw_below_drewN | apply below_drew1 | refine below_set ?_ GE332.out | refine below_set ?_ GE333.out | refine below_set ?_ GE334.out) | exact HB.out))) : w.heap.size ≤ gb336)); have n6_ := Aside0.mk ((by rw [hg]; exact (below_size (by repeat (first | (with_reducible first | exact HB.out | apply below_alloc | apply pw_below_drewN | apply below_drew1 | refine below_set ?_ GE332.out | refine below_set ?_ GE333.out | refine below_set ?_ GE334.out) | exact HB.out))) : w.heap.size ≤ gb336)); have n7_ := Aside0.mk ((by rw [hg]; exact Nat.ne_of_lt (blk_lt (by exact BK332.out)) : gb332 ≠ gb336)); have n8_ := Aside0.mk ((by rw [hg]; exact Nat.ne_of_gt (blk_lt (by exact BK332.out)) : gb336 ≠ gb332)); have n9_ := Aside0.mk ((by rw [hg]; exact Nat.ne_of_lt (blk_lt (by exact BK333.out)) : gb333 ≠ gb336)); have n10_ := Aside0.mk ((by rw [hg]; exact Nat.ne_of_gt (blk_lt (by exact BK333.out)) : gb336 ≠ gb333)); have n11_ := Aside0.mk ((by rw [hg]; exact Nat.ne_of_lt (blk_lt (by exact BK334.out)) : gb334 ≠ gb336)); have n12_ := Aside0.mk ((by rw [hg]; exact Nat.ne_of_gt (blk_lt (by exact BK334.out)) : gb336 ≠ gb334)); clear BK332; clear BK333; clear BK334; clear HB; have BK332 := n0_; have BK333 := n1_; have BK334 := n2_; have HB := n3_; have BK336 := n4_; have GW336 := n5_; have GE336 := n6_; have NB332_336 := n7_; have NB336_332 := n8_; have NB333_336 := n9_; have NB336_333 := n10_; have NB334_336 := n11_; have NB336_334 := n12_; clear n0_ n1_ n2_ n3_ n4_ n5_ n6_ n7_ n8_ n9_ n10_ n11_ n12_; clear hb hbox hg; have hnb76 := NB336_332.out; have hnc76 := NB332_336.out; have hnb77 := NB336_333.out; have hnc77 := NB333_336.out; have hnb78 := NB336_334.out; have hnc78 := NB334_336.out; have hcz79_0 : w75.cell? ⟨gb336, 0, none⟩ = some (.int .i64 0) := (blk_cell BK336.out 0).trans rfl; have hcz79_1 : w75.cell? ⟨gb336, 1, none⟩ = some (.int .i64 0) := (blk_cell BK336.out 1).trans rfl; have hcz79_2 : w75.cell? ⟨gb336, 2, none⟩ = some (.int .i64 0) := (blk_cell BK336.out 2).trans rfl; have hfz79_0 := blk_frozen BK336.out 0; have hfz79_1 := blk_frozen BK336.out 1; have hfz79_2 := blk_frozen BK336.out 2; have hcz80_0 : w75.cell? ⟨gb333, 0, none⟩ = some (.int .i64 a1_0) := (blk_cell BK333.out 0).trans rfl; have hcz80_1 : w75.cell? ⟨gb333, 1, none⟩ = some (.int .i64 a1_1) := (blk_cell BK333.out 1).trans rfl; have hcz80_2 : w75.cell? ⟨gb333, 2, none⟩ = some (.int .i64 a1_2) := (blk_cell BK333.out 2).trans rfl; have hcz80_3 : w75.cell? ⟨gb333, 3, none⟩ = some (.int .i64 a1_3) := (blk_cell BK333.out 3).trans rfl; have hcz80_4 : w75.cell? ⟨gb333, 4, none⟩ = some (.int .i64 a1_4) := (blk_cell BK333.out 4).trans rfl; have hcz80_5 : w75.cell? ⟨gb333, 5, none⟩ = some (.int .i64 a1_5) := (blk_cell BK333.out 5).trans rfl; have hcz80_6 : w75.cell? ⟨gb333, 6, none⟩ = some (.int .i64 a1_6) := (blk_cell BK333.out 6).trans rfl; have hfz80_0 := blk_frozen BK333.out 0; have hfz80_1 := blk_frozen BK333.out 1; have hfz80_2 := blk_frozen BK333.out 2; have hfz80_3 := blk_frozen BK333.out 3; have hfz80_4 := blk_frozen BK333.out 4; have hfz80_5 := blk_frozen BK333.out 5; have hfz80_6 := blk_frozen BK333.out 6))
  have n0_ : Aside0 ((((w75.setCell ⟨gb336, 0, none⟩ (.int .i64 0)).setCell ⟨gb336, 1, none⟩ (.int .i64 t335)).setCell ⟨gb336, 2, none⟩ (.int .i64 0)).heap[gb332]? = some (.cells #[.int .i64 a0_0, .int .i64 a0_1, .int .i64 a0_2] 30 (0, 0))) := ⟨by refine blk_far ?_ NB332_336.out _; refine blk_far ?_ NB332_336.out _; refine blk_far ?_ NB332_336.out _; exact BK332.out⟩
  have n1_ : Aside0 ((((w75.setCell ⟨gb336, 0, none⟩ (.int .i64 0)).setCell ⟨gb336, 1, none⟩ (.int .i64 t335)).setCell ⟨gb336, 2, none⟩ (.int .i64 0)).heap[gb333]? = some (.cells #[.int .i64 a1_0, .int .i64 a1_1, .int .i64 a1_2, .int .i64 a1_3, .int .i64 a1_4, .int .i64 a1_5, .int .i64 a1_6] 36 (0, 0))) := ⟨by refine blk_far ?_ NB333_336.out _; refine blk_far ?_ NB333_336.out _; refine blk_far ?_ NB333_336.out _; exact BK333.out⟩
  have n2_ : Aside0 ((((w75.setCell ⟨gb336, 0, none⟩ (.int .i64 0)).setCell ⟨gb336, 1, none⟩ (.int .i64 t335)).setCell ⟨gb336, 2, none⟩ (.int .i64 0)).heap[gb334]? = some (.cells #[.int .i64 0, .int .i64 0, .int .i64 0] 30 (0, 0))) := ⟨by refine blk_far ?_ NB334_336.out _; refine blk_far ?_ NB334_336.out _; refine blk_far ?_ NB334_336.out _; exact BK334.out⟩
  have n3_ : Aside0 ((((w75.setCell ⟨gb336, 0, none⟩ (.int .i64 0)).setCell ⟨gb336, 1, none⟩ (.int .i64 t335)).setCell ⟨gb336, 2, none⟩ (.int .i64 0)).heap[gb336]? = some (.cells #[.int .i64 0, .int .i64 t335, .int .i64 0] 30 (0, 0))) := ⟨by refine blk_put (cs := #[.int .i64 0, .int .i64 t335, .int .i64 0]) ?_ 2 _ rfl; refine blk_put (cs := #[.int .i64 0, .int .i64 0, .int .i64 0]) ?_ 1 _ rfl; refine blk_put (cs := #[.int .i64 0, .int .i64 0, .int .i64 0]) ?_ 0 _ rfl; exact BK336.out⟩
  have n4_ : Aside0 (Below w.heap.size w (((w75.setCell ⟨gb336, 0, none⟩ (.int .i64 0)).setCell ⟨gb336, 1, none⟩ (.int .i64 t335)).setCell ⟨gb336, 2, none⟩ (.int .i64 0))) := ⟨by repeat (first | (with_reducible first | exact HB.out | apply below_alloc | apply pw_below_drewN | apply below_drew1 | refine below_set ?_ GE332.out | refine below_set ?_ GE333.out | refine below_set ?_ GE334.out | refine below_set ?_ GE336.out) | exact HB.out)⟩
  (try clear BK332)
  (try clear BK333)
  (try clear BK334)
  (try clear BK336)
  (try clear HB)
  generalize (((w75.setCell ⟨gb336, 0, none⟩ (.int .i64 0)).setCell ⟨gb336, 1, none⟩ (.int .i64 t335)).setCell ⟨gb336, 2, none⟩ (.int .i64 0)) = w81 at n0_ n1_ n2_ n3_ n4_ ⊢
  have BK332 := n0_
  have BK333 := n1_
  have BK334 := n2_
  have BK336 := n3_
  have HB := n4_
  clear n0_ n1_ n2_ n3_ n4_
  have n0_ := Aside0.mk (blk_drew BK332.out)
  have n1_ := Aside0.mk (blk_drew BK333.out)
  have n2_ := Aside0.mk (blk_drew BK334.out)
  have n3_ := Aside0.mk (blk_drew BK336.out)
  have n4_ := Aside0.mk (below_drew1 HB.out)
  clear BK332
  clear BK333
  clear BK334
  clear BK336
  clear HB
  have BK332 := n0_
  have BK333 := n1_
  have BK334 := n2_
  have BK336 := n3_
  have HB := n4_
  clear n0_ n1_ n2_ n3_ n4_
  refine start_ (n := 12) (S := fun w' => w'.cell? ⟨gb332, 0, none⟩ = some (.int .i64 a0_0) ∧ w'.cell? ⟨gb332, 1, none⟩ = some (.int .i64 a0_1) ∧ w'.cell? ⟨gb332, 2, none⟩ = some (.int .i64 a0_2) ∧ w'.cell? ⟨gb333, 0, none⟩ = some (.int .i64 a1_0) ∧ w'.cell? ⟨gb333, 1, none⟩ = some (.int .i64 a1_1) ∧ w'.cell? ⟨gb333, 2, none⟩ = some (.int .i64 a1_2) ∧ w'.cell? ⟨gb333, 3, none⟩ = some (.int .i64 a1_3) ∧ w'.cell? ⟨gb333, 4, none⟩ = some (.int .i64 a1_4) ∧ w'.cell? ⟨gb333, 5, none⟩ = some (.int .i64 a1_5) ∧ w'.cell? ⟨gb333, 6, none⟩ = some (.int .i64 a1_6)) (ds := []) #[false, false, false, false, false, false, false, false, false, false, false, false] (by kernel_rfl) rfl rfl ⟨(blk_cell BK332.out 0).trans rfl, (blk_cell BK332.out 1).trans rfl, (blk_cell BK332.out 2).trans rfl, (blk_cell BK333.out 0).trans rfl, (blk_cell BK333.out 1).trans rfl, (blk_cell BK333.out 2).trans rfl, (blk_cell BK333.out 3).trans rfl, (blk_cell BK333.out 4).trans rfl, (blk_cell BK333.out 5).trans rfl, (blk_cell BK333.out 6).trans rfl⟩ (fun hHeld => ?_); refine with_tabW overfallref11_Sample.tab9 overfallref11_Sample.bits9 (fun HT_ HW_ => ?_)
  generalize w81.drew = w82 at BK332 BK333 BK334 BK336 HB hHeld ⊢
  refine pure_ (i := 0) (N := some 38) (v := ?_) (a' := ?_) #[true, false, false, false, false, false, false, false, false, false, false, false] rfl rfl (any_of HT_.out (by kernel_rfl)) (fun _ _ _ h => h) (Or.inl ⟨by rfl, ?_⟩) ?_ ?_
  rotate_left
  ·intro w'
   go_simp
   with_reducible rfl
  rotate_left
  ·simp only [Act.put, List.setIfInBounds_toArray, List.set_cons_zero, List.set_cons_succ, i64_w, i32_w]
   rfl
  refine pure_ (i := 2) (N := some 40) (v := ?_) (a' := ?_) #[true, false, true, false, false, false, false, false, false, false, false, false] rfl rfl (any_of HT_.out (by kernel_rfl)) (fun _ _ _ h => h) (Or.inl ⟨by rfl, ?_⟩) ?_ ?_
  rotate_left
  ·intro w'
   go_simp
   with_reducible rfl
  rotate_left
  ·simp only [Act.put, List.setIfInBounds_toArray, List.set_cons_zero, List.set_cons_succ, i64_w, i32_w]
   rfl
  refine pure_ (i := 4) (N := some 42) (v := ?_) (a' := ?_) #[true, false, true, false, true, false, false, false, false, false, false, false] rfl rfl (any_of HT_.out (by kernel_rfl)) (fun _ _ _ h => h) (Or.inl ⟨by rfl, ?_⟩) ?_ ?_
  rotate_left
  ·intro w'
   go_simp
   with_reducible rfl
  rotate_left
  ·simp only [Act.put, List.setIfInBounds_toArray, List.set_cons_zero, List.set_cons_succ, i64_w, i32_w]
   rfl
  refine pure_ (i := 7) (N := some 45) (v := ?_) (a' := ?_) #[true, false, true, false, true, false, false, true, false, false, false, false] rfl rfl (any_of HT_.out (by kernel_rfl)) (fun _ _ _ h => h) (Or.inl ⟨by rfl, ?_⟩) ?_ ?_
  rotate_left
  ·intro w'
   go_simp
   with_reducible rfl
  rotate_left
  ·simp only [Act.put, List.setIfInBounds_toArray, List.set_cons_zero, List.set_cons_succ, i64_w, i32_w]
   rfl
  refine take_ (i := 1) (N := some 39) (v := ?_) (a' := ?_) #[true, true, true, false, true, false, false, true, false, false, false, false] rfl rfl (take_ofW HT_.out HW_.out (by kernel_rfl)) (fun _ _ _ h => h) (Or.inl ⟨by rfl, ?_⟩) hHeld ?_ ?_
  rotate_left
  ·rintro w' ⟨s0, s1, s2, s3, s4, s5, s6, s7, s8, s9⟩
   go_simp
   with_reducible rfl
  rotate_left
  ·simp only [Act.put, List.setIfInBounds_toArray, List.set_cons_zero, List.set_cons_succ, i64_w, i32_w]
   rfl
  refine take_ (i := 3) (N := some 41) (v := ?_) (a' := ?_) #[true, true, true, true, true, false, false, true, false, false, false, false] rfl rfl (take_ofW HT_.out HW_.out (by kernel_rfl)) (fun _ _ _ h => h) (Or.inl ⟨by rfl, ?_⟩) hHeld ?_ ?_
  rotate_left
  ·rintro w' ⟨s0, s1, s2, s3, s4, s5, s6, s7, s8, s9⟩
   go_simp
   with_reducible rfl
  rotate_left
  ·simp only [Act.put, List.setIfInBounds_toArray, List.set_cons_zero, List.set_cons_succ, i64_w, i32_w]
   rfl
  refine take_ (i := 8) (N := some 46) (v := ?_) (a' := ?_) #[true, true, true, true, true, false, false, true, true, false, false, false] rfl rfl (take_ofW HT_.out HW_.out (by kernel_rfl)) (fun _ _ _ h => h) (Or.inl ⟨by rfl, ?_⟩) hHeld ?_ ?_
  rotate_left
  ·rintro w' ⟨s0, s1, s2, s3, s4, s5, s6, s7, s8, s9⟩
   go_simp
   with_reducible rfl
  rotate_left
  ·simp only [Act.put, List.setIfInBounds_toArray, List.set_cons_zero, List.set_cons_succ, i64_w, i32_w]
   rfl
  refine one_ (i := 5) (N := some 43) #[true, true, true, true, true, true, false, true, true, false, false, false] rfl rfl (one_of HT_.out (by kernel_rfl)) (by decide) (fun K hK => ?_)
  refine goes_ Try.func25 (by kernel_rfl) rfl #[.int .i64 a1_2, .int .i64 t335] (by rfl) rfl rfl (by (try simp only [List.map_toArray, List.map_cons, List.map_nil]); first | done | rfl | (simp only [List.length_drop, List.length_take]; rfl)) ?_
  with_reducible refine (overfallref02_Of.calls k a1_2 t335 t342 _ A58.out).mono ?_
  rintro e w83 ⟨rfl, hb⟩
  refine ⟨_, rfl, ?_⟩
  have n0_ := Aside0.mk (blk_below (by exact BK332.out) hb)
  have n1_ := Aside0.mk (blk_below (by exact BK333.out) hb)
  have n2_ := Aside0.mk (blk_below (by exact BK334.out) hb)
  have n3_ := Aside0.mk (blk_below (by exact BK336.out) hb)
  have n4_ := Aside0.mk (below_step (by repeat (first | (with_reducible first | exact HB.out | apply below_alloc | apply pw_below_drewN | apply below_drew1 | refine below_set ?_ GE332.out | refine below_set ?_ GE333.out | refine below_set ?_ GE334.out | refine below_set ?_ GE336.out) | exact HB.out)) hb)
  clear BK332
  clear BK333
  clear BK334
  clear BK336
  clear HB
  have BK332 := n0_
  have BK333 := n1_
  have BK334 := n2_
  have BK336 := n3_
  have HB := n4_
  clear n0_ n1_ n2_ n3_ n4_
  (try clear hb)
  (try clear hb2)
  (try clear hk)
  (try clear hi)
  refine hK.out _ _ ⟨(blk_cell BK332.out 0).trans rfl, (blk_cell BK332.out 1).trans rfl, (blk_cell BK332.out 2).trans rfl, (blk_cell BK333.out 0).trans rfl, (blk_cell BK333.out 1).trans rfl, (blk_cell BK333.out 2).trans rfl, (blk_cell BK333.out 3).trans rfl, (blk_cell BK333.out 4).trans rfl, (blk_cell BK333.out 5).trans rfl, (blk_cell BK333.out 6).trans rfl⟩ (fun hHeld => ?_)
  clear hK K
  refine norm_ (a' := ?_) ?_ ?_
  rotate_left
  ·show Act.put _ (some 43) _ = _
   simp only [Act.put, List.setIfInBounds_toArray, List.set_cons_zero, List.set_cons_succ, i64_w, i32_w]
   rfl
  refine one_ (i := 6) (N := some 44) #[true, true, true, true, true, true, true, true, true, false, false, false] rfl rfl (one_of HT_.out (by kernel_rfl)) (by decide) (fun K hK => ?_)
  refine goes_ Try.func27 (by kernel_rfl) rfl #[.int .i64 a0_0, .int .i64 t342] (by rfl) rfl rfl (by (try simp only [List.map_toArray, List.map_cons, List.map_nil]); first | done | rfl | (simp only [List.length_drop, List.length_take]; rfl)) ?_
  with_reducible refine (overfallref02_Add.calls k a0_0 t342 t343 _ A59.out).mono ?_
  rintro e w84 ⟨rfl, hb⟩
  refine ⟨_, rfl, ?_⟩
  have n0_ := Aside0.mk (blk_below (by exact BK332.out) hb)
  have n1_ := Aside0.mk (blk_below (by exact BK333.out) hb)
  have n2_ := Aside0.mk (blk_below (by exact BK334.out) hb)
  have n3_ := Aside0.mk (blk_below (by exact BK336.out) hb)
  have n4_ := Aside0.mk (below_step (by repeat (first | (with_reducible first | exact HB.out | apply below_alloc | apply pw_below_drewN | apply below_drew1 | refine below_set ?_ GE332.out | refine below_set ?_ GE333.out | refine below_set ?_ GE334.out | refine below_set ?_ GE336.out) | exact HB.out)) hb)
  clear BK332
  clear BK333
  clear BK334
  clear BK336
  clear HB
  have BK332 := n0_
  have BK333 := n1_
  have BK334 := n2_
  have BK336 := n3_
  have HB := n4_
  clear n0_ n1_ n2_ n3_ n4_
  (try clear hb)
  (try clear hb2)
  (try clear hk)
  (try clear hi)
  refine hK.out _ _ ⟨(blk_cell BK332.out 0).trans rfl, (blk_cell BK332.out 1).trans rfl, (blk_cell BK332.out 2).trans rfl, (blk_cell BK333.out 0).trans rfl, (blk_cell BK333.out 1).trans rfl, (blk_cell BK333.out 2).trans rfl, (blk_cell BK333.out 3).trans rfl, (blk_cell BK333.out 4).trans rfl, (blk_cell BK333.out 5).trans rfl, (blk_cell BK333.out 6).trans rfl⟩ (fun hHeld => ?_)
  clear hK K
  refine norm_ (a' := ?_) ?_ ?_
  rotate_left
  ·show Act.put _ (some 44) _ = _
   simp only [Act.put, List.setIfInBounds_toArray, List.set_cons_zero, List.set_cons_succ, i64_w, i32_w]
   rfl
  refine one_ (i := 9) (N := some 47) #[true, true, true, true, true, true, true, true, true, true, false, false] rfl rfl (one_of HT_.out (by kernel_rfl)) (by decide) (fun K hK => ?_)
  refine goes_ Try.func26 (by kernel_rfl) rfl #[.int .i64 t343, .int .i64 0, .int .i64 a1_4] (by rfl) rfl rfl (by (try simp only [List.map_toArray, List.map_cons, List.map_nil]); first | done | rfl | (simp only [List.length_drop, List.length_take]; rfl)) ?_
  with_reducible refine (overfallref02_Clamp.calls t343 0 a1_4 t344 _ A60.out).mono ?_
  rintro e w' ⟨rfl, ⟨nd, rfl⟩⟩
  refine ⟨_, rfl, ?_⟩
  refine hK.out _ _ ⟨(blk_cell BK332.out 0).trans rfl, (blk_cell BK332.out 1).trans rfl, (blk_cell BK332.out 2).trans rfl, (blk_cell BK333.out 0).trans rfl, (blk_cell BK333.out 1).trans rfl, (blk_cell BK333.out 2).trans rfl, (blk_cell BK333.out 3).trans rfl, (blk_cell BK333.out 4).trans rfl, (blk_cell BK333.out 5).trans rfl, (blk_cell BK333.out 6).trans rfl⟩ (fun hHeld => ?_)
  clear hK K
  refine norm_ (a' := ?_) ?_ ?_
  rotate_left
  ·show Act.put _ (some 47) _ = _
   simp only [Act.put, List.setIfInBounds_toArray, List.set_cons_zero, List.set_cons_succ, i64_w, i32_w]
   rfl
  refine pure_ (i := 10) (N := some 48) (v := ?_) (a' := ?_) #[true, true, true, true, true, true, true, true, true, true, true, false] rfl rfl (any_of HT_.out (by kernel_rfl)) (fun _ _ _ h => h) (Or.inl ⟨by rfl, ?_⟩) ?_ ?_
  rotate_left
  ·intro w'
   go_simp
   with_reducible rfl
  rotate_left
  ·simp only [Act.put, List.setIfInBounds_toArray, List.set_cons_zero, List.set_cons_succ, i64_w, i32_w]
   rfl
  refine one_ (i := 11) (N := none) #[true, true, true, true, true, true, true, true, true, true, true, true] rfl rfl (one_of HT_.out (by kernel_rfl)) (by decide) (fun K hK => ?_)
  have hs85 : w84.cell? ⟨gb336, 0, none⟩ = some (.int .i64 0) := (blk_cell BK336.out 0).trans rfl
  have hfs85 := blk_frozen BK336.out 0
  have hns85_0 := NB332_336.out
  have hns85_1 := NB333_336.out
  have hns85_2 := NB334_336.out
  have hms85_0 := NB336_332.out
  have hms85_1 := NB336_333.out
  have hms85_2 := NB336_334.out
  refine skip_ (w1 := ?_) (by rfl) rfl ?_ ?_
  rotate_left
  ·go_simp
   rfl
  refine hK.out _ _ ⟨((cell_far (p := ⟨gb336, _, none⟩) NB332_336.out _).trans (hHeld.1)), ((cell_far (p := ⟨gb336, _, none⟩) NB332_336.out _).trans (hHeld.2.1)), ((cell_far (p := ⟨gb336, _, none⟩) NB332_336.out _).trans (hHeld.2.2.1)), ((cell_far (p := ⟨gb336, _, none⟩) NB333_336.out _).trans (hHeld.2.2.2.1)), ((cell_far (p := ⟨gb336, _, none⟩) NB333_336.out _).trans (hHeld.2.2.2.2.1)), ((cell_far (p := ⟨gb336, _, none⟩) NB333_336.out _).trans (hHeld.2.2.2.2.2.1)), ((cell_far (p := ⟨gb336, _, none⟩) NB333_336.out _).trans (hHeld.2.2.2.2.2.2.1)), ((cell_far (p := ⟨gb336, _, none⟩) NB333_336.out _).trans (hHeld.2.2.2.2.2.2.2.1)), ((cell_far (p := ⟨gb336, _, none⟩) NB333_336.out _).trans (hHeld.2.2.2.2.2.2.2.2.1)), ((cell_far (p := ⟨gb336, _, none⟩) NB333_336.out _).trans (hHeld.2.2.2.2.2.2.2.2.2))⟩ (fun hHeld => ?_)
  clear hK K
  refine done_ (done_of HT_.out (by kernel_rfl)) ?_
  try go_wp2
  (try (rw [drewN_self w84]; generalize hq_ : World.drewN w84 _ = w84; have m0_ := Aside0.mk (blk_at hq_ BK332.out); have m1_ := Aside0.mk (blk_at hq_ BK333.out); have m2_ := Aside0.mk (blk_at hq_ BK334.out); have m3_ := Aside0.mk (blk_at hq_ BK336.out); have mh_ := Aside0.mk (below_at hq_ HB.out); clear BK332 BK333 BK334 BK336 HB hq_; have BK332 := m0_; have BK333 := m1_; have BK334 := m2_; have BK336 := m3_; have HB := mh_; clear m0_ m1_ m2_ m3_ mh_))
  have n0_ : Aside0 ((w84.setCell ⟨gb336, 0, none⟩ (.int .i64 t344)).heap[gb332]? = some (.cells #[.int .i64 a0_0, .int .i64 a0_1, .int .i64 a0_2] 30 (0, 0))) := ⟨by refine blk_far ?_ NB332_336.out _; exact BK332.out⟩
  have n1_ : Aside0 ((w84.setCell ⟨gb336, 0, none⟩ (.int .i64 t344)).heap[gb333]? = some (.cells #[.int .i64 a1_0, .int .i64 a1_1, .int .i64 a1_2, .int .i64 a1_3, .int .i64 a1_4, .int .i64 a1_5, .int .i64 a1_6] 36 (0, 0))) := ⟨by refine blk_far ?_ NB333_336.out _; exact BK333.out⟩
  have n2_ : Aside0 ((w84.setCell ⟨gb336, 0, none⟩ (.int .i64 t344)).heap[gb334]? = some (.cells #[.int .i64 0, .int .i64 0, .int .i64 0] 30 (0, 0))) := ⟨by refine blk_far ?_ NB334_336.out _; exact BK334.out⟩
  have n3_ : Aside0 ((w84.setCell ⟨gb336, 0, none⟩ (.int .i64 t344)).heap[gb336]? = some (.cells #[.int .i64 t344, .int .i64 t335, .int .i64 0] 30 (0, 0))) := ⟨by refine blk_put (cs := #[.int .i64 0, .int .i64 t335, .int .i64 0]) ?_ 0 _ rfl; exact BK336.out⟩
  have n4_ : Aside0 (Below w.heap.size w (w84.setCell ⟨gb336, 0, none⟩ (.int .i64 t344))) := ⟨by repeat (first | (with_reducible first | exact HB.out | apply below_alloc | apply pw_below_drewN | apply below_drew1 | refine below_set ?_ GE332.out | refine below_set ?_ GE333.out | refine below_set ?_ GE334.out | refine below_set ?_ GE336.out) | exact HB.out)⟩
  (try clear BK332)
  (try clear BK333)
  (try clear BK334)
  (try clear BK336)
  (try clear HB)
  generalize (w84.setCell ⟨gb336, 0, none⟩ (.int .i64 t344)) = w86 at n0_ n1_ n2_ n3_ n4_ ⊢
  have BK332 := n0_
  have BK333 := n1_
  have BK334 := n2_
  have BK336 := n3_
  have HB := n4_
  clear n0_ n1_ n2_ n3_ n4_
  (try (rw [drewN_self w86]; generalize hq_ : World.drewN w86 _ = w86; have n0_ : Aside0 (w86.heap[gb332]? = some (.cells #[.int .i64 a0_0, .int .i64 a0_1, .int .i64 a0_2] 30 (0, 0))) := ⟨by rw [← hq_]; exact (by exact BK332.out)⟩; have n1_ : Aside0 (w86.heap[gb333]? = some (.cells #[.int .i64 a1_0, .int .i64 a1_1, .int .i64 a1_2, .int .i64 a1_3, .int .i64 a1_4, .int .i64 a1_5, .int .i64 a1_6] 36 (0, 0))) := ⟨by rw [← hq_]; exact (by exact BK333.out)⟩; have n2_ : Aside0 (w86.heap[gb334]? = some (.cells #[.int .i64 0, .int .i64 0, .int .i64 0] 30 (0, 0))) := ⟨by rw [← hq_]; exact (by exact BK334.out)⟩; have n3_ : Aside0 (w86.heap[gb336]? = some (.cells #[.int .i64 t344, .int .i64 t335, .int .i64 0] 30 (0, 0))) := ⟨by rw [← hq_]; exact (by exact BK336.out)⟩; have n4_ : Aside0 (Below w.heap.size w w86) := ⟨by rw [← hq_]; exact (by repeat (first | (with_reducible first | exact HB.out | apply below_alloc | apply pw_below_drewN | apply below_drew1 | refine below_set ?_ GE332.out | refine below_set ?_ GE333.out | refine below_set ?_ GE334.out | refine below_set ?_ GE336.out) | exact HB.out))⟩; clear BK332 BK333 BK334 BK336 HB hq_; have BK332 := n0_; have BK333 := n1_; have BK334 := n2_; have BK336 := n3_; have HB := n4_; clear n0_ n1_ n2_ n3_ n4_))
  have n0_ := Aside0.mk (blk_drew BK332.out)
  have n1_ := Aside0.mk (blk_drew BK333.out)
  have n2_ := Aside0.mk (blk_drew BK334.out)
  have n3_ := Aside0.mk (blk_drew BK336.out)
  have n4_ := Aside0.mk (below_drew1 HB.out)
  clear BK332
  clear BK333
  clear BK334
  clear BK336
  clear HB
  have BK332 := n0_
  have BK333 := n1_
  have BK334 := n2_
  have BK336 := n3_
  have HB := n4_
  clear n0_ n1_ n2_ n3_ n4_
  refine start_ (n := 16) (S := fun w' => w'.cell? ⟨gb333, 0, none⟩ = some (.int .i64 a1_0) ∧ w'.cell? ⟨gb333, 1, none⟩ = some (.int .i64 a1_1) ∧ w'.cell? ⟨gb333, 2, none⟩ = some (.int .i64 a1_2) ∧ w'.cell? ⟨gb333, 3, none⟩ = some (.int .i64 a1_3) ∧ w'.cell? ⟨gb333, 4, none⟩ = some (.int .i64 a1_4) ∧ w'.cell? ⟨gb333, 5, none⟩ = some (.int .i64 a1_5) ∧ w'.cell? ⟨gb333, 6, none⟩ = some (.int .i64 a1_6) ∧ w'.cell? ⟨gb336, 0, none⟩ = some (.int .i64 t344) ∧ w'.cell? ⟨gb336, 1, none⟩ = some (.int .i64 t335) ∧ w'.cell? ⟨gb336, 2, none⟩ = some (.int .i64 0) ∧ w'.cell? ⟨gb332, 0, none⟩ = some (.int .i64 a0_0) ∧ w'.cell? ⟨gb332, 1, none⟩ = some (.int .i64 a0_1) ∧ w'.cell? ⟨gb332, 2, none⟩ = some (.int .i64 a0_2)) (ds := []) #[false, false, false, false, false, false, false, false, false, false, false, false, false, false, false, false] (by kernel_rfl) rfl rfl ⟨(blk_cell BK333.out 0).trans rfl, (blk_cell BK333.out 1).trans rfl, (blk_cell BK333.out 2).trans rfl, (blk_cell BK333.out 3).trans rfl, (blk_cell BK333.out 4).trans rfl, (blk_cell BK333.out 5).trans rfl, (blk_cell BK333.out 6).trans rfl, (blk_cell BK336.out 0).trans rfl, (blk_cell BK336.out 1).trans rfl, (blk_cell BK336.out 2).trans rfl, (blk_cell BK332.out 0).trans rfl, (blk_cell BK332.out 1).trans rfl, (blk_cell BK332.out 2).trans rfl⟩ (fun hHeld => ?_); refine with_tabW overfallref11_Sample.tab10 overfallref11_Sample.bits10 (fun HT_ HW_ => ?_)
  generalize w86.drew = w87 at BK332 BK333 BK334 BK336 HB hHeld ⊢
  refine pure_ (i := 0) (N := some 49) (v := ?_) (a' := ?_) #[true, false, false, false, false, false, false, false, false, false, false, false, false, false, false, false] rfl rfl (any_of HT_.out (by kernel_rfl)) (fun _ _ _ h => h) (Or.inl ⟨by rfl, ?_⟩) ?_ ?_
  rotate_left
  ·intro w'
   go_simp
   with_reducible rfl
  rotate_left
  ·simp only [Act.put, List.setIfInBounds_toArray, List.set_cons_zero, List.set_cons_succ, i64_w, i32_w]
   rfl
  refine pure_ (i := 2) (N := some 51) (v := ?_) (a' := ?_) #[true, false, true, false, false, false, false, false, false, false, false, false, false, false, false, false] rfl rfl (any_of HT_.out (by kernel_rfl)) (fun _ _ _ h => h) (Or.inl ⟨by rfl, ?_⟩) ?_ ?_
  rotate_left
  ·intro w'
   go_simp
   with_reducible rfl
  rotate_left
  ·simp only [Act.put, List.setIfInBounds_toArray, List.set_cons_zero, List.set_cons_succ, i64_w, i32_w]
   rfl
  refine pure_ (i := 4) (N := some 53) (v := ?_) (a' := ?_) #[true, false, true, false, true, false, false, false, false, false, false, false, false, false, false, false] rfl rfl (any_of HT_.out (by kernel_rfl)) (fun _ _ _ h => h) (Or.inl ⟨by rfl, ?_⟩) ?_ ?_
  rotate_left
  ·intro w'
   go_simp
   with_reducible rfl
  rotate_left
  ·simp only [Act.put, List.setIfInBounds_toArray, List.set_cons_zero, List.set_cons_succ, i64_w, i32_w]
   rfl
  refine pure_ (i := 7) (N := some 56) (v := ?_) (a' := ?_) #[true, false, true, false, true, false, false, true, false, false, false, false, false, false, false, false] rfl rfl (any_of HT_.out (by kernel_rfl)) (fun _ _ _ h => h) (Or.inl ⟨by rfl, ?_⟩) ?_ ?_
  rotate_left
  ·intro w'
   go_simp
   with_reducible rfl
  rotate_left
  ·simp only [Act.put, List.setIfInBounds_toArray, List.set_cons_zero, List.set_cons_succ, i64_w, i32_w]
   rfl
  refine pure_ (i := 9) (N := some 58) (v := ?_) (a' := ?_) #[true, false, true, false, true, false, false, true, false, true, false, false, false, false, false, false] rfl rfl (any_of HT_.out (by kernel_rfl)) (fun _ _ _ h => h) (Or.inl ⟨by rfl, ?_⟩) ?_ ?_
  rotate_left
  ·intro w'
   go_simp
   with_reducible rfl
  rotate_left
  ·simp only [Act.put, List.setIfInBounds_toArray, List.set_cons_zero, List.set_cons_succ, i64_w, i32_w]
   rfl
  refine pure_ (i := 10) (N := some 59) (v := ?_) (a' := ?_) #[true, false, true, false, true, false, false, true, false, true, true, false, false, false, false, false] rfl rfl (any_of HT_.out (by kernel_rfl)) (fun _ _ _ h => h) (Or.inl ⟨by rfl, ?_⟩) ?_ ?_
  rotate_left
  ·intro w'
   go_simp
   with_reducible rfl
  rotate_left
  ·simp only [Act.put, List.setIfInBounds_toArray, List.set_cons_zero, List.set_cons_succ, i64_w, i32_w]
   rfl
  refine take_ (i := 1) (N := some 50) (v := ?_) (a' := ?_) #[true, true, true, false, true, false, false, true, false, true, true, false, false, false, false, false] rfl rfl (take_ofW HT_.out HW_.out (by kernel_rfl)) (fun _ _ _ h => h) (Or.inl ⟨by rfl, ?_⟩) hHeld ?_ ?_
  rotate_left
  ·rintro w' ⟨s0, s1, s2, s3, s4, s5, s6, s7, s8, s9, s10, s11, s12⟩
   go_simp
   with_reducible rfl
  rotate_left
  ·simp only [Act.put, List.setIfInBounds_toArray, List.set_cons_zero, List.set_cons_succ, i64_w, i32_w]
   rfl
  refine take_ (i := 5) (N := some 54) (v := ?_) (a' := ?_) #[true, true, true, false, true, true, false, true, false, true, true, false, false, false, false, false] rfl rfl (take_ofW HT_.out HW_.out (by kernel_rfl)) (fun _ _ _ h => h) (Or.inl ⟨by rfl, ?_⟩) hHeld ?_ ?_
  rotate_left
  ·rintro w' ⟨s0, s1, s2, s3, s4, s5, s6, s7, s8, s9, s10, s11, s12⟩
   go_simp
   with_reducible rfl
  rotate_left
  ·simp only [Act.put, List.setIfInBounds_toArray, List.set_cons_zero, List.set_cons_succ, i64_w, i32_w]
   rfl
  refine take_ (i := 8) (N := some 57) (v := ?_) (a' := ?_) #[true, true, true, false, true, true, false, true, true, true, true, false, false, false, false, false] rfl rfl (take_ofW HT_.out HW_.out (by kernel_rfl)) (fun _ _ _ h => h) (Or.inl ⟨by rfl, ?_⟩) hHeld ?_ ?_
  rotate_left
  ·rintro w' ⟨s0, s1, s2, s3, s4, s5, s6, s7, s8, s9, s10, s11, s12⟩
   go_simp
   with_reducible rfl
  rotate_left
  ·simp only [Act.put, List.setIfInBounds_toArray, List.set_cons_zero, List.set_cons_succ, i64_w, i32_w]
   rfl
  refine take_ (i := 11) (N := some 60) (v := ?_) (a' := ?_) #[true, true, true, false, true, true, false, true, true, true, true, true, false, false, false, false] rfl rfl (take_ofW HT_.out HW_.out (by kernel_rfl)) (fun _ _ _ h => h) (Or.inl ⟨by rfl, ?_⟩) hHeld ?_ ?_
  rotate_left
  ·rintro w' ⟨s0, s1, s2, s3, s4, s5, s6, s7, s8, s9, s10, s11, s12⟩
   go_simp
   with_reducible rfl
  rotate_left
  ·simp only [Act.put, List.setIfInBounds_toArray, List.set_cons_zero, List.set_cons_succ, i64_w, i32_w]
   rfl
  refine one_ (i := 3) (N := some 52) #[true, true, true, true, true, true, false, true, true, true, true, true, false, false, false, false] rfl rfl (one_of HT_.out (by kernel_rfl)) (by decide) (fun K hK => ?_)
  refine goes_ Try.func25 (by kernel_rfl) rfl #[.int .i64 a1_1, .int .i64 t335] (by rfl) rfl rfl (by (try simp only [List.map_toArray, List.map_cons, List.map_nil]); first | done | rfl | (simp only [List.length_drop, List.length_take]; rfl)) ?_
  with_reducible refine (overfallref02_Of.calls k a1_1 t335 t345 _ A61.out).mono ?_
  rintro e w88 ⟨rfl, hb⟩
  refine ⟨_, rfl, ?_⟩
  have n0_ := Aside0.mk (blk_below (by exact BK332.out) hb)
  have n1_ := Aside0.mk (blk_below (by exact BK333.out) hb)
  have n2_ := Aside0.mk (blk_below (by exact BK334.out) hb)
  have n3_ := Aside0.mk (blk_below (by exact BK336.out) hb)
  have n4_ := Aside0.mk (below_step (by repeat (first | (with_reducible first | exact HB.out | apply below_alloc | apply pw_below_drewN | apply below_drew1 | refine below_set ?_ GE332.out | refine below_set ?_ GE333.out | refine below_set ?_ GE334.out | refine below_set ?_ GE336.out) | exact HB.out)) hb)
  clear BK332
  clear BK333
  clear BK334
  clear BK336
  clear HB
  have BK332 := n0_
  have BK333 := n1_
  have BK334 := n2_
  have BK336 := n3_
  have HB := n4_
  clear n0_ n1_ n2_ n3_ n4_
  (try clear hb)
  (try clear hb2)
  (try clear hk)
  (try clear hi)
  refine hK.out _ _ ⟨(blk_cell BK333.out 0).trans rfl, (blk_cell BK333.out 1).trans rfl, (blk_cell BK333.out 2).trans rfl, (blk_cell BK333.out 3).trans rfl, (blk_cell BK333.out 4).trans rfl, (blk_cell BK333.out 5).trans rfl, (blk_cell BK333.out 6).trans rfl, (blk_cell BK336.out 0).trans rfl, (blk_cell BK336.out 1).trans rfl, (blk_cell BK336.out 2).trans rfl, (blk_cell BK332.out 0).trans rfl, (blk_cell BK332.out 1).trans rfl, (blk_cell BK332.out 2).trans rfl⟩ (fun hHeld => ?_)
  clear hK K
  refine norm_ (a' := ?_) ?_ ?_
  rotate_left
  ·show Act.put _ (some 52) _ = _
   simp only [Act.put, List.setIfInBounds_toArray, List.set_cons_zero, List.set_cons_succ, i64_w, i32_w]
   rfl
  refine one_ (i := 6) (N := some 55) #[true, true, true, true, true, true, true, true, true, true, true, true, false, false, false, false] rfl rfl (one_of HT_.out (by kernel_rfl)) (by decide) (fun K hK => ?_)
  refine goes_ Try.func27 (by kernel_rfl) rfl #[.int .i64 t345, .int .i64 t344] (by rfl) rfl rfl (by (try simp only [List.map_toArray, List.map_cons, List.map_nil]); first | done | rfl | (simp only [List.length_drop, List.length_take]; rfl)) ?_
  with_reducible refine (overfallref02_Add.calls k t345 t344 t346 _ A62.out).mono ?_
  rintro e w89 ⟨rfl, hb⟩
  refine ⟨_, rfl, ?_⟩
  have n0_ := Aside0.mk (blk_below (by exact BK332.out) hb)
  have n1_ := Aside0.mk (blk_below (by exact BK333.out) hb)
  have n2_ := Aside0.mk (blk_below (by exact BK334.out) hb)
  have n3_ := Aside0.mk (blk_below (by exact BK336.out) hb)
  have n4_ := Aside0.mk (below_step (by repeat (first | (with_reducible first | exact HB.out | apply below_alloc | apply pw_below_drewN | apply below_drew1 | refine below_set ?_ GE332.out | refine below_set ?_ GE333.out | refine below_set ?_ GE334.out | refine below_set ?_ GE336.out) | exact HB.out)) hb)
  clear BK332
  clear BK333
  clear BK334
  clear BK336
  clear HB
  have BK332 := n0_
  have BK333 := n1_
  have BK334 := n2_
  have BK336 := n3_
  have HB := n4_
  clear n0_ n1_ n2_ n3_ n4_
  (try clear hb)
  (try clear hb2)
  (try clear hk)
  (try clear hi)
  refine hK.out _ _ ⟨(blk_cell BK333.out 0).trans rfl, (blk_cell BK333.out 1).trans rfl, (blk_cell BK333.out 2).trans rfl, (blk_cell BK333.out 3).trans rfl, (blk_cell BK333.out 4).trans rfl, (blk_cell BK333.out 5).trans rfl, (blk_cell BK333.out 6).trans rfl, (blk_cell BK336.out 0).trans rfl, (blk_cell BK336.out 1).trans rfl, (blk_cell BK336.out 2).trans rfl, (blk_cell BK332.out 0).trans rfl, (blk_cell BK332.out 1).trans rfl, (blk_cell BK332.out 2).trans rfl⟩ (fun hHeld => ?_)
  clear hK K
  refine norm_ (a' := ?_) ?_ ?_
  rotate_left
  ·show Act.put _ (some 55) _ = _
   simp only [Act.put, List.setIfInBounds_toArray, List.set_cons_zero, List.set_cons_succ, i64_w, i32_w]
   rfl
  refine one_ (i := 12) (N := some 61) #[true, true, true, true, true, true, true, true, true, true, true, true, true, false, false, false] rfl rfl (one_of HT_.out (by kernel_rfl)) (by decide) (fun K hK => ?_)
  refine goes_ Try.func24 (by kernel_rfl) rfl #[.int .i64 t335, .int .i64 a0_1] (by rfl) rfl rfl (by (try simp only [List.map_toArray, List.map_cons, List.map_nil]); first | done | rfl | (simp only [List.length_drop, List.length_take]; rfl)) ?_
  with_reducible refine (overfallref02_Sub.calls k t335 a0_1 t347 _ A63.out).mono ?_
  rintro e w90 ⟨rfl, hb⟩
  refine ⟨_, rfl, ?_⟩
  have n0_ := Aside0.mk (blk_below (by exact BK332.out) hb)
  have n1_ := Aside0.mk (blk_below (by exact BK333.out) hb)
  have n2_ := Aside0.mk (blk_below (by exact BK334.out) hb)
  have n3_ := Aside0.mk (blk_below (by exact BK336.out) hb)
  have n4_ := Aside0.mk (below_step (by repeat (first | (with_reducible first | exact HB.out | apply below_alloc | apply pw_below_drewN | apply below_drew1 | refine below_set ?_ GE332.out | refine below_set ?_ GE333.out | refine below_set ?_ GE334.out | refine below_set ?_ GE336.out) | exact HB.out)) hb)
  clear BK332
  clear BK333
  clear BK334
  clear BK336
  clear HB
  have BK332 := n0_
  have BK333 := n1_
  have BK334 := n2_
  have BK336 := n3_
  have HB := n4_
  clear n0_ n1_ n2_ n3_ n4_
  (try clear hb)
  (try clear hb2)
  (try clear hk)
  (try clear hi)
  refine hK.out _ _ ⟨(blk_cell BK333.out 0).trans rfl, (blk_cell BK333.out 1).trans rfl, (blk_cell BK333.out 2).trans rfl, (blk_cell BK333.out 3).trans rfl, (blk_cell BK333.out 4).trans rfl, (blk_cell BK333.out 5).trans rfl, (blk_cell BK333.out 6).trans rfl, (blk_cell BK336.out 0).trans rfl, (blk_cell BK336.out 1).trans rfl, (blk_cell BK336.out 2).trans rfl, (blk_cell BK332.out 0).trans rfl, (blk_cell BK332.out 1).trans rfl, (blk_cell BK332.out 2).trans rfl⟩ (fun hHeld => ?_)
  clear hK K
  refine norm_ (a' := ?_) ?_ ?_
  rotate_left
  ·show Act.put _ (some 61) _ = _
   simp only [Act.put, List.setIfInBounds_toArray, List.set_cons_zero, List.set_cons_succ, i64_w, i32_w]
   rfl
  refine one_ (i := 13) (N := some 62) #[true, true, true, true, true, true, true, true, true, true, true, true, true, true, false, false] rfl rfl (one_of HT_.out (by kernel_rfl)) (by decide) (fun K hK => ?_)
  refine goes_ Try.func25 (by kernel_rfl) rfl #[.int .i64 a1_3, .int .i64 t347] (by rfl) rfl rfl (by (try simp only [List.map_toArray, List.map_cons, List.map_nil]); first | done | rfl | (simp only [List.length_drop, List.length_take]; rfl)) ?_
  with_reducible refine (overfallref02_Of.calls k a1_3 t347 t348 _ A64.out).mono ?_
  rintro e w91 ⟨rfl, hb⟩
  refine ⟨_, rfl, ?_⟩
  have n0_ := Aside0.mk (blk_below (by exact BK332.out) hb)
  have n1_ := Aside0.mk (blk_below (by exact BK333.out) hb)
  have n2_ := Aside0.mk (blk_below (by exact BK334.out) hb)
  have n3_ := Aside0.mk (blk_below (by exact BK336.out) hb)
  have n4_ := Aside0.mk (below_step (by repeat (first | (with_reducible first | exact HB.out | apply below_alloc | apply pw_below_drewN | apply below_drew1 | refine below_set ?_ GE332.out | refine below_set ?_ GE333.out | refine below_set ?_ GE334.out | refine below_set ?_ GE336.out) | exact HB.out)) hb)
  clear BK332
  clear BK333
  clear BK334
  clear BK336
  clear HB
  have BK332 := n0_
  have BK333 := n1_
  have BK334 := n2_
  have BK336 := n3_
  have HB := n4_
  clear n0_ n1_ n2_ n3_ n4_
  (try clear hb)
  (try clear hb2)
  (try clear hk)
  (try clear hi)
  refine hK.out _ _ ⟨(blk_cell BK333.out 0).trans rfl, (blk_cell BK333.out 1).trans rfl, (blk_cell BK333.out 2).trans rfl, (blk_cell BK333.out 3).trans rfl, (blk_cell BK333.out 4).trans rfl, (blk_cell BK333.out 5).trans rfl, (blk_cell BK333.out 6).trans rfl, (blk_cell BK336.out 0).trans rfl, (blk_cell BK336.out 1).trans rfl, (blk_cell BK336.out 2).trans rfl, (blk_cell BK332.out 0).trans rfl, (blk_cell BK332.out 1).trans rfl, (blk_cell BK332.out 2).trans rfl⟩ (fun hHeld => ?_)
  clear hK K
  refine norm_ (a' := ?_) ?_ ?_
  rotate_left
  ·show Act.put _ (some 62) _ = _
   simp only [Act.put, List.setIfInBounds_toArray, List.set_cons_zero, List.set_cons_succ, i64_w, i32_w]
   rfl
  refine one_ (i := 14) (N := some 63) #[true, true, true, true, true, true, true, true, true, true, true, true, true, true, true, false] rfl rfl (one_of HT_.out (by kernel_rfl)) (by decide) (fun K hK => ?_)
  refine goes_ Try.func27 (by kernel_rfl) rfl #[.int .i64 t346, .int .i64 t348] (by rfl) rfl rfl (by (try simp only [List.map_toArray, List.map_cons, List.map_nil]); first | done | rfl | (simp only [List.length_drop, List.length_take]; rfl)) ?_
  with_reducible refine (overfallref02_Add.calls k t346 t348 t349 _ A65.out).mono ?_
  rintro e w92 ⟨rfl, hb⟩
  refine ⟨_, rfl, ?_⟩
  have n0_ := Aside0.mk (blk_below (by exact BK332.out) hb)
  have n1_ := Aside0.mk (blk_below (by exact BK333.out) hb)
  have n2_ := Aside0.mk (blk_below (by exact BK334.out) hb)
  have n3_ := Aside0.mk (blk_below (by exact BK336.out) hb)
  have n4_ := Aside0.mk (below_step (by repeat (first | (with_reducible first | exact HB.out | apply below_alloc | apply pw_below_drewN | apply below_drew1 | refine below_set ?_ GE332.out | refine below_set ?_ GE333.out | refine below_set ?_ GE334.out | refine below_set ?_ GE336.out) | exact HB.out)) hb)
  clear BK332
  clear BK333
  clear BK334
  clear BK336
  clear HB
  have BK332 := n0_
  have BK333 := n1_
  have BK334 := n2_
  have BK336 := n3_
  have HB := n4_
  clear n0_ n1_ n2_ n3_ n4_
  (try clear hb)
  (try clear hb2)
  (try clear hk)
  (try clear hi)
  refine hK.out _ _ ⟨(blk_cell BK333.out 0).trans rfl, (blk_cell BK333.out 1).trans rfl, (blk_cell BK333.out 2).trans rfl, (blk_cell BK333.out 3).trans rfl, (blk_cell BK333.out 4).trans rfl, (blk_cell BK333.out 5).trans rfl, (blk_cell BK333.out 6).trans rfl, (blk_cell BK336.out 0).trans rfl, (blk_cell BK336.out 1).trans rfl, (blk_cell BK336.out 2).trans rfl, (blk_cell BK332.out 0).trans rfl, (blk_cell BK332.out 1).trans rfl, (blk_cell BK332.out 2).trans rfl⟩ (fun hHeld => ?_)
  clear hK K
  refine norm_ (a' := ?_) ?_ ?_
  rotate_left
  ·show Act.put _ (some 63) _ = _
   simp only [Act.put, List.setIfInBounds_toArray, List.set_cons_zero, List.set_cons_succ, i64_w, i32_w]
   rfl
  refine pure_ (i := 15) (N := some 9) (v := ?_) (a' := ?_) #[true, true, true, true, true, true, true, true, true, true, true, true, true, true, true, true] rfl rfl (any_of HT_.out (by kernel_rfl)) (fun _ _ _ h => h) (Or.inl ⟨by rfl, ?_⟩) ?_ ?_
  rotate_left
  ·intro w'
   go_simp
   with_reducible rfl
  rotate_left
  ·simp only [Act.put, List.setIfInBounds_toArray, List.set_cons_zero, List.set_cons_succ, i64_w, i32_w]
   rfl
  refine done_ (done_of HT_.out (by kernel_rfl)) ?_
  have hnb93 := NB332_334.out
  have hnc93 := NB334_332.out
  have hcz94_0 : w92.cell? ⟨gb332, 0, none⟩ = some (.int .i64 a0_0) := (blk_cell BK332.out 0).trans rfl
  have hcz94_1 : w92.cell? ⟨gb332, 1, none⟩ = some (.int .i64 a0_1) := (blk_cell BK332.out 1).trans rfl
  have hcz94_2 : w92.cell? ⟨gb332, 2, none⟩ = some (.int .i64 a0_2) := (blk_cell BK332.out 2).trans rfl
  have hfz94_0 := blk_frozen BK332.out 0
  have hfz94_1 := blk_frozen BK332.out 1
  have hfz94_2 := blk_frozen BK332.out 2
  have hcz95_0 : w92.cell? ⟨gb336, 0, none⟩ = some (.int .i64 t344) := (blk_cell BK336.out 0).trans rfl
  have hcz95_1 : w92.cell? ⟨gb336, 1, none⟩ = some (.int .i64 t335) := (blk_cell BK336.out 1).trans rfl
  have hcz95_2 : w92.cell? ⟨gb336, 2, none⟩ = some (.int .i64 0) := (blk_cell BK336.out 2).trans rfl
  have hfz95_0 := blk_frozen BK336.out 0
  have hfz95_1 := blk_frozen BK336.out 1
  have hfz95_2 := blk_frozen BK336.out 2
  go_upto_if 72 with (first | ((with_reducible refine gate_callee (f := 28) rfl ?_); refine goesL_ (some 68) rfl rfl Try.func28 (by kernel_rfl) rfl #[.int .i64 t349] rfl (by (try simp only [List.map_toArray, List.map_cons, List.map_nil]); first | done | rfl | (simp only [List.length_drop, List.length_take]; rfl)) ?_; (with_reducible refine (overfallref02_Floor.calls k t349 t350 _ A66.out).mono ?_); rintro e w96 ⟨rfl, hb⟩; refine ⟨_, rfl, ?_⟩; have n0_ := Aside0.mk (blk_below (g := gb332) (o := .cells #[.int .i64 a0_0, .int .i64 a0_1, .int .i64 a0_2] 30 (0, 0)) (by refine blk_far ?_ NB332_336.out _; exact BK332.out) hb); have n1_ := Aside0.mk (blk_below (g := gb333) (o := .cells #[.int .i64 a1_0, .int .i64 a1_1, .int .i64 a1_2, .int .i64 a1_3, .int .i64 a1_4, .int .i64 a1_5, .int .i64 a1_6] 36 (0, 0)) (by refine blk_far ?_ NB333_336.out _; exact BK333.out) hb); have n2_ := Aside0.mk (blk_below (g := gb334) (o := .cells #[.int .i64 0, .int .i64 0, .int .i64 0] 30 (0, 0)) (by refine blk_far ?_ NB334_336.out _; exact BK334.out) hb); have n3_ := Aside0.mk (blk_below (g := gb336) (o := .cells #[.int .i64 t344, .int .i64 t335, .int .i64 a0_2] 30 (0, 0)) (by refine blk_put (cs := #[.int .i64 t344, .int .i64 t335, .int .i64 0]) ?_ 2 _ rfl; exact BK336.out) hb); have n4_ := Aside0.mk (below_step (by repeat (first | (with_reducible first | exact HB.out | apply below_alloc | apply pw_below_drewN | apply below_drew1 | refine below_set ?_ GE332.out | refine below_set ?_ GE333.out | refine below_set ?_ GE334.out | refine below_set ?_ GE336.out) | exact HB.out)) hb); clear BK332; clear BK333; clear BK334; clear BK336; clear HB; have BK332 := n0_; have BK333 := n1_; have BK334 := n2_; have BK336 := n3_; have HB := n4_; clear n0_ n1_ n2_ n3_ n4_; (try clear hb); (try clear hb2); (try clear hk); (try clear hi); have hcz97_0 : w96.cell? ⟨gb336, 0, none⟩ = some (.int .i64 t344) := (blk_cell BK336.out 0).trans rfl; have hcz97_1 : w96.cell? ⟨gb336, 1, none⟩ = some (.int .i64 t335) := (blk_cell BK336.out 1).trans rfl; have hcz97_2 : w96.cell? ⟨gb336, 2, none⟩ = some (.int .i64 a0_2) := (blk_cell BK336.out 2).trans rfl; have hfz97_0 := blk_frozen BK336.out 0; have hfz97_1 := blk_frozen BK336.out 1; have hfz97_2 := blk_frozen BK336.out 2))
  (try simp only [Act.put, List.setIfInBounds_toArray, List.set_cons_zero, List.set_cons_succ])
  go_cut [] (fun wc => ∃ (kq : Nat) (x337002_66 : Int), Aside0 (overfallref11_Sample.j0 kq a0_0 a0_1 a0_2 a1_0 a1_1 a1_2 a1_3 a1_4 a1_5 a1_6 t344 t335 x337002_66 = some (r1, r2, r3)) ∧ Aside0 (kq ≤ k) ∧ Aside0 (wc.heap[gb332]? = some (.cells #[.int .i64 a0_0, .int .i64 a0_1, .int .i64 a0_2] 30 (0, 0))) ∧ Aside0 (wc.heap[gb333]? = some (.cells #[.int .i64 a1_0, .int .i64 a1_1, .int .i64 a1_2, .int .i64 a1_3, .int .i64 a1_4, .int .i64 a1_5, .int .i64 a1_6] 36 (0, 0))) ∧ Aside0 (wc.heap[gb334]? = some (.cells #[.int .i64 0, .int .i64 0, .int .i64 0] 30 (0, 0))) ∧ Aside0 (wc.heap[gb336]? = some (.cells #[.int .i64 t344, .int .i64 t335, .int .i64 x337002_66] 30 (0, 0))) ∧ Aside0 (Below w.heap.size w wc))
  case first =>
   have H := HC67.out
   clear HC67
   by_cases c98 : t350 > a0_2
   ·rw [if_pos c98] at H
    have c98b0 : decide (a0_2 < t350) = true := decide_eq_true c98
    clear c98
    (first | rw [c98b0] | (simp only [i64_w, i32_w]; rw [c98b0]) | skip)
    have H' := Aside0.mk H
    clear H
    have hnb99 := NB336_332.out
    have hnc99 := NB332_336.out
    have hnb100 := NB336_333.out
    have hnc100 := NB333_336.out
    have hnb101 := NB336_334.out
    have hnc101 := NB334_336.out
    have hcz102_0 : w96.cell? ⟨gb336, 0, none⟩ = some (.int .i64 t344) := (blk_cell BK336.out 0).trans rfl
    have hcz102_1 : w96.cell? ⟨gb336, 1, none⟩ = some (.int .i64 t335) := (blk_cell BK336.out 1).trans rfl
    have hcz102_2 : w96.cell? ⟨gb336, 2, none⟩ = some (.int .i64 a0_2) := (blk_cell BK336.out 2).trans rfl
    have hfz102_0 := blk_frozen BK336.out 0
    have hfz102_1 := blk_frozen BK336.out 1
    have hfz102_2 := blk_frozen BK336.out 2
    go_wp2
    go_meet
    case rel => exact ⟨_, (t350), H', ⟨by first | omega | exact Nat.le_refl _⟩, ⟨by refine blk_far ?_ NB332_336.out _; exact BK332.out⟩, ⟨by refine blk_far ?_ NB333_336.out _; exact BK333.out⟩, ⟨by refine blk_far ?_ NB334_336.out _; exact BK334.out⟩, ⟨by refine blk_put (cs := #[.int .i64 t344, .int .i64 t335, .int .i64 a0_2]) ?_ 2 _ rfl; exact BK336.out⟩, ⟨by repeat (first | (with_reducible first | exact HB.out | apply below_alloc | apply pw_below_drewN | apply below_drew1 | refine below_set ?_ GE332.out | refine below_set ?_ GE333.out | refine below_set ?_ GE334.out | refine below_set ?_ GE336.out) | exact HB.out)⟩⟩
   ·rw [if_neg c98] at H
    have c98b0 : decide (a0_2 < t350) = false := decide_eq_false c98
    clear c98
    (first | rw [c98b0] | (simp only [i64_w, i32_w]; rw [c98b0]) | skip)
    have H' := Aside0.mk H
    clear H
    go_wp2
    go_meet
    case rel => exact ⟨_, (a0_2), H', ⟨by first | omega | exact Nat.le_refl _⟩, ⟨by exact BK332.out⟩, ⟨by exact BK333.out⟩, ⟨by exact BK334.out⟩, ⟨by exact BK336.out⟩, ⟨by repeat (first | (with_reducible first | exact HB.out | apply below_alloc | apply pw_below_drewN | apply below_drew1 | refine below_set ?_ GE332.out | refine below_set ?_ GE333.out | refine below_set ?_ GE334.out | refine below_set ?_ GE336.out) | exact HB.out)⟩⟩
  case rest =>
   clear HC67
   try clear c1
   try clear c2
   try clear p2
   try clear c5
   try clear c5b0
   try clear c7
   try clear c9
   try clear c10
   try clear c12
   try clear c24
   try clear c25
   try clear c26
   try clear c27
   try clear c28
   try clear c71
   try clear c72
   try clear c76
   try clear c77
   try clear c78
   try clear c93
   try clear c98
   try clear c98b0
   try clear c99
   try clear c100
   try clear c101
   try clear hcz102_0
   try clear hcz102_1
   try clear hcz102_2
   try clear hcz56_0
   try clear hcz56_1
   try clear hcz56_2
   try clear hcz57_0
   try clear hcz57_1
   try clear hcz57_2
   try clear hcz73_0
   try clear hcz73_1
   try clear hcz73_2
   try clear hcz73_3
   try clear hcz73_4
   try clear hcz73_5
   try clear hcz73_6
   try clear hcz79_0
   try clear hcz79_1
   try clear hcz79_2
   try clear hcz80_0
   try clear hcz80_1
   try clear hcz80_2
   try clear hcz80_3
   try clear hcz80_4
   try clear hcz80_5
   try clear hcz80_6
   try clear hcz94_0
   try clear hcz94_1
   try clear hcz94_2
   try clear hcz95_0
   try clear hcz95_1
   try clear hcz95_2
   try clear hcz97_0
   try clear hcz97_1
   try clear hcz97_2
   try clear hfz102_0
   try clear hfz102_1
   try clear hfz102_2
   try clear hfz56_0
   try clear hfz56_1
   try clear hfz56_2
   try clear hfz57_0
   try clear hfz57_1
   try clear hfz57_2
   try clear hfz73_0
   try clear hfz73_1
   try clear hfz73_2
   try clear hfz73_3
   try clear hfz73_4
   try clear hfz73_5
   try clear hfz73_6
   try clear hfz79_0
   try clear hfz79_1
   try clear hfz79_2
   try clear hfz80_0
   try clear hfz80_1
   try clear hfz80_2
   try clear hfz80_3
   try clear hfz80_4
   try clear hfz80_5
   try clear hfz80_6
   try clear hfz94_0
   try clear hfz94_1
   try clear hfz94_2
   try clear hfz95_0
   try clear hfz95_1
   try clear hfz95_2
   try clear hfz97_0
   try clear hfz97_1
   try clear hfz97_2
   (try clear BK332); (try clear BK333); (try clear BK334); (try clear BK336); (try clear HB)
   obtain ⟨kq, x337002_66, HA, HJ66, BK332, BK333, BK334, BK336, HB⟩ := hcut
   cases kq with
   | zero => exact absurd HA.out (by simp [overfallref11_Sample.j0])
   | succ kj66 =>
    have H := HA.out
    clear HA
    simp only [overfallref11_Sample.j0] at H
    replace H := Option.bind_eq_some_iff.mp H
    obtain ⟨t351, A1030, H⟩ := H
    replace H : (if x337002_66 > t351 then ((overfallref02_Clamp.f t351 0 a1_6).bind fun t352 => (some (t344, t335, t352))) else ((overfallref02_Clamp.f x337002_66 0 a1_6).bind fun t353 => (some (t344, t335, t353)))) = some (r1, r2, r3) := H
    have A103 := Aside0.mk A1030
    clear A1030
    by_cases c104 : x337002_66 > t351
    ·rw [if_pos c104] at H
     have c104b0 : decide (t351 < x337002_66) = true := decide_eq_true c104
     clear c104
     replace H := Option.bind_eq_some_iff.mp H
     obtain ⟨t352, A1050, H⟩ := H
     replace H : (some (t344, t335, t352)) = some (r1, r2, r3) := H
     have A105 := Aside0.mk A1050
     clear A1050
     simp only [Option.some.injEq, Prod.mk.injEq] at H
     obtain ⟨rfl, rfl, rfl⟩ := H
     have hnb106 := NB332_333.out
     have hnc106 := NB333_332.out
     have hnb107 := NB332_334.out
     have hnc107 := NB334_332.out
     have hnb108 := NB332_336.out
     have hnc108 := NB336_332.out
     have hcz109_0 : wc.cell? ⟨gb332, 0, none⟩ = some (.int .i64 a0_0) := (blk_cell BK332.out 0).trans rfl
     have hcz109_1 : wc.cell? ⟨gb332, 1, none⟩ = some (.int .i64 a0_1) := (blk_cell BK332.out 1).trans rfl
     have hcz109_2 : wc.cell? ⟨gb332, 2, none⟩ = some (.int .i64 a0_2) := (blk_cell BK332.out 2).trans rfl
     have hfz109_0 := blk_frozen BK332.out 0
     have hfz109_1 := blk_frozen BK332.out 1
     have hfz109_2 := blk_frozen BK332.out 2
     have hnb110 := NB333_334.out
     have hnc110 := NB334_333.out
     have hnb111 := NB333_336.out
     have hnc111 := NB336_333.out
     have hcz112_0 : wc.cell? ⟨gb333, 0, none⟩ = some (.int .i64 a1_0) := (blk_cell BK333.out 0).trans rfl
     have hcz112_1 : wc.cell? ⟨gb333, 1, none⟩ = some (.int .i64 a1_1) := (blk_cell BK333.out 1).trans rfl
     have hcz112_2 : wc.cell? ⟨gb333, 2, none⟩ = some (.int .i64 a1_2) := (blk_cell BK333.out 2).trans rfl
     have hcz112_3 : wc.cell? ⟨gb333, 3, none⟩ = some (.int .i64 a1_3) := (blk_cell BK333.out 3).trans rfl
     have hcz112_4 : wc.cell? ⟨gb333, 4, none⟩ = some (.int .i64 a1_4) := (blk_cell BK333.out 4).trans rfl
     have hcz112_5 : wc.cell? ⟨gb333, 5, none⟩ = some (.int .i64 a1_5) := (blk_cell BK333.out 5).trans rfl
     have hcz112_6 : wc.cell? ⟨gb333, 6, none⟩ = some (.int .i64 a1_6) := (blk_cell BK333.out 6).trans rfl
     have hfz112_0 := blk_frozen BK333.out 0
     have hfz112_1 := blk_frozen BK333.out 1
     have hfz112_2 := blk_frozen BK333.out 2
     have hfz112_3 := blk_frozen BK333.out 3
     have hfz112_4 := blk_frozen BK333.out 4
     have hfz112_5 := blk_frozen BK333.out 5
     have hfz112_6 := blk_frozen BK333.out 6
     go_wp2_with (first | ((with_reducible refine gate_callee (f := 27) rfl ?_); refine goesL_ (some 79) rfl rfl Try.func27 (by kernel_rfl) rfl #[.int .i64 a0_2, .int .i64 a1_5] rfl (by (try simp only [List.map_toArray, List.map_cons, List.map_nil]); first | done | rfl | (simp only [List.length_drop, List.length_take]; rfl)) ?_; (with_reducible refine (overfallref02_Add.calls kj66 a0_2 a1_5 t351 _ A103.out).mono ?_); rintro e w113 ⟨rfl, hb⟩; refine ⟨_, rfl, ?_⟩; have n0_ := Aside0.mk (blk_below (by exact BK332.out) hb); have n1_ := Aside0.mk (blk_below (by exact BK333.out) hb); have n2_ := Aside0.mk (blk_below (by exact BK334.out) hb); have n3_ := Aside0.mk (blk_below (by exact BK336.out) hb); have n4_ := Aside0.mk (below_step (by repeat (first | (with_reducible first | exact HB.out | apply below_alloc | apply pw_below_drewN | apply below_drew1 | refine below_set ?_ GE332.out | refine below_set ?_ GE333.out | refine below_set ?_ GE334.out | refine below_set ?_ GE336.out) | exact HB.out)) hb); clear BK332; clear BK333; clear BK334; clear BK336; clear HB; have BK332 := n0_; have BK333 := n1_; have BK334 := n2_; have BK336 := n3_; have HB := n4_; clear n0_ n1_ n2_ n3_ n4_; (try clear hb); (try clear hb2); (try clear hk); (try clear hi); have hnb114 := NB336_334.out; have hnc114 := NB334_336.out; have hcz115_0 : w113.cell? ⟨gb336, 0, none⟩ = some (.int .i64 t344) := (blk_cell BK336.out 0).trans rfl; have hcz115_1 : w113.cell? ⟨gb336, 1, none⟩ = some (.int .i64 t335) := (blk_cell BK336.out 1).trans rfl; have hcz115_2 : w113.cell? ⟨gb336, 2, none⟩ = some (.int .i64 x337002_66) := (blk_cell BK336.out 2).trans rfl; have hfz115_0 := blk_frozen BK336.out 0; have hfz115_1 := blk_frozen BK336.out 1; have hfz115_2 := blk_frozen BK336.out 2; have hcz116_0 : w113.cell? ⟨gb333, 0, none⟩ = some (.int .i64 a1_0) := (blk_cell BK333.out 0).trans rfl; have hcz116_1 : w113.cell? ⟨gb333, 1, none⟩ = some (.int .i64 a1_1) := (blk_cell BK333.out 1).trans rfl; have hcz116_2 : w113.cell? ⟨gb333, 2, none⟩ = some (.int .i64 a1_2) := (blk_cell BK333.out 2).trans rfl; have hcz116_3 : w113.cell? ⟨gb333, 3, none⟩ = some (.int .i64 a1_3) := (blk_cell BK333.out 3).trans rfl; have hcz116_4 : w113.cell? ⟨gb333, 4, none⟩ = some (.int .i64 a1_4) := (blk_cell BK333.out 4).trans rfl; have hcz116_5 : w113.cell? ⟨gb333, 5, none⟩ = some (.int .i64 a1_5) := (blk_cell BK333.out 5).trans rfl; have hcz116_6 : w113.cell? ⟨gb333, 6, none⟩ = some (.int .i64 a1_6) := (blk_cell BK333.out 6).trans rfl; have hfz116_0 := blk_frozen BK333.out 0; have hfz116_1 := blk_frozen BK333.out 1; have hfz116_2 := blk_frozen BK333.out 2; have hfz116_3 := blk_frozen BK333.out 3; have hfz116_4 := blk_frozen BK333.out 4; have hfz116_5 := blk_frozen BK333.out 5; have hfz116_6 := blk_frozen BK333.out 6) | ((with_reducible refine gate_callee (f := 26) rfl ?_); refine goesL_ (some 90) rfl rfl Try.func26 (by kernel_rfl) rfl #[.int .i64 t351, .int .i64 0, .int .i64 a1_6] rfl (by (try simp only [List.map_toArray, List.map_cons, List.map_nil]); first | done | rfl | (simp only [List.length_drop, List.length_take]; rfl)) ?_; (with_reducible refine (overfallref02_Clamp.calls t351 0 a1_6 t352 _ A105.out).mono ?_); rintro e w' ⟨rfl, ⟨nd, rfl⟩⟩; refine ⟨_, rfl, ?_⟩; have hcz117_0 : w113.cell? ⟨gb334, 0, none⟩ = some (.int .i64 0) := (blk_cell BK334.out 0).trans rfl; have hcz117_1 : w113.cell? ⟨gb334, 1, none⟩ = some (.int .i64 0) := (blk_cell BK334.out 1).trans rfl; have hcz117_2 : w113.cell? ⟨gb334, 2, none⟩ = some (.int .i64 0) := (blk_cell BK334.out 2).trans rfl; have hfz117_0 := blk_frozen BK334.out 0; have hfz117_1 := blk_frozen BK334.out 1; have hfz117_2 := blk_frozen BK334.out 2))
     refine bodyPost_ret (results_cell_row rfl _ _ gb334 30 #[.int .i64 t344, .int .i64 t335, .int .i64 t352] (0, 0) _ rfl (by refine blk_put (cs := #[.int .i64 t344, .int .i64 t335, .int .i64 0]) ?_ 2 _ rfl; refine blk_put (cs := #[.int .i64 t344, .int .i64 0, .int .i64 0]) ?_ 1 _ rfl; refine blk_put (cs := #[.int .i64 0, .int .i64 0, .int .i64 0]) ?_ 0 _ rfl; refine blk_far ?_ NB334_336.out _; refine blk_far ?_ NB334_336.out _; exact BK334.out) Try.underlying30 rfl (by kernel_rfl)) rfl ?_
     exact ⟨by first | rfl | (simp [errW_none, errW_some] <;> rfl) | (simp [*, errW_none, errW_some] <;> rfl), by repeat (first | (with_reducible first | exact HB.out | apply below_alloc | apply pw_below_drewN | apply below_drew1 | refine below_set ?_ GE332.out | refine below_set ?_ GE333.out | refine below_set ?_ GE334.out | refine below_set ?_ GE336.out) | exact HB.out)⟩
    ·rw [if_neg c104] at H
     have c104b0 : decide (t351 < x337002_66) = false := decide_eq_false c104
     clear c104
     replace H := Option.bind_eq_some_iff.mp H
     obtain ⟨t353, A1180, H⟩ := H
     replace H : (some (t344, t335, t353)) = some (r1, r2, r3) := H
     have A118 := Aside0.mk A1180
     clear A1180
     simp only [Option.some.injEq, Prod.mk.injEq] at H
     obtain ⟨rfl, rfl, rfl⟩ := H
     have hnb119 := NB332_333.out
     have hnc119 := NB333_332.out
     have hnb120 := NB332_334.out
     have hnc120 := NB334_332.out
     have hnb121 := NB332_336.out
     have hnc121 := NB336_332.out
     have hcz122_0 : wc.cell? ⟨gb332, 0, none⟩ = some (.int .i64 a0_0) := (blk_cell BK332.out 0).trans rfl
     have hcz122_1 : wc.cell? ⟨gb332, 1, none⟩ = some (.int .i64 a0_1) := (blk_cell BK332.out 1).trans rfl
     have hcz122_2 : wc.cell? ⟨gb332, 2, none⟩ = some (.int .i64 a0_2) := (blk_cell BK332.out 2).trans rfl
     have hfz122_0 := blk_frozen BK332.out 0
     have hfz122_1 := blk_frozen BK332.out 1
     have hfz122_2 := blk_frozen BK332.out 2
     have hnb123 := NB333_334.out
     have hnc123 := NB334_333.out
     have hnb124 := NB333_336.out
     have hnc124 := NB336_333.out
     have hcz125_0 : wc.cell? ⟨gb333, 0, none⟩ = some (.int .i64 a1_0) := (blk_cell BK333.out 0).trans rfl
     have hcz125_1 : wc.cell? ⟨gb333, 1, none⟩ = some (.int .i64 a1_1) := (blk_cell BK333.out 1).trans rfl
     have hcz125_2 : wc.cell? ⟨gb333, 2, none⟩ = some (.int .i64 a1_2) := (blk_cell BK333.out 2).trans rfl
     have hcz125_3 : wc.cell? ⟨gb333, 3, none⟩ = some (.int .i64 a1_3) := (blk_cell BK333.out 3).trans rfl
     have hcz125_4 : wc.cell? ⟨gb333, 4, none⟩ = some (.int .i64 a1_4) := (blk_cell BK333.out 4).trans rfl
     have hcz125_5 : wc.cell? ⟨gb333, 5, none⟩ = some (.int .i64 a1_5) := (blk_cell BK333.out 5).trans rfl
     have hcz125_6 : wc.cell? ⟨gb333, 6, none⟩ = some (.int .i64 a1_6) := (blk_cell BK333.out 6).trans rfl
     have hfz125_0 := blk_frozen BK333.out 0
     have hfz125_1 := blk_frozen BK333.out 1
     have hfz125_2 := blk_frozen BK333.out 2
     have hfz125_3 := blk_frozen BK333.out 3
     have hfz125_4 := blk_frozen BK333.out 4
     have hfz125_5 := blk_frozen BK333.out 5
     have hfz125_6 := blk_frozen BK333.out 6
     go_wp2_with (first | ((with_reducible refine gate_callee (f := 27) rfl ?_); refine goesL_ (some 79) rfl rfl Try.func27 (by kernel_rfl) rfl #[.int .i64 a0_2, .int .i64 a1_5] rfl (by (try simp only [List.map_toArray, List.map_cons, List.map_nil]); first | done | rfl | (simp only [List.length_drop, List.length_take]; rfl)) ?_; (with_reducible refine (overfallref02_Add.calls kj66 a0_2 a1_5 t351 _ A103.out).mono ?_); rintro e w126 ⟨rfl, hb⟩; refine ⟨_, rfl, ?_⟩; have n0_ := Aside0.mk (blk_below (by exact BK332.out) hb); have n1_ := Aside0.mk (blk_below (by exact BK333.out) hb); have n2_ := Aside0.mk (blk_below (by exact BK334.out) hb); have n3_ := Aside0.mk (blk_below (by exact BK336.out) hb); have n4_ := Aside0.mk (below_step (by repeat (first | (with_reducible first | exact HB.out | apply below_alloc | apply pw_below_drewN | apply below_drew1 | refine below_set ?_ GE332.out | refine below_set ?_ GE333.out | refine below_set ?_ GE334.out | refine below_set ?_ GE336.out) | exact HB.out)) hb); clear BK332; clear BK333; clear BK334; clear BK336; clear HB; have BK332 := n0_; have BK333 := n1_; have BK334 := n2_; have BK336 := n3_; have HB := n4_; clear n0_ n1_ n2_ n3_ n4_; (try clear hb); (try clear hb2); (try clear hk); (try clear hi); have hnb127 := NB336_334.out; have hnc127 := NB334_336.out; have hcz128_0 : w126.cell? ⟨gb336, 0, none⟩ = some (.int .i64 t344) := (blk_cell BK336.out 0).trans rfl; have hcz128_1 : w126.cell? ⟨gb336, 1, none⟩ = some (.int .i64 t335) := (blk_cell BK336.out 1).trans rfl; have hcz128_2 : w126.cell? ⟨gb336, 2, none⟩ = some (.int .i64 x337002_66) := (blk_cell BK336.out 2).trans rfl; have hfz128_0 := blk_frozen BK336.out 0; have hfz128_1 := blk_frozen BK336.out 1; have hfz128_2 := blk_frozen BK336.out 2; have hcz129_0 : w126.cell? ⟨gb333, 0, none⟩ = some (.int .i64 a1_0) := (blk_cell BK333.out 0).trans rfl; have hcz129_1 : w126.cell? ⟨gb333, 1, none⟩ = some (.int .i64 a1_1) := (blk_cell BK333.out 1).trans rfl; have hcz129_2 : w126.cell? ⟨gb333, 2, none⟩ = some (.int .i64 a1_2) := (blk_cell BK333.out 2).trans rfl; have hcz129_3 : w126.cell? ⟨gb333, 3, none⟩ = some (.int .i64 a1_3) := (blk_cell BK333.out 3).trans rfl; have hcz129_4 : w126.cell? ⟨gb333, 4, none⟩ = some (.int .i64 a1_4) := (blk_cell BK333.out 4).trans rfl; have hcz129_5 : w126.cell? ⟨gb333, 5, none⟩ = some (.int .i64 a1_5) := (blk_cell BK333.out 5).trans rfl; have hcz129_6 : w126.cell? ⟨gb333, 6, none⟩ = some (.int .i64 a1_6) := (blk_cell BK333.out 6).trans rfl; have hfz129_0 := blk_frozen BK333.out 0; have hfz129_1 := blk_frozen BK333.out 1; have hfz129_2 := blk_frozen BK333.out 2; have hfz129_3 := blk_frozen BK333.out 3; have hfz129_4 := blk_frozen BK333.out 4; have hfz129_5 := blk_frozen BK333.out 5; have hfz129_6 := blk_frozen BK333.out 6) | ((with_reducible refine gate_callee (f := 26) rfl ?_); refine goesL_ (some 90) rfl rfl Try.func26 (by kernel_rfl) rfl #[.int .i64 x337002_66, .int .i64 0, .int .i64 a1_6] rfl (by (try simp only [List.map_toArray, List.map_cons, List.map_nil]); first | done | rfl | (simp only [List.length_drop, List.length_take]; rfl)) ?_; (with_reducible refine (overfallref02_Clamp.calls x337002_66 0 a1_6 t353 _ A118.out).mono ?_); rintro e w' ⟨rfl, ⟨nd, rfl⟩⟩; refine ⟨_, rfl, ?_⟩; (try (rw [drewN_self w126]; generalize hq_ : World.drewN w126 _ = w126; have n0_ : Aside0 (w126.heap[gb332]? = some (.cells #[.int .i64 a0_0, .int .i64 a0_1, .int .i64 a0_2] 30 (0, 0))) := ⟨by rw [← hq_]; exact (by exact BK332.out)⟩; have n1_ : Aside0 (w126.heap[gb333]? = some (.cells #[.int .i64 a1_0, .int .i64 a1_1, .int .i64 a1_2, .int .i64 a1_3, .int .i64 a1_4, .int .i64 a1_5, .int .i64 a1_6] 36 (0, 0))) := ⟨by rw [← hq_]; exact (by exact BK333.out)⟩; have n2_ : Aside0 (w126.heap[gb334]? = some (.cells #[.int .i64 0, .int .i64 0, .int .i64 0] 30 (0, 0))) := ⟨by rw [← hq_]; exact (by exact BK334.out)⟩; have n3_ : Aside0 (w126.heap[gb336]? = some (.cells #[.int .i64 t344, .int .i64 t335, .int .i64 x337002_66] 30 (0, 0))) := ⟨by rw [← hq_]; exact (by exact BK336.out)⟩; have n4_ : Aside0 (Below w.heap.size w w126) := ⟨by rw [← hq_]; exact (by repeat (first | (with_reducible first | exact HB.out | apply below_alloc | apply pw_below_drewN | apply below_drew1 | refine below_set ?_ GE332.out | refine below_set ?_ GE333.out | refine below_set ?_ GE334.out | refine below_set ?_ GE336.out) | exact HB.out))⟩; clear BK332 BK333 BK334 BK336 HB hq_; have BK332 := n0_; have BK333 := n1_; have BK334 := n2_; have BK336 := n3_; have HB := n4_; clear n0_ n1_ n2_ n3_ n4_)); (try (have hcy336_0 : w126.cell? ⟨gb336, 0, none⟩ = some (.int .i64 t344) := (blk_cell BK336.out 0).trans rfl)); (try have hfy336_0 := blk_frozen BK336.out 0); (try (have hcy336_1 : w126.cell? ⟨gb336, 1, none⟩ = some (.int .i64 t335) := (blk_cell BK336.out 1).trans rfl)); (try have hfy336_1 := blk_frozen BK336.out 1); (try (have hcy336_2 : w126.cell? ⟨gb336, 2, none⟩ = some (.int .i64 x337002_66) := (blk_cell BK336.out 2).trans rfl)); (try have hfy336_2 := blk_frozen BK336.out 2); (try (have hcy333_0 : w126.cell? ⟨gb333, 0, none⟩ = some (.int .i64 a1_0) := (blk_cell BK333.out 0).trans rfl)); (try have hfy333_0 := blk_frozen BK333.out 0); (try (have hcy333_1 : w126.cell? ⟨gb333, 1, none⟩ = some (.int .i64 a1_1) := (blk_cell BK333.out 1).trans rfl)); (try have hfy333_1 := blk_frozen BK333.out 1); (try (have hcy333_2 : w126.cell? ⟨gb333, 2, none⟩ = some (.int .i64 a1_2) := (blk_cell BK333.out 2).trans rfl)); (try have hfy333_2 := blk_frozen BK333.out 2); (try (have hcy333_3 : w126.cell? ⟨gb333, 3, none⟩ = some (.int .i64 a1_3) := (blk_cell BK333.out 3).trans rfl)); (try have hfy333_3 := blk_frozen BK333.out 3); (try (have hcy333_4 : w126.cell? ⟨gb333, 4, none⟩ = some (.int .i64 a1_4) := (blk_cell BK333.out 4).trans rfl)); (try have hfy333_4 := blk_frozen BK333.out 4); (try (have hcy333_5 : w126.cell? ⟨gb333, 5, none⟩ = some (.int .i64 a1_5) := (blk_cell BK333.out 5).trans rfl)); (try have hfy333_5 := blk_frozen BK333.out 5); (try (have hcy333_6 : w126.cell? ⟨gb333, 6, none⟩ = some (.int .i64 a1_6) := (blk_cell BK333.out 6).trans rfl)); (try have hfy333_6 := blk_frozen BK333.out 6); have hcz130_0 : w126.cell? ⟨gb334, 0, none⟩ = some (.int .i64 0) := (blk_cell BK334.out 0).trans rfl; have hcz130_1 : w126.cell? ⟨gb334, 1, none⟩ = some (.int .i64 0) := (blk_cell BK334.out 1).trans rfl; have hcz130_2 : w126.cell? ⟨gb334, 2, none⟩ = some (.int .i64 0) := (blk_cell BK334.out 2).trans rfl; have hfz130_0 := blk_frozen BK334.out 0; have hfz130_1 := blk_frozen BK334.out 1; have hfz130_2 := blk_frozen BK334.out 2))
     refine bodyPost_ret (results_cell_row rfl _ _ gb334 30 #[.int .i64 t344, .int .i64 t335, .int .i64 t353] (0, 0) _ rfl (by refine blk_put (cs := #[.int .i64 t344, .int .i64 t335, .int .i64 0]) ?_ 2 _ rfl; refine blk_put (cs := #[.int .i64 t344, .int .i64 0, .int .i64 0]) ?_ 1 _ rfl; refine blk_put (cs := #[.int .i64 0, .int .i64 0, .int .i64 0]) ?_ 0 _ rfl; refine blk_far ?_ NB334_336.out _; exact BK334.out) Try.underlying30 rfl (by kernel_rfl)) rfl ?_
     exact ⟨by first | rfl | (simp [errW_none, errW_some] <;> rfl) | (simp [*, errW_none, errW_some] <;> rfl), by repeat (first | (with_reducible first | exact HB.out | apply below_alloc | apply pw_below_drewN | apply below_drew1 | refine below_set ?_ GE332.out | refine below_set ?_ GE333.out | refine below_set ?_ GE334.out | refine below_set ?_ GE336.out) | exact HB.out)⟩

end Go.Proofs.Ythmapfhemiamhaa.S

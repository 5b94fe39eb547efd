-- Laid by a program of this claim's session (wip/tools/myprint.py) over the kit's printer.
import Derived.Test.YtdgbehbiigggmaaGx0
import Derived.Test.YtdgbehbiigggmaaGx1
import Derived.Test.YtdgbehbiigggmaaGx2
import Derived.Test.YtdgbehbiigggmaaGx3
import Derived.Test.YtdgbehbiigggmaaGx4
import Derived.Test.YtdgbehbiigggmaaGx5
import Derived.Test.YtdgbehbiigggmaaGx9
namespace Go.Proofs.Ytdgbehbiigggmaa.G
open Go.RowKit Go.Proofs.YtdgbehbiigggmaaW.PrintWords Go.Proofs.YtdgbehbiigggmaaW.PrintLast Go.Proofs.YtdgbehbiigggmaaW.PrintMore
attribute [local go_sem] max2_int min2_int max_two min_two max_three min_three max_four min_four   -- for this text's walks alone
set_option linter.unusedVariables false
set_option linter.unusedSimpArgs false

attribute [local go_sem high] eqA25 eqA29
/-! ### overfalllaw01_WideDivs: function 4 -/
def overfalllaw01_WideDivs.j0 : Nat → Int → Int → Bool → Int → Int → Int → Int → Option (Bool)
  | 0, _, _, _, _, _, _, _ => none
  | k + 1, x1, x6, x36, x233000, x233001, x238000, x238001 => if x36 = true then (none) else (if x1 = 0 then (if (x238000 == 0 && (x238001 == 0)) = true then (some (x6 == 0)) else (none)) else ((wide_Mul.f x238001 x1).bind fun bt246 => ((wide_Mul.f x238000 x1).bind fun bt249 => ((wide_Num_Add.f bt246.1 bt246.2 bt249.2 0).bind fun bt252 => ((wide_Of.f x6).bind fun bt255 => ((wide_Num_Add.f bt252.1 bt252.2.1 bt255.1 bt255.2).bind fun bt257 => (if x6 < x1 then (if (bt257.1 == x233000 && (bt257.2.1 == x233001)) = true then (if bt249.1 = 0 then (if bt252.2.2 = true then (none) else (some (!bt257.2.2))) else (none)) else (none)) else (none))))))))
def overfalllaw01_WideDivs.f (k : Nat) (a0_0 : Int) (a0_1 : Int) (a1 : Int) : Option (Bool) := (overfalllaw01_awake.f k).bind fun t233 => (if t233 = true then ((wide_Num_Div.f k a0_0 a0_1 a1).bind fun bt234 => ((overfalllaw01_own.f a0_0 a0_1).bind fun bt238 => ((overfallref01_Div.f k bt238.1 bt238.2 a1).bind fun bt240 => ((overfalllaw01_own.f bt234.1 bt234.2.1).bind fun bt244 => (if (!(bt244.1 == bt240.1) || (!(bt244.2 == bt240.2.1))) = true then (overfalllaw01_WideDivs.j0 k a1 bt234.2.2 true a0_0 a0_1 bt234.1 bt234.2.1) else (overfalllaw01_WideDivs.j0 k a1 bt234.2.2 (bt234.2.2 != bt240.2.2) a0_0 a0_1 bt234.1 bt234.2.1)))))) else (none))
theorem overfalllaw01_WideDivs.mono_l : ∀ k, (∀ y0 y1 y2 y3 y4 y5 y6, LeO (overfalllaw01_WideDivs.j0 k y0 y1 y2 y3 y4 y5 y6) (overfalllaw01_WideDivs.j0 (k + 1) y0 y1 y2 y3 y4 y5 y6))
  | 0 => fun _ _ _ _ _ _ _ r h => by simp [overfalllaw01_WideDivs.j0] at h
  | k + 1 => by
    have ih0 := overfalllaw01_WideDivs.mono_l k
    · intro y0 y1 y2 y3 y4 y5 y6
      unfold overfalllaw01_WideDivs.j0
      repeat' first
      | (with_reducible exact ih0 _ _ _ _ _ _ _)
      | (with_reducible exact overfalllaw01_awake.mono _)
      | (with_reducible exact overfallref01_Div.mono _ _ _ _)
      | (with_reducible exact wide_Num_Div.mono _ _ _ _)
      | (with_reducible exact LeO.refl _)
      | (with_reducible exact LeO.none _)
      | (with_reducible refine LeO.ite ?_ ?_)
      | (with_reducible refine LeO.bind ?_ (fun _ => ?_))
      | exact ih0 _ _ _ _ _ _ _
      | exact overfalllaw01_awake.mono _
      | exact overfallref01_Div.mono _ _ _ _
      | exact wide_Num_Div.mono _ _ _ _
      | exact LeO.none _
      | refine LeO.ite ?_ ?_
      | refine LeO.bind ?_ (fun _ => ?_)
theorem overfalllaw01_WideDivs.mono : ∀ a0 a1 a2 k, LeO (overfalllaw01_WideDivs.f k a0 a1 a2) (overfalllaw01_WideDivs.f (k + 1) a0 a1 a2) := by
  intro a0 a1 a2 k
  have ih0 := overfalllaw01_WideDivs.mono_l k
  unfold overfalllaw01_WideDivs.f
  repeat' first
      | (with_reducible exact ih0 _ _ _ _ _ _ _)
      | (with_reducible exact overfalllaw01_awake.mono _)
      | (with_reducible exact overfallref01_Div.mono _ _ _ _)
      | (with_reducible exact wide_Num_Div.mono _ _ _ _)
      | (with_reducible exact LeO.refl _)
      | (with_reducible exact LeO.none _)
      | (with_reducible refine LeO.ite ?_ ?_)
      | (with_reducible refine LeO.bind ?_ (fun _ => ?_))
      | exact ih0 _ _ _ _ _ _ _
      | exact overfalllaw01_awake.mono _
      | exact overfallref01_Div.mono _ _ _ _
      | exact wide_Num_Div.mono _ _ _ _
      | exact LeO.none _
      | refine LeO.ite ?_ ?_
      | refine LeO.bind ?_ (fun _ => ?_)
def overfalllaw01_WideDivs.T5 : Bool × List (List Nat × List Nat) := (true, [([], []), ([0], [0]), ([], []), ([1, 2], [1, 2]), ([3, 1], [3]), ([4], [4]), ([4], [4]), ([5, 6, 4], [4, 5, 6]), ([4, 7], [4, 7])])
def overfalllaw01_WideDivs.B5 : List Nat := [0, 1, 0, 7, 15, 31, 31, 127, 255]
theorem overfalllaw01_WideDivs.tab5 : rtab .any (opsOf Try.f4 5) = overfalllaw01_WideDivs.T5 := by kernel_rfl
theorem overfalllaw01_WideDivs.bits5 : waitsOk overfalllaw01_WideDivs.T5.2 overfalllaw01_WideDivs.B5 = true := by kernel_rfl
def overfalllaw01_WideDivs.T12 : Bool × List (List Nat × List Nat) := (true, [([], []), ([], []), ([1], [1]), ([0, 2, 2], [0, 2]), ([3], [3]), ([4], [4]), ([4], [4]), ([5, 3, 0, 1, 2, 3, 4, 5], [5]), ([6, 7, 0, 1, 2, 3, 4, 5, 6, 7], [6])])
def overfalllaw01_WideDivs.B12 : List Nat := [0, 0, 2, 7, 15, 31, 31, 63, 255]
theorem overfalllaw01_WideDivs.tab12 : rtab .any (opsOf Try.f4 12) = overfalllaw01_WideDivs.T12 := by kernel_rfl
theorem overfalllaw01_WideDivs.bits12 : waitsOk overfalllaw01_WideDivs.T12.2 overfalllaw01_WideDivs.B12 = true := by kernel_rfl
set_option maxHeartbeats 8000000 in
set_option maxRecDepth 100000 in
theorem overfalllaw01_WideDivs.calls (k : Nat) (a0_0 : Int) (a0_1 : Int) (a1 : Int) (r : Bool) (w : World) (h : overfalllaw01_WideDivs.f k a0_0 a0_1 a1 = some r) :
    Calls Try.prog 4 #[.agg #[.int .u64 a0_0, .int .u64 a0_1], .int .u64 a1] w fun e w' => e = .returned (.bool r) ∧ Below w.heap.size w w' := by
  have hu25 := Try.underlying25
  have hu29 := Try.underlying29
  have HB := Aside0.mk (Below.refl w.heap.size w)
  have H : ((overfalllaw01_awake.f k).bind fun t233 => (if t233 = true then ((wide_Num_Div.f k a0_0 a0_1 a1).bind fun bt234 => ((overfalllaw01_own.f a0_0 a0_1).bind fun bt238 => ((overfallref01_Div.f k bt238.1 bt238.2 a1).bind fun bt240 => ((overfalllaw01_own.f bt234.1 bt234.2.1).bind fun bt244 => (if (!(bt244.1 == bt240.1) || (!(bt244.2 == bt240.2.1))) = true then (overfalllaw01_WideDivs.j0 k a1 bt234.2.2 true a0_0 a0_1 bt234.1 bt234.2.1) else (overfalllaw01_WideDivs.j0 k a1 bt234.2.2 (bt234.2.2 != bt240.2.2) a0_0 a0_1 bt234.1 bt234.2.1)))))) else (none))) = some r := h
  clear h
  replace H := Option.bind_eq_some_iff.mp H
  obtain ⟨t233, A30, H⟩ := H
  replace H : (if t233 = true then ((wide_Num_Div.f k a0_0 a0_1 a1).bind fun bt234 => ((overfalllaw01_own.f a0_0 a0_1).bind fun bt238 => ((overfallref01_Div.f k bt238.1 bt238.2 a1).bind fun bt240 => ((overfalllaw01_own.f bt234.1 bt234.2.1).bind fun bt244 => (if (!(bt244.1 == bt240.1) || (!(bt244.2 == bt240.2.1))) = true then (overfalllaw01_WideDivs.j0 k a1 bt234.2.2 true a0_0 a0_1 bt234.1 bt234.2.1) else (overfalllaw01_WideDivs.j0 k a1 bt234.2.2 (bt234.2.2 != bt240.2.2) a0_0 a0_1 bt234.1 bt234.2.1)))))) else (none)) = some r := H
  have A3 := Aside0.mk A30
  clear A30
  by_cases c4 : t233 = true
  · subst c4
    have H1 : ((wide_Num_Div.f k a0_0 a0_1 a1).bind fun bt234 => ((overfalllaw01_own.f a0_0 a0_1).bind fun bt238 => ((overfallref01_Div.f k bt238.1 bt238.2 a1).bind fun bt240 => ((overfalllaw01_own.f bt234.1 bt234.2.1).bind fun bt244 => (if (!(bt244.1 == bt240.1) || (!(bt244.2 == bt240.2.1))) = true then (overfalllaw01_WideDivs.j0 k a1 bt234.2.2 true a0_0 a0_1 bt234.1 bt234.2.1) else (overfalllaw01_WideDivs.j0 k a1 bt234.2.2 (bt234.2.2 != bt240.2.2) a0_0 a0_1 bt234.1 bt234.2.1)))))) = some r := by rw [if_pos rfl] at H; exact H
    clear H
    have H := H1
    clear H1
    replace H := Option.bind_eq_some_iff.mp H
    obtain ⟨⟨t234, t235, t236⟩, A50, H⟩ := H
    replace H : ((overfalllaw01_own.f a0_0 a0_1).bind fun bt238 => ((overfallref01_Div.f k bt238.1 bt238.2 a1).bind fun bt240 => ((overfalllaw01_own.f t234 t235).bind fun bt244 => (if (!(bt244.1 == bt240.1) || (!(bt244.2 == bt240.2.1))) = true then (overfalllaw01_WideDivs.j0 k a1 t236 true a0_0 a0_1 t234 t235) else (overfalllaw01_WideDivs.j0 k a1 t236 (t236 != bt240.2.2) a0_0 a0_1 t234 t235))))) = some r := H
    have A5 := Aside0.mk A50
    clear A50
    replace H := Option.bind_eq_some_iff.mp H
    obtain ⟨⟨t238, t239⟩, A60, H⟩ := H
    replace H : ((overfallref01_Div.f k t238 t239 a1).bind fun bt240 => ((overfalllaw01_own.f t234 t235).bind fun bt244 => (if (!(bt244.1 == bt240.1) || (!(bt244.2 == bt240.2.1))) = true then (overfalllaw01_WideDivs.j0 k a1 t236 true a0_0 a0_1 t234 t235) else (overfalllaw01_WideDivs.j0 k a1 t236 (t236 != bt240.2.2) a0_0 a0_1 t234 t235)))) = some r := H
    have A6 := Aside0.mk A60
    clear A60
    replace H := Option.bind_eq_some_iff.mp H
    obtain ⟨⟨t240, t241, t242⟩, A70, H⟩ := H
    replace H : ((overfalllaw01_own.f t234 t235).bind fun bt244 => (if (!(bt244.1 == t240) || (!(bt244.2 == t241))) = true then (overfalllaw01_WideDivs.j0 k a1 t236 true a0_0 a0_1 t234 t235) else (overfalllaw01_WideDivs.j0 k a1 t236 (t236 != t242) a0_0 a0_1 t234 t235))) = some r := H
    have A7 := Aside0.mk A70
    clear A70
    have HC8 := Aside0.mk H
    clear H
    go_enter Try.func4, Try.ntmps4
    go_upto_region 5 with (first | ((with_reducible refine gate_dst (N := 2) rfl ?_); refine box_event ?hg (N := 2) ?hd (cs := #[.int .u64 a0_0, .int .u64 a0_1]) (t := 25) ?hr ?_; (case hd => rfl); (case hg => rfl); (case hr => first | (go_simp; done) | (go_simp; rfl)); intro gb232 hg w9 hbox hb; have n0_ := Aside0.mk (below_step (by repeat (first | (with_reducible first | exact HB.out | apply below_alloc | apply pw_below_drewN | apply below_drew1) | exact HB.out)) hb); have n1_ := Aside0.mk (hbox); have n2_ := Aside0.mk ((by rw [hg]; exact (below_size (by repeat (first | (with_reducible first | exact HB.out | apply below_alloc | apply pw_below_drewN | apply below_drew1) | exact HB.out))) : w.heap.size ≤ gb232)); have n3_ := Aside0.mk ((by rw [hg]; exact (below_size (by repeat (first | (with_reducible first | exact HB.out | apply below_alloc | apply pw_below_drewN | apply below_drew1) | exact HB.out))) : w.heap.size ≤ gb232)); clear HB; have HB := n0_; have BK232 := n1_; have GW232 := n2_; have GE232 := n3_; clear n0_ n1_ n2_ n3_; clear hb hbox hg) | ((with_reducible refine gate_callee (f := 11) rfl ?_); refine goesL_ (some 13) rfl rfl Try.func11 (by kernel_rfl) rfl #[] rfl (by (try simp only [List.map_toArray, List.map_cons, List.map_nil]); first | done | rfl | (simp only [List.length_drop, List.length_take]; rfl)) ?_; (with_reducible refine (overfalllaw01_awake.calls k  true _ A3.out).mono ?_); rintro e w10 ⟨rfl, hb⟩; refine ⟨_, rfl, ?_⟩; have n0_ := Aside0.mk (blk_below (g := gb232) (o := .cells #[.int .u64 a0_0, .int .u64 a0_1] 25 (0, 0)) (by exact BK232.out) hb); have n1_ := Aside0.mk (below_step (by repeat (first | (with_reducible first | exact HB.out | apply below_alloc | apply pw_below_drewN | apply below_drew1 | refine below_set ?_ GE232.out) | exact HB.out)) hb); clear BK232; clear HB; have BK232 := n0_; have HB := n1_; clear n0_ n1_; (try clear hb); (try clear hb2); (try clear hk); (try clear hi); have hcz11_0 : w10.cell? ⟨gb232, 0, none⟩ = some (.int .u64 a0_0) := (blk_cell BK232.out 0).trans rfl; have hcz11_1 : w10.cell? ⟨gb232, 1, none⟩ = some (.int .u64 a0_1) := (blk_cell BK232.out 1).trans rfl; have hfz11_0 := blk_frozen BK232.out 0; have hfz11_1 := blk_frozen BK232.out 1) | ((with_reducible refine gate_callee (f := 13) rfl ?_); refine goesL_ (some 18) rfl rfl Try.func13 (by kernel_rfl) rfl #[.agg #[.int .u64 a0_0, .int .u64 a0_1], .int .u64 a1] rfl (by (try simp only [List.map_toArray, List.map_cons, List.map_nil]); first | done | rfl | (simp only [List.length_drop, List.length_take]; rfl)) ?_; (with_reducible refine (wide_Num_Div.calls k a0_0 a0_1 a1 t234 t235 t236 _ A5.out).mono ?_); rintro e w12 ⟨rfl, hb⟩; refine ⟨_, rfl, ?_⟩; have n0_ := Aside0.mk (blk_below (g := gb232) (o := .cells #[.int .u64 a0_0, .int .u64 a0_1] 25 (0, 0)) (by exact BK232.out) hb); have n1_ := Aside0.mk (below_step (by repeat (first | (with_reducible first | exact HB.out | apply below_alloc | apply pw_below_drewN | apply below_drew1 | refine below_set ?_ GE232.out) | exact HB.out)) hb); clear BK232; clear HB; have BK232 := n0_; have HB := n1_; clear n0_ n1_; (try clear hb); (try clear hb2); (try clear hk); (try clear hi)) | ((with_reducible refine gate_dst (N := 5) rfl ?_); refine box_event ?hg (N := 5) ?hd (cs := #[.int .u64 0, .int .u64 0]) (t := 25) ?hr ?_; (case hd => rfl); (case hg => rfl); (case hr => first | (go_simp; done) | (go_simp; rfl)); intro gb237 hg w13 hbox hb; have n0_ := Aside0.mk (blk_below (g := gb232) (o := .cells #[.int .u64 a0_0, .int .u64 a0_1] 25 (0, 0)) (by exact BK232.out) hb); have n1_ := Aside0.mk (below_step (by repeat (first | (with_reducible first | exact HB.out | apply below_alloc | apply pw_below_drewN | apply below_drew1 | refine below_set ?_ GE232.out) | exact HB.out)) hb); have n2_ := Aside0.mk (hbox); have n3_ := Aside0.mk ((by rw [hg]; exact (below_size (by repeat (first | (with_reducible first | exact HB.out | apply below_alloc | apply pw_below_drewN | apply below_drew1 | refine below_set ?_ GE232.out) | exact HB.out))) : w.heap.size ≤ gb237)); have n4_ := Aside0.mk ((by rw [hg]; exact (below_size (by repeat (first | (with_reducible first | exact HB.out | apply below_alloc | apply pw_below_drewN | apply below_drew1 | refine below_set ?_ GE232.out) | exact HB.out))) : w.heap.size ≤ gb237)); have n5_ := Aside0.mk ((by rw [hg]; exact Nat.ne_of_lt (blk_lt (g := gb232) (o := .cells #[.int .u64 a0_0, .int .u64 a0_1] 25 (0, 0)) (by exact BK232.out)) : gb232 ≠ gb237)); have n6_ := Aside0.mk ((by rw [hg]; exact Nat.ne_of_gt (blk_lt (g := gb232) (o := .cells #[.int .u64 a0_0, .int .u64 a0_1] 25 (0, 0)) (by exact BK232.out)) : gb237 ≠ gb232)); clear BK232; clear HB; have BK232 := n0_; have HB := n1_; have BK237 := n2_; have GW237 := n3_; have GE237 := n4_; have NB232_237 := n5_; have NB237_232 := n6_; clear n0_ n1_ n2_ n3_ n4_ n5_ n6_; clear hb hbox hg; have hnb14 := NB237_232.out; have hnc14 := NB232_237.out; have hcz15_0 : w13.cell? ⟨gb237, 0, none⟩ = some (.int .u64 0) := (blk_cell BK237.out 0).trans rfl; have hcz15_1 : w13.cell? ⟨gb237, 1, none⟩ = some (.int .u64 0) := (blk_cell BK237.out 1).trans rfl; have hfz15_0 := blk_frozen BK237.out 0; have hfz15_1 := blk_frozen BK237.out 1; have hcz16_0 : w13.cell? ⟨gb232, 0, none⟩ = some (.int .u64 a0_0) := (blk_cell BK232.out 0).trans rfl; have hcz16_1 : w13.cell? ⟨gb232, 1, none⟩ = some (.int .u64 a0_1) := (blk_cell BK232.out 1).trans rfl; have hfz16_0 := blk_frozen BK232.out 0; have hfz16_1 := blk_frozen BK232.out 1) | ((with_reducible refine gate_callee (f := 14) rfl ?_); refine goesL_ (some 23) rfl rfl Try.func14 (by kernel_rfl) rfl #[.agg #[.int .u64 a0_0, .int .u64 a0_1]] rfl (by (try simp only [List.map_toArray, List.map_cons, List.map_nil]); first | done | rfl | (simp only [List.length_drop, List.length_take]; rfl)) ?_; (with_reducible refine (overfalllaw01_own.calls a0_0 a0_1 t238 t239 _ A6.out).mono ?_); rintro e w17 ⟨rfl, hb⟩; refine ⟨_, rfl, ?_⟩; have n0_ := Aside0.mk (blk_below (g := gb232) (o := .cells #[.int .u64 a0_0, .int .u64 a0_1] 25 (0, 0)) (by refine blk_far ?_ NB232_237.out _; refine blk_far ?_ NB232_237.out _; exact BK232.out) hb); have n1_ := Aside0.mk (blk_below (g := gb237) (o := .cells #[.int .u64 t234, .int .u64 t235] 25 (0, 0)) (by refine blk_put (cs := #[.int .u64 t234, .int .u64 0]) ?_ 1 _ rfl; refine blk_put (cs := #[.int .u64 0, .int .u64 0]) ?_ 0 _ rfl; exact BK237.out) hb); have n2_ := Aside0.mk (below_step (by repeat (first | (with_reducible first | exact HB.out | apply below_alloc | apply pw_below_drewN | apply below_drew1 | refine below_set ?_ GE232.out | refine below_set ?_ GE237.out) | exact HB.out)) hb); clear BK232; clear BK237; clear HB; have BK232 := n0_; have BK237 := n1_; have HB := n2_; clear n0_ n1_ n2_; (try clear hb); (try clear hb2); (try clear hk); (try clear hi)) | ((with_reducible refine gate_callee (f := 17) rfl ?_); refine goesL_ (some 25) rfl rfl Try.func17 (by kernel_rfl) rfl #[.agg #[.int .u64 t238, .int .u64 t239], .int .u64 a1] rfl (by (try simp only [List.map_toArray, List.map_cons, List.map_nil]); first | done | rfl | (simp only [List.length_drop, List.length_take]; rfl)) ?_; (with_reducible refine (overfallref01_Div.calls k t238 t239 a1 t240 t241 t242 _ A7.out).mono ?_); rintro e w18 ⟨rfl, hb⟩; refine ⟨_, rfl, ?_⟩; have n0_ := Aside0.mk (blk_below (g := gb232) (o := .cells #[.int .u64 a0_0, .int .u64 a0_1] 25 (0, 0)) (by exact BK232.out) hb); have n1_ := Aside0.mk (blk_below (g := gb237) (o := .cells #[.int .u64 t234, .int .u64 t235] 25 (0, 0)) (by exact BK237.out) hb); have n2_ := Aside0.mk (below_step (by repeat (first | (with_reducible first | exact HB.out | apply below_alloc | apply pw_below_drewN | apply below_drew1 | refine below_set ?_ GE232.out | refine below_set ?_ GE237.out) | exact HB.out)) hb); clear BK232; clear BK237; clear HB; have BK232 := n0_; have BK237 := n1_; have HB := n2_; clear n0_ n1_ n2_; (try clear hb); (try clear hb2); (try clear hk); (try clear hi)) | ((with_reducible refine gate_dst (N := 7) rfl ?_); refine box_event ?hg (N := 7) ?hd (cs := #[.int .u64 0, .int .u64 0]) (t := 29) ?hr ?_; (case hd => rfl); (case hg => rfl); (case hr => first | (go_simp; done) | (go_simp; rfl)); intro gb243 hg w19 hbox hb; have n0_ := Aside0.mk (blk_below (g := gb232) (o := .cells #[.int .u64 a0_0, .int .u64 a0_1] 25 (0, 0)) (by exact BK232.out) hb); have n1_ := Aside0.mk (blk_below (g := gb237) (o := .cells #[.int .u64 t234, .int .u64 t235] 25 (0, 0)) (by exact BK237.out) hb); have n2_ := Aside0.mk (below_step (by repeat (first | (with_reducible first | exact HB.out | apply below_alloc | apply pw_below_drewN | apply below_drew1 | refine below_set ?_ GE232.out | refine below_set ?_ GE237.out) | exact HB.out)) hb); have n3_ := Aside0.mk (hbox); have n4_ := Aside0.mk ((by rw [hg]; exact (below_size (by repeat (first | (with_reducible first | exact HB.out | apply below_alloc | apply pw_below_drewN | apply below_drew1 | refine below_set ?_ GE232.out | refine below_set ?_ GE237.out) | exact HB.out))) : w.heap.size ≤ gb243)); have n5_ := Aside0.mk ((by rw [hg]; exact (below_size (by repeat (first | (with_reducible first | exact HB.out | apply below_alloc | apply pw_below_drewN | apply below_drew1 | refine below_set ?_ GE232.out | refine below_set ?_ GE237.out) | exact HB.out))) : w.heap.size ≤ gb243)); have n6_ := Aside0.mk ((by rw [hg]; exact Nat.ne_of_lt (blk_lt (g := gb232) (o := .cells #[.int .u64 a0_0, .int .u64 a0_1] 25 (0, 0)) (by exact BK232.out)) : gb232 ≠ gb243)); have n7_ := Aside0.mk ((by rw [hg]; exact Nat.ne_of_gt (blk_lt (g := gb232) (o := .cells #[.int .u64 a0_0, .int .u64 a0_1] 25 (0, 0)) (by exact BK232.out)) : gb243 ≠ gb232)); have n8_ := Aside0.mk ((by rw [hg]; exact Nat.ne_of_lt (blk_lt (g := gb237) (o := .cells #[.int .u64 t234, .int .u64 t235] 25 (0, 0)) (by exact BK237.out)) : gb237 ≠ gb243)); have n9_ := Aside0.mk ((by rw [hg]; exact Nat.ne_of_gt (blk_lt (g := gb237) (o := .cells #[.int .u64 t234, .int .u64 t235] 25 (0, 0)) (by exact BK237.out)) : gb243 ≠ gb237)); clear BK232; clear BK237; clear HB; have BK232 := n0_; have BK237 := n1_; have HB := n2_; have BK243 := n3_; have GW243 := n4_; have GE243 := n5_; have NB232_243 := n6_; have NB243_232 := n7_; have NB237_243 := n8_; have NB243_237 := n9_; clear n0_ n1_ n2_ n3_ n4_ n5_ n6_ n7_ n8_ n9_; clear hb hbox hg; have hnb20 := NB243_232.out; have hnc20 := NB232_243.out; have hnb21 := NB243_237.out; have hnc21 := NB237_243.out; have hcz22_0 : w19.cell? ⟨gb243, 0, none⟩ = some (.int .u64 0) := (blk_cell BK243.out 0).trans rfl; have hcz22_1 : w19.cell? ⟨gb243, 1, none⟩ = some (.int .u64 0) := (blk_cell BK243.out 1).trans rfl; have hfz22_0 := blk_frozen BK243.out 0; have hfz22_1 := blk_frozen BK243.out 1))
    (try simp only [Act.put, List.setIfInBounds_toArray, List.set_cons_zero, List.set_cons_succ])
    go_cut [36] (fun v36 wc => ∃ (kq : Nat) (x36_7 : Bool), v36 = .bool x36_7 ∧ Aside0 (overfalllaw01_WideDivs.j0 kq a1 t236 x36_7 a0_0 a0_1 t234 t235 = some r) ∧ Aside0 (kq ≤ k) ∧ Aside0 (wc.heap[gb232]? = some (.cells #[.int .u64 a0_0, .int .u64 a0_1] 25 (0, 0))) ∧ Aside0 (wc.heap[gb237]? = some (.cells #[.int .u64 t234, .int .u64 t235] 25 (0, 0))) ∧ Aside0 (wc.heap[gb243]? = some (.cells #[.int .u64 t240, .int .u64 t241] 29 (0, 0))) ∧ Aside0 (Below w.heap.size w wc))
    case first =>
      have H := HC8.out
      clear HC8
      replace H := Option.bind_eq_some_iff.mp H
      obtain ⟨⟨t244, t245⟩, A230, H⟩ := H
      replace H : (if (!(t244 == t240) || (!(t245 == t241))) = true then (overfalllaw01_WideDivs.j0 k a1 t236 true a0_0 a0_1 t234 t235) else (overfalllaw01_WideDivs.j0 k a1 t236 (t236 != t242) a0_0 a0_1 t234 t235)) = some r := H
      have A23 := Aside0.mk A230
      clear A230
      by_cases c24 : (!(t244 == t240) || (!(t245 == t241))) = true
      · rw [if_pos c24] at H
        have c24b0 : (!(t244 == t240) || (!(t245 == t241))) = true := c24
        clear c24
        (first | rw [c24b0] | (simp only [i64_w, i32_w]; rw [c24b0]) | skip)
        have H' := Aside0.mk H
        clear H
        try go_wp2
        have n0_ : Aside0 (((w19.setCell ⟨gb243, 0, none⟩ (.int .u64 t240)).setCell ⟨gb243, 1, none⟩ (.int .u64 t241)).heap[gb232]? = some (.cells #[.int .u64 a0_0, .int .u64 a0_1] 25 (0, 0))) := ⟨by refine blk_far ?_ NB232_243.out _; refine blk_far ?_ NB232_243.out _; exact BK232.out⟩
        have n1_ : Aside0 (((w19.setCell ⟨gb243, 0, none⟩ (.int .u64 t240)).setCell ⟨gb243, 1, none⟩ (.int .u64 t241)).heap[gb237]? = some (.cells #[.int .u64 t234, .int .u64 t235] 25 (0, 0))) := ⟨by refine blk_far ?_ NB237_243.out _; refine blk_far ?_ NB237_243.out _; exact BK237.out⟩
        have n2_ : Aside0 (((w19.setCell ⟨gb243, 0, none⟩ (.int .u64 t240)).setCell ⟨gb243, 1, none⟩ (.int .u64 t241)).heap[gb243]? = some (.cells #[.int .u64 t240, .int .u64 t241] 29 (0, 0))) := ⟨by refine blk_put (cs := #[.int .u64 t240, .int .u64 0]) ?_ 1 _ rfl; refine blk_put (cs := #[.int .u64 0, .int .u64 0]) ?_ 0 _ rfl; exact BK243.out⟩
        have n3_ : Aside0 (Below w.heap.size w ((w19.setCell ⟨gb243, 0, none⟩ (.int .u64 t240)).setCell ⟨gb243, 1, none⟩ (.int .u64 t241))) := ⟨by repeat (first | (with_reducible first | exact HB.out | apply below_alloc | apply pw_below_drewN | apply below_drew1 | refine below_set ?_ GE232.out | refine below_set ?_ GE237.out | refine below_set ?_ GE243.out) | exact HB.out)⟩
        (try clear BK232)
        (try clear BK237)
        (try clear BK243)
        (try clear HB)
        generalize ((w19.setCell ⟨gb243, 0, none⟩ (.int .u64 t240)).setCell ⟨gb243, 1, none⟩ (.int .u64 t241)) = w25 at n0_ n1_ n2_ n3_ ⊢
        have BK232 := n0_
        have BK237 := n1_
        have BK243 := n2_
        have HB := n3_
        clear n0_ n1_ n2_ n3_
        have n0_ := Aside0.mk (blk_drew BK232.out)
        have n1_ := Aside0.mk (blk_drew BK237.out)
        have n2_ := Aside0.mk (blk_drew BK243.out)
        have n3_ := Aside0.mk (below_drew1 HB.out)
        clear BK232
        clear BK237
        clear BK243
        clear HB
        have BK232 := n0_
        have BK237 := n1_
        have BK243 := n2_
        have HB := n3_
        clear n0_ n1_ n2_ n3_
        refine start_ (n := 9) (S := fun w' => w'.cell? ⟨gb237, 0, none⟩ = some (.int .u64 t234) ∧ w'.cell? ⟨gb237, 1, none⟩ = some (.int .u64 t235) ∧ w'.cell? ⟨gb243, 0, none⟩ = some (.int .u64 t240) ∧ w'.cell? ⟨gb243, 1, none⟩ = some (.int .u64 t241)) (ds := []) #[false, false, false, false, false, false, false, false, false] (by kernel_rfl) rfl rfl ⟨(blk_cell BK237.out 0).trans rfl, (blk_cell BK237.out 1).trans rfl, (blk_cell BK243.out 0).trans rfl, (blk_cell BK243.out 1).trans rfl⟩ (fun hHeld => ?_); refine with_tabW overfalllaw01_WideDivs.tab5 overfalllaw01_WideDivs.bits5 (fun HT_ HW_ => ?_)
        generalize w25.drew = w26 at BK232 BK237 BK243 HB hHeld ⊢
        refine take_ (i := 0) (N := some 28) (v := ?_) (a' := ?_) #[true, false, false, false, false, false, false, false, false] rfl rfl (take_ofW HT_.out HW_.out (by kernel_rfl)) (fun _ _ _ h => h) (Or.inl ⟨by rfl, ?_⟩) hHeld ?_ ?_
        rotate_left
        · rintro w' ⟨s0, s1, s2, s3⟩
          go_simp
          with_reducible rfl
        rotate_left
        · simp only [Act.put, List.setIfInBounds_toArray, List.set_cons_zero, List.set_cons_succ, i64_w, i32_w]
          rfl
        refine take_ (i := 2) (N := some 30) (v := ?_) (a' := ?_) #[true, false, true, false, false, false, false, false, false] rfl rfl (take_ofW HT_.out HW_.out (by kernel_rfl)) (fun _ _ _ h => h) (Or.inl ⟨by rfl, ?_⟩) hHeld ?_ ?_
        rotate_left
        · rintro w' ⟨s0, s1, s2, s3⟩
          go_simp
          with_reducible rfl
        rotate_left
        · simp only [Act.put, List.setIfInBounds_toArray, List.set_cons_zero, List.set_cons_succ, i64_w, i32_w]
          rfl
        refine one_ (i := 1) (N := some 29) #[true, true, true, false, false, false, false, false, false] rfl rfl (one_of HT_.out (by kernel_rfl)) (by decide) (fun K hK => ?_)
        refine goes_ Try.func14 (by kernel_rfl) rfl #[.agg #[.int .u64 t234, .int .u64 t235]] (by rfl) rfl rfl (by (try simp only [List.map_toArray, List.map_cons, List.map_nil]); first | done | rfl | (simp only [List.length_drop, List.length_take]; rfl)) ?_
        with_reducible refine (overfalllaw01_own.calls t234 t235 t244 t245 _ A23.out).mono ?_
        rintro e w27 ⟨rfl, hb⟩
        refine ⟨_, rfl, ?_⟩
        have n0_ := Aside0.mk (blk_below (g := gb232) (o := .cells #[.int .u64 a0_0, .int .u64 a0_1] 25 (0, 0)) (by exact BK232.out) hb)
        have n1_ := Aside0.mk (blk_below (g := gb237) (o := .cells #[.int .u64 t234, .int .u64 t235] 25 (0, 0)) (by exact BK237.out) hb)
        have n2_ := Aside0.mk (blk_below (g := gb243) (o := .cells #[.int .u64 t240, .int .u64 t241] 29 (0, 0)) (by exact BK243.out) hb)
        have n3_ := Aside0.mk (below_step (by repeat (first | (with_reducible first | exact HB.out | apply below_alloc | apply pw_below_drewN | apply below_drew1 | refine below_set ?_ GE232.out | refine below_set ?_ GE237.out | refine below_set ?_ GE243.out) | exact HB.out)) hb)
        clear BK232
        clear BK237
        clear BK243
        clear HB
        have BK232 := n0_
        have BK237 := n1_
        have BK243 := n2_
        have HB := n3_
        clear n0_ n1_ n2_ n3_
        (try clear hb)
        (try clear hb2)
        (try clear hk)
        (try clear hi)
        refine hK.out _ _ ⟨(blk_cell BK237.out 0).trans rfl, (blk_cell BK237.out 1).trans rfl, (blk_cell BK243.out 0).trans rfl, (blk_cell BK243.out 1).trans rfl⟩ (fun hHeld => ?_)
        clear hK K
        refine norm_ (a' := ?_) ?_ ?_
        rotate_left
        · show Act.put _ (some 29) _ = _
          simp only [Act.put, List.setIfInBounds_toArray, List.set_cons_zero, List.set_cons_succ, i64_w, i32_w]
          rfl
        refine pure_ (i := 3) (N := some 31) (v := ?_) (a' := ?_) #[true, true, true, true, false, false, false, false, false] rfl rfl (any_of HT_.out (by kernel_rfl)) (fun _ _ _ h => h) (Or.inl ⟨by rfl, ?_⟩) ?_ ?_
        rotate_left
        · intro w'
          go_simp
          with_reducible rfl
        rotate_left
        · simp only [Act.put, List.setIfInBounds_toArray, List.set_cons_zero, List.set_cons_succ, i64_w, i32_w]
          rfl
        refine pure_ (i := 4) (N := some 32) (v := ?_) (a' := ?_) #[true, true, true, true, true, false, false, false, false] rfl rfl (any_of HT_.out (by kernel_rfl)) (fun _ _ _ h => h) (Or.inl ⟨by rfl, ?_⟩) ?_ ?_
        rotate_left
        · intro w'
          go_simp
          with_reducible rfl
        rotate_left
        · simp only [Act.put, List.setIfInBounds_toArray, List.set_cons_zero, List.set_cons_succ, i64_w, i32_w]
          rfl
        refine pure_ (i := 5) (N := some 33) (v := undef) (a' := ?_) #[true, true, true, true, true, true, false, false, false] rfl rfl (any_of HT_.out (by kernel_rfl)) (fun _ _ _ h => h) (Or.inr ⟨by rfl, rfl⟩) ?_ ?_
        rotate_left
        · simp only [Act.put, List.setIfInBounds_toArray, List.set_cons_zero, List.set_cons_succ, i64_w, i32_w]
          rfl
        refine pure_ (i := 6) (N := some 34) (v := undef) (a' := ?_) #[true, true, true, true, true, true, true, false, false] rfl rfl (any_of HT_.out (by kernel_rfl)) (fun _ _ _ h => h) (Or.inr ⟨by rfl, rfl⟩) ?_ ?_
        rotate_left
        · simp only [Act.put, List.setIfInBounds_toArray, List.set_cons_zero, List.set_cons_succ, i64_w, i32_w]
          rfl
        refine pure_ (i := 7) (N := some 35) (v := undef) (a' := ?_) #[true, true, true, true, true, true, true, true, false] rfl rfl (any_of HT_.out (by kernel_rfl)) (fun _ _ _ h => h) (Or.inr ⟨by rfl, rfl⟩) ?_ ?_
        rotate_left
        · simp only [Act.put, List.setIfInBounds_toArray, List.set_cons_zero, List.set_cons_succ, i64_w, i32_w]
          rfl
        refine pure_ (i := 8) (N := some 36) (v := ?_) (a' := ?_) #[true, true, true, true, true, true, true, true, true] rfl rfl (any_of HT_.out (by kernel_rfl)) (fun _ _ _ h => h) (Or.inl ⟨by rfl, ?_⟩) ?_ ?_
        rotate_left
        · intro w'
          go_simp
          with_reducible rfl
        rotate_left
        · simp only [Act.put, List.setIfInBounds_toArray, List.set_cons_zero, List.set_cons_succ, i64_w, i32_w]
          rfl
        refine done_ (done_of HT_.out (by kernel_rfl)) ?_
        try go_wp2
        go_meet
        case rel => exact ⟨_, (true), (by first | rfl | (simp; done) | (simp [*]; done)), H', ⟨by first | omega | exact Nat.le_refl _⟩, ⟨by exact BK232.out⟩, ⟨by exact BK237.out⟩, ⟨by exact BK243.out⟩, ⟨by repeat (first | (with_reducible first | exact HB.out | apply below_alloc | apply pw_below_drewN | apply below_drew1 | refine below_set ?_ GE232.out | refine below_set ?_ GE237.out | refine below_set ?_ GE243.out) | exact HB.out)⟩⟩
      · rw [if_neg c24] at H
        have c24b0 : (!(t244 == t240) || (!(t245 == t241))) = false := by simpa using c24
        clear c24
        (first | rw [c24b0] | (simp only [i64_w, i32_w]; rw [c24b0]) | skip)
        have H' := Aside0.mk H
        clear H
        try go_wp2
        have n0_ : Aside0 (((w19.setCell ⟨gb243, 0, none⟩ (.int .u64 t240)).setCell ⟨gb243, 1, none⟩ (.int .u64 t241)).heap[gb232]? = some (.cells #[.int .u64 a0_0, .int .u64 a0_1] 25 (0, 0))) := ⟨by refine blk_far ?_ NB232_243.out _; refine blk_far ?_ NB232_243.out _; exact BK232.out⟩
        have n1_ : Aside0 (((w19.setCell ⟨gb243, 0, none⟩ (.int .u64 t240)).setCell ⟨gb243, 1, none⟩ (.int .u64 t241)).heap[gb237]? = some (.cells #[.int .u64 t234, .int .u64 t235] 25 (0, 0))) := ⟨by refine blk_far ?_ NB237_243.out _; refine blk_far ?_ NB237_243.out _; exact BK237.out⟩
        have n2_ : Aside0 (((w19.setCell ⟨gb243, 0, none⟩ (.int .u64 t240)).setCell ⟨gb243, 1, none⟩ (.int .u64 t241)).heap[gb243]? = some (.cells #[.int .u64 t240, .int .u64 t241] 29 (0, 0))) := ⟨by refine blk_put (cs := #[.int .u64 t240, .int .u64 0]) ?_ 1 _ rfl; refine blk_put (cs := #[.int .u64 0, .int .u64 0]) ?_ 0 _ rfl; exact BK243.out⟩
        have n3_ : Aside0 (Below w.heap.size w ((w19.setCell ⟨gb243, 0, none⟩ (.int .u64 t240)).setCell ⟨gb243, 1, none⟩ (.int .u64 t241))) := ⟨by repeat (first | (with_reducible first | exact HB.out | apply below_alloc | apply pw_below_drewN | apply below_drew1 | refine below_set ?_ GE232.out | refine below_set ?_ GE237.out | refine below_set ?_ GE243.out) | exact HB.out)⟩
        (try clear BK232)
        (try clear BK237)
        (try clear BK243)
        (try clear HB)
        generalize ((w19.setCell ⟨gb243, 0, none⟩ (.int .u64 t240)).setCell ⟨gb243, 1, none⟩ (.int .u64 t241)) = w28 at n0_ n1_ n2_ n3_ ⊢
        have BK232 := n0_
        have BK237 := n1_
        have BK243 := n2_
        have HB := n3_
        clear n0_ n1_ n2_ n3_
        have n0_ := Aside0.mk (blk_drew BK232.out)
        have n1_ := Aside0.mk (blk_drew BK237.out)
        have n2_ := Aside0.mk (blk_drew BK243.out)
        have n3_ := Aside0.mk (below_drew1 HB.out)
        clear BK232
        clear BK237
        clear BK243
        clear HB
        have BK232 := n0_
        have BK237 := n1_
        have BK243 := n2_
        have HB := n3_
        clear n0_ n1_ n2_ n3_
        refine start_ (n := 9) (S := fun w' => w'.cell? ⟨gb237, 0, none⟩ = some (.int .u64 t234) ∧ w'.cell? ⟨gb237, 1, none⟩ = some (.int .u64 t235) ∧ w'.cell? ⟨gb243, 0, none⟩ = some (.int .u64 t240) ∧ w'.cell? ⟨gb243, 1, none⟩ = some (.int .u64 t241)) (ds := []) #[false, false, false, false, false, false, false, false, false] (by kernel_rfl) rfl rfl ⟨(blk_cell BK237.out 0).trans rfl, (blk_cell BK237.out 1).trans rfl, (blk_cell BK243.out 0).trans rfl, (blk_cell BK243.out 1).trans rfl⟩ (fun hHeld => ?_); refine with_tabW overfalllaw01_WideDivs.tab5 overfalllaw01_WideDivs.bits5 (fun HT_ HW_ => ?_)
        generalize w28.drew = w29 at BK232 BK237 BK243 HB hHeld ⊢
        refine take_ (i := 0) (N := some 28) (v := ?_) (a' := ?_) #[true, false, false, false, false, false, false, false, false] rfl rfl (take_ofW HT_.out HW_.out (by kernel_rfl)) (fun _ _ _ h => h) (Or.inl ⟨by rfl, ?_⟩) hHeld ?_ ?_
        rotate_left
        · rintro w' ⟨s0, s1, s2, s3⟩
          go_simp
          with_reducible rfl
        rotate_left
        · simp only [Act.put, List.setIfInBounds_toArray, List.set_cons_zero, List.set_cons_succ, i64_w, i32_w]
          rfl
        refine take_ (i := 2) (N := some 30) (v := ?_) (a' := ?_) #[true, false, true, false, false, false, false, false, false] rfl rfl (take_ofW HT_.out HW_.out (by kernel_rfl)) (fun _ _ _ h => h) (Or.inl ⟨by rfl, ?_⟩) hHeld ?_ ?_
        rotate_left
        · rintro w' ⟨s0, s1, s2, s3⟩
          go_simp
          with_reducible rfl
        rotate_left
        · simp only [Act.put, List.setIfInBounds_toArray, List.set_cons_zero, List.set_cons_succ, i64_w, i32_w]
          rfl
        refine one_ (i := 1) (N := some 29) #[true, true, true, false, false, false, false, false, false] rfl rfl (one_of HT_.out (by kernel_rfl)) (by decide) (fun K hK => ?_)
        refine goes_ Try.func14 (by kernel_rfl) rfl #[.agg #[.int .u64 t234, .int .u64 t235]] (by rfl) rfl rfl (by (try simp only [List.map_toArray, List.map_cons, List.map_nil]); first | done | rfl | (simp only [List.length_drop, List.length_take]; rfl)) ?_
        with_reducible refine (overfalllaw01_own.calls t234 t235 t244 t245 _ A23.out).mono ?_
        rintro e w30 ⟨rfl, hb⟩
        refine ⟨_, rfl, ?_⟩
        have n0_ := Aside0.mk (blk_below (g := gb232) (o := .cells #[.int .u64 a0_0, .int .u64 a0_1] 25 (0, 0)) (by exact BK232.out) hb)
        have n1_ := Aside0.mk (blk_below (g := gb237) (o := .cells #[.int .u64 t234, .int .u64 t235] 25 (0, 0)) (by exact BK237.out) hb)
        have n2_ := Aside0.mk (blk_below (g := gb243) (o := .cells #[.int .u64 t240, .int .u64 t241] 29 (0, 0)) (by exact BK243.out) hb)
        have n3_ := Aside0.mk (below_step (by repeat (first | (with_reducible first | exact HB.out | apply below_alloc | apply pw_below_drewN | apply below_drew1 | refine below_set ?_ GE232.out | refine below_set ?_ GE237.out | refine below_set ?_ GE243.out) | exact HB.out)) hb)
        clear BK232
        clear BK237
        clear BK243
        clear HB
        have BK232 := n0_
        have BK237 := n1_
        have BK243 := n2_
        have HB := n3_
        clear n0_ n1_ n2_ n3_
        (try clear hb)
        (try clear hb2)
        (try clear hk)
        (try clear hi)
        refine hK.out _ _ ⟨(blk_cell BK237.out 0).trans rfl, (blk_cell BK237.out 1).trans rfl, (blk_cell BK243.out 0).trans rfl, (blk_cell BK243.out 1).trans rfl⟩ (fun hHeld => ?_)
        clear hK K
        refine norm_ (a' := ?_) ?_ ?_
        rotate_left
        · show Act.put _ (some 29) _ = _
          simp only [Act.put, List.setIfInBounds_toArray, List.set_cons_zero, List.set_cons_succ, i64_w, i32_w]
          rfl
        refine pure_ (i := 3) (N := some 31) (v := ?_) (a' := ?_) #[true, true, true, true, false, false, false, false, false] rfl rfl (any_of HT_.out (by kernel_rfl)) (fun _ _ _ h => h) (Or.inl ⟨by rfl, ?_⟩) ?_ ?_
        rotate_left
        · intro w'
          go_simp
          with_reducible rfl
        rotate_left
        · simp only [Act.put, List.setIfInBounds_toArray, List.set_cons_zero, List.set_cons_succ, i64_w, i32_w]
          rfl
        refine pure_ (i := 4) (N := some 32) (v := ?_) (a' := ?_) #[true, true, true, true, true, false, false, false, false] rfl rfl (any_of HT_.out (by kernel_rfl)) (fun _ _ _ h => h) (Or.inl ⟨by rfl, ?_⟩) ?_ ?_
        rotate_left
        · intro w'
          go_simp
          with_reducible rfl
        rotate_left
        · simp only [Act.put, List.setIfInBounds_toArray, List.set_cons_zero, List.set_cons_succ, i64_w, i32_w]
          rfl
        refine pure_ (i := 5) (N := some 33) (v := ?_) (a' := ?_) #[true, true, true, true, true, true, false, false, false] rfl rfl (any_of HT_.out (by kernel_rfl)) (fun _ _ _ h => h) (Or.inl ⟨by rfl, ?_⟩) ?_ ?_
        rotate_left
        · intro w'
          go_simp
          with_reducible rfl
        rotate_left
        · simp only [Act.put, List.setIfInBounds_toArray, List.set_cons_zero, List.set_cons_succ, i64_w, i32_w]
          rfl
        refine pure_ (i := 6) (N := some 34) (v := ?_) (a' := ?_) #[true, true, true, true, true, true, true, false, false] rfl rfl (any_of HT_.out (by kernel_rfl)) (fun _ _ _ h => h) (Or.inl ⟨by rfl, ?_⟩) ?_ ?_
        rotate_left
        · intro w'
          go_simp
          with_reducible rfl
        rotate_left
        · simp only [Act.put, List.setIfInBounds_toArray, List.set_cons_zero, List.set_cons_succ, i64_w, i32_w]
          rfl
        refine pure_ (i := 7) (N := some 35) (v := ?_) (a' := ?_) #[true, true, true, true, true, true, true, true, false] rfl rfl (any_of HT_.out (by kernel_rfl)) (fun _ _ _ h => h) (Or.inl ⟨by rfl, ?_⟩) ?_ ?_
        rotate_left
        · intro w'
          go_simp
          with_reducible rfl
        rotate_left
        · simp only [Act.put, List.setIfInBounds_toArray, List.set_cons_zero, List.set_cons_succ, i64_w, i32_w]
          rfl
        refine pure_ (i := 8) (N := some 36) (v := ?_) (a' := ?_) #[true, true, true, true, true, true, true, true, true] rfl rfl (any_of HT_.out (by kernel_rfl)) (fun _ _ _ h => h) (Or.inl ⟨by rfl, ?_⟩) ?_ ?_
        rotate_left
        · intro w'
          go_simp
          with_reducible rfl
        rotate_left
        · simp only [Act.put, List.setIfInBounds_toArray, List.set_cons_zero, List.set_cons_succ, i64_w, i32_w]
          rfl
        refine done_ (done_of HT_.out (by kernel_rfl)) ?_
        try go_wp2
        go_meet
        case rel => exact ⟨_, ((t236 != t242)), (by first | rfl | (simp; done) | (simp [*]; done)), H', ⟨by first | omega | exact Nat.le_refl _⟩, ⟨by exact BK232.out⟩, ⟨by exact BK237.out⟩, ⟨by exact BK243.out⟩, ⟨by repeat (first | (with_reducible first | exact HB.out | apply below_alloc | apply pw_below_drewN | apply below_drew1 | refine below_set ?_ GE232.out | refine below_set ?_ GE237.out | refine below_set ?_ GE243.out) | exact HB.out)⟩⟩
    case rest =>
      clear HC8
      try clear c1
      try clear c2
      try clear p2
      try clear c4
      try clear c11
      try clear c13
      try clear c14
      try clear c17
      try clear c20
      try clear c21
      try clear c24
      try clear c24b0
      try clear hcz11_0
      try clear hcz11_1
      try clear hcz15_0
      try clear hcz15_1
      try clear hcz16_0
      try clear hcz16_1
      try clear hcz22_0
      try clear hcz22_1
      try clear hfz11_0
      try clear hfz11_1
      try clear hfz15_0
      try clear hfz15_1
      try clear hfz16_0
      try clear hfz16_1
      try clear hfz22_0
      try clear hfz22_1
      obtain ⟨kq, x36_7, rfl, HA, HJ7, BK232, BK237, BK243, HB⟩ := hcut
      cases kq with
      | zero => exact absurd HA.out (by simp [overfalllaw01_WideDivs.j0])
      | succ kj7 =>
        have H := HA.out
        clear HA
        simp only [overfalllaw01_WideDivs.j0] at H
        by_cases c31 : x36_7 = true
        · subst c31
          have H1 : (none) = some r := by rw [if_pos rfl] at H; exact H
          clear H
          have H := H1
          clear H1
          exact absurd H (by simp)
        · replace c31 := Bool.eq_false_iff.mpr c31
          subst c31
          have H1 : (if a1 = 0 then (if (t234 == 0 && (t235 == 0)) = true then (some (t236 == 0)) else (none)) else ((wide_Mul.f t235 a1).bind fun bt246 => ((wide_Mul.f t234 a1).bind fun bt249 => ((wide_Num_Add.f bt246.1 bt246.2 bt249.2 0).bind fun bt252 => ((wide_Of.f t236).bind fun bt255 => ((wide_Num_Add.f bt252.1 bt252.2.1 bt255.1 bt255.2).bind fun bt257 => (if t236 < a1 then (if (bt257.1 == a0_0 && (bt257.2.1 == a0_1)) = true then (if bt249.1 = 0 then (if bt252.2.2 = true then (none) else (some (!bt257.2.2))) else (none)) else (none)) else (none)))))))) = some r := by rw [if_neg (show ¬ (false = true) by decide)] at H; exact H
          clear H
          have H := H1
          clear H1
          by_cases c32 : a1 = 0
          · rw [if_pos c32] at H
            have c32b0 : (a1 == 0) = true := beq_iff_eq.mpr c32
            have c32b1 : (a1 != 0) = false := bne_eq_false_iff_eq.mpr c32
            clear c32
            by_cases c33 : (t234 == 0 && (t235 == 0)) = true
            · rw [if_pos c33] at H
              have c33b0 : (t234 == 0 && (t235 == 0)) = true := c33
              (try (have c33b1 : decide (t234 = 0 && (t235 == 0)) = true := by simpa using c33))
              (try (have c33b2 : (t234 == 0 && (t235 == 0)) = true := by simpa using c33))
              clear c33
              obtain rfl := Option.some.inj H
              have hnb34 := NB237_232.out
              have hnc34 := NB232_237.out
              have hnb35 := NB237_243.out
              have hnc35 := NB243_237.out
              have hcz36_0 : wc.cell? ⟨gb237, 0, none⟩ = some (.int .u64 t234) := (blk_cell BK237.out 0).trans rfl
              have hcz36_1 : wc.cell? ⟨gb237, 1, none⟩ = some (.int .u64 t235) := (blk_cell BK237.out 1).trans rfl
              have hfz36_0 := blk_frozen BK237.out 0
              have hfz36_1 := blk_frozen BK237.out 1
              go_wp2
              go_ret
              exact ⟨by first | rfl | (simp [errW_none, errW_some] <;> rfl) | (simp [*, errW_none, errW_some] <;> rfl), by repeat (first | (with_reducible first | exact HB.out | apply below_alloc | apply pw_below_drewN | apply below_drew1 | refine below_set ?_ GE232.out | refine below_set ?_ GE237.out | refine below_set ?_ GE243.out) | exact HB.out)⟩
            · rw [if_neg c33] at H
              exact absurd H (by simp)
          · rw [if_neg c32] at H
            have c32b0 : (a1 == 0) = false := beq_eq_false_iff_ne.mpr c32
            have c32b1 : (a1 != 0) = true := bne_iff_ne.mpr c32
            replace H := Option.bind_eq_some_iff.mp H
            obtain ⟨⟨t246, t247⟩, A370, H⟩ := H
            replace H : ((wide_Mul.f t234 a1).bind fun bt249 => ((wide_Num_Add.f t246 t247 bt249.2 0).bind fun bt252 => ((wide_Of.f t236).bind fun bt255 => ((wide_Num_Add.f bt252.1 bt252.2.1 bt255.1 bt255.2).bind fun bt257 => (if t236 < a1 then (if (bt257.1 == a0_0 && (bt257.2.1 == a0_1)) = true then (if bt249.1 = 0 then (if bt252.2.2 = true then (none) else (some (!bt257.2.2))) else (none)) else (none)) else (none)))))) = some r := H
            have A37 := Aside0.mk A370
            clear A370
            replace H := Option.bind_eq_some_iff.mp H
            obtain ⟨⟨t249, t250⟩, A380, H⟩ := H
            replace H : ((wide_Num_Add.f t246 t247 t250 0).bind fun bt252 => ((wide_Of.f t236).bind fun bt255 => ((wide_Num_Add.f bt252.1 bt252.2.1 bt255.1 bt255.2).bind fun bt257 => (if t236 < a1 then (if (bt257.1 == a0_0 && (bt257.2.1 == a0_1)) = true then (if t249 = 0 then (if bt252.2.2 = true then (none) else (some (!bt257.2.2))) else (none)) else (none)) else (none))))) = some r := H
            have A38 := Aside0.mk A380
            clear A380
            replace H := Option.bind_eq_some_iff.mp H
            obtain ⟨⟨t252, t253, t254⟩, A390, H⟩ := H
            replace H : ((wide_Of.f t236).bind fun bt255 => ((wide_Num_Add.f t252 t253 bt255.1 bt255.2).bind fun bt257 => (if t236 < a1 then (if (bt257.1 == a0_0 && (bt257.2.1 == a0_1)) = true then (if t249 = 0 then (if t254 = true then (none) else (some (!bt257.2.2))) else (none)) else (none)) else (none)))) = some r := H
            have A39 := Aside0.mk A390
            clear A390
            replace H := Option.bind_eq_some_iff.mp H
            obtain ⟨⟨t255, t256⟩, A400, H⟩ := H
            replace H : ((wide_Num_Add.f t252 t253 t255 t256).bind fun bt257 => (if t236 < a1 then (if (bt257.1 == a0_0 && (bt257.2.1 == a0_1)) = true then (if t249 = 0 then (if t254 = true then (none) else (some (!bt257.2.2))) else (none)) else (none)) else (none))) = some r := H
            have A40 := Aside0.mk A400
            clear A400
            replace H := Option.bind_eq_some_iff.mp H
            obtain ⟨⟨t257, t258, t259⟩, A410, H⟩ := H
            replace H : (if t236 < a1 then (if (t257 == a0_0 && (t258 == a0_1)) = true then (if t249 = 0 then (if t254 = true then (none) else (some (!t259))) else (none)) else (none)) else (none)) = some r := H
            have A41 := Aside0.mk A410
            clear A410
            by_cases c42 : t236 < a1
            · rw [if_pos c42] at H
              have c42b0 : decide (t236 < a1) = true := decide_eq_true c42
              clear c42
              by_cases c43 : (t257 == a0_0 && (t258 == a0_1)) = true
              · rw [if_pos c43] at H
                have c43b0 : (t257 == a0_0 && (t258 == a0_1)) = true := c43
                (try (have c43b1 : decide (t257 = a0_0 && (t258 == a0_1)) = true := by simpa using c43))
                (try (have c43b2 : (t257 == a0_0 && (t258 == a0_1)) = true := by simpa using c43))
                clear c43
                by_cases c44 : t249 = 0
                · rw [if_pos c44] at H
                  have c44b0 : (t249 == 0) = true := beq_iff_eq.mpr c44
                  have c44b1 : (t249 != 0) = false := bne_eq_false_iff_eq.mpr c44
                  clear c44
                  by_cases c45 : t254 = true
                  · subst c45
                    have H1 : (none) = some r := by rw [if_pos rfl] at H; exact H
                    clear H
                    have H := H1
                    clear H1
                    exact absurd H (by simp)
                  · replace c45 := Bool.eq_false_iff.mpr c45
                    subst c45
                    have H1 : (some (!t259)) = some r := by rw [if_neg (show ¬ (false = true) by decide)] at H; exact H
                    clear H
                    have H := H1
                    clear H1
                    obtain rfl := Option.some.inj H
                    have hnb46 := NB237_232.out
                    have hnc46 := NB232_237.out
                    have hnb47 := NB237_243.out
                    have hnc47 := NB243_237.out
                    have hcz48_0 : wc.cell? ⟨gb237, 0, none⟩ = some (.int .u64 t234) := (blk_cell BK237.out 0).trans rfl
                    have hcz48_1 : wc.cell? ⟨gb237, 1, none⟩ = some (.int .u64 t235) := (blk_cell BK237.out 1).trans rfl
                    have hfz48_0 := blk_frozen BK237.out 0
                    have hfz48_1 := blk_frozen BK237.out 1
                    try go_wp2_with (first | ((with_reducible refine gate_callee (f := 12) rfl ?_); refine goesL_ (some 49) rfl rfl Try.func12 (by kernel_rfl) rfl #[.int .u64 t235, .int .u64 a1] rfl (by (try simp only [List.map_toArray, List.map_cons, List.map_nil]); first | done | rfl | (simp only [List.length_drop, List.length_take]; rfl)) ?_; (with_reducible refine (wide_Mul.calls t235 a1 t246 t247 _ A37.out).mono ?_); rintro e w49 ⟨rfl, hb⟩; refine ⟨_, rfl, ?_⟩; have n0_ := Aside0.mk (blk_below (g := gb232) (o := .cells #[.int .u64 a0_0, .int .u64 a0_1] 25 (0, 0)) (by exact BK232.out) hb); have n1_ := Aside0.mk (blk_below (g := gb237) (o := .cells #[.int .u64 t234, .int .u64 t235] 25 (0, 0)) (by exact BK237.out) hb); have n2_ := Aside0.mk (blk_below (g := gb243) (o := .cells #[.int .u64 t240, .int .u64 t241] 29 (0, 0)) (by exact BK243.out) hb); have n3_ := Aside0.mk (below_step (by repeat (first | (with_reducible first | exact HB.out | apply below_alloc | apply pw_below_drewN | apply below_drew1 | refine below_set ?_ GE232.out | refine below_set ?_ GE237.out | refine below_set ?_ GE243.out) | exact HB.out)) hb); clear BK232; clear BK237; clear BK243; clear HB; have BK232 := n0_; have BK237 := n1_; have BK243 := n2_; have HB := n3_; clear n0_ n1_ n2_ n3_; (try clear hb); (try clear hb2); (try clear hk); (try clear hi)) | ((with_reducible refine gate_dst (N := 9) rfl ?_); refine box_event ?hg (N := 9) ?hd (cs := #[.int .u64 0, .int .u64 0]) (t := 25) ?hr ?_; (case hd => rfl); (case hg => rfl); (case hr => first | (go_simp; done) | (go_simp; rfl)); intro gb248 hg w50 hbox hb; have n0_ := Aside0.mk (blk_below (g := gb232) (o := .cells #[.int .u64 a0_0, .int .u64 a0_1] 25 (0, 0)) (by exact BK232.out) hb); have n1_ := Aside0.mk (blk_below (g := gb237) (o := .cells #[.int .u64 t234, .int .u64 t235] 25 (0, 0)) (by exact BK237.out) hb); have n2_ := Aside0.mk (blk_below (g := gb243) (o := .cells #[.int .u64 t240, .int .u64 t241] 29 (0, 0)) (by exact BK243.out) hb); have n3_ := Aside0.mk (below_step (by repeat (first | (with_reducible first | exact HB.out | apply below_alloc | apply pw_below_drewN | apply below_drew1 | refine below_set ?_ GE232.out | refine below_set ?_ GE237.out | refine below_set ?_ GE243.out) | exact HB.out)) hb); have n4_ := Aside0.mk (hbox); have n5_ := Aside0.mk ((by rw [hg]; exact (below_size (by repeat (first | (with_reducible first | exact HB.out | apply below_alloc | apply pw_below_drewN | apply below_drew1 | refine below_set ?_ GE232.out | refine below_set ?_ GE237.out | refine below_set ?_ GE243.out) | exact HB.out))) : w.heap.size ≤ gb248)); have n6_ := Aside0.mk ((by rw [hg]; exact (below_size (by repeat (first | (with_reducible first | exact HB.out | apply below_alloc | apply pw_below_drewN | apply below_drew1 | refine below_set ?_ GE232.out | refine below_set ?_ GE237.out | refine below_set ?_ GE243.out) | exact HB.out))) : w.heap.size ≤ gb248)); have n7_ := Aside0.mk ((by rw [hg]; exact Nat.ne_of_lt (blk_lt (g := gb232) (o := .cells #[.int .u64 a0_0, .int .u64 a0_1] 25 (0, 0)) (by exact BK232.out)) : gb232 ≠ gb248)); have n8_ := Aside0.mk ((by rw [hg]; exact Nat.ne_of_gt (blk_lt (g := gb232) (o := .cells #[.int .u64 a0_0, .int .u64 a0_1] 25 (0, 0)) (by exact BK232.out)) : gb248 ≠ gb232)); have n9_ := Aside0.mk ((by rw [hg]; exact Nat.ne_of_lt (blk_lt (g := gb237) (o := .cells #[.int .u64 t234, .int .u64 t235] 25 (0, 0)) (by exact BK237.out)) : gb237 ≠ gb248)); have n10_ := Aside0.mk ((by rw [hg]; exact Nat.ne_of_gt (blk_lt (g := gb237) (o := .cells #[.int .u64 t234, .int .u64 t235] 25 (0, 0)) (by exact BK237.out)) : gb248 ≠ gb237)); have n11_ := Aside0.mk ((by rw [hg]; exact Nat.ne_of_lt (blk_lt (g := gb243) (o := .cells #[.int .u64 t240, .int .u64 t241] 29 (0, 0)) (by exact BK243.out)) : gb243 ≠ gb248)); have n12_ := Aside0.mk ((by rw [hg]; exact Nat.ne_of_gt (blk_lt (g := gb243) (o := .cells #[.int .u64 t240, .int .u64 t241] 29 (0, 0)) (by exact BK243.out)) : gb248 ≠ gb243)); clear BK232; clear BK237; clear BK243; clear HB; have BK232 := n0_; have BK237 := n1_; have BK243 := n2_; have HB := n3_; have BK248 := n4_; have GW248 := n5_; have GE248 := n6_; have NB232_248 := n7_; have NB248_232 := n8_; have NB237_248 := n9_; have NB248_237 := n10_; have NB243_248 := n11_; have NB248_243 := n12_; clear n0_ n1_ n2_ n3_ n4_ n5_ n6_ n7_ n8_ n9_ n10_ n11_ n12_; clear hb hbox hg; have hnb51 := NB248_232.out; have hnc51 := NB232_248.out; have hnb52 := NB248_237.out; have hnc52 := NB237_248.out; have hnb53 := NB248_243.out; have hnc53 := NB243_248.out; have hcz54_0 : w50.cell? ⟨gb248, 0, none⟩ = some (.int .u64 0) := (blk_cell BK248.out 0).trans rfl; have hcz54_1 : w50.cell? ⟨gb248, 1, none⟩ = some (.int .u64 0) := (blk_cell BK248.out 1).trans rfl; have hfz54_0 := blk_frozen BK248.out 0; have hfz54_1 := blk_frozen BK248.out 1; have hcz55_0 : w50.cell? ⟨gb237, 0, none⟩ = some (.int .u64 t234) := (blk_cell BK237.out 0).trans rfl; have hcz55_1 : w50.cell? ⟨gb237, 1, none⟩ = some (.int .u64 t235) := (blk_cell BK237.out 1).trans rfl; have hfz55_0 := blk_frozen BK237.out 0; have hfz55_1 := blk_frozen BK237.out 1) | ((with_reducible refine gate_callee (f := 12) rfl ?_); refine goesL_ (some 53) rfl rfl Try.func12 (by kernel_rfl) rfl #[.int .u64 t234, .int .u64 a1] rfl (by (try simp only [List.map_toArray, List.map_cons, List.map_nil]); first | done | rfl | (simp only [List.length_drop, List.length_take]; rfl)) ?_; (with_reducible refine (wide_Mul.calls t234 a1 t249 t250 _ A38.out).mono ?_); rintro e w56 ⟨rfl, hb⟩; refine ⟨_, rfl, ?_⟩; have n0_ := Aside0.mk (blk_below (g := gb232) (o := .cells #[.int .u64 a0_0, .int .u64 a0_1] 25 (0, 0)) (by refine blk_far ?_ NB232_248.out _; refine blk_far ?_ NB232_248.out _; exact BK232.out) hb); have n1_ := Aside0.mk (blk_below (g := gb237) (o := .cells #[.int .u64 t234, .int .u64 t235] 25 (0, 0)) (by refine blk_far ?_ NB237_248.out _; refine blk_far ?_ NB237_248.out _; exact BK237.out) hb); have n2_ := Aside0.mk (blk_below (g := gb243) (o := .cells #[.int .u64 t240, .int .u64 t241] 29 (0, 0)) (by refine blk_far ?_ NB243_248.out _; refine blk_far ?_ NB243_248.out _; exact BK243.out) hb); have n3_ := Aside0.mk (blk_below (g := gb248) (o := .cells #[.int .u64 t246, .int .u64 t247] 25 (0, 0)) (by refine blk_put (cs := #[.int .u64 t246, .int .u64 0]) ?_ 1 _ rfl; refine blk_put (cs := #[.int .u64 0, .int .u64 0]) ?_ 0 _ rfl; exact BK248.out) hb); have n4_ := Aside0.mk (below_step (by repeat (first | (with_reducible first | exact HB.out | apply below_alloc | apply pw_below_drewN | apply below_drew1 | refine below_set ?_ GE232.out | refine below_set ?_ GE237.out | refine below_set ?_ GE243.out | refine below_set ?_ GE248.out) | exact HB.out)) hb); clear BK232; clear BK237; clear BK243; clear BK248; clear HB; have BK232 := n0_; have BK237 := n1_; have BK243 := n2_; have BK248 := n3_; have HB := n4_; clear n0_ n1_ n2_ n3_ n4_; (try clear hb); (try clear hb2); (try clear hk); (try clear hi)) | ((with_reducible refine gate_dst (N := 10) rfl ?_); refine box_event ?hg (N := 10) ?hd (cs := #[.int .u64 0, .int .u64 0]) (t := 25) ?hr ?_; (case hd => rfl); (case hg => rfl); (case hr => first | (go_simp; done) | (go_simp; rfl)); intro gb251 hg w57 hbox hb; have n0_ := Aside0.mk (blk_below (g := gb232) (o := .cells #[.int .u64 a0_0, .int .u64 a0_1] 25 (0, 0)) (by exact BK232.out) hb); have n1_ := Aside0.mk (blk_below (g := gb237) (o := .cells #[.int .u64 t234, .int .u64 t235] 25 (0, 0)) (by exact BK237.out) hb); have n2_ := Aside0.mk (blk_below (g := gb243) (o := .cells #[.int .u64 t240, .int .u64 t241] 29 (0, 0)) (by exact BK243.out) hb); have n3_ := Aside0.mk (blk_below (g := gb248) (o := .cells #[.int .u64 t246, .int .u64 t247] 25 (0, 0)) (by exact BK248.out) hb); have n4_ := Aside0.mk (below_step (by repeat (first | (with_reducible first | exact HB.out | apply below_alloc | apply pw_below_drewN | apply below_drew1 | refine below_set ?_ GE232.out | refine below_set ?_ GE237.out | refine below_set ?_ GE243.out | refine below_set ?_ GE248.out) | exact HB.out)) hb); have n5_ := Aside0.mk (hbox); have n6_ := Aside0.mk ((by rw [hg]; exact (below_size (by repeat (first | (with_reducible first | exact HB.out | apply below_alloc | apply pw_below_drewN | apply below_drew1 | refine below_set ?_ GE232.out | refine below_set ?_ GE237.out | refine below_set ?_ GE243.out | refine below_set ?_ GE248.out) | exact HB.out))) : w.heap.size ≤ gb251)); have n7_ := Aside0.mk ((by rw [hg]; exact (below_size (by repeat (first | (with_reducible first | exact HB.out | apply below_alloc | apply pw_below_drewN | apply below_drew1 | refine below_set ?_ GE232.out | refine below_set ?_ GE237.out | refine below_set ?_ GE243.out | refine below_set ?_ GE248.out) | exact HB.out))) : w.heap.size ≤ gb251)); have n8_ := Aside0.mk ((by rw [hg]; exact Nat.ne_of_lt (blk_lt (g := gb232) (o := .cells #[.int .u64 a0_0, .int .u64 a0_1] 25 (0, 0)) (by exact BK232.out)) : gb232 ≠ gb251)); have n9_ := Aside0.mk ((by rw [hg]; exact Nat.ne_of_gt (blk_lt (g := gb232) (o := .cells #[.int .u64 a0_0, .int .u64 a0_1] 25 (0, 0)) (by exact BK232.out)) : gb251 ≠ gb232)); have n10_ := Aside0.mk ((by rw [hg]; exact Nat.ne_of_lt (blk_lt (g := gb237) (o := .cells #[.int .u64 t234, .int .u64 t235] 25 (0, 0)) (by exact BK237.out)) : gb237 ≠ gb251)); have n11_ := Aside0.mk ((by rw [hg]; exact Nat.ne_of_gt (blk_lt (g := gb237) (o := .cells #[.int .u64 t234, .int .u64 t235] 25 (0, 0)) (by exact BK237.out)) : gb251 ≠ gb237)); have n12_ := Aside0.mk ((by rw [hg]; exact Nat.ne_of_lt (blk_lt (g := gb243) (o := .cells #[.int .u64 t240, .int .u64 t241] 29 (0, 0)) (by exact BK243.out)) : gb243 ≠ gb251)); have n13_ := Aside0.mk ((by rw [hg]; exact Nat.ne_of_gt (blk_lt (g := gb243) (o := .cells #[.int .u64 t240, .int .u64 t241] 29 (0, 0)) (by exact BK243.out)) : gb251 ≠ gb243)); have n14_ := Aside0.mk ((by rw [hg]; exact Nat.ne_of_lt (blk_lt (g := gb248) (o := .cells #[.int .u64 t246, .int .u64 t247] 25 (0, 0)) (by exact BK248.out)) : gb248 ≠ gb251)); have n15_ := Aside0.mk ((by rw [hg]; exact Nat.ne_of_gt (blk_lt (g := gb248) (o := .cells #[.int .u64 t246, .int .u64 t247] 25 (0, 0)) (by exact BK248.out)) : gb251 ≠ gb248)); clear BK232; clear BK237; clear BK243; clear BK248; clear HB; have BK232 := n0_; have BK237 := n1_; have BK243 := n2_; have BK248 := n3_; have HB := n4_; have BK251 := n5_; have GW251 := n6_; have GE251 := n7_; have NB232_251 := n8_; have NB251_232 := n9_; have NB237_251 := n10_; have NB251_237 := n11_; have NB243_251 := n12_; have NB251_243 := n13_; have NB248_251 := n14_; have NB251_248 := n15_; clear n0_ n1_ n2_ n3_ n4_ n5_ n6_ n7_ n8_ n9_ n10_ n11_ n12_ n13_ n14_ n15_; clear hb hbox hg; have hnb58 := NB251_232.out; have hnc58 := NB232_251.out; have hnb59 := NB251_237.out; have hnc59 := NB237_251.out; have hnb60 := NB251_243.out; have hnc60 := NB243_251.out; have hnb61 := NB251_248.out; have hnc61 := NB248_251.out; have hcz62_0 : w57.cell? ⟨gb251, 0, none⟩ = some (.int .u64 0) := (blk_cell BK251.out 0).trans rfl; have hcz62_1 : w57.cell? ⟨gb251, 1, none⟩ = some (.int .u64 0) := (blk_cell BK251.out 1).trans rfl; have hfz62_0 := blk_frozen BK251.out 0; have hfz62_1 := blk_frozen BK251.out 1; have hcz63_0 : w57.cell? ⟨gb248, 0, none⟩ = some (.int .u64 t246) := (blk_cell BK248.out 0).trans rfl; have hcz63_1 : w57.cell? ⟨gb248, 1, none⟩ = some (.int .u64 t247) := (blk_cell BK248.out 1).trans rfl; have hfz63_0 := blk_frozen BK248.out 0; have hfz63_1 := blk_frozen BK248.out 1) | ((with_reducible refine gate_callee (f := 18) rfl ?_); refine goesL_ (some 59) rfl rfl Try.func18 (by kernel_rfl) rfl #[.agg #[.int .u64 t246, .int .u64 t247], .agg #[.int .u64 t250, .int .u64 0]] rfl (by (try simp only [List.map_toArray, List.map_cons, List.map_nil]); first | done | rfl | (simp only [List.length_drop, List.length_take]; rfl)) ?_; (with_reducible refine (wide_Num_Add.calls t246 t247 t250 0 t252 t253 false _ A39.out).mono ?_); rintro e w64 ⟨rfl, hb⟩; refine ⟨_, rfl, ?_⟩; have n0_ := Aside0.mk (blk_below (g := gb232) (o := .cells #[.int .u64 a0_0, .int .u64 a0_1] 25 (0, 0)) (by refine blk_far ?_ NB232_251.out _; refine blk_far ?_ NB232_251.out _; exact BK232.out) hb); have n1_ := Aside0.mk (blk_below (g := gb237) (o := .cells #[.int .u64 t234, .int .u64 t235] 25 (0, 0)) (by refine blk_far ?_ NB237_251.out _; refine blk_far ?_ NB237_251.out _; exact BK237.out) hb); have n2_ := Aside0.mk (blk_below (g := gb243) (o := .cells #[.int .u64 t240, .int .u64 t241] 29 (0, 0)) (by refine blk_far ?_ NB243_251.out _; refine blk_far ?_ NB243_251.out _; exact BK243.out) hb); have n3_ := Aside0.mk (blk_below (g := gb248) (o := .cells #[.int .u64 t246, .int .u64 t247] 25 (0, 0)) (by refine blk_far ?_ NB248_251.out _; refine blk_far ?_ NB248_251.out _; exact BK248.out) hb); have n4_ := Aside0.mk (blk_below (g := gb251) (o := .cells #[.int .u64 t249, .int .u64 t250] 25 (0, 0)) (by refine blk_put (cs := #[.int .u64 t249, .int .u64 0]) ?_ 1 _ rfl; refine blk_put (cs := #[.int .u64 0, .int .u64 0]) ?_ 0 _ rfl; exact BK251.out) hb); have n5_ := Aside0.mk (below_step (by repeat (first | (with_reducible first | exact HB.out | apply below_alloc | apply pw_below_drewN | apply below_drew1 | refine below_set ?_ GE232.out | refine below_set ?_ GE237.out | refine below_set ?_ GE243.out | refine below_set ?_ GE248.out | refine below_set ?_ GE251.out) | exact HB.out)) hb); clear BK232; clear BK237; clear BK243; clear BK248; clear BK251; clear HB; have BK232 := n0_; have BK237 := n1_; have BK243 := n2_; have BK248 := n3_; have BK251 := n4_; have HB := n5_; clear n0_ n1_ n2_ n3_ n4_ n5_; (try clear hb); (try clear hb2); (try clear hk); (try clear hi); have hcz65_0 : w64.cell? ⟨gb248, 0, none⟩ = some (.int .u64 t246) := (blk_cell BK248.out 0).trans rfl; have hcz65_1 : w64.cell? ⟨gb248, 1, none⟩ = some (.int .u64 t247) := (blk_cell BK248.out 1).trans rfl; have hfz65_0 := blk_frozen BK248.out 0; have hfz65_1 := blk_frozen BK248.out 1))
                    have n0_ : Aside0 (((w64.setCell ⟨gb248, 0, none⟩ (.int .u64 t252)).setCell ⟨gb248, 1, none⟩ (.int .u64 t253)).heap[gb232]? = some (.cells #[.int .u64 a0_0, .int .u64 a0_1] 25 (0, 0))) := ⟨by refine blk_far ?_ NB232_248.out _; refine blk_far ?_ NB232_248.out _; exact BK232.out⟩
                    have n1_ : Aside0 (((w64.setCell ⟨gb248, 0, none⟩ (.int .u64 t252)).setCell ⟨gb248, 1, none⟩ (.int .u64 t253)).heap[gb237]? = some (.cells #[.int .u64 t234, .int .u64 t235] 25 (0, 0))) := ⟨by refine blk_far ?_ NB237_248.out _; refine blk_far ?_ NB237_248.out _; exact BK237.out⟩
                    have n2_ : Aside0 (((w64.setCell ⟨gb248, 0, none⟩ (.int .u64 t252)).setCell ⟨gb248, 1, none⟩ (.int .u64 t253)).heap[gb243]? = some (.cells #[.int .u64 t240, .int .u64 t241] 29 (0, 0))) := ⟨by refine blk_far ?_ NB243_248.out _; refine blk_far ?_ NB243_248.out _; exact BK243.out⟩
                    have n3_ : Aside0 (((w64.setCell ⟨gb248, 0, none⟩ (.int .u64 t252)).setCell ⟨gb248, 1, none⟩ (.int .u64 t253)).heap[gb248]? = some (.cells #[.int .u64 t252, .int .u64 t253] 25 (0, 0))) := ⟨by refine blk_put (cs := #[.int .u64 t252, .int .u64 t247]) ?_ 1 _ rfl; refine blk_put (cs := #[.int .u64 t246, .int .u64 t247]) ?_ 0 _ rfl; exact BK248.out⟩
                    have n4_ : Aside0 (((w64.setCell ⟨gb248, 0, none⟩ (.int .u64 t252)).setCell ⟨gb248, 1, none⟩ (.int .u64 t253)).heap[gb251]? = some (.cells #[.int .u64 t249, .int .u64 t250] 25 (0, 0))) := ⟨by refine blk_far ?_ NB251_248.out _; refine blk_far ?_ NB251_248.out _; exact BK251.out⟩
                    have n5_ : Aside0 (Below w.heap.size w ((w64.setCell ⟨gb248, 0, none⟩ (.int .u64 t252)).setCell ⟨gb248, 1, none⟩ (.int .u64 t253))) := ⟨by repeat (first | (with_reducible first | exact HB.out | apply below_alloc | apply pw_below_drewN | apply below_drew1 | refine below_set ?_ GE232.out | refine below_set ?_ GE237.out | refine below_set ?_ GE243.out | refine below_set ?_ GE248.out | refine below_set ?_ GE251.out) | exact HB.out)⟩
                    (try clear BK232)
                    (try clear BK237)
                    (try clear BK243)
                    (try clear BK248)
                    (try clear BK251)
                    (try clear HB)
                    generalize ((w64.setCell ⟨gb248, 0, none⟩ (.int .u64 t252)).setCell ⟨gb248, 1, none⟩ (.int .u64 t253)) = w66 at n0_ n1_ n2_ n3_ n4_ n5_ ⊢
                    have BK232 := n0_
                    have BK237 := n1_
                    have BK243 := n2_
                    have BK248 := n3_
                    have BK251 := n4_
                    have HB := n5_
                    clear n0_ n1_ n2_ n3_ n4_ n5_
                    have n0_ := Aside0.mk (blk_drew BK232.out)
                    have n1_ := Aside0.mk (blk_drew BK237.out)
                    have n2_ := Aside0.mk (blk_drew BK243.out)
                    have n3_ := Aside0.mk (blk_drew BK248.out)
                    have n4_ := Aside0.mk (blk_drew BK251.out)
                    have n5_ := Aside0.mk (below_drew1 HB.out)
                    clear BK232
                    clear BK237
                    clear BK243
                    clear BK248
                    clear BK251
                    clear HB
                    have BK232 := n0_
                    have BK237 := n1_
                    have BK243 := n2_
                    have BK248 := n3_
                    have BK251 := n4_
                    have HB := n5_
                    clear n0_ n1_ n2_ n3_ n4_ n5_
                    refine start_ (n := 9) (S := fun w' => w'.cell? ⟨gb248, 0, none⟩ = some (.int .u64 t252) ∧ w'.cell? ⟨gb248, 1, none⟩ = some (.int .u64 t253)) (ds := [7]) #[false, false, false, false, false, false, false, false, false] (by kernel_rfl) rfl rfl ⟨(blk_cell BK248.out 0).trans rfl, (blk_cell BK248.out 1).trans rfl⟩ (fun hHeld => ?_); refine with_tabW overfalllaw01_WideDivs.tab12 overfalllaw01_WideDivs.bits12 (fun HT_ HW_ => ?_)
                    generalize w66.drew = w67 at BK232 BK237 BK243 BK248 BK251 HB hHeld ⊢
                    refine pure_ (i := 1) (N := some 64) (v := ?_) (a' := ?_) #[false, true, false, false, false, false, false, false, false] rfl rfl (any_of HT_.out (by kernel_rfl)) (fun _ _ _ h => h) (Or.inl ⟨by rfl, ?_⟩) ?_ ?_
                    rotate_left
                    · intro w'
                      go_simp
                      with_reducible rfl
                    rotate_left
                    · simp only [Act.put, List.setIfInBounds_toArray, List.set_cons_zero, List.set_cons_succ, i64_w, i32_w]
                      rfl
                    refine take_ (i := 0) (N := some 63) (v := ?_) (a' := ?_) #[true, true, false, false, false, false, false, false, false] rfl rfl (take_ofW HT_.out HW_.out (by kernel_rfl)) (fun _ _ _ h => h) (Or.inl ⟨by rfl, ?_⟩) hHeld ?_ ?_
                    rotate_left
                    · rintro w' ⟨s0, s1⟩
                      go_simp
                      with_reducible rfl
                    rotate_left
                    · simp only [Act.put, List.setIfInBounds_toArray, List.set_cons_zero, List.set_cons_succ, i64_w, i32_w]
                      rfl
                    refine one_ (i := 2) (N := some 65) #[true, true, true, false, false, false, false, false, false] rfl rfl (one_of HT_.out (by kernel_rfl)) (by decide) (fun K hK => ?_)
                    refine goes_ Try.func16 (by kernel_rfl) rfl #[.int .u64 t236] (by rfl) rfl rfl (by (try simp only [List.map_toArray, List.map_cons, List.map_nil]); first | done | rfl | (simp only [List.length_drop, List.length_take]; rfl)) ?_
                    with_reducible refine (wide_Of.calls t236 t255 t256 _ A40.out).mono ?_
                    rintro e w68 ⟨rfl, hb⟩
                    refine ⟨_, rfl, ?_⟩
                    have n0_ := Aside0.mk (blk_below (g := gb232) (o := .cells #[.int .u64 a0_0, .int .u64 a0_1] 25 (0, 0)) (by exact BK232.out) hb)
                    have n1_ := Aside0.mk (blk_below (g := gb237) (o := .cells #[.int .u64 t234, .int .u64 t235] 25 (0, 0)) (by exact BK237.out) hb)
                    have n2_ := Aside0.mk (blk_below (g := gb243) (o := .cells #[.int .u64 t240, .int .u64 t241] 29 (0, 0)) (by exact BK243.out) hb)
                    have n3_ := Aside0.mk (blk_below (g := gb248) (o := .cells #[.int .u64 t252, .int .u64 t253] 25 (0, 0)) (by exact BK248.out) hb)
                    have n4_ := Aside0.mk (blk_below (g := gb251) (o := .cells #[.int .u64 t249, .int .u64 t250] 25 (0, 0)) (by exact BK251.out) hb)
                    have n5_ := Aside0.mk (below_step (by repeat (first | (with_reducible first | exact HB.out | apply below_alloc | apply pw_below_drewN | apply below_drew1 | refine below_set ?_ GE232.out | refine below_set ?_ GE237.out | refine below_set ?_ GE243.out | refine below_set ?_ GE248.out | refine below_set ?_ GE251.out) | exact HB.out)) hb)
                    clear BK232
                    clear BK237
                    clear BK243
                    clear BK248
                    clear BK251
                    clear HB
                    have BK232 := n0_
                    have BK237 := n1_
                    have BK243 := n2_
                    have BK248 := n3_
                    have BK251 := n4_
                    have HB := n5_
                    clear n0_ n1_ n2_ n3_ n4_ n5_
                    (try clear hb)
                    (try clear hb2)
                    (try clear hk)
                    (try clear hi)
                    refine hK.out _ _ ⟨(blk_cell BK248.out 0).trans rfl, (blk_cell BK248.out 1).trans rfl⟩ (fun hHeld => ?_)
                    clear hK K
                    refine norm_ (a' := ?_) ?_ ?_
                    rotate_left
                    · show Act.put _ (some 65) _ = _
                      simp only [Act.put, List.setIfInBounds_toArray, List.set_cons_zero, List.set_cons_succ, i64_w, i32_w]
                      rfl
                    refine one_ (i := 3) (N := some 66) #[true, true, true, true, false, false, false, false, false] rfl rfl (one_of HT_.out (by kernel_rfl)) (by decide) (fun K hK => ?_)
                    refine goes_ Try.func18 (by kernel_rfl) rfl #[.agg #[.int .u64 t252, .int .u64 t253], .agg #[.int .u64 t255, .int .u64 t256]] (by rfl) rfl rfl (by (try simp only [List.map_toArray, List.map_cons, List.map_nil]); first | done | rfl | (simp only [List.length_drop, List.length_take]; rfl)) ?_
                    with_reducible refine (wide_Num_Add.calls t252 t253 t255 t256 t257 t258 t259 _ A41.out).mono ?_
                    rintro e w69 ⟨rfl, hb⟩
                    refine ⟨_, rfl, ?_⟩
                    have n0_ := Aside0.mk (blk_below (g := gb232) (o := .cells #[.int .u64 a0_0, .int .u64 a0_1] 25 (0, 0)) (by exact BK232.out) hb)
                    have n1_ := Aside0.mk (blk_below (g := gb237) (o := .cells #[.int .u64 t234, .int .u64 t235] 25 (0, 0)) (by exact BK237.out) hb)
                    have n2_ := Aside0.mk (blk_below (g := gb243) (o := .cells #[.int .u64 t240, .int .u64 t241] 29 (0, 0)) (by exact BK243.out) hb)
                    have n3_ := Aside0.mk (blk_below (g := gb248) (o := .cells #[.int .u64 t252, .int .u64 t253] 25 (0, 0)) (by exact BK248.out) hb)
                    have n4_ := Aside0.mk (blk_below (g := gb251) (o := .cells #[.int .u64 t249, .int .u64 t250] 25 (0, 0)) (by exact BK251.out) hb)
                    have n5_ := Aside0.mk (below_step (by repeat (first | (with_reducible first | exact HB.out | apply below_alloc | apply pw_below_drewN | apply below_drew1 | refine below_set ?_ GE232.out | refine below_set ?_ GE237.out | refine below_set ?_ GE243.out | refine below_set ?_ GE248.out | refine below_set ?_ GE251.out) | exact HB.out)) hb)
                    clear BK232
                    clear BK237
                    clear BK243
                    clear BK248
                    clear BK251
                    clear HB
                    have BK232 := n0_
                    have BK237 := n1_
                    have BK243 := n2_
                    have BK248 := n3_
                    have BK251 := n4_
                    have HB := n5_
                    clear n0_ n1_ n2_ n3_ n4_ n5_
                    (try clear hb)
                    (try clear hb2)
                    (try clear hk)
                    (try clear hi)
                    refine hK.out _ _ ⟨(blk_cell BK248.out 0).trans rfl, (blk_cell BK248.out 1).trans rfl⟩ (fun hHeld => ?_)
                    clear hK K
                    refine norm_ (a' := ?_) ?_ ?_
                    rotate_left
                    · show Act.put _ (some 66) _ = _
                      simp only [Act.put, List.setIfInBounds_toArray, List.set_cons_zero, List.set_cons_succ, i64_w, i32_w]
                      rfl
                    refine pure_ (i := 4) (N := some 62) (v := ?_) (a' := ?_) #[true, true, true, true, true, false, false, false, false] rfl rfl (any_of HT_.out (by kernel_rfl)) (fun _ _ _ h => h) (Or.inl ⟨by rfl, ?_⟩) ?_ ?_
                    rotate_left
                    · intro w'
                      go_simp
                      with_reducible rfl
                    rotate_left
                    · simp only [Act.put, List.setIfInBounds_toArray, List.set_cons_zero, List.set_cons_succ, i64_w, i32_w]
                      rfl
                    refine pure_ (i := 5) (N := some 67) (v := ?_) (a' := ?_) #[true, true, true, true, true, true, false, false, false] rfl rfl (any_of HT_.out (by kernel_rfl)) (fun _ _ _ h => h) (Or.inl ⟨by rfl, ?_⟩) ?_ ?_
                    rotate_left
                    · intro w'
                      go_simp
                      with_reducible rfl
                    rotate_left
                    · simp only [Act.put, List.setIfInBounds_toArray, List.set_cons_zero, List.set_cons_succ, i64_w, i32_w]
                      rfl
                    refine pure_ (i := 6) (N := some 68) (v := ?_) (a' := ?_) #[true, true, true, true, true, true, true, false, false] rfl rfl (any_of HT_.out (by kernel_rfl)) (fun _ _ _ h => h) (Or.inl ⟨by rfl, ?_⟩) ?_ ?_
                    rotate_left
                    · intro w'
                      go_simp
                      with_reducible rfl
                    rotate_left
                    · simp only [Act.put, List.setIfInBounds_toArray, List.set_cons_zero, List.set_cons_succ, i64_w, i32_w]
                      rfl
                    refine last_ (i := 7) (N := none) #[true, true, true, true, true, true, true, true, false] rfl rfl (one_of HT_.out (by kernel_rfl)) (by decide) (fun K hK => ?_)
                    have hs70 : w69.cell? ⟨gb248, 0, none⟩ = some (.int .u64 t252) := (blk_cell BK248.out 0).trans rfl
                    have hfs70 := blk_frozen BK248.out 0
                    have hns70_0 := NB232_248.out
                    have hns70_1 := NB237_248.out
                    have hns70_2 := NB243_248.out
                    have hns70_4 := NB251_248.out
                    have hms70_0 := NB248_232.out
                    have hms70_1 := NB248_237.out
                    have hms70_2 := NB248_243.out
                    have hms70_4 := NB248_251.out
                    have hs71 : w69.cell? ⟨gb248, 1, none⟩ = some (.int .u64 t253) := (blk_cell BK248.out 1).trans rfl
                    have hfs71 := blk_frozen BK248.out 1
                    have hns71_0 := NB232_248.out
                    have hns71_1 := NB237_248.out
                    have hns71_2 := NB243_248.out
                    have hns71_4 := NB251_248.out
                    have hms71_0 := NB248_232.out
                    have hms71_1 := NB248_237.out
                    have hms71_2 := NB248_243.out
                    have hms71_4 := NB248_251.out
                    refine skip_ (w1 := ?_) (by rfl) rfl ?_ ?_
                    rotate_left
                    · go_simp
                      rfl
                    refine hK.out _ _ ?_
                    clear hK K
                    refine pure_ (i := 8) (N := some 12) (v := ?_) (a' := ?_) #[true, true, true, true, true, true, true, true, true] rfl rfl (any_of HT_.out (by kernel_rfl)) (fun _ _ _ h => h) (Or.inl ⟨by rfl, ?_⟩) ?_ ?_
                    rotate_left
                    · intro w'
                      go_simp
                      with_reducible rfl
                    rotate_left
                    · simp only [Act.put, List.setIfInBounds_toArray, List.set_cons_zero, List.set_cons_succ, i64_w, i32_w]
                      rfl
                    refine done_ (done_of HT_.out (by kernel_rfl)) ?_
                    have hcz72_0 : w69.cell? ⟨gb248, 0, none⟩ = some (.int .u64 t252) := (blk_cell BK248.out 0).trans rfl
                    have hcz72_1 : w69.cell? ⟨gb248, 1, none⟩ = some (.int .u64 t253) := (blk_cell BK248.out 1).trans rfl
                    have hfz72_0 := blk_frozen BK248.out 0
                    have hfz72_1 := blk_frozen BK248.out 1
                    have hnb73 := NB232_243.out
                    have hnc73 := NB243_232.out
                    have hcz74_0 : w69.cell? ⟨gb232, 0, none⟩ = some (.int .u64 a0_0) := (blk_cell BK232.out 0).trans rfl
                    have hcz74_1 : w69.cell? ⟨gb232, 1, none⟩ = some (.int .u64 a0_1) := (blk_cell BK232.out 1).trans rfl
                    have hfz74_0 := blk_frozen BK232.out 0
                    have hfz74_1 := blk_frozen BK232.out 1
                    have hcz75_0 : w69.cell? ⟨gb251, 0, none⟩ = some (.int .u64 t249) := (blk_cell BK251.out 0).trans rfl
                    have hcz75_1 : w69.cell? ⟨gb251, 1, none⟩ = some (.int .u64 t250) := (blk_cell BK251.out 1).trans rfl
                    have hfz75_0 := blk_frozen BK251.out 0
                    have hfz75_1 := blk_frozen BK251.out 1
                    try go_wp2
                    go_ret
                    exact ⟨by first | rfl | (simp [errW_none, errW_some] <;> rfl) | (simp [*, errW_none, errW_some] <;> rfl), by repeat (first | (with_reducible first | exact HB.out | apply below_alloc | apply pw_below_drewN | apply below_drew1 | refine below_set ?_ GE232.out | refine below_set ?_ GE237.out | refine below_set ?_ GE243.out | refine below_set ?_ GE248.out | refine below_set ?_ GE251.out) | exact HB.out)⟩
                · rw [if_neg c44] at H
                  exact absurd H (by simp)
              · rw [if_neg c43] at H
                exact absurd H (by simp)
            · rw [if_neg c42] at H
              exact absurd H (by simp)
  · replace c4 := Bool.eq_false_iff.mpr c4
    subst c4
    have H1 : (none) = some r := by rw [if_neg (show ¬ (false = true) by decide)] at H; exact H
    clear H
    have H := H1
    clear H1
    exact absurd H (by simp)

end Go.Proofs.Ytdgbehbiigggmaa.G

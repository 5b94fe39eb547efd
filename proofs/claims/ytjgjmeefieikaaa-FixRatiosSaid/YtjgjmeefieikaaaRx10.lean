-- Laid by a program of this claim's session (wip/tools/myprint.py) over the kit's printer.
import Derived.Test.YtjgjmeefieikaaaRx0
import Derived.Test.YtjgjmeefieikaaaRx2
import Derived.Test.YtjgjmeefieikaaaRx4
import Derived.Test.YtjgjmeefieikaaaRx5
import Derived.Test.YtjgjmeefieikaaaRx8
import Derived.Test.YtjgjmeefieikaaaRx9
namespace Go.Proofs.Ytjgjmeefieikaaa.R
open Go.RowKit Go.Proofs.YtjgjmeefieikaaaW.PrintWords Go.Proofs.YtjgjmeefieikaaaW.PrintLast Go.Proofs.YtjgjmeefieikaaaW.PrintMore
attribute [local go_sem] max2_int min2_int max_two min_two max_three min_three max_four min_four   -- for this text's walks alone
set_option linter.unusedVariables false
set_option linter.unusedSimpArgs false

/-! ### overfallref02_Floor: function 18 -/
def overfallref02_Floor.f (k : Nat) (a0 : Int) : Option (Int) := (overfallref02_Size.f a0).bind fun bt257 => ((overfallref01_Div.f k bt257.1 bt257.2.1 4294967296).bind fun bt261 => ((overfallref02_down.f k bt261.1 bt261.2.1 (decide (bt261.2.2 > 0)) bt257.2.2).bind fun t265 => (some t265)))
theorem overfallref02_Floor.mono : ∀ a0 k, LeO (overfallref02_Floor.f k a0) (overfallref02_Floor.f (k + 1) a0) := by
 intro a0 k
 unfold overfallref02_Floor.f
 repeat' first
   | (with_reducible exact overfallref01_Div.mono _ _ _ _)
   | (with_reducible exact overfallref02_down.mono _ _ _ _ _)
   | (with_reducible exact LeO.refl _)
   | (with_reducible exact LeO.none _)
   | (with_reducible refine LeO.ite ?_ ?_)
   | (with_reducible refine LeO.bind ?_ (fun _ => ?_))
   | exact overfallref01_Div.mono _ _ _ _
   | exact overfallref02_down.mono _ _ _ _ _
   | exact LeO.none _
   | refine LeO.ite ?_ ?_
   | refine LeO.bind ?_ (fun _ => ?_)
set_option maxHeartbeats 8000000 in
set_option maxRecDepth 100000 in
theorem overfallref02_Floor.calls (k : Nat) (a0 : Int) (r : Int) (w : World) (h : overfallref02_Floor.f k a0 = some r) :
  Calls Try.prog 18 #[.int .i64 a0] w fun e w' => e = .returned (.int .i64 r) ∧ Below w.heap.size w w' := by
 have hu40 := Try.underlying40
 have HB := Aside0.mk (Below.refl w.heap.size w)
 have H : ((overfallref02_Size.f a0).bind fun bt257 => ((overfallref01_Div.f k bt257.1 bt257.2.1 4294967296).bind fun bt261 => ((overfallref02_down.f k bt261.1 bt261.2.1 (decide (bt261.2.2 > 0)) bt257.2.2).bind fun t265 => (some t265)))) = some r := h
 clear h
 replace H := Option.bind_eq_some_iff.mp H
 obtain ⟨⟨t257, t258, t259⟩, A20, H⟩ := H
 replace H : ((overfallref01_Div.f k t257 t258 4294967296).bind fun bt261 => ((overfallref02_down.f k bt261.1 bt261.2.1 (decide (bt261.2.2 > 0)) t259).bind fun t265 => (some t265))) = some r := H
 have A2 := Aside0.mk A20
 clear A20
 replace H := Option.bind_eq_some_iff.mp H
 obtain ⟨⟨t261, t262, t263⟩, A30, H⟩ := H
 replace H : ((overfallref02_down.f k t261 t262 (decide (t263 > 0)) t259).bind fun t265 => (some t265)) = some r := H
 have A3 := Aside0.mk A30
 clear A30
 replace H := Option.bind_eq_some_iff.mp H
 obtain ⟨t265, A40, H⟩ := H
 replace H : (some t265) = some r := H
 have A4 := Aside0.mk A40
 clear A40
 obtain rfl := Option.some.inj H
 go_enter Try.func18, Try.ntmps18
 go_wp2_with (first | ((with_reducible refine gate_callee (f := 36) rfl ?_); refine goesL_ (some 9) rfl rfl Try.func36 (by kernel_rfl) rfl #[.int .i64 a0] rfl (by (try simp only [List.map_toArray, List.map_cons, List.map_nil]); first | done | rfl | (simp only [List.length_drop, List.length_take]; rfl)) ?_; (with_reducible refine (overfallref02_Size.calls a0 t257 t258 t259 _ A2.out).mono ?_); rintro e w5 ⟨rfl, hb⟩; refine ⟨_, rfl, ?_⟩; have n0_ := Aside0.mk (below_step (by repeat (first | (with_reducible first | exact HB.out | apply below_alloc | apply pw_below_drewN | apply below_drew1) | exact HB.out)) hb); clear HB; have HB := n0_; clear n0_; (try clear hb); (try clear hb2); (try clear hk); (try clear hi)) | ((with_reducible refine gate_dst (N := 3) rfl ?_); refine box_event ?hg (N := 3) ?hd (cs := #[.int .u64 0, .int .u64 0]) (t := 40) ?hr ?_; (case hd => rfl); (case hg => rfl); (case hr => first | (go_simp; done) | (go_simp; rfl)); intro gb260 hg w6 hbox hb; have n0_ := Aside0.mk (below_step (by repeat (first | (with_reducible first | exact HB.out | apply below_alloc | apply pw_below_drewN | apply below_drew1) | exact HB.out)) hb); have n1_ := Aside0.mk (hbox); have n2_ := Aside0.mk ((by rw [hg]; exact (below_size (by repeat (first | (with_reducible first | exact HB.out | apply below_alloc | apply pw_below_drewN | apply below_drew1) | exact HB.out))) : w.heap.size ≤ gb260)); have n3_ := Aside0.mk ((by rw [hg]; exact (below_size (by repeat (first | (with_reducible first | exact HB.out | apply below_alloc | apply pw_below_drewN | apply below_drew1) | exact HB.out))) : w.heap.size ≤ gb260)); clear HB; have HB := n0_; have BK260 := n1_; have GW260 := n2_; have GE260 := n3_; clear n0_ n1_ n2_ n3_; clear hb hbox hg; have hcz7_0 : w6.cell? ⟨gb260, 0, none⟩ = some (.int .u64 0) := (blk_cell BK260.out 0).trans rfl; have hcz7_1 : w6.cell? ⟨gb260, 1, none⟩ = some (.int .u64 0) := (blk_cell BK260.out 1).trans rfl; have hfz7_0 := blk_frozen BK260.out 0; have hfz7_1 := blk_frozen BK260.out 1) | ((with_reducible refine gate_callee (f := 43) rfl ?_); refine goesL_ (some 14) rfl rfl Try.func43 (by kernel_rfl) rfl #[.agg #[.int .u64 t257, .int .u64 t258], .int .u64 4294967296] rfl (by (try simp only [List.map_toArray, List.map_cons, List.map_nil]); first | done | rfl | (simp only [List.length_drop, List.length_take]; rfl)) ?_; (with_reducible refine (overfallref01_Div.calls k t257 t258 4294967296 t261 t262 t263 _ A3.out).mono ?_); rintro e w8 ⟨rfl, hb⟩; refine ⟨_, rfl, ?_⟩; have n0_ := Aside0.mk (blk_below (g := gb260) (o := .cells #[.int .u64 t257, .int .u64 t258] 40 (0, 0)) (by refine blk_put (cs := #[.int .u64 t257, .int .u64 0]) ?_ 1 _ rfl; refine blk_put (cs := #[.int .u64 0, .int .u64 0]) ?_ 0 _ rfl; exact BK260.out) hb); have n1_ := Aside0.mk (below_step (by repeat (first | (with_reducible first | exact HB.out | apply below_alloc | apply pw_below_drewN | apply below_drew1 | refine below_set ?_ GE260.out) | exact HB.out)) hb); clear BK260; clear HB; have BK260 := n0_; have HB := n1_; clear n0_ n1_; (try clear hb); (try clear hb2); (try clear hk); (try clear hi)) | ((with_reducible refine gate_dst (N := 5) rfl ?_); refine box_event ?hg (N := 5) ?hd (cs := #[.int .u64 0, .int .u64 0]) (t := 40) ?hr ?_; (case hd => rfl); (case hg => rfl); (case hr => first | (go_simp; done) | (go_simp; rfl)); intro gb264 hg w9 hbox hb; have n0_ := Aside0.mk (blk_below (by exact BK260.out) hb); have n1_ := Aside0.mk (below_step (by repeat (first | (with_reducible first | exact HB.out | apply below_alloc | apply pw_below_drewN | apply below_drew1 | refine below_set ?_ GE260.out) | exact HB.out)) hb); have n2_ := Aside0.mk (hbox); have n3_ := Aside0.mk ((by rw [hg]; exact (below_size (by repeat (first | (with_reducible first | exact HB.out | apply below_alloc | apply pw_below_drewN | apply below_drew1 | refine below_set ?_ GE260.out) | exact HB.out))) : w.heap.size ≤ gb264)); have n4_ := Aside0.mk ((by rw [hg]; exact (below_size (by repeat (first | (with_reducible first | exact HB.out | apply below_alloc | apply pw_below_drewN | apply below_drew1 | refine below_set ?_ GE260.out) | exact HB.out))) : w.heap.size ≤ gb264)); have n5_ := Aside0.mk ((by rw [hg]; exact Nat.ne_of_lt (blk_lt (by exact BK260.out)) : gb260 ≠ gb264)); have n6_ := Aside0.mk ((by rw [hg]; exact Nat.ne_of_gt (blk_lt (by exact BK260.out)) : gb264 ≠ gb260)); clear BK260; clear HB; have BK260 := n0_; have HB := n1_; have BK264 := n2_; have GW264 := n3_; have GE264 := n4_; have NB260_264 := n5_; have NB264_260 := n6_; clear n0_ n1_ n2_ n3_ n4_ n5_ n6_; clear hb hbox hg; have hnb10 := NB264_260.out; have hnc10 := NB260_264.out; have hcz11_0 : w9.cell? ⟨gb264, 0, none⟩ = some (.int .u64 0) := (blk_cell BK264.out 0).trans rfl; have hcz11_1 : w9.cell? ⟨gb264, 1, none⟩ = some (.int .u64 0) := (blk_cell BK264.out 1).trans rfl; have hfz11_0 := blk_frozen BK264.out 0; have hfz11_1 := blk_frozen BK264.out 1) | ((with_reducible refine gate_callee (f := 45) rfl ?_); refine goesL_ (some 21) rfl rfl Try.func45 (by kernel_rfl) rfl #[.agg #[.int .u64 t261, .int .u64 t262], .bool (decide (t263 > 0)), .bool t259] rfl (by (try simp only [List.map_toArray, List.map_cons, List.map_nil]); first | done | rfl | (simp only [List.length_drop, List.length_take]; rfl)) ?_; (with_reducible refine (overfallref02_down.calls k t261 t262 (decide (t263 > 0)) t259 t265 _ A4.out).mono ?_); rintro e w12 ⟨rfl, hb⟩; refine ⟨_, rfl, ?_⟩; have n0_ := Aside0.mk (blk_below (g := gb260) (o := .cells #[.int .u64 t257, .int .u64 t258] 40 (0, 0)) (by refine blk_far ?_ NB260_264.out _; refine blk_far ?_ NB260_264.out _; exact BK260.out) hb); have n1_ := Aside0.mk (blk_below (g := gb264) (o := .cells #[.int .u64 t261, .int .u64 t262] 40 (0, 0)) (by refine blk_put (cs := #[.int .u64 t261, .int .u64 0]) ?_ 1 _ rfl; refine blk_put (cs := #[.int .u64 0, .int .u64 0]) ?_ 0 _ rfl; exact BK264.out) hb); have n2_ := Aside0.mk (below_step (by repeat (first | (with_reducible first | exact HB.out | apply below_alloc | apply pw_below_drewN | apply below_drew1 | refine below_set ?_ GE260.out | refine below_set ?_ GE264.out) | exact HB.out)) hb); clear BK260; clear BK264; clear HB; have BK260 := n0_; have BK264 := n1_; have HB := n2_; clear n0_ n1_ n2_; (try clear hb); (try clear hb2); (try clear hk); (try clear hi)))
 go_ret
 exact ⟨by first | rfl | (simp [errW_none, errW_some] <;> rfl) | (simp [*, errW_none, errW_some] <;> rfl), by repeat (first | (with_reducible first | exact HB.out | apply below_alloc | apply pw_below_drewN | apply below_drew1 | refine below_set ?_ GE260.out | refine below_set ?_ GE264.out) | exact HB.out)⟩

/-! ### fix_Q_Over: function 19 -/
def fix_Q_Over.f (k : Nat) (a0 : Int) (a1 : Int) : Option (Int) := (fix_Ratio.f k a0 a1).bind fun t266 => (some t266)
theorem fix_Q_Over.mono : ∀ a0 a1 k, LeO (fix_Q_Over.f k a0 a1) (fix_Q_Over.f (k + 1) a0 a1) := by
 intro a0 a1 k
 unfold fix_Q_Over.f
 repeat' first
   | (with_reducible exact fix_Ratio.mono _ _ _)
   | (with_reducible exact LeO.refl _)
   | (with_reducible exact LeO.none _)
   | (with_reducible refine LeO.ite ?_ ?_)
   | (with_reducible refine LeO.bind ?_ (fun _ => ?_))
   | exact fix_Ratio.mono _ _ _
   | exact LeO.none _
   | refine LeO.ite ?_ ?_
   | refine LeO.bind ?_ (fun _ => ?_)
set_option maxHeartbeats 8000000 in
set_option maxRecDepth 100000 in
theorem fix_Q_Over.calls (k : Nat) (a0 : Int) (a1 : Int) (r : Int) (w : World) (h : fix_Q_Over.f k a0 a1 = some r) :
  Calls Try.prog 19 #[.int .i64 a0, .int .i64 a1] w fun e w' => e = .returned (.int .i64 r) ∧ Below w.heap.size w w' := by
 have HB := Aside0.mk (Below.refl w.heap.size w)
 have H : ((fix_Ratio.f k a0 a1).bind fun t266 => (some t266)) = some r := h
 clear h
 replace H := Option.bind_eq_some_iff.mp H
 obtain ⟨t266, A30, H⟩ := H
 replace H : (some t266) = some r := H
 have A3 := Aside0.mk A30
 clear A30
 obtain rfl := Option.some.inj H
 go_enter Try.func19, Try.ntmps19
 go_wp2_with (first | ((with_reducible refine gate_callee (f := 16) rfl ?_); refine goesL_ (some 7) rfl rfl Try.func16 (by kernel_rfl) rfl #[.int .i64 a0, .int .i64 a1] rfl (by (try simp only [List.map_toArray, List.map_cons, List.map_nil]); first | done | rfl | (simp only [List.length_drop, List.length_take]; rfl)) ?_; (with_reducible refine (fix_Ratio.calls k a0 a1 t266 _ A3.out).mono ?_); rintro e w4 ⟨rfl, hb⟩; refine ⟨_, rfl, ?_⟩; have n0_ := Aside0.mk (below_step (by repeat (first | (with_reducible first | exact HB.out | apply below_alloc | apply pw_below_drewN | apply below_drew1) | exact HB.out)) hb); clear HB; have HB := n0_; clear n0_; (try clear hb); (try clear hb2); (try clear hk); (try clear hi)))
 go_ret
 exact ⟨by first | rfl | (simp [errW_none, errW_some] <;> rfl) | (simp [*, errW_none, errW_some] <;> rfl), by repeat (first | (with_reducible first | exact HB.out | apply below_alloc | apply pw_below_drewN | apply below_drew1) | exact HB.out)⟩

/-! ### overfalllaw02_FixRatios: function 4 -/
def overfalllaw02_FixRatios.f (k : Nat) (a0 : Int) (a1 : Int) : Option (Bool) := (overfalllaw02_awake.f k).bind fun t267 => (if t267 = true then ((fix_Ratio.f k a0 a1).bind fun t268 => ((overfallref02_Ratio.f k a0 a1).bind fun t269 => (if t268 = t269 then ((fix_Q_Floor.f t268).bind fun t270 => ((overfallref02_Floor.f k t268).bind fun t271 => (if t270 = t271 then ((fix_Q_Over.f k a0 a1).bind fun t272 => (some (t272 == t268))) else (none)))) else (none)))) else (none))
theorem overfalllaw02_FixRatios.mono : ∀ a0 a1 k, LeO (overfalllaw02_FixRatios.f k a0 a1) (overfalllaw02_FixRatios.f (k + 1) a0 a1) := by
 intro a0 a1 k
 unfold overfalllaw02_FixRatios.f
 repeat' first
   | (with_reducible exact fix_Q_Over.mono _ _ _)
   | (with_reducible exact fix_Ratio.mono _ _ _)
   | (with_reducible exact overfalllaw02_awake.mono _)
   | (with_reducible exact overfallref02_Floor.mono _ _)
   | (with_reducible exact overfallref02_Ratio.mono _ _ _)
   | (with_reducible exact LeO.refl _)
   | (with_reducible exact LeO.none _)
   | (with_reducible refine LeO.ite ?_ ?_)
   | (with_reducible refine LeO.bind ?_ (fun _ => ?_))
   | exact fix_Q_Over.mono _ _ _
   | exact fix_Ratio.mono _ _ _
   | exact overfalllaw02_awake.mono _
   | exact overfallref02_Floor.mono _ _
   | exact overfallref02_Ratio.mono _ _ _
   | exact LeO.none _
   | refine LeO.ite ?_ ?_
   | refine LeO.bind ?_ (fun _ => ?_)
set_option maxHeartbeats 8000000 in
set_option maxRecDepth 100000 in
theorem overfalllaw02_FixRatios.calls (k : Nat) (a0 : Int) (a1 : Int) (r : Bool) (w : World) (h : overfalllaw02_FixRatios.f k a0 a1 = some r) :
  Calls Try.prog 4 #[.int .i64 a0, .int .i64 a1] w fun e w' => e = .returned (.bool r) ∧ Below w.heap.size w w' := by
 have HB := Aside0.mk (Below.refl w.heap.size w)
 have H : ((overfalllaw02_awake.f k).bind fun t267 => (if t267 = true then ((fix_Ratio.f k a0 a1).bind fun t268 => ((overfallref02_Ratio.f k a0 a1).bind fun t269 => (if t268 = t269 then ((fix_Q_Floor.f t268).bind fun t270 => ((overfallref02_Floor.f k t268).bind fun t271 => (if t270 = t271 then ((fix_Q_Over.f k a0 a1).bind fun t272 => (some (t272 == t268))) else (none)))) else (none)))) else (none))) = some r := h
 clear h
 replace H := Option.bind_eq_some_iff.mp H
 obtain ⟨t267, A30, H⟩ := H
 replace H : (if t267 = true then ((fix_Ratio.f k a0 a1).bind fun t268 => ((overfallref02_Ratio.f k a0 a1).bind fun t269 => (if t268 = t269 then ((fix_Q_Floor.f t268).bind fun t270 => ((overfallref02_Floor.f k t268).bind fun t271 => (if t270 = t271 then ((fix_Q_Over.f k a0 a1).bind fun t272 => (some (t272 == t268))) else (none)))) else (none)))) else (none)) = some r := H
 have A3 := Aside0.mk A30
 clear A30
 by_cases c4 : t267 = true
 ·subst c4
  have H1 : ((fix_Ratio.f k a0 a1).bind fun t268 => ((overfallref02_Ratio.f k a0 a1).bind fun t269 => (if t268 = t269 then ((fix_Q_Floor.f t268).bind fun t270 => ((overfallref02_Floor.f k t268).bind fun t271 => (if t270 = t271 then ((fix_Q_Over.f k a0 a1).bind fun t272 => (some (t272 == t268))) else (none)))) else (none)))) = some r := by rw [if_pos rfl] at H; exact H
  clear H
  have H := H1
  clear H1
  replace H := Option.bind_eq_some_iff.mp H
  obtain ⟨t268, A50, H⟩ := H
  replace H : ((overfallref02_Ratio.f k a0 a1).bind fun t269 => (if t268 = t269 then ((fix_Q_Floor.f t268).bind fun t270 => ((overfallref02_Floor.f k t268).bind fun t271 => (if t270 = t271 then ((fix_Q_Over.f k a0 a1).bind fun t272 => (some (t272 == t268))) else (none)))) else (none))) = some r := H
  have A5 := Aside0.mk A50
  clear A50
  replace H := Option.bind_eq_some_iff.mp H
  obtain ⟨t269, A60, H⟩ := H
  replace H : (if t268 = t269 then ((fix_Q_Floor.f t268).bind fun t270 => ((overfallref02_Floor.f k t268).bind fun t271 => (if t270 = t271 then ((fix_Q_Over.f k a0 a1).bind fun t272 => (some (t272 == t268))) else (none)))) else (none)) = some r := H
  have A6 := Aside0.mk A60
  clear A60
  by_cases c7 : t268 = t269
  ·rw [if_pos c7] at H
   have c7b0 : (t268 == t269) = true := beq_iff_eq.mpr c7
   have c7b1 : (t268 != t269) = false := bne_eq_false_iff_eq.mpr c7
   clear c7
   replace H := Option.bind_eq_some_iff.mp H
   obtain ⟨t270, A80, H⟩ := H
   replace H : ((overfallref02_Floor.f k t268).bind fun t271 => (if t270 = t271 then ((fix_Q_Over.f k a0 a1).bind fun t272 => (some (t272 == t268))) else (none))) = some r := H
   have A8 := Aside0.mk A80
   clear A80
   replace H := Option.bind_eq_some_iff.mp H
   obtain ⟨t271, A90, H⟩ := H
   replace H : (if t270 = t271 then ((fix_Q_Over.f k a0 a1).bind fun t272 => (some (t272 == t268))) else (none)) = some r := H
   have A9 := Aside0.mk A90
   clear A90
   by_cases c10 : t270 = t271
   ·rw [if_pos c10] at H
    have c10b0 : (t270 == t271) = true := beq_iff_eq.mpr c10
    have c10b1 : (t270 != t271) = false := bne_eq_false_iff_eq.mpr c10
    clear c10
    replace H := Option.bind_eq_some_iff.mp H
    obtain ⟨t272, A110, H⟩ := H
    replace H : (some (t272 == t268)) = some r := H
    have A11 := Aside0.mk A110
    clear A110
    obtain rfl := Option.some.inj H
    go_enter Try.func4, Try.ntmps4
    go_wp2_with (first | ((with_reducible refine gate_callee (f := 10) rfl ?_); refine goesL_ (some 6) rfl rfl Try.func10 (by kernel_rfl) rfl #[] rfl (by (try simp only [List.map_toArray, List.map_cons, List.map_nil]); first | done | rfl | (simp only [List.length_drop, List.length_take]; rfl)) ?_; (with_reducible refine (overfalllaw02_awake.calls k  true _ A3.out).mono ?_); rintro e w12 ⟨rfl, hb⟩; refine ⟨_, rfl, ?_⟩; have n0_ := Aside0.mk (below_step (by repeat (first | (with_reducible first | exact HB.out | apply below_alloc | apply pw_below_drewN | apply below_drew1) | exact HB.out)) hb); clear HB; have HB := n0_; clear n0_; (try clear hb); (try clear hb2); (try clear hk); (try clear hi)) | ((with_reducible refine gate_callee (f := 16) rfl ?_); refine goesL_ (some 10) rfl rfl Try.func16 (by kernel_rfl) rfl #[.int .i64 a0, .int .i64 a1] rfl (by (try simp only [List.map_toArray, List.map_cons, List.map_nil]); first | done | rfl | (simp only [List.length_drop, List.length_take]; rfl)) ?_; (with_reducible refine (fix_Ratio.calls k a0 a1 t268 _ A5.out).mono ?_); rintro e w13 ⟨rfl, hb⟩; refine ⟨_, rfl, ?_⟩; have n0_ := Aside0.mk (below_step (by repeat (first | (with_reducible first | exact HB.out | apply below_alloc | apply pw_below_drewN | apply below_drew1) | exact HB.out)) hb); clear HB; have HB := n0_; clear n0_; (try clear hb); (try clear hb2); (try clear hk); (try clear hi)) | ((with_reducible refine gate_callee (f := 17) rfl ?_); refine goesL_ (some 14) rfl rfl Try.func17 (by kernel_rfl) rfl #[.int .i64 a0, .int .i64 a1] rfl (by (try simp only [List.map_toArray, List.map_cons, List.map_nil]); first | done | rfl | (simp only [List.length_drop, List.length_take]; rfl)) ?_; (with_reducible refine (overfallref02_Ratio.calls k a0 a1 t269 _ A6.out).mono ?_); rintro e w14 ⟨rfl, hb⟩; refine ⟨_, rfl, ?_⟩; have n0_ := Aside0.mk (below_step (by repeat (first | (with_reducible first | exact HB.out | apply below_alloc | apply pw_below_drewN | apply below_drew1) | exact HB.out)) hb); clear HB; have HB := n0_; clear n0_; (try clear hb); (try clear hb2); (try clear hk); (try clear hi)) | (go_at_call 15; (with_reducible refine (fix_Q_Floor.calls t268 t270 _ A8.out).mono ?_); rintro e w' ⟨rfl, ⟨nd, rfl⟩⟩) | (go_at_call 18; (with_reducible refine (overfallref02_Floor.calls k t268 t271 _ A9.out).mono ?_); rintro e w15 ⟨rfl, hb⟩; have n0_ := Aside0.mk (below_step (by repeat (first | (with_reducible first | exact HB.out | apply below_alloc | apply pw_below_drewN | apply below_drew1) | exact HB.out)) hb); clear HB; have HB := n0_; clear n0_; (try clear hb); (try clear hb2); (try clear hk); (try clear hi)) | (go_at_call 19; (with_reducible refine (fix_Q_Over.calls k a0 a1 t272 _ A11.out).mono ?_); rintro e w16 ⟨rfl, hb⟩; have n0_ := Aside0.mk (below_step (by repeat (first | (with_reducible first | exact HB.out | apply below_alloc | apply pw_below_drewN | apply below_drew1) | exact HB.out)) hb); clear HB; have HB := n0_; clear n0_; (try clear hb); (try clear hb2); (try clear hk); (try clear hi)))
    go_ret
    exact ⟨by first | rfl | (simp [errW_none, errW_some] <;> rfl) | (simp [*, errW_none, errW_some] <;> rfl), by repeat (first | (with_reducible first | exact HB.out | apply below_alloc | apply pw_below_drewN | apply below_drew1) | exact HB.out)⟩
   ·rw [if_neg c10] at H
    exact absurd H (by simp)
  ·rw [if_neg c7] at H
   exact absurd H (by simp)
 ·replace c4 := Bool.eq_false_iff.mpr c4
  subst c4
  have H1 : (none) = some r := by rw [if_neg (show ¬ (false = true) by decide)] at H; exact H
  clear H
  have H := H1
  clear H1
  exact absurd H (by simp)

/-- THE ONE PURE STATEMENT of overfalllaw02_FixRatios: yours. -/
def overfalllaw02_FixRatios.Pure : Prop := ∀ (a0 : Int) (a1 : Int), (Lit.int .i64 a0).wf = true → (Lit.int .i64 a1).wf = true → ∃ k, overfalllaw02_FixRatios.f k a0 a1 = some true
theorem overfalllaw02_FixRatios.walk (P : overfalllaw02_FixRatios.Pure) (a0 : Int) (a1 : Int) (w : World) (w0 : (Lit.int .i64 a0).wf = true) (w1 : (Lit.int .i64 a1).wf = true) :
  Calls Try.prog 4 #[.int .i64 a0, .int .i64 a1] w fun e w' => e = .returned (.bool true) ∧ Below w.heap.size w w' := by
 obtain ⟨k, h⟩ := P a0 a1 w0 w1
 refine (overfalllaw02_FixRatios.calls k a0 a1 true w h).mono ?_
 rintro e w' ⟨rfl, hd⟩
 exact ⟨rfl, hd⟩

end Go.Proofs.Ytjgjmeefieikaaa.R

-- Laid by a program of this claim's session (wip/tools/myprint.py) over the kit's printer.
import Derived.Test.YthmapfhemiamhaaPx0
import Derived.Test.YthmapfhemiamhaaPx5
import Derived.Test.YthmapfhemiamhaaPx6
namespace Go.Proofs.Ythmapfhemiamhaa.P
open Go.RowKit Go.Proofs.YthmapfhemiamhaaW.PrintWords Go.Proofs.YthmapfhemiamhaaW.PrintLast Go.Proofs.YthmapfhemiamhaaW.PrintMore
attribute [local go_sem] max2_int min2_int max_two min_two max_three min_three max_four min_four   -- for this text's walks alone
set_option linter.unusedVariables false
set_option linter.unusedSimpArgs false

/-! ### overfalllaw11_PidRises: function 6 -/
def overfalllaw11_PidRises.f (k : Nat) (a0_0 : Int) (a0_1 : Int) (a0_2 : Int) (a1_0 : Int) (a1_1 : Int) (a1_2 : Int) (a1_3 : Int) (a1_4 : Int) (a1_5 : Int) (a1_6 : Int) (a2 : Int) (a3 : Int) : Option (Bool) := (overfalllaw11_awake.f k).bind fun t215 => (if t215 = true then ((overfalllaw11_right.f a1_0 a1_1 a1_2 a1_3 a1_4 a1_5 a1_6).bind fun bt216 => (if a2 > a3 then ((pid_State_Sample.f k (mx a0_0 0) a0_1 a0_2 bt216.1 bt216.2.1 bt216.2.2.1 bt216.2.2.2.1 bt216.2.2.2.2.1 bt216.2.2.2.2.2.1 bt216.2.2.2.2.2.2 a3).bind fun bt223 => ((pid_State_Sample.f k (mx a0_0 0) a0_1 a0_2 bt216.1 bt216.2.1 bt216.2.2.1 bt216.2.2.2.1 bt216.2.2.2.2.1 bt216.2.2.2.2.2.1 bt216.2.2.2.2.2.2 a2).bind fun bt226 => (some (decide (bt223.2.2 ≤ bt226.2.2))))) else ((pid_State_Sample.f k (mx a0_0 0) a0_1 a0_2 bt216.1 bt216.2.1 bt216.2.2.1 bt216.2.2.2.1 bt216.2.2.2.2.1 bt216.2.2.2.2.2.1 bt216.2.2.2.2.2.2 a2).bind fun bt231 => ((pid_State_Sample.f k (mx a0_0 0) a0_1 a0_2 bt216.1 bt216.2.1 bt216.2.2.1 bt216.2.2.2.1 bt216.2.2.2.2.1 bt216.2.2.2.2.2.1 bt216.2.2.2.2.2.2 a3).bind fun bt234 => (some (decide (bt231.2.2 ≤ bt234.2.2))))))) else (none))
theorem overfalllaw11_PidRises.mono : ∀ a0 a1 a2 a3 a4 a5 a6 a7 a8 a9 a10 a11 k, LeO (overfalllaw11_PidRises.f k a0 a1 a2 a3 a4 a5 a6 a7 a8 a9 a10 a11) (overfalllaw11_PidRises.f (k + 1) a0 a1 a2 a3 a4 a5 a6 a7 a8 a9 a10 a11) := by
 intro a0 a1 a2 a3 a4 a5 a6 a7 a8 a9 a10 a11 k
 unfold overfalllaw11_PidRises.f
 repeat' first
   | (with_reducible exact overfalllaw11_awake.mono _)
   | (with_reducible exact pid_State_Sample.mono _ _ _ _ _ _ _ _ _ _ _ _)
   | (with_reducible exact LeO.refl _)
   | (with_reducible exact LeO.none _)
   | (with_reducible refine LeO.ite ?_ ?_)
   | (with_reducible refine LeO.bind ?_ (fun _ => ?_))
   | exact overfalllaw11_awake.mono _
   | exact pid_State_Sample.mono _ _ _ _ _ _ _ _ _ _ _ _
   | exact LeO.none _
   | refine LeO.ite ?_ ?_
   | refine LeO.bind ?_ (fun _ => ?_)
def overfalllaw11_PidRises.T7 : Bool × List (List Nat × List Nat) := (true, [([], []), ([], []), ([], []), ([0, 1, 2], [0, 1, 2]), ([], []), ([], []), ([], []), ([4, 5, 6, 3], [4, 5, 6]), ([], []), ([], []), ([8, 3, 7, 0, 1, 2, 3, 8, 9], [3, 8]), ([9, 7, 10, 0, 1, 2, 3, 4, 5, 6, 7, 8, 9, 10], [7, 9])])
def overfalllaw11_PidRises.B7 : List Nat := [0, 0, 0, 7, 0, 0, 0, 127, 0, 0, 1023, 2047]
theorem overfalllaw11_PidRises.tab7 : rtab .any (opsOf Try.f6 7) = overfalllaw11_PidRises.T7 := by kernel_rfl
theorem overfalllaw11_PidRises.bits7 : waitsOk overfalllaw11_PidRises.T7.2 overfalllaw11_PidRises.B7 = true := by kernel_rfl
set_option maxHeartbeats 8000000 in
set_option maxRecDepth 100000 in
theorem overfalllaw11_PidRises.calls (k : Nat) (a0_0 : Int) (a0_1 : Int) (a0_2 : Int) (a1_0 : Int) (a1_1 : Int) (a1_2 : Int) (a1_3 : Int) (a1_4 : Int) (a1_5 : Int) (a1_6 : Int) (a2 : Int) (a3 : Int) (r : Bool) (w : World) (h : overfalllaw11_PidRises.f k a0_0 a0_1 a0_2 a1_0 a1_1 a1_2 a1_3 a1_4 a1_5 a1_6 a2 a3 = some r) :
  Calls Try.prog 6 #[.agg #[.int .i64 a0_0, .int .i64 a0_1, .int .i64 a0_2], .agg #[.int .i64 a1_0, .int .i64 a1_1, .int .i64 a1_2, .int .i64 a1_3, .int .i64 a1_4, .int .i64 a1_5, .int .i64 a1_6], .int .i64 a2, .int .i64 a3] w fun e w' => e = .returned (.bool r) ∧ Below w.heap.size w w' := by
 have hu24 := Try.underlying24
 have hu26 := Try.underlying26
 have HB := Aside0.mk (Below.refl w.heap.size w)
 have H : ((overfalllaw11_awake.f k).bind fun t215 => (if t215 = true then ((overfalllaw11_right.f a1_0 a1_1 a1_2 a1_3 a1_4 a1_5 a1_6).bind fun bt216 => (if a2 > a3 then ((pid_State_Sample.f k (mx a0_0 0) a0_1 a0_2 bt216.1 bt216.2.1 bt216.2.2.1 bt216.2.2.2.1 bt216.2.2.2.2.1 bt216.2.2.2.2.2.1 bt216.2.2.2.2.2.2 a3).bind fun bt223 => ((pid_State_Sample.f k (mx a0_0 0) a0_1 a0_2 bt216.1 bt216.2.1 bt216.2.2.1 bt216.2.2.2.1 bt216.2.2.2.2.1 bt216.2.2.2.2.2.1 bt216.2.2.2.2.2.2 a2).bind fun bt226 => (some (decide (bt223.2.2 ≤ bt226.2.2))))) else ((pid_State_Sample.f k (mx a0_0 0) a0_1 a0_2 bt216.1 bt216.2.1 bt216.2.2.1 bt216.2.2.2.1 bt216.2.2.2.2.1 bt216.2.2.2.2.2.1 bt216.2.2.2.2.2.2 a2).bind fun bt231 => ((pid_State_Sample.f k (mx a0_0 0) a0_1 a0_2 bt216.1 bt216.2.1 bt216.2.2.1 bt216.2.2.2.1 bt216.2.2.2.2.1 bt216.2.2.2.2.2.1 bt216.2.2.2.2.2.2 a3).bind fun bt234 => (some (decide (bt231.2.2 ≤ bt234.2.2))))))) else (none))) = some r := h
 clear h
 replace H := Option.bind_eq_some_iff.mp H
 obtain ⟨t215, A50, H⟩ := H
 replace H : (if t215 = true then ((overfalllaw11_right.f a1_0 a1_1 a1_2 a1_3 a1_4 a1_5 a1_6).bind fun bt216 => (if a2 > a3 then ((pid_State_Sample.f k (mx a0_0 0) a0_1 a0_2 bt216.1 bt216.2.1 bt216.2.2.1 bt216.2.2.2.1 bt216.2.2.2.2.1 bt216.2.2.2.2.2.1 bt216.2.2.2.2.2.2 a3).bind fun bt223 => ((pid_State_Sample.f k (mx a0_0 0) a0_1 a0_2 bt216.1 bt216.2.1 bt216.2.2.1 bt216.2.2.2.1 bt216.2.2.2.2.1 bt216.2.2.2.2.2.1 bt216.2.2.2.2.2.2 a2).bind fun bt226 => (some (decide (bt223.2.2 ≤ bt226.2.2))))) else ((pid_State_Sample.f k (mx a0_0 0) a0_1 a0_2 bt216.1 bt216.2.1 bt216.2.2.1 bt216.2.2.2.1 bt216.2.2.2.2.1 bt216.2.2.2.2.2.1 bt216.2.2.2.2.2.2 a2).bind fun bt231 => ((pid_State_Sample.f k (mx a0_0 0) a0_1 a0_2 bt216.1 bt216.2.1 bt216.2.2.1 bt216.2.2.2.1 bt216.2.2.2.2.1 bt216.2.2.2.2.2.1 bt216.2.2.2.2.2.2 a3).bind fun bt234 => (some (decide (bt231.2.2 ≤ bt234.2.2))))))) else (none)) = some r := H
 have A5 := Aside0.mk A50
 clear A50
 by_cases c6 : t215 = true
 ·subst c6
  have H1 : ((overfalllaw11_right.f a1_0 a1_1 a1_2 a1_3 a1_4 a1_5 a1_6).bind fun bt216 => (if a2 > a3 then ((pid_State_Sample.f k (mx a0_0 0) a0_1 a0_2 bt216.1 bt216.2.1 bt216.2.2.1 bt216.2.2.2.1 bt216.2.2.2.2.1 bt216.2.2.2.2.2.1 bt216.2.2.2.2.2.2 a3).bind fun bt223 => ((pid_State_Sample.f k (mx a0_0 0) a0_1 a0_2 bt216.1 bt216.2.1 bt216.2.2.1 bt216.2.2.2.1 bt216.2.2.2.2.1 bt216.2.2.2.2.2.1 bt216.2.2.2.2.2.2 a2).bind fun bt226 => (some (decide (bt223.2.2 ≤ bt226.2.2))))) else ((pid_State_Sample.f k (mx a0_0 0) a0_1 a0_2 bt216.1 bt216.2.1 bt216.2.2.1 bt216.2.2.2.1 bt216.2.2.2.2.1 bt216.2.2.2.2.2.1 bt216.2.2.2.2.2.2 a2).bind fun bt231 => ((pid_State_Sample.f k (mx a0_0 0) a0_1 a0_2 bt216.1 bt216.2.1 bt216.2.2.1 bt216.2.2.2.1 bt216.2.2.2.2.1 bt216.2.2.2.2.2.1 bt216.2.2.2.2.2.2 a3).bind fun bt234 => (some (decide (bt231.2.2 ≤ bt234.2.2))))))) = some r := by rw [if_pos rfl] at H; exact H
  clear H
  have H := H1
  clear H1
  replace H := Option.bind_eq_some_iff.mp H
  obtain ⟨⟨t216, t217, t218, t219, t220, t221, t222⟩, A70, H⟩ := H
  replace H : (if a2 > a3 then ((pid_State_Sample.f k (mx a0_0 0) a0_1 a0_2 t216 t217 t218 t219 t220 t221 t222 a3).bind fun bt223 => ((pid_State_Sample.f k (mx a0_0 0) a0_1 a0_2 t216 t217 t218 t219 t220 t221 t222 a2).bind fun bt226 => (some (decide (bt223.2.2 ≤ bt226.2.2))))) else ((pid_State_Sample.f k (mx a0_0 0) a0_1 a0_2 t216 t217 t218 t219 t220 t221 t222 a2).bind fun bt231 => ((pid_State_Sample.f k (mx a0_0 0) a0_1 a0_2 t216 t217 t218 t219 t220 t221 t222 a3).bind fun bt234 => (some (decide (bt231.2.2 ≤ bt234.2.2)))))) = some r := H
  have A7 := Aside0.mk A70
  clear A70
  obtain ⟨ji8, hji8⟩ : ∃ j_ : Int, (mx a0_0 0) = j_ := ⟨_, rfl⟩
  replace H : (if a2 > a3 then ((pid_State_Sample.f k (ji8) a0_1 a0_2 t216 t217 t218 t219 t220 t221 t222 a3).bind fun bt223 => ((pid_State_Sample.f k (ji8) a0_1 a0_2 t216 t217 t218 t219 t220 t221 t222 a2).bind fun bt226 => (some (decide (bt223.2.2 ≤ bt226.2.2))))) else ((pid_State_Sample.f k (ji8) a0_1 a0_2 t216 t217 t218 t219 t220 t221 t222 a2).bind fun bt231 => ((pid_State_Sample.f k (ji8) a0_1 a0_2 t216 t217 t218 t219 t220 t221 t222 a3).bind fun bt234 => (some (decide (bt231.2.2 ≤ bt234.2.2)))))) = some r := by first | (rw [hji8] at H; exact H) | (simp only [hji8] at H ⊢; exact H)
  (try rw [hji8] at A5)
  (try rw [hji8] at A7)
  (try (have hji8l : 0 ≤ ji8 := by (rw [← hji8]; unfold mx; (repeat' split) <;> omega)))
  (try (have hji8m : 0 ≤ ji8 := by omega))
  have hji8_ : (if a0_0 < 0 then 0 else a0_0) = ji8 := hji8
  by_cases c9 : a2 > a3
  ·rw [if_pos c9] at H
   have c9b0 : decide (a3 < a2) = true := decide_eq_true c9
   clear c9
   replace H := Option.bind_eq_some_iff.mp H
   obtain ⟨⟨t223, t224, t225⟩, A100, H⟩ := H
   replace H : ((pid_State_Sample.f k (ji8) a0_1 a0_2 t216 t217 t218 t219 t220 t221 t222 a2).bind fun bt226 => (some (decide (t225 ≤ bt226.2.2)))) = some r := H
   have A10 := Aside0.mk A100
   clear A100
   replace H := Option.bind_eq_some_iff.mp H
   obtain ⟨⟨t226, t227, t228⟩, A110, H⟩ := H
   replace H : (some (decide (t225 ≤ t228))) = some r := H
   have A11 := Aside0.mk A110
   clear A110
   obtain rfl := Option.some.inj H
   go_enter Try.func6, Try.ntmps6
   try go_wp2_with (first | ((with_reducible refine gate_dst (N := 4) rfl ?_); refine box_event ?hg (N := 4) ?hd (cs := #[.int .i64 a0_0, .int .i64 a0_1, .int .i64 a0_2]) (t := 24) ?hr ?_; (case hd => rfl); (case hg => rfl); (case hr => first | (go_simp; done) | (go_simp; rfl)); intro gb213 hg w12 hbox hb; have n0_ := Aside0.mk (below_step (by repeat (first | (with_reducible first | exact HB.out | apply below_alloc | apply pw_below_drewN | apply below_drew1) | exact HB.out)) hb); have n1_ := Aside0.mk (hbox); have n2_ := Aside0.mk ((by rw [hg]; exact (below_size (by repeat (first | (with_reducible first | exact HB.out | apply below_alloc | apply pw_below_drewN | apply below_drew1) | exact HB.out))) : w.heap.size ≤ gb213)); have n3_ := Aside0.mk ((by rw [hg]; exact (below_size (by repeat (first | (with_reducible first | exact HB.out | apply below_alloc | apply pw_below_drewN | apply below_drew1) | exact HB.out))) : w.heap.size ≤ gb213)); clear HB; have HB := n0_; have BK213 := n1_; have GW213 := n2_; have GE213 := n3_; clear n0_ n1_ n2_ n3_; clear hb hbox hg) | ((with_reducible refine gate_dst (N := 5) rfl ?_); refine box_event ?hg (N := 5) ?hd (cs := #[.int .i64 a1_0, .int .i64 a1_1, .int .i64 a1_2, .int .i64 a1_3, .int .i64 a1_4, .int .i64 a1_5, .int .i64 a1_6]) (t := 26) ?hr ?_; (case hd => rfl); (case hg => rfl); (case hr => first | (go_simp; done) | (go_simp; rfl)); intro gb214 hg w13 hbox hb; have n0_ := Aside0.mk (blk_below (by exact BK213.out) hb); have n1_ := Aside0.mk (below_step (by repeat (first | (with_reducible first | exact HB.out | apply below_alloc | apply pw_below_drewN | apply below_drew1 | refine below_set ?_ GE213.out) | exact HB.out)) hb); have n2_ := Aside0.mk (hbox); have n3_ := Aside0.mk ((by rw [hg]; exact (below_size (by repeat (first | (with_reducible first | exact HB.out | apply below_alloc | apply pw_below_drewN | apply below_drew1 | refine below_set ?_ GE213.out) | exact HB.out))) : w.heap.size ≤ gb214)); have n4_ := Aside0.mk ((by rw [hg]; exact (below_size (by repeat (first | (with_reducible first | exact HB.out | apply below_alloc | apply pw_below_drewN | apply below_drew1 | refine below_set ?_ GE213.out) | exact HB.out))) : w.heap.size ≤ gb214)); have n5_ := Aside0.mk ((by rw [hg]; exact Nat.ne_of_lt (blk_lt (by exact BK213.out)) : gb213 ≠ gb214)); have n6_ := Aside0.mk ((by rw [hg]; exact Nat.ne_of_gt (blk_lt (by exact BK213.out)) : gb214 ≠ gb213)); clear BK213; clear HB; have BK213 := n0_; have HB := n1_; have BK214 := n2_; have GW214 := n3_; have GE214 := n4_; have NB213_214 := n5_; have NB214_213 := n6_; clear n0_ n1_ n2_ n3_ n4_ n5_ n6_; clear hb hbox hg) | ((with_reducible refine gate_callee (f := 8) rfl ?_); refine goesL_ (some 11) rfl rfl Try.func8 (by kernel_rfl) rfl #[] rfl (by (try simp only [List.map_toArray, List.map_cons, List.map_nil]); first | done | rfl | (simp only [List.length_drop, List.length_take]; rfl)) ?_; (with_reducible refine (overfalllaw11_awake.calls k  true _ A5.out).mono ?_); rintro e w14 ⟨rfl, hb⟩; refine ⟨_, rfl, ?_⟩; have n0_ := Aside0.mk (blk_below (by exact BK213.out) hb); have n1_ := Aside0.mk (blk_below (by exact BK214.out) hb); have n2_ := Aside0.mk (below_step (by repeat (first | (with_reducible first | exact HB.out | apply below_alloc | apply pw_below_drewN | apply below_drew1 | refine below_set ?_ GE213.out | refine below_set ?_ GE214.out) | exact HB.out)) hb); clear BK213; clear BK214; clear HB; have BK213 := n0_; have BK214 := n1_; have HB := n2_; clear n0_ n1_ n2_; (try clear hb); (try clear hb2); (try clear hk); (try clear hi); have hnb15 := NB214_213.out; have hnc15 := NB213_214.out; have hcz16_0 : w14.cell? ⟨gb214, 0, none⟩ = some (.int .i64 a1_0) := (blk_cell BK214.out 0).trans rfl; have hcz16_1 : w14.cell? ⟨gb214, 1, none⟩ = some (.int .i64 a1_1) := (blk_cell BK214.out 1).trans rfl; have hcz16_2 : w14.cell? ⟨gb214, 2, none⟩ = some (.int .i64 a1_2) := (blk_cell BK214.out 2).trans rfl; have hcz16_3 : w14.cell? ⟨gb214, 3, none⟩ = some (.int .i64 a1_3) := (blk_cell BK214.out 3).trans rfl; have hcz16_4 : w14.cell? ⟨gb214, 4, none⟩ = some (.int .i64 a1_4) := (blk_cell BK214.out 4).trans rfl; have hcz16_5 : w14.cell? ⟨gb214, 5, none⟩ = some (.int .i64 a1_5) := (blk_cell BK214.out 5).trans rfl; have hcz16_6 : w14.cell? ⟨gb214, 6, none⟩ = some (.int .i64 a1_6) := (blk_cell BK214.out 6).trans rfl; have hfz16_0 := blk_frozen BK214.out 0; have hfz16_1 := blk_frozen BK214.out 1; have hfz16_2 := blk_frozen BK214.out 2; have hfz16_3 := blk_frozen BK214.out 3; have hfz16_4 := blk_frozen BK214.out 4; have hfz16_5 := blk_frozen BK214.out 5; have hfz16_6 := blk_frozen BK214.out 6) | ((with_reducible refine gate_callee (f := 16) rfl ?_); refine goesL_ (some 14) rfl rfl Try.func16 (by kernel_rfl) rfl #[.agg #[.int .i64 a1_0, .int .i64 a1_1, .int .i64 a1_2, .int .i64 a1_3, .int .i64 a1_4, .int .i64 a1_5, .int .i64 a1_6]] rfl (by (try simp only [List.map_toArray, List.map_cons, List.map_nil]); first | done | rfl | (simp only [List.length_drop, List.length_take]; rfl)) ?_; (with_reducible refine (overfalllaw11_right.calls a1_0 a1_1 a1_2 a1_3 a1_4 a1_5 a1_6 t216 t217 t218 t219 t220 t221 t222 _ A7.out).mono ?_); rintro e w17 ⟨rfl, hb⟩; refine ⟨_, rfl, ?_⟩; have n0_ := Aside0.mk (blk_below (by exact BK213.out) hb); have n1_ := Aside0.mk (blk_below (by exact BK214.out) hb); have n2_ := Aside0.mk (below_step (by repeat (first | (with_reducible first | exact HB.out | apply below_alloc | apply pw_below_drewN | apply below_drew1 | refine below_set ?_ GE213.out | refine below_set ?_ GE214.out) | exact HB.out)) hb); clear BK213; clear BK214; clear HB; have BK213 := n0_; have BK214 := n1_; have HB := n2_; clear n0_ n1_ n2_; (try clear hb); (try clear hb2); (try clear hk); (try clear hi); have hcz18_0 : w17.cell? ⟨gb214, 0, none⟩ = some (.int .i64 a1_0) := (blk_cell BK214.out 0).trans rfl; have hcz18_1 : w17.cell? ⟨gb214, 1, none⟩ = some (.int .i64 a1_1) := (blk_cell BK214.out 1).trans rfl; have hcz18_2 : w17.cell? ⟨gb214, 2, none⟩ = some (.int .i64 a1_2) := (blk_cell BK214.out 2).trans rfl; have hcz18_3 : w17.cell? ⟨gb214, 3, none⟩ = some (.int .i64 a1_3) := (blk_cell BK214.out 3).trans rfl; have hcz18_4 : w17.cell? ⟨gb214, 4, none⟩ = some (.int .i64 a1_4) := (blk_cell BK214.out 4).trans rfl; have hcz18_5 : w17.cell? ⟨gb214, 5, none⟩ = some (.int .i64 a1_5) := (blk_cell BK214.out 5).trans rfl; have hcz18_6 : w17.cell? ⟨gb214, 6, none⟩ = some (.int .i64 a1_6) := (blk_cell BK214.out 6).trans rfl; have hfz18_0 := blk_frozen BK214.out 0; have hfz18_1 := blk_frozen BK214.out 1; have hfz18_2 := blk_frozen BK214.out 2; have hfz18_3 := blk_frozen BK214.out 3; have hfz18_4 := blk_frozen BK214.out 4; have hfz18_5 := blk_frozen BK214.out 5; have hfz18_6 := blk_frozen BK214.out 6; have hcz19_0 : w17.cell? ⟨gb213, 0, none⟩ = some (.int .i64 a0_0) := (blk_cell BK213.out 0).trans rfl; have hcz19_1 : w17.cell? ⟨gb213, 1, none⟩ = some (.int .i64 a0_1) := (blk_cell BK213.out 1).trans rfl; have hcz19_2 : w17.cell? ⟨gb213, 2, none⟩ = some (.int .i64 a0_2) := (blk_cell BK213.out 2).trans rfl; have hfz19_0 := blk_frozen BK213.out 0; have hfz19_1 := blk_frozen BK213.out 1; have hfz19_2 := blk_frozen BK213.out 2))
   have n0_ : Aside0 (((((((((w17.setCell ⟨gb214, 0, none⟩ (.int .i64 t216)).setCell ⟨gb214, 1, none⟩ (.int .i64 t217)).setCell ⟨gb214, 2, none⟩ (.int .i64 t218)).setCell ⟨gb214, 3, none⟩ (.int .i64 t219)).setCell ⟨gb214, 4, none⟩ (.int .i64 t220)).setCell ⟨gb214, 5, none⟩ (.int .i64 t221)).setCell ⟨gb214, 6, none⟩ (.int .i64 t222)).setCell ⟨gb213, 0, none⟩ (.int .i64 ji8)).heap[gb213]? = some (.cells #[.int .i64 ji8, .int .i64 a0_1, .int .i64 a0_2] 24 (0, 0))) := ⟨by refine blk_put (cs := #[.int .i64 a0_0, .int .i64 a0_1, .int .i64 a0_2]) ?_ 0 _ rfl; refine blk_far ?_ NB213_214.out _; refine blk_far ?_ NB213_214.out _; refine blk_far ?_ NB213_214.out _; refine blk_far ?_ NB213_214.out _; refine blk_far ?_ NB213_214.out _; refine blk_far ?_ NB213_214.out _; refine blk_far ?_ NB213_214.out _; exact BK213.out⟩
   have n1_ : Aside0 (((((((((w17.setCell ⟨gb214, 0, none⟩ (.int .i64 t216)).setCell ⟨gb214, 1, none⟩ (.int .i64 t217)).setCell ⟨gb214, 2, none⟩ (.int .i64 t218)).setCell ⟨gb214, 3, none⟩ (.int .i64 t219)).setCell ⟨gb214, 4, none⟩ (.int .i64 t220)).setCell ⟨gb214, 5, none⟩ (.int .i64 t221)).setCell ⟨gb214, 6, none⟩ (.int .i64 t222)).setCell ⟨gb213, 0, none⟩ (.int .i64 ji8)).heap[gb214]? = some (.cells #[.int .i64 t216, .int .i64 t217, .int .i64 t218, .int .i64 t219, .int .i64 t220, .int .i64 t221, .int .i64 t222] 26 (0, 0))) := ⟨by refine blk_far ?_ NB214_213.out _; refine blk_put (cs := #[.int .i64 t216, .int .i64 t217, .int .i64 t218, .int .i64 t219, .int .i64 t220, .int .i64 t221, .int .i64 a1_6]) ?_ 6 _ rfl; refine blk_put (cs := #[.int .i64 t216, .int .i64 t217, .int .i64 t218, .int .i64 t219, .int .i64 t220, .int .i64 a1_5, .int .i64 a1_6]) ?_ 5 _ rfl; refine blk_put (cs := #[.int .i64 t216, .int .i64 t217, .int .i64 t218, .int .i64 t219, .int .i64 a1_4, .int .i64 a1_5, .int .i64 a1_6]) ?_ 4 _ rfl; refine blk_put (cs := #[.int .i64 t216, .int .i64 t217, .int .i64 t218, .int .i64 a1_3, .int .i64 a1_4, .int .i64 a1_5, .int .i64 a1_6]) ?_ 3 _ rfl; refine blk_put (cs := #[.int .i64 t216, .int .i64 t217, .int .i64 a1_2, .int .i64 a1_3, .int .i64 a1_4, .int .i64 a1_5, .int .i64 a1_6]) ?_ 2 _ rfl; refine blk_put (cs := #[.int .i64 t216, .int .i64 a1_1, .int .i64 a1_2, .int .i64 a1_3, .int .i64 a1_4, .int .i64 a1_5, .int .i64 a1_6]) ?_ 1 _ rfl; refine blk_put (cs := #[.int .i64 a1_0, .int .i64 a1_1, .int .i64 a1_2, .int .i64 a1_3, .int .i64 a1_4, .int .i64 a1_5, .int .i64 a1_6]) ?_ 0 _ rfl; exact BK214.out⟩
   have n2_ : Aside0 (Below w.heap.size w ((((((((w17.setCell ⟨gb214, 0, none⟩ (.int .i64 t216)).setCell ⟨gb214, 1, none⟩ (.int .i64 t217)).setCell ⟨gb214, 2, none⟩ (.int .i64 t218)).setCell ⟨gb214, 3, none⟩ (.int .i64 t219)).setCell ⟨gb214, 4, none⟩ (.int .i64 t220)).setCell ⟨gb214, 5, none⟩ (.int .i64 t221)).setCell ⟨gb214, 6, none⟩ (.int .i64 t222)).setCell ⟨gb213, 0, none⟩ (.int .i64 ji8))) := ⟨by repeat (first | (with_reducible first | exact HB.out | apply below_alloc | apply pw_below_drewN | apply below_drew1 | refine below_set ?_ GE213.out | refine below_set ?_ GE214.out) | exact HB.out)⟩
   (try clear BK213)
   (try clear BK214)
   (try clear HB)
   generalize ((((((((w17.setCell ⟨gb214, 0, none⟩ (.int .i64 t216)).setCell ⟨gb214, 1, none⟩ (.int .i64 t217)).setCell ⟨gb214, 2, none⟩ (.int .i64 t218)).setCell ⟨gb214, 3, none⟩ (.int .i64 t219)).setCell ⟨gb214, 4, none⟩ (.int .i64 t220)).setCell ⟨gb214, 5, none⟩ (.int .i64 t221)).setCell ⟨gb214, 6, none⟩ (.int .i64 t222)).setCell ⟨gb213, 0, none⟩ (.int .i64 ji8)) = w20 at n0_ n1_ n2_ ⊢
   have BK213 := n0_
   have BK214 := n1_
   have HB := n2_
   clear n0_ n1_ n2_
   have n0_ := Aside0.mk (blk_drew BK213.out)
   have n1_ := Aside0.mk (blk_drew BK214.out)
   have n2_ := Aside0.mk (below_drew1 HB.out)
   clear BK213
   clear BK214
   clear HB
   have BK213 := n0_
   have BK214 := n1_
   have HB := n2_
   clear n0_ n1_ n2_
   refine start_ (n := 12) (S := fun w' => w'.cell? ⟨gb213, 0, none⟩ = some (.int .i64 ji8) ∧ w'.cell? ⟨gb213, 1, none⟩ = some (.int .i64 a0_1) ∧ w'.cell? ⟨gb213, 2, none⟩ = some (.int .i64 a0_2) ∧ w'.cell? ⟨gb214, 0, none⟩ = some (.int .i64 t216) ∧ w'.cell? ⟨gb214, 1, none⟩ = some (.int .i64 t217) ∧ w'.cell? ⟨gb214, 2, none⟩ = some (.int .i64 t218) ∧ w'.cell? ⟨gb214, 3, none⟩ = some (.int .i64 t219) ∧ w'.cell? ⟨gb214, 4, none⟩ = some (.int .i64 t220) ∧ w'.cell? ⟨gb214, 5, none⟩ = some (.int .i64 t221) ∧ w'.cell? ⟨gb214, 6, none⟩ = some (.int .i64 t222)) (ds := []) #[false, false, false, false, false, false, false, false, false, false, false, false] (by kernel_rfl) rfl rfl ⟨(blk_cell BK213.out 0).trans rfl, (blk_cell BK213.out 1).trans rfl, (blk_cell BK213.out 2).trans rfl, (blk_cell BK214.out 0).trans rfl, (blk_cell BK214.out 1).trans rfl, (blk_cell BK214.out 2).trans rfl, (blk_cell BK214.out 3).trans rfl, (blk_cell BK214.out 4).trans rfl, (blk_cell BK214.out 5).trans rfl, (blk_cell BK214.out 6).trans rfl⟩ (fun hHeld => ?_); refine with_tabW overfalllaw11_PidRises.tab7 overfalllaw11_PidRises.bits7 (fun HT_ HW_ => ?_)
   generalize w20.drew = w21 at BK213 BK214 HB hHeld ⊢
   refine pure_ (i := 2) (N := some 26) (v := ?_) (a' := ?_) #[false, false, true, false, false, false, false, false, false, false, false, false] rfl rfl (any_of HT_.out (by kernel_rfl)) (fun _ _ _ h => h) (Or.inl ⟨by rfl, ?_⟩) ?_ ?_
   rotate_left
   ·intro w'
    go_simp
    with_reducible rfl
   rotate_left
   ·simp only [Act.put, List.setIfInBounds_toArray, List.set_cons_zero, List.set_cons_succ, i64_w, i32_w]
    rfl
   refine pure_ (i := 6) (N := some 30) (v := ?_) (a' := ?_) #[false, false, true, false, false, false, true, false, false, false, false, false] rfl rfl (any_of HT_.out (by kernel_rfl)) (fun _ _ _ h => h) (Or.inl ⟨by rfl, ?_⟩) ?_ ?_
   rotate_left
   ·intro w'
    go_simp
    with_reducible rfl
   rotate_left
   ·simp only [Act.put, List.setIfInBounds_toArray, List.set_cons_zero, List.set_cons_succ, i64_w, i32_w]
    rfl
   refine take_ (i := 0) (N := some 24) (v := ?_) (a' := ?_) #[true, false, true, false, false, false, true, false, false, false, false, false] rfl rfl (take_ofW HT_.out HW_.out (by kernel_rfl)) (fun _ _ _ h => h) (Or.inl ⟨by rfl, ?_⟩) hHeld ?_ ?_
   rotate_left
   ·rintro w' ⟨s0, s1, s2, s3, s4, s5, s6, s7, s8, s9⟩
    go_simp
    with_reducible rfl
   rotate_left
   ·simp only [Act.put, List.setIfInBounds_toArray, List.set_cons_zero, List.set_cons_succ, i64_w, i32_w]
    rfl
   refine take_ (i := 1) (N := some 25) (v := ?_) (a' := ?_) #[true, true, true, false, false, false, true, false, false, false, false, false] rfl rfl (take_ofW HT_.out HW_.out (by kernel_rfl)) (fun _ _ _ h => h) (Or.inl ⟨by rfl, ?_⟩) hHeld ?_ ?_
   rotate_left
   ·rintro w' ⟨s0, s1, s2, s3, s4, s5, s6, s7, s8, s9⟩
    go_simp
    with_reducible rfl
   rotate_left
   ·simp only [Act.put, List.setIfInBounds_toArray, List.set_cons_zero, List.set_cons_succ, i64_w, i32_w]
    rfl
   refine take_ (i := 4) (N := some 28) (v := ?_) (a' := ?_) #[true, true, true, false, true, false, true, false, false, false, false, false] rfl rfl (take_ofW HT_.out HW_.out (by kernel_rfl)) (fun _ _ _ h => h) (Or.inl ⟨by rfl, ?_⟩) hHeld ?_ ?_
   rotate_left
   ·rintro w' ⟨s0, s1, s2, s3, s4, s5, s6, s7, s8, s9⟩
    go_simp
    with_reducible rfl
   rotate_left
   ·simp only [Act.put, List.setIfInBounds_toArray, List.set_cons_zero, List.set_cons_succ, i64_w, i32_w]
    rfl
   refine take_ (i := 5) (N := some 29) (v := ?_) (a' := ?_) #[true, true, true, false, true, true, true, false, false, false, false, false] rfl rfl (take_ofW HT_.out HW_.out (by kernel_rfl)) (fun _ _ _ h => h) (Or.inl ⟨by rfl, ?_⟩) hHeld ?_ ?_
   rotate_left
   ·rintro w' ⟨s0, s1, s2, s3, s4, s5, s6, s7, s8, s9⟩
    go_simp
    with_reducible rfl
   rotate_left
   ·simp only [Act.put, List.setIfInBounds_toArray, List.set_cons_zero, List.set_cons_succ, i64_w, i32_w]
    rfl
   refine join_ (σ := Nat × Nat) 2 #[true, true, true, true, true, true, true, true, true, true, false, false] (fun s_ => [(27, .agg #[.int .i64 t223, .int .i64 t224, .int .i64 t225]), (31, .agg #[.int .i64 t226, .int .i64 t227, .int .i64 t228]), (9, .pointer (some ⟨s_.1, 0, none⟩)), (10, .pointer (some ⟨s_.2, 0, none⟩))]) (fun s_ w' => (w'.cell? ⟨gb213, 0, none⟩ = some (.int .i64 ji8) ∧ w'.cell? ⟨gb213, 1, none⟩ = some (.int .i64 a0_1) ∧ w'.cell? ⟨gb213, 2, none⟩ = some (.int .i64 a0_2) ∧ w'.cell? ⟨gb214, 0, none⟩ = some (.int .i64 t216) ∧ w'.cell? ⟨gb214, 1, none⟩ = some (.int .i64 t217) ∧ w'.cell? ⟨gb214, 2, none⟩ = some (.int .i64 t218) ∧ w'.cell? ⟨gb214, 3, none⟩ = some (.int .i64 t219) ∧ w'.cell? ⟨gb214, 4, none⟩ = some (.int .i64 t220) ∧ w'.cell? ⟨gb214, 5, none⟩ = some (.int .i64 t221) ∧ w'.cell? ⟨gb214, 6, none⟩ = some (.int .i64 t222)) ∧ (w'.heap[gb213]? = some (.cells #[.int .i64 ji8, .int .i64 a0_1, .int .i64 a0_2] 24 (0, 0))) ∧ (w'.heap[gb214]? = some (.cells #[.int .i64 t216, .int .i64 t217, .int .i64 t218, .int .i64 t219, .int .i64 t220, .int .i64 t221, .int .i64 t222] 26 (0, 0))) ∧ (w'.heap[s_.1]? = some (.cells #[.int .i64 0, .int .i64 0, .int .i64 0] 24 (0, 0))) ∧ (w'.heap[s_.2]? = some (.cells #[.int .i64 0, .int .i64 0, .int .i64 0] 24 (0, 0))) ∧ (w.heap.size ≤ s_.1) ∧ (w.heap.size ≤ s_.1) ∧ (gb213 ≠ s_.1) ∧ (s_.1 ≠ gb213) ∧ (gb214 ≠ s_.1) ∧ (s_.1 ≠ gb214) ∧ (s_.2 ≠ s_.1) ∧ (s_.1 ≠ s_.2) ∧ (w.heap.size ≤ s_.2) ∧ (w.heap.size ≤ s_.2) ∧ (gb213 ≠ s_.2) ∧ (s_.2 ≠ gb213) ∧ (gb214 ≠ s_.2) ∧ (s_.2 ≠ gb214) ∧ (Below w.heap.size w w')) ?_ ?_
   rotate_left
   ·intro hJ3_7_8_9
    refine join_ (σ := Nat) 3 #[true, true, true, true, true, true, true, true, true, false, false, false] (fun s_ => [(27, .agg #[.int .i64 t223, .int .i64 t224, .int .i64 t225]), (31, .agg #[.int .i64 t226, .int .i64 t227, .int .i64 t228]), (9, .pointer (some ⟨s_, 0, none⟩))]) (fun s_ w' => (w'.cell? ⟨gb213, 0, none⟩ = some (.int .i64 ji8) ∧ w'.cell? ⟨gb213, 1, none⟩ = some (.int .i64 a0_1) ∧ w'.cell? ⟨gb213, 2, none⟩ = some (.int .i64 a0_2) ∧ w'.cell? ⟨gb214, 0, none⟩ = some (.int .i64 t216) ∧ w'.cell? ⟨gb214, 1, none⟩ = some (.int .i64 t217) ∧ w'.cell? ⟨gb214, 2, none⟩ = some (.int .i64 t218) ∧ w'.cell? ⟨gb214, 3, none⟩ = some (.int .i64 t219) ∧ w'.cell? ⟨gb214, 4, none⟩ = some (.int .i64 t220) ∧ w'.cell? ⟨gb214, 5, none⟩ = some (.int .i64 t221) ∧ w'.cell? ⟨gb214, 6, none⟩ = some (.int .i64 t222)) ∧ (w'.heap[gb213]? = some (.cells #[.int .i64 ji8, .int .i64 a0_1, .int .i64 a0_2] 24 (0, 0))) ∧ (w'.heap[gb214]? = some (.cells #[.int .i64 t216, .int .i64 t217, .int .i64 t218, .int .i64 t219, .int .i64 t220, .int .i64 t221, .int .i64 t222] 26 (0, 0))) ∧ (w'.heap[s_]? = some (.cells #[.int .i64 0, .int .i64 0, .int .i64 0] 24 (0, 0))) ∧ (w.heap.size ≤ s_) ∧ (w.heap.size ≤ s_) ∧ (gb213 ≠ s_) ∧ (s_ ≠ gb213) ∧ (gb214 ≠ s_) ∧ (s_ ≠ gb214) ∧ (Below w.heap.size w w')) ?_ ?_
    rotate_left
    ·intro hJ3_7_8
     refine join_ (σ := Nat) 3 #[true, true, true, true, true, true, true, true, false, true, false, false] (fun s_ => [(27, .agg #[.int .i64 t223, .int .i64 t224, .int .i64 t225]), (31, .agg #[.int .i64 t226, .int .i64 t227, .int .i64 t228]), (10, .pointer (some ⟨s_, 0, none⟩))]) (fun s_ w' => (w'.cell? ⟨gb213, 0, none⟩ = some (.int .i64 ji8) ∧ w'.cell? ⟨gb213, 1, none⟩ = some (.int .i64 a0_1) ∧ w'.cell? ⟨gb213, 2, none⟩ = some (.int .i64 a0_2) ∧ w'.cell? ⟨gb214, 0, none⟩ = some (.int .i64 t216) ∧ w'.cell? ⟨gb214, 1, none⟩ = some (.int .i64 t217) ∧ w'.cell? ⟨gb214, 2, none⟩ = some (.int .i64 t218) ∧ w'.cell? ⟨gb214, 3, none⟩ = some (.int .i64 t219) ∧ w'.cell? ⟨gb214, 4, none⟩ = some (.int .i64 t220) ∧ w'.cell? ⟨gb214, 5, none⟩ = some (.int .i64 t221) ∧ w'.cell? ⟨gb214, 6, none⟩ = some (.int .i64 t222)) ∧ (w'.heap[gb213]? = some (.cells #[.int .i64 ji8, .int .i64 a0_1, .int .i64 a0_2] 24 (0, 0))) ∧ (w'.heap[gb214]? = some (.cells #[.int .i64 t216, .int .i64 t217, .int .i64 t218, .int .i64 t219, .int .i64 t220, .int .i64 t221, .int .i64 t222] 26 (0, 0))) ∧ (w'.heap[s_]? = some (.cells #[.int .i64 0, .int .i64 0, .int .i64 0] 24 (0, 0))) ∧ (w.heap.size ≤ s_) ∧ (w.heap.size ≤ s_) ∧ (gb213 ≠ s_) ∧ (s_ ≠ gb213) ∧ (gb214 ≠ s_) ∧ (s_ ≠ gb214) ∧ (Below w.heap.size w w')) ?_ ?_
     rotate_left
     ·intro hJ3_7_9
      refine join_ (σ := Nat × Nat) 3 #[true, true, true, true, true, true, true, false, true, true, false, false] (fun s_ => [(27, .agg #[.int .i64 t223, .int .i64 t224, .int .i64 t225]), (9, .pointer (some ⟨s_.1, 0, none⟩)), (10, .pointer (some ⟨s_.2, 0, none⟩))]) (fun s_ w' => (w'.cell? ⟨gb213, 0, none⟩ = some (.int .i64 ji8) ∧ w'.cell? ⟨gb213, 1, none⟩ = some (.int .i64 a0_1) ∧ w'.cell? ⟨gb213, 2, none⟩ = some (.int .i64 a0_2) ∧ w'.cell? ⟨gb214, 0, none⟩ = some (.int .i64 t216) ∧ w'.cell? ⟨gb214, 1, none⟩ = some (.int .i64 t217) ∧ w'.cell? ⟨gb214, 2, none⟩ = some (.int .i64 t218) ∧ w'.cell? ⟨gb214, 3, none⟩ = some (.int .i64 t219) ∧ w'.cell? ⟨gb214, 4, none⟩ = some (.int .i64 t220) ∧ w'.cell? ⟨gb214, 5, none⟩ = some (.int .i64 t221) ∧ w'.cell? ⟨gb214, 6, none⟩ = some (.int .i64 t222)) ∧ (w'.heap[gb213]? = some (.cells #[.int .i64 ji8, .int .i64 a0_1, .int .i64 a0_2] 24 (0, 0))) ∧ (w'.heap[gb214]? = some (.cells #[.int .i64 t216, .int .i64 t217, .int .i64 t218, .int .i64 t219, .int .i64 t220, .int .i64 t221, .int .i64 t222] 26 (0, 0))) ∧ (w'.heap[s_.1]? = some (.cells #[.int .i64 0, .int .i64 0, .int .i64 0] 24 (0, 0))) ∧ (w'.heap[s_.2]? = some (.cells #[.int .i64 0, .int .i64 0, .int .i64 0] 24 (0, 0))) ∧ (w.heap.size ≤ s_.1) ∧ (w.heap.size ≤ s_.1) ∧ (gb213 ≠ s_.1) ∧ (s_.1 ≠ gb213) ∧ (gb214 ≠ s_.1) ∧ (s_.1 ≠ gb214) ∧ (s_.2 ≠ s_.1) ∧ (s_.1 ≠ s_.2) ∧ (w.heap.size ≤ s_.2) ∧ (w.heap.size ≤ s_.2) ∧ (gb213 ≠ s_.2) ∧ (s_.2 ≠ gb213) ∧ (gb214 ≠ s_.2) ∧ (s_.2 ≠ gb214) ∧ (Below w.heap.size w w')) ?_ ?_
      rotate_left
      ·intro hJ3_8_9
       refine join_ (σ := Unit) 4 #[true, true, true, true, true, true, true, true, false, false, false, false] (fun s_ => [(27, .agg #[.int .i64 t223, .int .i64 t224, .int .i64 t225]), (31, .agg #[.int .i64 t226, .int .i64 t227, .int .i64 t228])]) (fun s_ w' => (w'.cell? ⟨gb213, 0, none⟩ = some (.int .i64 ji8) ∧ w'.cell? ⟨gb213, 1, none⟩ = some (.int .i64 a0_1) ∧ w'.cell? ⟨gb213, 2, none⟩ = some (.int .i64 a0_2) ∧ w'.cell? ⟨gb214, 0, none⟩ = some (.int .i64 t216) ∧ w'.cell? ⟨gb214, 1, none⟩ = some (.int .i64 t217) ∧ w'.cell? ⟨gb214, 2, none⟩ = some (.int .i64 t218) ∧ w'.cell? ⟨gb214, 3, none⟩ = some (.int .i64 t219) ∧ w'.cell? ⟨gb214, 4, none⟩ = some (.int .i64 t220) ∧ w'.cell? ⟨gb214, 5, none⟩ = some (.int .i64 t221) ∧ w'.cell? ⟨gb214, 6, none⟩ = some (.int .i64 t222)) ∧ (w'.heap[gb213]? = some (.cells #[.int .i64 ji8, .int .i64 a0_1, .int .i64 a0_2] 24 (0, 0))) ∧ (w'.heap[gb214]? = some (.cells #[.int .i64 t216, .int .i64 t217, .int .i64 t218, .int .i64 t219, .int .i64 t220, .int .i64 t221, .int .i64 t222] 26 (0, 0))) ∧ (Below w.heap.size w w')) ?_ ?_
       rotate_left
       ·intro hJ3_7
        refine join_ (σ := Nat) 4 #[true, true, true, true, true, true, true, false, true, false, false, false] (fun s_ => [(27, .agg #[.int .i64 t223, .int .i64 t224, .int .i64 t225]), (9, .pointer (some ⟨s_, 0, none⟩))]) (fun s_ w' => (w'.cell? ⟨gb213, 0, none⟩ = some (.int .i64 ji8) ∧ w'.cell? ⟨gb213, 1, none⟩ = some (.int .i64 a0_1) ∧ w'.cell? ⟨gb213, 2, none⟩ = some (.int .i64 a0_2) ∧ w'.cell? ⟨gb214, 0, none⟩ = some (.int .i64 t216) ∧ w'.cell? ⟨gb214, 1, none⟩ = some (.int .i64 t217) ∧ w'.cell? ⟨gb214, 2, none⟩ = some (.int .i64 t218) ∧ w'.cell? ⟨gb214, 3, none⟩ = some (.int .i64 t219) ∧ w'.cell? ⟨gb214, 4, none⟩ = some (.int .i64 t220) ∧ w'.cell? ⟨gb214, 5, none⟩ = some (.int .i64 t221) ∧ w'.cell? ⟨gb214, 6, none⟩ = some (.int .i64 t222)) ∧ (w'.heap[gb213]? = some (.cells #[.int .i64 ji8, .int .i64 a0_1, .int .i64 a0_2] 24 (0, 0))) ∧ (w'.heap[gb214]? = some (.cells #[.int .i64 t216, .int .i64 t217, .int .i64 t218, .int .i64 t219, .int .i64 t220, .int .i64 t221, .int .i64 t222] 26 (0, 0))) ∧ (w'.heap[s_]? = some (.cells #[.int .i64 0, .int .i64 0, .int .i64 0] 24 (0, 0))) ∧ (w.heap.size ≤ s_) ∧ (w.heap.size ≤ s_) ∧ (gb213 ≠ s_) ∧ (s_ ≠ gb213) ∧ (gb214 ≠ s_) ∧ (s_ ≠ gb214) ∧ (Below w.heap.size w w')) ?_ ?_
        rotate_left
        ·intro hJ3_8
         refine join_ (σ := Nat) 4 #[true, true, true, true, true, true, true, false, false, true, false, false] (fun s_ => [(27, .agg #[.int .i64 t223, .int .i64 t224, .int .i64 t225]), (10, .pointer (some ⟨s_, 0, none⟩))]) (fun s_ w' => (w'.cell? ⟨gb213, 0, none⟩ = some (.int .i64 ji8) ∧ w'.cell? ⟨gb213, 1, none⟩ = some (.int .i64 a0_1) ∧ w'.cell? ⟨gb213, 2, none⟩ = some (.int .i64 a0_2) ∧ w'.cell? ⟨gb214, 0, none⟩ = some (.int .i64 t216) ∧ w'.cell? ⟨gb214, 1, none⟩ = some (.int .i64 t217) ∧ w'.cell? ⟨gb214, 2, none⟩ = some (.int .i64 t218) ∧ w'.cell? ⟨gb214, 3, none⟩ = some (.int .i64 t219) ∧ w'.cell? ⟨gb214, 4, none⟩ = some (.int .i64 t220) ∧ w'.cell? ⟨gb214, 5, none⟩ = some (.int .i64 t221) ∧ w'.cell? ⟨gb214, 6, none⟩ = some (.int .i64 t222)) ∧ (w'.heap[gb213]? = some (.cells #[.int .i64 ji8, .int .i64 a0_1, .int .i64 a0_2] 24 (0, 0))) ∧ (w'.heap[gb214]? = some (.cells #[.int .i64 t216, .int .i64 t217, .int .i64 t218, .int .i64 t219, .int .i64 t220, .int .i64 t221, .int .i64 t222] 26 (0, 0))) ∧ (w'.heap[s_]? = some (.cells #[.int .i64 0, .int .i64 0, .int .i64 0] 24 (0, 0))) ∧ (w.heap.size ≤ s_) ∧ (w.heap.size ≤ s_) ∧ (gb213 ≠ s_) ∧ (s_ ≠ gb213) ∧ (gb214 ≠ s_) ∧ (s_ ≠ gb214) ∧ (Below w.heap.size w w')) ?_ ?_
         rotate_left
         ·intro hJ3_9
          refine join_ (σ := Nat × Nat) 4 #[true, true, true, false, true, true, true, false, true, true, false, false] (fun s_ => [(9, .pointer (some ⟨s_.1, 0, none⟩)), (10, .pointer (some ⟨s_.2, 0, none⟩))]) (fun s_ w' => (w'.cell? ⟨gb213, 0, none⟩ = some (.int .i64 ji8) ∧ w'.cell? ⟨gb213, 1, none⟩ = some (.int .i64 a0_1) ∧ w'.cell? ⟨gb213, 2, none⟩ = some (.int .i64 a0_2) ∧ w'.cell? ⟨gb214, 0, none⟩ = some (.int .i64 t216) ∧ w'.cell? ⟨gb214, 1, none⟩ = some (.int .i64 t217) ∧ w'.cell? ⟨gb214, 2, none⟩ = some (.int .i64 t218) ∧ w'.cell? ⟨gb214, 3, none⟩ = some (.int .i64 t219) ∧ w'.cell? ⟨gb214, 4, none⟩ = some (.int .i64 t220) ∧ w'.cell? ⟨gb214, 5, none⟩ = some (.int .i64 t221) ∧ w'.cell? ⟨gb214, 6, none⟩ = some (.int .i64 t222)) ∧ (w'.heap[gb213]? = some (.cells #[.int .i64 ji8, .int .i64 a0_1, .int .i64 a0_2] 24 (0, 0))) ∧ (w'.heap[gb214]? = some (.cells #[.int .i64 t216, .int .i64 t217, .int .i64 t218, .int .i64 t219, .int .i64 t220, .int .i64 t221, .int .i64 t222] 26 (0, 0))) ∧ (w'.heap[s_.1]? = some (.cells #[.int .i64 0, .int .i64 0, .int .i64 0] 24 (0, 0))) ∧ (w'.heap[s_.2]? = some (.cells #[.int .i64 0, .int .i64 0, .int .i64 0] 24 (0, 0))) ∧ (w.heap.size ≤ s_.1) ∧ (w.heap.size ≤ s_.1) ∧ (gb213 ≠ s_.1) ∧ (s_.1 ≠ gb213) ∧ (gb214 ≠ s_.1) ∧ (s_.1 ≠ gb214) ∧ (s_.2 ≠ s_.1) ∧ (s_.1 ≠ s_.2) ∧ (w.heap.size ≤ s_.2) ∧ (w.heap.size ≤ s_.2) ∧ (gb213 ≠ s_.2) ∧ (s_.2 ≠ gb213) ∧ (gb214 ≠ s_.2) ∧ (s_.2 ≠ gb214) ∧ (Below w.heap.size w w')) ?_ ?_
          rotate_left
          ·intro hJ8_9
           refine join_ (σ := Unit) 5 #[true, true, true, true, true, true, true, false, false, false, false, false] (fun s_ => [(27, .agg #[.int .i64 t223, .int .i64 t224, .int .i64 t225])]) (fun s_ w' => (w'.cell? ⟨gb213, 0, none⟩ = some (.int .i64 ji8) ∧ w'.cell? ⟨gb213, 1, none⟩ = some (.int .i64 a0_1) ∧ w'.cell? ⟨gb213, 2, none⟩ = some (.int .i64 a0_2) ∧ w'.cell? ⟨gb214, 0, none⟩ = some (.int .i64 t216) ∧ w'.cell? ⟨gb214, 1, none⟩ = some (.int .i64 t217) ∧ w'.cell? ⟨gb214, 2, none⟩ = some (.int .i64 t218) ∧ w'.cell? ⟨gb214, 3, none⟩ = some (.int .i64 t219) ∧ w'.cell? ⟨gb214, 4, none⟩ = some (.int .i64 t220) ∧ w'.cell? ⟨gb214, 5, none⟩ = some (.int .i64 t221) ∧ w'.cell? ⟨gb214, 6, none⟩ = some (.int .i64 t222)) ∧ (w'.heap[gb213]? = some (.cells #[.int .i64 ji8, .int .i64 a0_1, .int .i64 a0_2] 24 (0, 0))) ∧ (w'.heap[gb214]? = some (.cells #[.int .i64 t216, .int .i64 t217, .int .i64 t218, .int .i64 t219, .int .i64 t220, .int .i64 t221, .int .i64 t222] 26 (0, 0))) ∧ (Below w.heap.size w w')) ?_ ?_
           rotate_left
           ·intro hJ3
            refine join_ (σ := Nat) 5 #[true, true, true, false, true, true, true, false, true, false, false, false] (fun s_ => [(9, .pointer (some ⟨s_, 0, none⟩))]) (fun s_ w' => (w'.cell? ⟨gb213, 0, none⟩ = some (.int .i64 ji8) ∧ w'.cell? ⟨gb213, 1, none⟩ = some (.int .i64 a0_1) ∧ w'.cell? ⟨gb213, 2, none⟩ = some (.int .i64 a0_2) ∧ w'.cell? ⟨gb214, 0, none⟩ = some (.int .i64 t216) ∧ w'.cell? ⟨gb214, 1, none⟩ = some (.int .i64 t217) ∧ w'.cell? ⟨gb214, 2, none⟩ = some (.int .i64 t218) ∧ w'.cell? ⟨gb214, 3, none⟩ = some (.int .i64 t219) ∧ w'.cell? ⟨gb214, 4, none⟩ = some (.int .i64 t220) ∧ w'.cell? ⟨gb214, 5, none⟩ = some (.int .i64 t221) ∧ w'.cell? ⟨gb214, 6, none⟩ = some (.int .i64 t222)) ∧ (w'.heap[gb213]? = some (.cells #[.int .i64 ji8, .int .i64 a0_1, .int .i64 a0_2] 24 (0, 0))) ∧ (w'.heap[gb214]? = some (.cells #[.int .i64 t216, .int .i64 t217, .int .i64 t218, .int .i64 t219, .int .i64 t220, .int .i64 t221, .int .i64 t222] 26 (0, 0))) ∧ (w'.heap[s_]? = some (.cells #[.int .i64 0, .int .i64 0, .int .i64 0] 24 (0, 0))) ∧ (w.heap.size ≤ s_) ∧ (w.heap.size ≤ s_) ∧ (gb213 ≠ s_) ∧ (s_ ≠ gb213) ∧ (gb214 ≠ s_) ∧ (s_ ≠ gb214) ∧ (Below w.heap.size w w')) ?_ ?_
            rotate_left
            ·intro hJ8
             refine join_ (σ := Nat) 5 #[true, true, true, false, true, true, true, false, false, true, false, false] (fun s_ => [(10, .pointer (some ⟨s_, 0, none⟩))]) (fun s_ w' => (w'.cell? ⟨gb213, 0, none⟩ = some (.int .i64 ji8) ∧ w'.cell? ⟨gb213, 1, none⟩ = some (.int .i64 a0_1) ∧ w'.cell? ⟨gb213, 2, none⟩ = some (.int .i64 a0_2) ∧ w'.cell? ⟨gb214, 0, none⟩ = some (.int .i64 t216) ∧ w'.cell? ⟨gb214, 1, none⟩ = some (.int .i64 t217) ∧ w'.cell? ⟨gb214, 2, none⟩ = some (.int .i64 t218) ∧ w'.cell? ⟨gb214, 3, none⟩ = some (.int .i64 t219) ∧ w'.cell? ⟨gb214, 4, none⟩ = some (.int .i64 t220) ∧ w'.cell? ⟨gb214, 5, none⟩ = some (.int .i64 t221) ∧ w'.cell? ⟨gb214, 6, none⟩ = some (.int .i64 t222)) ∧ (w'.heap[gb213]? = some (.cells #[.int .i64 ji8, .int .i64 a0_1, .int .i64 a0_2] 24 (0, 0))) ∧ (w'.heap[gb214]? = some (.cells #[.int .i64 t216, .int .i64 t217, .int .i64 t218, .int .i64 t219, .int .i64 t220, .int .i64 t221, .int .i64 t222] 26 (0, 0))) ∧ (w'.heap[s_]? = some (.cells #[.int .i64 0, .int .i64 0, .int .i64 0] 24 (0, 0))) ∧ (w.heap.size ≤ s_) ∧ (w.heap.size ≤ s_) ∧ (gb213 ≠ s_) ∧ (s_ ≠ gb213) ∧ (gb214 ≠ s_) ∧ (s_ ≠ gb214) ∧ (Below w.heap.size w w')) ?_ ?_
             rotate_left
             ·intro hJ9
              refine three_ (i := 3) (j := 8) (k := 9) (Ni := some 27) (Nj := some 9) (Nk := some 10) #[true, true, true, true, true, true, true, false, false, false, false, false] #[true, true, true, false, true, true, true, false, true, false, false, false] #[true, true, true, false, true, true, true, false, false, true, false, false] rfl rfl rfl rfl rfl rfl (three_of HT_.out (by kernel_rfl)) (by decide) (by decide) (by decide) (fun K hK => ?_) (fun K hK => ?_) (fun K hK => ?_)
              ·skip
               refine goes_ Try.func11 (by kernel_rfl) rfl #[.agg #[.int .i64 ji8, .int .i64 a0_1, .int .i64 a0_2], .agg #[.int .i64 t216, .int .i64 t217, .int .i64 t218, .int .i64 t219, .int .i64 t220, .int .i64 t221, .int .i64 t222], .int .i64 a3] (by rfl) rfl rfl (by (try simp only [List.map_toArray, List.map_cons, List.map_nil]); first | done | (simp only [hji8]; rfl) | rfl | (simp only [List.length_drop, List.length_take]; rfl)) ?_
               with_reducible refine (pid_State_Sample.calls k ji8 a0_1 a0_2 t216 t217 t218 t219 t220 t221 t222 a3 t223 t224 t225 _ A10.out).mono ?_
               rintro e w22 ⟨rfl, hb⟩
               refine ⟨_, rfl, ?_⟩
               have n0_ := Aside0.mk (blk_below (by exact BK213.out) hb)
               have n1_ := Aside0.mk (blk_below (by exact BK214.out) hb)
               have n2_ := Aside0.mk (below_step (by repeat (first | (with_reducible first | exact HB.out | apply below_alloc | apply pw_below_drewN | apply below_drew1 | refine below_set ?_ GE213.out | refine below_set ?_ GE214.out) | exact HB.out)) hb)
               clear BK213
               clear BK214
               clear HB
               have BK213 := n0_
               have BK214 := n1_
               have HB := n2_
               clear n0_ n1_ n2_
               (try clear hb)
               (try clear hb2)
               (try clear hk)
               (try clear hi)
               refine hK.out _ _ ⟨(blk_cell BK213.out 0).trans rfl, (blk_cell BK213.out 1).trans rfl, (blk_cell BK213.out 2).trans rfl, (blk_cell BK214.out 0).trans rfl, (blk_cell BK214.out 1).trans rfl, (blk_cell BK214.out 2).trans rfl, (blk_cell BK214.out 3).trans rfl, (blk_cell BK214.out 4).trans rfl, (blk_cell BK214.out 5).trans rfl, (blk_cell BK214.out 6).trans rfl⟩ (fun hHeld => ?_)
               clear hK K
               refine norm_ (a' := ?_) ?_ ?_
               rotate_left
               ·show Act.put _ (some 27) _ = _
                simp only [Act.put, List.setIfInBounds_toArray, List.set_cons_zero, List.set_cons_succ, i64_w, i32_w]
                rfl
               exact norm_ (by first | (simp only [putAll, Act.put, List.setIfInBounds_toArray, List.set_cons_zero, List.set_cons_succ]; done) | (simp only [putAll, Act.put, List.setIfInBounds_toArray, List.set_cons_zero, List.set_cons_succ]; rfl)) (hJ3 () _ ⟨hHeld, (by exact BK213.out), (by exact BK214.out), (by repeat (first | (with_reducible first | exact HB.out | apply below_alloc | apply pw_below_drewN | apply below_drew1 | refine below_set ?_ GE213.out | refine below_set ?_ GE214.out) | exact HB.out))⟩)
              ·skip
               refine box_step ?hg (N := 9) ?hd (cs := #[.int .i64 0, .int .i64 0, .int .i64 0]) (t := 24) ?hr ?_; (case hd => rfl); (case hg => rfl); (case hr => first | (go_simp; done) | (go_simp; rfl))
               intro gb229 hg w22 hbox hb
               have n0_ := Aside0.mk (blk_below (by exact BK213.out) hb)
               have n1_ := Aside0.mk (blk_below (by exact BK214.out) hb)
               have n2_ := Aside0.mk (below_step (by repeat (first | (with_reducible first | exact HB.out | apply below_alloc | apply pw_below_drewN | apply below_drew1 | refine below_set ?_ GE213.out | refine below_set ?_ GE214.out) | exact HB.out)) hb)
               have n3_ := Aside0.mk (hbox)
               have n4_ := Aside0.mk ((by rw [hg]; exact (below_size (by repeat (first | (with_reducible first | exact HB.out | apply below_alloc | apply pw_below_drewN | apply below_drew1 | refine below_set ?_ GE213.out | refine below_set ?_ GE214.out) | exact HB.out))) : w.heap.size ≤ gb229))
               have n5_ := Aside0.mk ((by rw [hg]; exact (below_size (by repeat (first | (with_reducible first | exact HB.out | apply below_alloc | apply pw_below_drewN | apply below_drew1 | refine below_set ?_ GE213.out | refine below_set ?_ GE214.out) | exact HB.out))) : w.heap.size ≤ gb229))
               have n6_ := Aside0.mk ((by rw [hg]; exact Nat.ne_of_lt (blk_lt (by exact BK213.out)) : gb213 ≠ gb229))
               have n7_ := Aside0.mk ((by rw [hg]; exact Nat.ne_of_gt (blk_lt (by exact BK213.out)) : gb229 ≠ gb213))
               have n8_ := Aside0.mk ((by rw [hg]; exact Nat.ne_of_lt (blk_lt (by exact BK214.out)) : gb214 ≠ gb229))
               have n9_ := Aside0.mk ((by rw [hg]; exact Nat.ne_of_gt (blk_lt (by exact BK214.out)) : gb229 ≠ gb214))
               clear BK213
               clear BK214
               clear HB
               have BK213 := n0_
               have BK214 := n1_
               have HB := n2_
               have BK229 := n3_
               have GW229 := n4_
               have GE229 := n5_
               have NB213_229 := n6_
               have NB229_213 := n7_
               have NB214_229 := n8_
               have NB229_214 := n9_
               clear n0_ n1_ n2_ n3_ n4_ n5_ n6_ n7_ n8_ n9_
               clear hb hbox hg
               refine hK.out _ _ ⟨(blk_cell BK213.out 0).trans rfl, (blk_cell BK213.out 1).trans rfl, (blk_cell BK213.out 2).trans rfl, (blk_cell BK214.out 0).trans rfl, (blk_cell BK214.out 1).trans rfl, (blk_cell BK214.out 2).trans rfl, (blk_cell BK214.out 3).trans rfl, (blk_cell BK214.out 4).trans rfl, (blk_cell BK214.out 5).trans rfl, (blk_cell BK214.out 6).trans rfl⟩ (fun hHeld => ?_)
               clear hK K
               refine norm_ (a' := ?_) ?_ ?_
               rotate_left
               ·show Act.put _ (some 9) _ = _
                simp only [Act.put, List.setIfInBounds_toArray, List.set_cons_zero, List.set_cons_succ, i64_w, i32_w]
                rfl
               exact norm_ (by first | (simp only [putAll, Act.put, List.setIfInBounds_toArray, List.set_cons_zero, List.set_cons_succ]; done) | (simp only [putAll, Act.put, List.setIfInBounds_toArray, List.set_cons_zero, List.set_cons_succ]; rfl)) (hJ8 (gb229) _ ⟨hHeld, (by exact BK213.out), (by exact BK214.out), (by exact BK229.out), GW229.out, GE229.out, NB213_229.out, NB229_213.out, NB214_229.out, NB229_214.out, (by repeat (first | (with_reducible first | exact HB.out | apply below_alloc | apply pw_below_drewN | apply below_drew1 | refine below_set ?_ GE213.out | refine below_set ?_ GE214.out | refine below_set ?_ GE229.out) | exact HB.out))⟩)
              ·skip
               refine box_step ?hg (N := 10) ?hd (cs := #[.int .i64 0, .int .i64 0, .int .i64 0]) (t := 24) ?hr ?_; (case hd => rfl); (case hg => rfl); (case hr => first | (go_simp; done) | (go_simp; rfl))
               intro gb230 hg w22 hbox hb
               have n0_ := Aside0.mk (blk_below (by exact BK213.out) hb)
               have n1_ := Aside0.mk (blk_below (by exact BK214.out) hb)
               have n2_ := Aside0.mk (below_step (by repeat (first | (with_reducible first | exact HB.out | apply below_alloc | apply pw_below_drewN | apply below_drew1 | refine below_set ?_ GE213.out | refine below_set ?_ GE214.out) | exact HB.out)) hb)
               have n3_ := Aside0.mk (hbox)
               have n4_ := Aside0.mk ((by rw [hg]; exact (below_size (by repeat (first | (with_reducible first | exact HB.out | apply below_alloc | apply pw_below_drewN | apply below_drew1 | refine below_set ?_ GE213.out | refine below_set ?_ GE214.out) | exact HB.out))) : w.heap.size ≤ gb230))
               have n5_ := Aside0.mk ((by rw [hg]; exact (below_size (by repeat (first | (with_reducible first | exact HB.out | apply below_alloc | apply pw_below_drewN | apply below_drew1 | refine below_set ?_ GE213.out | refine below_set ?_ GE214.out) | exact HB.out))) : w.heap.size ≤ gb230))
               have n6_ := Aside0.mk ((by rw [hg]; exact Nat.ne_of_lt (blk_lt (by exact BK213.out)) : gb213 ≠ gb230))
               have n7_ := Aside0.mk ((by rw [hg]; exact Nat.ne_of_gt (blk_lt (by exact BK213.out)) : gb230 ≠ gb213))
               have n8_ := Aside0.mk ((by rw [hg]; exact Nat.ne_of_lt (blk_lt (by exact BK214.out)) : gb214 ≠ gb230))
               have n9_ := Aside0.mk ((by rw [hg]; exact Nat.ne_of_gt (blk_lt (by exact BK214.out)) : gb230 ≠ gb214))
               clear BK213
               clear BK214
               clear HB
               have BK213 := n0_
               have BK214 := n1_
               have HB := n2_
               have BK230 := n3_
               have GW230 := n4_
               have GE230 := n5_
               have NB213_230 := n6_
               have NB230_213 := n7_
               have NB214_230 := n8_
               have NB230_214 := n9_
               clear n0_ n1_ n2_ n3_ n4_ n5_ n6_ n7_ n8_ n9_
               clear hb hbox hg
               refine hK.out _ _ ⟨(blk_cell BK213.out 0).trans rfl, (blk_cell BK213.out 1).trans rfl, (blk_cell BK213.out 2).trans rfl, (blk_cell BK214.out 0).trans rfl, (blk_cell BK214.out 1).trans rfl, (blk_cell BK214.out 2).trans rfl, (blk_cell BK214.out 3).trans rfl, (blk_cell BK214.out 4).trans rfl, (blk_cell BK214.out 5).trans rfl, (blk_cell BK214.out 6).trans rfl⟩ (fun hHeld => ?_)
               clear hK K
               refine norm_ (a' := ?_) ?_ ?_
               rotate_left
               ·show Act.put _ (some 10) _ = _
                simp only [Act.put, List.setIfInBounds_toArray, List.set_cons_zero, List.set_cons_succ, i64_w, i32_w]
                rfl
               exact norm_ (by first | (simp only [putAll, Act.put, List.setIfInBounds_toArray, List.set_cons_zero, List.set_cons_succ]; done) | (simp only [putAll, Act.put, List.setIfInBounds_toArray, List.set_cons_zero, List.set_cons_succ]; rfl)) (hJ9 (gb230) _ ⟨hHeld, (by exact BK213.out), (by exact BK214.out), (by exact BK230.out), GW230.out, GE230.out, NB213_230.out, NB230_213.out, NB214_230.out, NB230_214.out, (by repeat (first | (with_reducible first | exact HB.out | apply below_alloc | apply pw_below_drewN | apply below_drew1 | refine below_set ?_ GE213.out | refine below_set ?_ GE214.out | refine below_set ?_ GE230.out) | exact HB.out))⟩)
             ·skip
              rintro gb230 w23 ⟨hS_, h0_, h1_, h2_, h3_, h4_, h5_, h6_, h7_, h8_, h9_⟩
              have n0_ : Aside0 (w23.heap[gb213]? = some (.cells #[.int .i64 ji8, .int .i64 a0_1, .int .i64 a0_2] 24 (0, 0))) := ⟨h0_⟩
              have n1_ : Aside0 (w23.heap[gb214]? = some (.cells #[.int .i64 t216, .int .i64 t217, .int .i64 t218, .int .i64 t219, .int .i64 t220, .int .i64 t221, .int .i64 t222] 26 (0, 0))) := ⟨h1_⟩
              have n2_ : Aside0 (w23.heap[gb230]? = some (.cells #[.int .i64 0, .int .i64 0, .int .i64 0] 24 (0, 0))) := ⟨h2_⟩
              have n3_ : Aside0 (w.heap.size ≤ gb230) := ⟨h3_⟩
              have n4_ : Aside0 (w.heap.size ≤ gb230) := ⟨h4_⟩
              have n5_ : Aside0 (gb213 ≠ gb230) := ⟨h5_⟩
              have n6_ : Aside0 (gb230 ≠ gb213) := ⟨h6_⟩
              have n7_ : Aside0 (gb214 ≠ gb230) := ⟨h7_⟩
              have n8_ : Aside0 (gb230 ≠ gb214) := ⟨h8_⟩
              have n9_ : Aside0 (Below w.heap.size w w23) := ⟨h9_⟩
              clear BK213
              clear BK214
              clear HB
              clear h0_ h1_ h2_ h3_ h4_ h5_ h6_ h7_ h8_ h9_
              have BK213 := n0_
              have BK214 := n1_
              have BK230 := n2_
              have GW230 := n3_
              have GE230 := n4_
              have NB213_230 := n5_
              have NB230_213 := n6_
              have NB214_230 := n7_
              have NB230_214 := n8_
              have HB := n9_
              clear n0_ n1_ n2_ n3_ n4_ n5_ n6_ n7_ n8_ n9_
              have hHeld : w23.cell? ⟨gb213, 0, none⟩ = some (.int .i64 ji8) ∧ w23.cell? ⟨gb213, 1, none⟩ = some (.int .i64 a0_1) ∧ w23.cell? ⟨gb213, 2, none⟩ = some (.int .i64 a0_2) ∧ w23.cell? ⟨gb214, 0, none⟩ = some (.int .i64 t216) ∧ w23.cell? ⟨gb214, 1, none⟩ = some (.int .i64 t217) ∧ w23.cell? ⟨gb214, 2, none⟩ = some (.int .i64 t218) ∧ w23.cell? ⟨gb214, 3, none⟩ = some (.int .i64 t219) ∧ w23.cell? ⟨gb214, 4, none⟩ = some (.int .i64 t220) ∧ w23.cell? ⟨gb214, 5, none⟩ = some (.int .i64 t221) ∧ w23.cell? ⟨gb214, 6, none⟩ = some (.int .i64 t222) := hS_
              refine norm_ (a' := ?_) ?_ ?_
              rotate_left
              ·simp only [putAll, Act.put, List.setIfInBounds_toArray, List.set_cons_zero, List.set_cons_succ]
               rfl
              refine two_ (i := 3) (j := 8) (Ni := some 27) (Nj := some 9) #[true, true, true, true, true, true, true, false, false, true, false, false] #[true, true, true, false, true, true, true, false, true, true, false, false] rfl rfl rfl rfl (two_of HT_.out (by kernel_rfl)) (by decide) (by decide) (fun K hK => ?_) (fun K hK => ?_)
              ·skip
               refine goes_ Try.func11 (by kernel_rfl) rfl #[.agg #[.int .i64 ji8, .int .i64 a0_1, .int .i64 a0_2], .agg #[.int .i64 t216, .int .i64 t217, .int .i64 t218, .int .i64 t219, .int .i64 t220, .int .i64 t221, .int .i64 t222], .int .i64 a3] (by rfl) rfl rfl (by (try simp only [List.map_toArray, List.map_cons, List.map_nil]); first | done | (simp only [hji8]; rfl) | rfl | (simp only [List.length_drop, List.length_take]; rfl)) ?_
               with_reducible refine (pid_State_Sample.calls k ji8 a0_1 a0_2 t216 t217 t218 t219 t220 t221 t222 a3 t223 t224 t225 _ A10.out).mono ?_
               rintro e w24 ⟨rfl, hb⟩
               refine ⟨_, rfl, ?_⟩
               have n0_ := Aside0.mk (blk_below (by exact BK213.out) hb)
               have n1_ := Aside0.mk (blk_below (by exact BK214.out) hb)
               have n2_ := Aside0.mk (blk_below (by exact BK230.out) hb)
               have n3_ := Aside0.mk (below_step (by repeat (first | (with_reducible first | exact HB.out | apply below_alloc | apply pw_below_drewN | apply below_drew1 | refine below_set ?_ GE213.out | refine below_set ?_ GE214.out | refine below_set ?_ GE230.out) | exact HB.out)) hb)
               clear BK213
               clear BK214
               clear BK230
               clear HB
               have BK213 := n0_
               have BK214 := n1_
               have BK230 := n2_
               have HB := n3_
               clear n0_ n1_ n2_ n3_
               (try clear hb)
               (try clear hb2)
               (try clear hk)
               (try clear hi)
               refine hK.out _ _ ⟨(blk_cell BK213.out 0).trans rfl, (blk_cell BK213.out 1).trans rfl, (blk_cell BK213.out 2).trans rfl, (blk_cell BK214.out 0).trans rfl, (blk_cell BK214.out 1).trans rfl, (blk_cell BK214.out 2).trans rfl, (blk_cell BK214.out 3).trans rfl, (blk_cell BK214.out 4).trans rfl, (blk_cell BK214.out 5).trans rfl, (blk_cell BK214.out 6).trans rfl⟩ (fun hHeld => ?_)
               clear hK K
               refine norm_ (a' := ?_) ?_ ?_
               rotate_left
               ·show Act.put _ (some 27) _ = _
                simp only [Act.put, List.setIfInBounds_toArray, List.set_cons_zero, List.set_cons_succ, i64_w, i32_w]
                rfl
               exact norm_ (by first | (simp only [putAll, Act.put, List.setIfInBounds_toArray, List.set_cons_zero, List.set_cons_succ]; done) | (simp only [putAll, Act.put, List.setIfInBounds_toArray, List.set_cons_zero, List.set_cons_succ]; rfl)) (hJ3_9 (gb230) _ ⟨hHeld, (by exact BK213.out), (by exact BK214.out), (by exact BK230.out), GW230.out, GE230.out, NB213_230.out, NB230_213.out, NB214_230.out, NB230_214.out, (by repeat (first | (with_reducible first | exact HB.out | apply below_alloc | apply pw_below_drewN | apply below_drew1 | refine below_set ?_ GE213.out | refine below_set ?_ GE214.out | refine below_set ?_ GE230.out) | exact HB.out))⟩)
              ·skip
               refine box_step ?hg (N := 9) ?hd (cs := #[.int .i64 0, .int .i64 0, .int .i64 0]) (t := 24) ?hr ?_; (case hd => rfl); (case hg => rfl); (case hr => first | (go_simp; done) | (go_simp; rfl))
               intro gb229 hg w24 hbox hb
               have n0_ := Aside0.mk (blk_below (by exact BK213.out) hb)
               have n1_ := Aside0.mk (blk_below (by exact BK214.out) hb)
               have n2_ := Aside0.mk (blk_below (by exact BK230.out) hb)
               have n3_ := Aside0.mk (below_step (by repeat (first | (with_reducible first | exact HB.out | apply below_alloc | apply pw_below_drewN | apply below_drew1 | refine below_set ?_ GE213.out | refine below_set ?_ GE214.out | refine below_set ?_ GE230.out) | exact HB.out)) hb)
               have n4_ := Aside0.mk (hbox)
               have n5_ := Aside0.mk ((by rw [hg]; exact (below_size (by repeat (first | (with_reducible first | exact HB.out | apply below_alloc | apply pw_below_drewN | apply below_drew1 | refine below_set ?_ GE213.out | refine below_set ?_ GE214.out | refine below_set ?_ GE230.out) | exact HB.out))) : w.heap.size ≤ gb229))
               have n6_ := Aside0.mk ((by rw [hg]; exact (below_size (by repeat (first | (with_reducible first | exact HB.out | apply below_alloc | apply pw_below_drewN | apply below_drew1 | refine below_set ?_ GE213.out | refine below_set ?_ GE214.out | refine below_set ?_ GE230.out) | exact HB.out))) : w.heap.size ≤ gb229))
               have n7_ := Aside0.mk ((by rw [hg]; exact Nat.ne_of_lt (blk_lt (by exact BK213.out)) : gb213 ≠ gb229))
               have n8_ := Aside0.mk ((by rw [hg]; exact Nat.ne_of_gt (blk_lt (by exact BK213.out)) : gb229 ≠ gb213))
               have n9_ := Aside0.mk ((by rw [hg]; exact Nat.ne_of_lt (blk_lt (by exact BK214.out)) : gb214 ≠ gb229))
               have n10_ := Aside0.mk ((by rw [hg]; exact Nat.ne_of_gt (blk_lt (by exact BK214.out)) : gb229 ≠ gb214))
               have n11_ := Aside0.mk ((by rw [hg]; exact Nat.ne_of_lt (blk_lt (by exact BK230.out)) : gb230 ≠ gb229))
               have n12_ := Aside0.mk ((by rw [hg]; exact Nat.ne_of_gt (blk_lt (by exact BK230.out)) : gb229 ≠ gb230))
               clear BK213
               clear BK214
               clear BK230
               clear HB
               have BK213 := n0_
               have BK214 := n1_
               have BK230 := n2_
               have HB := n3_
               have BK229 := n4_
               have GW229 := n5_
               have GE229 := n6_
               have NB213_229 := n7_
               have NB229_213 := n8_
               have NB214_229 := n9_
               have NB229_214 := n10_
               have NB230_229 := n11_
               have NB229_230 := n12_
               clear n0_ n1_ n2_ n3_ n4_ n5_ n6_ n7_ n8_ n9_ n10_ n11_ n12_
               clear hb hbox hg
               refine hK.out _ _ ⟨(blk_cell BK213.out 0).trans rfl, (blk_cell BK213.out 1).trans rfl, (blk_cell BK213.out 2).trans rfl, (blk_cell BK214.out 0).trans rfl, (blk_cell BK214.out 1).trans rfl, (blk_cell BK214.out 2).trans rfl, (blk_cell BK214.out 3).trans rfl, (blk_cell BK214.out 4).trans rfl, (blk_cell BK214.out 5).trans rfl, (blk_cell BK214.out 6).trans rfl⟩ (fun hHeld => ?_)
               clear hK K
               refine norm_ (a' := ?_) ?_ ?_
               rotate_left
               ·show Act.put _ (some 9) _ = _
                simp only [Act.put, List.setIfInBounds_toArray, List.set_cons_zero, List.set_cons_succ, i64_w, i32_w]
                rfl
               exact norm_ (by first | (simp only [putAll, Act.put, List.setIfInBounds_toArray, List.set_cons_zero, List.set_cons_succ]; done) | (simp only [putAll, Act.put, List.setIfInBounds_toArray, List.set_cons_zero, List.set_cons_succ]; rfl)) (hJ8_9 (gb229, gb230) _ ⟨hHeld, (by exact BK213.out), (by exact BK214.out), (by exact BK229.out), (by exact BK230.out), GW229.out, GE229.out, NB213_229.out, NB229_213.out, NB214_229.out, NB229_214.out, NB230_229.out, NB229_230.out, GW230.out, GE230.out, NB213_230.out, NB230_213.out, NB214_230.out, NB230_214.out, (by repeat (first | (with_reducible first | exact HB.out | apply below_alloc | apply pw_below_drewN | apply below_drew1 | refine below_set ?_ GE213.out | refine below_set ?_ GE214.out | refine below_set ?_ GE230.out | refine below_set ?_ GE229.out) | exact HB.out))⟩)
            ·skip
             rintro gb229 w23 ⟨hS_, h0_, h1_, h2_, h3_, h4_, h5_, h6_, h7_, h8_, h9_⟩
             have n0_ : Aside0 (w23.heap[gb213]? = some (.cells #[.int .i64 ji8, .int .i64 a0_1, .int .i64 a0_2] 24 (0, 0))) := ⟨h0_⟩
             have n1_ : Aside0 (w23.heap[gb214]? = some (.cells #[.int .i64 t216, .int .i64 t217, .int .i64 t218, .int .i64 t219, .int .i64 t220, .int .i64 t221, .int .i64 t222] 26 (0, 0))) := ⟨h1_⟩
             have n2_ : Aside0 (w23.heap[gb229]? = some (.cells #[.int .i64 0, .int .i64 0, .int .i64 0] 24 (0, 0))) := ⟨h2_⟩
             have n3_ : Aside0 (w.heap.size ≤ gb229) := ⟨h3_⟩
             have n4_ : Aside0 (w.heap.size ≤ gb229) := ⟨h4_⟩
             have n5_ : Aside0 (gb213 ≠ gb229) := ⟨h5_⟩
             have n6_ : Aside0 (gb229 ≠ gb213) := ⟨h6_⟩
             have n7_ : Aside0 (gb214 ≠ gb229) := ⟨h7_⟩
             have n8_ : Aside0 (gb229 ≠ gb214) := ⟨h8_⟩
             have n9_ : Aside0 (Below w.heap.size w w23) := ⟨h9_⟩
             clear BK213
             clear BK214
             clear HB
             clear h0_ h1_ h2_ h3_ h4_ h5_ h6_ h7_ h8_ h9_
             have BK213 := n0_
             have BK214 := n1_
             have BK229 := n2_
             have GW229 := n3_
             have GE229 := n4_
             have NB213_229 := n5_
             have NB229_213 := n6_
             have NB214_229 := n7_
             have NB229_214 := n8_
             have HB := n9_
             clear n0_ n1_ n2_ n3_ n4_ n5_ n6_ n7_ n8_ n9_
             have hHeld : w23.cell? ⟨gb213, 0, none⟩ = some (.int .i64 ji8) ∧ w23.cell? ⟨gb213, 1, none⟩ = some (.int .i64 a0_1) ∧ w23.cell? ⟨gb213, 2, none⟩ = some (.int .i64 a0_2) ∧ w23.cell? ⟨gb214, 0, none⟩ = some (.int .i64 t216) ∧ w23.cell? ⟨gb214, 1, none⟩ = some (.int .i64 t217) ∧ w23.cell? ⟨gb214, 2, none⟩ = some (.int .i64 t218) ∧ w23.cell? ⟨gb214, 3, none⟩ = some (.int .i64 t219) ∧ w23.cell? ⟨gb214, 4, none⟩ = some (.int .i64 t220) ∧ w23.cell? ⟨gb214, 5, none⟩ = some (.int .i64 t221) ∧ w23.cell? ⟨gb214, 6, none⟩ = some (.int .i64 t222) := hS_
             refine norm_ (a' := ?_) ?_ ?_
             rotate_left
             ·simp only [putAll, Act.put, List.setIfInBounds_toArray, List.set_cons_zero, List.set_cons_succ]
              rfl
             refine two_ (i := 3) (j := 9) (Ni := some 27) (Nj := some 10) #[true, true, true, true, true, true, true, false, true, false, false, false] #[true, true, true, false, true, true, true, false, true, true, false, false] rfl rfl rfl rfl (two_of HT_.out (by kernel_rfl)) (by decide) (by decide) (fun K hK => ?_) (fun K hK => ?_)
             ·skip
              refine goes_ Try.func11 (by kernel_rfl) rfl #[.agg #[.int .i64 ji8, .int .i64 a0_1, .int .i64 a0_2], .agg #[.int .i64 t216, .int .i64 t217, .int .i64 t218, .int .i64 t219, .int .i64 t220, .int .i64 t221, .int .i64 t222], .int .i64 a3] (by rfl) rfl rfl (by (try simp only [List.map_toArray, List.map_cons, List.map_nil]); first | done | (simp only [hji8]; rfl) | rfl | (simp only [List.length_drop, List.length_take]; rfl)) ?_
              with_reducible refine (pid_State_Sample.calls k ji8 a0_1 a0_2 t216 t217 t218 t219 t220 t221 t222 a3 t223 t224 t225 _ A10.out).mono ?_
              rintro e w24 ⟨rfl, hb⟩
              refine ⟨_, rfl, ?_⟩
              have n0_ := Aside0.mk (blk_below (by exact BK213.out) hb)
              have n1_ := Aside0.mk (blk_below (by exact BK214.out) hb)
              have n2_ := Aside0.mk (blk_below (by exact BK229.out) hb)
              have n3_ := Aside0.mk (below_step (by repeat (first | (with_reducible first | exact HB.out | apply below_alloc | apply pw_below_drewN | apply below_drew1 | refine below_set ?_ GE213.out | refine below_set ?_ GE214.out | refine below_set ?_ GE229.out) | exact HB.out)) hb)
              clear BK213
              clear BK214
              clear BK229
              clear HB
              have BK213 := n0_
              have BK214 := n1_
              have BK229 := n2_
              have HB := n3_
              clear n0_ n1_ n2_ n3_
              (try clear hb)
              (try clear hb2)
              (try clear hk)
              (try clear hi)
              refine hK.out _ _ ⟨(blk_cell BK213.out 0).trans rfl, (blk_cell BK213.out 1).trans rfl, (blk_cell BK213.out 2).trans rfl, (blk_cell BK214.out 0).trans rfl, (blk_cell BK214.out 1).trans rfl, (blk_cell BK214.out 2).trans rfl, (blk_cell BK214.out 3).trans rfl, (blk_cell BK214.out 4).trans rfl, (blk_cell BK214.out 5).trans rfl, (blk_cell BK214.out 6).trans rfl⟩ (fun hHeld => ?_)
              clear hK K
              refine norm_ (a' := ?_) ?_ ?_
              rotate_left
              ·show Act.put _ (some 27) _ = _
               simp only [Act.put, List.setIfInBounds_toArray, List.set_cons_zero, List.set_cons_succ, i64_w, i32_w]
               rfl
              exact norm_ (by first | (simp only [putAll, Act.put, List.setIfInBounds_toArray, List.set_cons_zero, List.set_cons_succ]; done) | (simp only [putAll, Act.put, List.setIfInBounds_toArray, List.set_cons_zero, List.set_cons_succ]; rfl)) (hJ3_8 (gb229) _ ⟨hHeld, (by exact BK213.out), (by exact BK214.out), (by exact BK229.out), GW229.out, GE229.out, NB213_229.out, NB229_213.out, NB214_229.out, NB229_214.out, (by repeat (first | (with_reducible first | exact HB.out | apply below_alloc | apply pw_below_drewN | apply below_drew1 | refine below_set ?_ GE213.out | refine below_set ?_ GE214.out | refine below_set ?_ GE229.out) | exact HB.out))⟩)
             ·skip
              refine box_step ?hg (N := 10) ?hd (cs := #[.int .i64 0, .int .i64 0, .int .i64 0]) (t := 24) ?hr ?_; (case hd => rfl); (case hg => rfl); (case hr => first | (go_simp; done) | (go_simp; rfl))
              intro gb230 hg w24 hbox hb
              have n0_ := Aside0.mk (blk_below (by exact BK213.out) hb)
              have n1_ := Aside0.mk (blk_below (by exact BK214.out) hb)
              have n2_ := Aside0.mk (blk_below (by exact BK229.out) hb)
              have n3_ := Aside0.mk (below_step (by repeat (first | (with_reducible first | exact HB.out | apply below_alloc | apply pw_below_drewN | apply below_drew1 | refine below_set ?_ GE213.out | refine below_set ?_ GE214.out | refine below_set ?_ GE229.out) | exact HB.out)) hb)
              have n4_ := Aside0.mk (hbox)
              have n5_ := Aside0.mk ((by rw [hg]; exact (below_size (by repeat (first | (with_reducible first | exact HB.out | apply below_alloc | apply pw_below_drewN | apply below_drew1 | refine below_set ?_ GE213.out | refine below_set ?_ GE214.out | refine below_set ?_ GE229.out) | exact HB.out))) : w.heap.size ≤ gb230))
              have n6_ := Aside0.mk ((by rw [hg]; exact (below_size (by repeat (first | (with_reducible first | exact HB.out | apply below_alloc | apply pw_below_drewN | apply below_drew1 | refine below_set ?_ GE213.out | refine below_set ?_ GE214.out | refine below_set ?_ GE229.out) | exact HB.out))) : w.heap.size ≤ gb230))
              have n7_ := Aside0.mk ((by rw [hg]; exact Nat.ne_of_lt (blk_lt (by exact BK213.out)) : gb213 ≠ gb230))
              have n8_ := Aside0.mk ((by rw [hg]; exact Nat.ne_of_gt (blk_lt (by exact BK213.out)) : gb230 ≠ gb213))
              have n9_ := Aside0.mk ((by rw [hg]; exact Nat.ne_of_lt (blk_lt (by exact BK214.out)) : gb214 ≠ gb230))
              have n10_ := Aside0.mk ((by rw [hg]; exact Nat.ne_of_gt (blk_lt (by exact BK214.out)) : gb230 ≠ gb214))
              have n11_ := Aside0.mk ((by rw [hg]; exact Nat.ne_of_lt (blk_lt (by exact BK229.out)) : gb229 ≠ gb230))
              have n12_ := Aside0.mk ((by rw [hg]; exact Nat.ne_of_gt (blk_lt (by exact BK229.out)) : gb230 ≠ gb229))
              clear BK213
              clear BK214
              clear BK229
              clear HB
              have BK213 := n0_
              have BK214 := n1_
              have BK229 := n2_
              have HB := n3_
              have BK230 := n4_
              have GW230 := n5_
              have GE230 := n6_
              have NB213_230 := n7_
              have NB230_213 := n8_
              have NB214_230 := n9_
              have NB230_214 := n10_
              have NB229_230 := n11_
              have NB230_229 := n12_
              clear n0_ n1_ n2_ n3_ n4_ n5_ n6_ n7_ n8_ n9_ n10_ n11_ n12_
              clear hb hbox hg
              refine hK.out _ _ ⟨(blk_cell BK213.out 0).trans rfl, (blk_cell BK213.out 1).trans rfl, (blk_cell BK213.out 2).trans rfl, (blk_cell BK214.out 0).trans rfl, (blk_cell BK214.out 1).trans rfl, (blk_cell BK214.out 2).trans rfl, (blk_cell BK214.out 3).trans rfl, (blk_cell BK214.out 4).trans rfl, (blk_cell BK214.out 5).trans rfl, (blk_cell BK214.out 6).trans rfl⟩ (fun hHeld => ?_)
              clear hK K
              refine norm_ (a' := ?_) ?_ ?_
              rotate_left
              ·show Act.put _ (some 10) _ = _
               simp only [Act.put, List.setIfInBounds_toArray, List.set_cons_zero, List.set_cons_succ, i64_w, i32_w]
               rfl
              exact norm_ (by first | (simp only [putAll, Act.put, List.setIfInBounds_toArray, List.set_cons_zero, List.set_cons_succ]; done) | (simp only [putAll, Act.put, List.setIfInBounds_toArray, List.set_cons_zero, List.set_cons_succ]; rfl)) (hJ8_9 (gb229, gb230) _ ⟨hHeld, (by exact BK213.out), (by exact BK214.out), (by exact BK229.out), (by exact BK230.out), GW229.out, GE229.out, NB213_229.out, NB229_213.out, NB214_229.out, NB229_214.out, NB230_229.out, NB229_230.out, GW230.out, GE230.out, NB213_230.out, NB230_213.out, NB214_230.out, NB230_214.out, (by repeat (first | (with_reducible first | exact HB.out | apply below_alloc | apply pw_below_drewN | apply below_drew1 | refine below_set ?_ GE213.out | refine below_set ?_ GE214.out | refine below_set ?_ GE229.out | refine below_set ?_ GE230.out) | exact HB.out))⟩)
           ·skip
            rintro _ w23 ⟨hS_, h0_, h1_, h2_⟩
            have n0_ : Aside0 (w23.heap[gb213]? = some (.cells #[.int .i64 ji8, .int .i64 a0_1, .int .i64 a0_2] 24 (0, 0))) := ⟨h0_⟩
            have n1_ : Aside0 (w23.heap[gb214]? = some (.cells #[.int .i64 t216, .int .i64 t217, .int .i64 t218, .int .i64 t219, .int .i64 t220, .int .i64 t221, .int .i64 t222] 26 (0, 0))) := ⟨h1_⟩
            have n2_ : Aside0 (Below w.heap.size w w23) := ⟨h2_⟩
            clear BK213
            clear BK214
            clear HB
            clear h0_ h1_ h2_
            have BK213 := n0_
            have BK214 := n1_
            have HB := n2_
            clear n0_ n1_ n2_
            have hHeld : w23.cell? ⟨gb213, 0, none⟩ = some (.int .i64 ji8) ∧ w23.cell? ⟨gb213, 1, none⟩ = some (.int .i64 a0_1) ∧ w23.cell? ⟨gb213, 2, none⟩ = some (.int .i64 a0_2) ∧ w23.cell? ⟨gb214, 0, none⟩ = some (.int .i64 t216) ∧ w23.cell? ⟨gb214, 1, none⟩ = some (.int .i64 t217) ∧ w23.cell? ⟨gb214, 2, none⟩ = some (.int .i64 t218) ∧ w23.cell? ⟨gb214, 3, none⟩ = some (.int .i64 t219) ∧ w23.cell? ⟨gb214, 4, none⟩ = some (.int .i64 t220) ∧ w23.cell? ⟨gb214, 5, none⟩ = some (.int .i64 t221) ∧ w23.cell? ⟨gb214, 6, none⟩ = some (.int .i64 t222) := hS_
            refine norm_ (a' := ?_) ?_ ?_
            rotate_left
            ·simp only [putAll, Act.put, List.setIfInBounds_toArray, List.set_cons_zero, List.set_cons_succ]
             rfl
            refine three_ (i := 7) (j := 8) (k := 9) (Ni := some 31) (Nj := some 9) (Nk := some 10) #[true, true, true, true, true, true, true, true, false, false, false, false] #[true, true, true, true, true, true, true, false, true, false, false, false] #[true, true, true, true, true, true, true, false, false, true, false, false] rfl rfl rfl rfl rfl rfl (three_of HT_.out (by kernel_rfl)) (by decide) (by decide) (by decide) (fun K hK => ?_) (fun K hK => ?_) (fun K hK => ?_)
            ·skip
             refine goes_ Try.func11 (by kernel_rfl) rfl #[.agg #[.int .i64 ji8, .int .i64 a0_1, .int .i64 a0_2], .agg #[.int .i64 t216, .int .i64 t217, .int .i64 t218, .int .i64 t219, .int .i64 t220, .int .i64 t221, .int .i64 t222], .int .i64 a2] (by rfl) rfl rfl (by (try simp only [List.map_toArray, List.map_cons, List.map_nil]); first | done | (simp only [hji8]; rfl) | rfl | (simp only [List.length_drop, List.length_take]; rfl)) ?_
             with_reducible refine (pid_State_Sample.calls k ji8 a0_1 a0_2 t216 t217 t218 t219 t220 t221 t222 a2 t226 t227 t228 _ A11.out).mono ?_
             rintro e w24 ⟨rfl, hb⟩
             refine ⟨_, rfl, ?_⟩
             have n0_ := Aside0.mk (blk_below (by exact BK213.out) hb)
             have n1_ := Aside0.mk (blk_below (by exact BK214.out) hb)
             have n2_ := Aside0.mk (below_step (by repeat (first | (with_reducible first | exact HB.out | apply below_alloc | apply pw_below_drewN | apply below_drew1 | refine below_set ?_ GE213.out | refine below_set ?_ GE214.out) | exact HB.out)) hb)
             clear BK213
             clear BK214
             clear HB
             have BK213 := n0_
             have BK214 := n1_
             have HB := n2_
             clear n0_ n1_ n2_
             (try clear hb)
             (try clear hb2)
             (try clear hk)
             (try clear hi)
             refine hK.out _ _ ⟨(blk_cell BK213.out 0).trans rfl, (blk_cell BK213.out 1).trans rfl, (blk_cell BK213.out 2).trans rfl, (blk_cell BK214.out 0).trans rfl, (blk_cell BK214.out 1).trans rfl, (blk_cell BK214.out 2).trans rfl, (blk_cell BK214.out 3).trans rfl, (blk_cell BK214.out 4).trans rfl, (blk_cell BK214.out 5).trans rfl, (blk_cell BK214.out 6).trans rfl⟩ (fun hHeld => ?_)
             clear hK K
             refine norm_ (a' := ?_) ?_ ?_
             rotate_left
             ·show Act.put _ (some 31) _ = _
              simp only [Act.put, List.setIfInBounds_toArray, List.set_cons_zero, List.set_cons_succ, i64_w, i32_w]
              rfl
             exact norm_ (by first | (simp only [putAll, Act.put, List.setIfInBounds_toArray, List.set_cons_zero, List.set_cons_succ]; done) | (simp only [putAll, Act.put, List.setIfInBounds_toArray, List.set_cons_zero, List.set_cons_succ]; rfl)) (hJ3_7 () _ ⟨hHeld, (by exact BK213.out), (by exact BK214.out), (by repeat (first | (with_reducible first | exact HB.out | apply below_alloc | apply pw_below_drewN | apply below_drew1 | refine below_set ?_ GE213.out | refine below_set ?_ GE214.out) | exact HB.out))⟩)
            ·skip
             refine box_step ?hg (N := 9) ?hd (cs := #[.int .i64 0, .int .i64 0, .int .i64 0]) (t := 24) ?hr ?_; (case hd => rfl); (case hg => rfl); (case hr => first | (go_simp; done) | (go_simp; rfl))
             intro gb229 hg w24 hbox hb
             have n0_ := Aside0.mk (blk_below (by exact BK213.out) hb)
             have n1_ := Aside0.mk (blk_below (by exact BK214.out) hb)
             have n2_ := Aside0.mk (below_step (by repeat (first | (with_reducible first | exact HB.out | apply below_alloc | apply pw_below_drewN | apply below_drew1 | refine below_set ?_ GE213.out | refine below_set ?_ GE214.out) | exact HB.out)) hb)
             have n3_ := Aside0.mk (hbox)
             have n4_ := Aside0.mk ((by rw [hg]; exact (below_size (by repeat (first | (with_reducible first | exact HB.out | apply below_alloc | apply pw_below_drewN | apply below_drew1 | refine below_set ?_ GE213.out | refine below_set ?_ GE214.out) | exact HB.out))) : w.heap.size ≤ gb229))
             have n5_ := Aside0.mk ((by rw [hg]; exact (below_size (by repeat (first | (with_reducible first | exact HB.out | apply below_alloc | apply pw_below_drewN | apply below_drew1 | refine below_set ?_ GE213.out | refine below_set ?_ GE214.out) | exact HB.out))) : w.heap.size ≤ gb229))
             have n6_ := Aside0.mk ((by rw [hg]; exact Nat.ne_of_lt (blk_lt (by exact BK213.out)) : gb213 ≠ gb229))
             have n7_ := Aside0.mk ((by rw [hg]; exact Nat.ne_of_gt (blk_lt (by exact BK213.out)) : gb229 ≠ gb213))
             have n8_ := Aside0.mk ((by rw [hg]; exact Nat.ne_of_lt (blk_lt (by exact BK214.out)) : gb214 ≠ gb229))
             have n9_ := Aside0.mk ((by rw [hg]; exact Nat.ne_of_gt (blk_lt (by exact BK214.out)) : gb229 ≠ gb214))
             clear BK213
             clear BK214
             clear HB
             have BK213 := n0_
             have BK214 := n1_
             have HB := n2_
             have BK229 := n3_
             have GW229 := n4_
             have GE229 := n5_
             have NB213_229 := n6_
             have NB229_213 := n7_
             have NB214_229 := n8_
             have NB229_214 := n9_
             clear n0_ n1_ n2_ n3_ n4_ n5_ n6_ n7_ n8_ n9_
             clear hb hbox hg
             refine hK.out _ _ ⟨(blk_cell BK213.out 0).trans rfl, (blk_cell BK213.out 1).trans rfl, (blk_cell BK213.out 2).trans rfl, (blk_cell BK214.out 0).trans rfl, (blk_cell BK214.out 1).trans rfl, (blk_cell BK214.out 2).trans rfl, (blk_cell BK214.out 3).trans rfl, (blk_cell BK214.out 4).trans rfl, (blk_cell BK214.out 5).trans rfl, (blk_cell BK214.out 6).trans rfl⟩ (fun hHeld => ?_)
             clear hK K
             refine norm_ (a' := ?_) ?_ ?_
             rotate_left
             ·show Act.put _ (some 9) _ = _
              simp only [Act.put, List.setIfInBounds_toArray, List.set_cons_zero, List.set_cons_succ, i64_w, i32_w]
              rfl
             exact norm_ (by first | (simp only [putAll, Act.put, List.setIfInBounds_toArray, List.set_cons_zero, List.set_cons_succ]; done) | (simp only [putAll, Act.put, List.setIfInBounds_toArray, List.set_cons_zero, List.set_cons_succ]; rfl)) (hJ3_8 (gb229) _ ⟨hHeld, (by exact BK213.out), (by exact BK214.out), (by exact BK229.out), GW229.out, GE229.out, NB213_229.out, NB229_213.out, NB214_229.out, NB229_214.out, (by repeat (first | (with_reducible first | exact HB.out | apply below_alloc | apply pw_below_drewN | apply below_drew1 | refine below_set ?_ GE213.out | refine below_set ?_ GE214.out | refine below_set ?_ GE229.out) | exact HB.out))⟩)
            ·skip
             refine box_step ?hg (N := 10) ?hd (cs := #[.int .i64 0, .int .i64 0, .int .i64 0]) (t := 24) ?hr ?_; (case hd => rfl); (case hg => rfl); (case hr => first | (go_simp; done) | (go_simp; rfl))
             intro gb230 hg w24 hbox hb
             have n0_ := Aside0.mk (blk_below (by exact BK213.out) hb)
             have n1_ := Aside0.mk (blk_below (by exact BK214.out) hb)
             have n2_ := Aside0.mk (below_step (by repeat (first | (with_reducible first | exact HB.out | apply below_alloc | apply pw_below_drewN | apply below_drew1 | refine below_set ?_ GE213.out | refine below_set ?_ GE214.out) | exact HB.out)) hb)
             have n3_ := Aside0.mk (hbox)
             have n4_ := Aside0.mk ((by rw [hg]; exact (below_size (by repeat (first | (with_reducible first | exact HB.out | apply below_alloc | apply pw_below_drewN | apply below_drew1 | refine below_set ?_ GE213.out | refine below_set ?_ GE214.out) | exact HB.out))) : w.heap.size ≤ gb230))
             have n5_ := Aside0.mk ((by rw [hg]; exact (below_size (by repeat (first | (with_reducible first | exact HB.out | apply below_alloc | apply pw_below_drewN | apply below_drew1 | refine below_set ?_ GE213.out | refine below_set ?_ GE214.out) | exact HB.out))) : w.heap.size ≤ gb230))
             have n6_ := Aside0.mk ((by rw [hg]; exact Nat.ne_of_lt (blk_lt (by exact BK213.out)) : gb213 ≠ gb230))
             have n7_ := Aside0.mk ((by rw [hg]; exact Nat.ne_of_gt (blk_lt (by exact BK213.out)) : gb230 ≠ gb213))
             have n8_ := Aside0.mk ((by rw [hg]; exact Nat.ne_of_lt (blk_lt (by exact BK214.out)) : gb214 ≠ gb230))
             have n9_ := Aside0.mk ((by rw [hg]; exact Nat.ne_of_gt (blk_lt (by exact BK214.out)) : gb230 ≠ gb214))
             clear BK213
             clear BK214
             clear HB
             have BK213 := n0_
             have BK214 := n1_
             have HB := n2_
             have BK230 := n3_
             have GW230 := n4_
             have GE230 := n5_
             have NB213_230 := n6_
             have NB230_213 := n7_
             have NB214_230 := n8_
             have NB230_214 := n9_
             clear n0_ n1_ n2_ n3_ n4_ n5_ n6_ n7_ n8_ n9_
             clear hb hbox hg
             refine hK.out _ _ ⟨(blk_cell BK213.out 0).trans rfl, (blk_cell BK213.out 1).trans rfl, (blk_cell BK213.out 2).trans rfl, (blk_cell BK214.out 0).trans rfl, (blk_cell BK214.out 1).trans rfl, (blk_cell BK214.out 2).trans rfl, (blk_cell BK214.out 3).trans rfl, (blk_cell BK214.out 4).trans rfl, (blk_cell BK214.out 5).trans rfl, (blk_cell BK214.out 6).trans rfl⟩ (fun hHeld => ?_)
             clear hK K
             refine norm_ (a' := ?_) ?_ ?_
             rotate_left
             ·show Act.put _ (some 10) _ = _
              simp only [Act.put, List.setIfInBounds_toArray, List.set_cons_zero, List.set_cons_succ, i64_w, i32_w]
              rfl
             exact norm_ (by first | (simp only [putAll, Act.put, List.setIfInBounds_toArray, List.set_cons_zero, List.set_cons_succ]; done) | (simp only [putAll, Act.put, List.setIfInBounds_toArray, List.set_cons_zero, List.set_cons_succ]; rfl)) (hJ3_9 (gb230) _ ⟨hHeld, (by exact BK213.out), (by exact BK214.out), (by exact BK230.out), GW230.out, GE230.out, NB213_230.out, NB230_213.out, NB214_230.out, NB230_214.out, (by repeat (first | (with_reducible first | exact HB.out | apply below_alloc | apply pw_below_drewN | apply below_drew1 | refine below_set ?_ GE213.out | refine below_set ?_ GE214.out | refine below_set ?_ GE230.out) | exact HB.out))⟩)
          ·skip
           rintro ⟨gb229, gb230⟩ w24 ⟨hS_, h0_, h1_, h2_, h3_, h4_, h5_, h6_, h7_, h8_, h9_, h10_, h11_, h12_, h13_, h14_, h15_, h16_, h17_, h18_⟩
           have n0_ : Aside0 (w24.heap[gb213]? = some (.cells #[.int .i64 ji8, .int .i64 a0_1, .int .i64 a0_2] 24 (0, 0))) := ⟨h0_⟩
           have n1_ : Aside0 (w24.heap[gb214]? = some (.cells #[.int .i64 t216, .int .i64 t217, .int .i64 t218, .int .i64 t219, .int .i64 t220, .int .i64 t221, .int .i64 t222] 26 (0, 0))) := ⟨h1_⟩
           have n2_ : Aside0 (w24.heap[gb229]? = some (.cells #[.int .i64 0, .int .i64 0, .int .i64 0] 24 (0, 0))) := ⟨h2_⟩
           have n3_ : Aside0 (w24.heap[gb230]? = some (.cells #[.int .i64 0, .int .i64 0, .int .i64 0] 24 (0, 0))) := ⟨h3_⟩
           have n4_ : Aside0 (w.heap.size ≤ gb229) := ⟨h4_⟩
           have n5_ : Aside0 (w.heap.size ≤ gb229) := ⟨h5_⟩
           have n6_ : Aside0 (gb213 ≠ gb229) := ⟨h6_⟩
           have n7_ : Aside0 (gb229 ≠ gb213) := ⟨h7_⟩
           have n8_ : Aside0 (gb214 ≠ gb229) := ⟨h8_⟩
           have n9_ : Aside0 (gb229 ≠ gb214) := ⟨h9_⟩
           have n10_ : Aside0 (gb230 ≠ gb229) := ⟨h10_⟩
           have n11_ : Aside0 (gb229 ≠ gb230) := ⟨h11_⟩
           have n12_ : Aside0 (w.heap.size ≤ gb230) := ⟨h12_⟩
           have n13_ : Aside0 (w.heap.size ≤ gb230) := ⟨h13_⟩
           have n14_ : Aside0 (gb213 ≠ gb230) := ⟨h14_⟩
           have n15_ : Aside0 (gb230 ≠ gb213) := ⟨h15_⟩
           have n16_ : Aside0 (gb214 ≠ gb230) := ⟨h16_⟩
           have n17_ : Aside0 (gb230 ≠ gb214) := ⟨h17_⟩
           have n18_ : Aside0 (Below w.heap.size w w24) := ⟨h18_⟩
           clear BK213
           clear BK214
           clear HB
           clear h0_ h1_ h2_ h3_ h4_ h5_ h6_ h7_ h8_ h9_ h10_ h11_ h12_ h13_ h14_ h15_ h16_ h17_ h18_
           have BK213 := n0_
           have BK214 := n1_
           have BK229 := n2_
           have BK230 := n3_
           have GW229 := n4_
           have GE229 := n5_
           have NB213_229 := n6_
           have NB229_213 := n7_
           have NB214_229 := n8_
           have NB229_214 := n9_
           have NB230_229 := n10_
           have NB229_230 := n11_
           have GW230 := n12_
           have GE230 := n13_
           have NB213_230 := n14_
           have NB230_213 := n15_
           have NB214_230 := n16_
           have NB230_214 := n17_
           have HB := n18_
           clear n0_ n1_ n2_ n3_ n4_ n5_ n6_ n7_ n8_ n9_ n10_ n11_ n12_ n13_ n14_ n15_ n16_ n17_ n18_
           have hHeld : w24.cell? ⟨gb213, 0, none⟩ = some (.int .i64 ji8) ∧ w24.cell? ⟨gb213, 1, none⟩ = some (.int .i64 a0_1) ∧ w24.cell? ⟨gb213, 2, none⟩ = some (.int .i64 a0_2) ∧ w24.cell? ⟨gb214, 0, none⟩ = some (.int .i64 t216) ∧ w24.cell? ⟨gb214, 1, none⟩ = some (.int .i64 t217) ∧ w24.cell? ⟨gb214, 2, none⟩ = some (.int .i64 t218) ∧ w24.cell? ⟨gb214, 3, none⟩ = some (.int .i64 t219) ∧ w24.cell? ⟨gb214, 4, none⟩ = some (.int .i64 t220) ∧ w24.cell? ⟨gb214, 5, none⟩ = some (.int .i64 t221) ∧ w24.cell? ⟨gb214, 6, none⟩ = some (.int .i64 t222) := hS_
           refine norm_ (a' := ?_) ?_ ?_
           rotate_left
           ·simp only [putAll, Act.put, List.setIfInBounds_toArray, List.set_cons_zero, List.set_cons_succ]
            rfl
           refine one_ (i := 3) (N := some 27) #[true, true, true, true, true, true, true, false, true, true, false, false] rfl rfl (one_of HT_.out (by kernel_rfl)) (by decide) (fun K hK => ?_)
           refine goes_ Try.func11 (by kernel_rfl) rfl #[.agg #[.int .i64 ji8, .int .i64 a0_1, .int .i64 a0_2], .agg #[.int .i64 t216, .int .i64 t217, .int .i64 t218, .int .i64 t219, .int .i64 t220, .int .i64 t221, .int .i64 t222], .int .i64 a3] (by rfl) rfl rfl (by (try simp only [List.map_toArray, List.map_cons, List.map_nil]); first | done | (simp only [hji8]; rfl) | rfl | (simp only [List.length_drop, List.length_take]; rfl)) ?_
           with_reducible refine (pid_State_Sample.calls k ji8 a0_1 a0_2 t216 t217 t218 t219 t220 t221 t222 a3 t223 t224 t225 _ A10.out).mono ?_
           rintro e w25 ⟨rfl, hb⟩
           refine ⟨_, rfl, ?_⟩
           have n0_ := Aside0.mk (blk_below (by exact BK213.out) hb)
           have n1_ := Aside0.mk (blk_below (by exact BK214.out) hb)
           have n2_ := Aside0.mk (blk_below (by exact BK229.out) hb)
           have n3_ := Aside0.mk (blk_below (by exact BK230.out) hb)
           have n4_ := Aside0.mk (below_step (by repeat (first | (with_reducible first | exact HB.out | apply below_alloc | apply pw_below_drewN | apply below_drew1 | refine below_set ?_ GE213.out | refine below_set ?_ GE214.out | refine below_set ?_ GE229.out | refine below_set ?_ GE230.out) | exact HB.out)) hb)
           clear BK213
           clear BK214
           clear BK229
           clear BK230
           clear HB
           have BK213 := n0_
           have BK214 := n1_
           have BK229 := n2_
           have BK230 := n3_
           have HB := n4_
           clear n0_ n1_ n2_ n3_ n4_
           (try clear hb)
           (try clear hb2)
           (try clear hk)
           (try clear hi)
           refine hK.out _ _ ⟨(blk_cell BK213.out 0).trans rfl, (blk_cell BK213.out 1).trans rfl, (blk_cell BK213.out 2).trans rfl, (blk_cell BK214.out 0).trans rfl, (blk_cell BK214.out 1).trans rfl, (blk_cell BK214.out 2).trans rfl, (blk_cell BK214.out 3).trans rfl, (blk_cell BK214.out 4).trans rfl, (blk_cell BK214.out 5).trans rfl, (blk_cell BK214.out 6).trans rfl⟩ (fun hHeld => ?_)
           clear hK K
           refine norm_ (a' := ?_) ?_ ?_
           rotate_left
           ·show Act.put _ (some 27) _ = _
            simp only [Act.put, List.setIfInBounds_toArray, List.set_cons_zero, List.set_cons_succ, i64_w, i32_w]
            rfl
           exact norm_ (by first | (simp only [putAll, Act.put, List.setIfInBounds_toArray, List.set_cons_zero, List.set_cons_succ]; done) | (simp only [putAll, Act.put, List.setIfInBounds_toArray, List.set_cons_zero, List.set_cons_succ]; rfl)) (hJ3_8_9 (gb229, gb230) _ ⟨hHeld, (by exact BK213.out), (by exact BK214.out), (by exact BK229.out), (by exact BK230.out), GW229.out, GE229.out, NB213_229.out, NB229_213.out, NB214_229.out, NB229_214.out, NB230_229.out, NB229_230.out, GW230.out, GE230.out, NB213_230.out, NB230_213.out, NB214_230.out, NB230_214.out, (by repeat (first | (with_reducible first | exact HB.out | apply below_alloc | apply pw_below_drewN | apply below_drew1 | refine below_set ?_ GE213.out | refine below_set ?_ GE214.out | refine below_set ?_ GE229.out | refine below_set ?_ GE230.out) | exact HB.out))⟩)
         ·skip
          rintro gb230 w24 ⟨hS_, h0_, h1_, h2_, h3_, h4_, h5_, h6_, h7_, h8_, h9_⟩
          have n0_ : Aside0 (w24.heap[gb213]? = some (.cells #[.int .i64 ji8, .int .i64 a0_1, .int .i64 a0_2] 24 (0, 0))) := ⟨h0_⟩
          have n1_ : Aside0 (w24.heap[gb214]? = some (.cells #[.int .i64 t216, .int .i64 t217, .int .i64 t218, .int .i64 t219, .int .i64 t220, .int .i64 t221, .int .i64 t222] 26 (0, 0))) := ⟨h1_⟩
          have n2_ : Aside0 (w24.heap[gb230]? = some (.cells #[.int .i64 0, .int .i64 0, .int .i64 0] 24 (0, 0))) := ⟨h2_⟩
          have n3_ : Aside0 (w.heap.size ≤ gb230) := ⟨h3_⟩
          have n4_ : Aside0 (w.heap.size ≤ gb230) := ⟨h4_⟩
          have n5_ : Aside0 (gb213 ≠ gb230) := ⟨h5_⟩
          have n6_ : Aside0 (gb230 ≠ gb213) := ⟨h6_⟩
          have n7_ : Aside0 (gb214 ≠ gb230) := ⟨h7_⟩
          have n8_ : Aside0 (gb230 ≠ gb214) := ⟨h8_⟩
          have n9_ : Aside0 (Below w.heap.size w w24) := ⟨h9_⟩
          clear BK213
          clear BK214
          clear HB
          clear h0_ h1_ h2_ h3_ h4_ h5_ h6_ h7_ h8_ h9_
          have BK213 := n0_
          have BK214 := n1_
          have BK230 := n2_
          have GW230 := n3_
          have GE230 := n4_
          have NB213_230 := n5_
          have NB230_213 := n6_
          have NB214_230 := n7_
          have NB230_214 := n8_
          have HB := n9_
          clear n0_ n1_ n2_ n3_ n4_ n5_ n6_ n7_ n8_ n9_
          have hHeld : w24.cell? ⟨gb213, 0, none⟩ = some (.int .i64 ji8) ∧ w24.cell? ⟨gb213, 1, none⟩ = some (.int .i64 a0_1) ∧ w24.cell? ⟨gb213, 2, none⟩ = some (.int .i64 a0_2) ∧ w24.cell? ⟨gb214, 0, none⟩ = some (.int .i64 t216) ∧ w24.cell? ⟨gb214, 1, none⟩ = some (.int .i64 t217) ∧ w24.cell? ⟨gb214, 2, none⟩ = some (.int .i64 t218) ∧ w24.cell? ⟨gb214, 3, none⟩ = some (.int .i64 t219) ∧ w24.cell? ⟨gb214, 4, none⟩ = some (.int .i64 t220) ∧ w24.cell? ⟨gb214, 5, none⟩ = some (.int .i64 t221) ∧ w24.cell? ⟨gb214, 6, none⟩ = some (.int .i64 t222) := hS_
          refine norm_ (a' := ?_) ?_ ?_
          rotate_left
          ·simp only [putAll, Act.put, List.setIfInBounds_toArray, List.set_cons_zero, List.set_cons_succ]
           rfl
          refine two_ (i := 7) (j := 8) (Ni := some 31) (Nj := some 9) #[true, true, true, true, true, true, true, true, false, true, false, false] #[true, true, true, true, true, true, true, false, true, true, false, false] rfl rfl rfl rfl (two_of HT_.out (by kernel_rfl)) (by decide) (by decide) (fun K hK => ?_) (fun K hK => ?_)
          ·skip
           refine goes_ Try.func11 (by kernel_rfl) rfl #[.agg #[.int .i64 ji8, .int .i64 a0_1, .int .i64 a0_2], .agg #[.int .i64 t216, .int .i64 t217, .int .i64 t218, .int .i64 t219, .int .i64 t220, .int .i64 t221, .int .i64 t222], .int .i64 a2] (by rfl) rfl rfl (by (try simp only [List.map_toArray, List.map_cons, List.map_nil]); first | done | (simp only [hji8]; rfl) | rfl | (simp only [List.length_drop, List.length_take]; rfl)) ?_
           with_reducible refine (pid_State_Sample.calls k ji8 a0_1 a0_2 t216 t217 t218 t219 t220 t221 t222 a2 t226 t227 t228 _ A11.out).mono ?_
           rintro e w25 ⟨rfl, hb⟩
           refine ⟨_, rfl, ?_⟩
           have n0_ := Aside0.mk (blk_below (by exact BK213.out) hb)
           have n1_ := Aside0.mk (blk_below (by exact BK214.out) hb)
           have n2_ := Aside0.mk (blk_below (by exact BK230.out) hb)
           have n3_ := Aside0.mk (below_step (by repeat (first | (with_reducible first | exact HB.out | apply below_alloc | apply pw_below_drewN | apply below_drew1 | refine below_set ?_ GE213.out | refine below_set ?_ GE214.out | refine below_set ?_ GE230.out) | exact HB.out)) hb)
           clear BK213
           clear BK214
           clear BK230
           clear HB
           have BK213 := n0_
           have BK214 := n1_
           have BK230 := n2_
           have HB := n3_
           clear n0_ n1_ n2_ n3_
           (try clear hb)
           (try clear hb2)
           (try clear hk)
           (try clear hi)
           refine hK.out _ _ ⟨(blk_cell BK213.out 0).trans rfl, (blk_cell BK213.out 1).trans rfl, (blk_cell BK213.out 2).trans rfl, (blk_cell BK214.out 0).trans rfl, (blk_cell BK214.out 1).trans rfl, (blk_cell BK214.out 2).trans rfl, (blk_cell BK214.out 3).trans rfl, (blk_cell BK214.out 4).trans rfl, (blk_cell BK214.out 5).trans rfl, (blk_cell BK214.out 6).trans rfl⟩ (fun hHeld => ?_)
           clear hK K
           refine norm_ (a' := ?_) ?_ ?_
           rotate_left
           ·show Act.put _ (some 31) _ = _
            simp only [Act.put, List.setIfInBounds_toArray, List.set_cons_zero, List.set_cons_succ, i64_w, i32_w]
            rfl
           exact norm_ (by first | (simp only [putAll, Act.put, List.setIfInBounds_toArray, List.set_cons_zero, List.set_cons_succ]; done) | (simp only [putAll, Act.put, List.setIfInBounds_toArray, List.set_cons_zero, List.set_cons_succ]; rfl)) (hJ3_7_9 (gb230) _ ⟨hHeld, (by exact BK213.out), (by exact BK214.out), (by exact BK230.out), GW230.out, GE230.out, NB213_230.out, NB230_213.out, NB214_230.out, NB230_214.out, (by repeat (first | (with_reducible first | exact HB.out | apply below_alloc | apply pw_below_drewN | apply below_drew1 | refine below_set ?_ GE213.out | refine below_set ?_ GE214.out | refine below_set ?_ GE230.out) | exact HB.out))⟩)
          ·skip
           refine box_step ?hg (N := 9) ?hd (cs := #[.int .i64 0, .int .i64 0, .int .i64 0]) (t := 24) ?hr ?_; (case hd => rfl); (case hg => rfl); (case hr => first | (go_simp; done) | (go_simp; rfl))
           intro gb229 hg w25 hbox hb
           have n0_ := Aside0.mk (blk_below (by exact BK213.out) hb)
           have n1_ := Aside0.mk (blk_below (by exact BK214.out) hb)
           have n2_ := Aside0.mk (blk_below (by exact BK230.out) hb)
           have n3_ := Aside0.mk (below_step (by repeat (first | (with_reducible first | exact HB.out | apply below_alloc | apply pw_below_drewN | apply below_drew1 | refine below_set ?_ GE213.out | refine below_set ?_ GE214.out | refine below_set ?_ GE230.out) | exact HB.out)) hb)
           have n4_ := Aside0.mk (hbox)
           have n5_ := Aside0.mk ((by rw [hg]; exact (below_size (by repeat (first | (with_reducible first | exact HB.out | apply below_alloc | apply pw_below_drewN | apply below_drew1 | refine below_set ?_ GE213.out | refine below_set ?_ GE214.out | refine below_set ?_ GE230.out) | exact HB.out))) : w.heap.size ≤ gb229))
           have n6_ := Aside0.mk ((by rw [hg]; exact (below_size (by repeat (first | (with_reducible first | exact HB.out | apply below_alloc | apply pw_below_drewN | apply below_drew1 | refine below_set ?_ GE213.out | refine below_set ?_ GE214.out | refine below_set ?_ GE230.out) | exact HB.out))) : w.heap.size ≤ gb229))
           have n7_ := Aside0.mk ((by rw [hg]; exact Nat.ne_of_lt (blk_lt (by exact BK213.out)) : gb213 ≠ gb229))
           have n8_ := Aside0.mk ((by rw [hg]; exact Nat.ne_of_gt (blk_lt (by exact BK213.out)) : gb229 ≠ gb213))
           have n9_ := Aside0.mk ((by rw [hg]; exact Nat.ne_of_lt (blk_lt (by exact BK214.out)) : gb214 ≠ gb229))
           have n10_ := Aside0.mk ((by rw [hg]; exact Nat.ne_of_gt (blk_lt (by exact BK214.out)) : gb229 ≠ gb214))
           have n11_ := Aside0.mk ((by rw [hg]; exact Nat.ne_of_lt (blk_lt (by exact BK230.out)) : gb230 ≠ gb229))
           have n12_ := Aside0.mk ((by rw [hg]; exact Nat.ne_of_gt (blk_lt (by exact BK230.out)) : gb229 ≠ gb230))
           clear BK213
           clear BK214
           clear BK230
           clear HB
           have BK213 := n0_
           have BK214 := n1_
           have BK230 := n2_
           have HB := n3_
           have BK229 := n4_
           have GW229 := n5_
           have GE229 := n6_
           have NB213_229 := n7_
           have NB229_213 := n8_
           have NB214_229 := n9_
           have NB229_214 := n10_
           have NB230_229 := n11_
           have NB229_230 := n12_
           clear n0_ n1_ n2_ n3_ n4_ n5_ n6_ n7_ n8_ n9_ n10_ n11_ n12_
           clear hb hbox hg
           refine hK.out _ _ ⟨(blk_cell BK213.out 0).trans rfl, (blk_cell BK213.out 1).trans rfl, (blk_cell BK213.out 2).trans rfl, (blk_cell BK214.out 0).trans rfl, (blk_cell BK214.out 1).trans rfl, (blk_cell BK214.out 2).trans rfl, (blk_cell BK214.out 3).trans rfl, (blk_cell BK214.out 4).trans rfl, (blk_cell BK214.out 5).trans rfl, (blk_cell BK214.out 6).trans rfl⟩ (fun hHeld => ?_)
           clear hK K
           refine norm_ (a' := ?_) ?_ ?_
           rotate_left
           ·show Act.put _ (some 9) _ = _
            simp only [Act.put, List.setIfInBounds_toArray, List.set_cons_zero, List.set_cons_succ, i64_w, i32_w]
            rfl
           exact norm_ (by first | (simp only [putAll, Act.put, List.setIfInBounds_toArray, List.set_cons_zero, List.set_cons_succ]; done) | (simp only [putAll, Act.put, List.setIfInBounds_toArray, List.set_cons_zero, List.set_cons_succ]; rfl)) (hJ3_8_9 (gb229, gb230) _ ⟨hHeld, (by exact BK213.out), (by exact BK214.out), (by exact BK229.out), (by exact BK230.out), GW229.out, GE229.out, NB213_229.out, NB229_213.out, NB214_229.out, NB229_214.out, NB230_229.out, NB229_230.out, GW230.out, GE230.out, NB213_230.out, NB230_213.out, NB214_230.out, NB230_214.out, (by repeat (first | (with_reducible first | exact HB.out | apply below_alloc | apply pw_below_drewN | apply below_drew1 | refine below_set ?_ GE213.out | refine below_set ?_ GE214.out | refine below_set ?_ GE230.out | refine below_set ?_ GE229.out) | exact HB.out))⟩)
        ·skip
         rintro gb229 w24 ⟨hS_, h0_, h1_, h2_, h3_, h4_, h5_, h6_, h7_, h8_, h9_⟩
         have n0_ : Aside0 (w24.heap[gb213]? = some (.cells #[.int .i64 ji8, .int .i64 a0_1, .int .i64 a0_2] 24 (0, 0))) := ⟨h0_⟩
         have n1_ : Aside0 (w24.heap[gb214]? = some (.cells #[.int .i64 t216, .int .i64 t217, .int .i64 t218, .int .i64 t219, .int .i64 t220, .int .i64 t221, .int .i64 t222] 26 (0, 0))) := ⟨h1_⟩
         have n2_ : Aside0 (w24.heap[gb229]? = some (.cells #[.int .i64 0, .int .i64 0, .int .i64 0] 24 (0, 0))) := ⟨h2_⟩
         have n3_ : Aside0 (w.heap.size ≤ gb229) := ⟨h3_⟩
         have n4_ : Aside0 (w.heap.size ≤ gb229) := ⟨h4_⟩
         have n5_ : Aside0 (gb213 ≠ gb229) := ⟨h5_⟩
         have n6_ : Aside0 (gb229 ≠ gb213) := ⟨h6_⟩
         have n7_ : Aside0 (gb214 ≠ gb229) := ⟨h7_⟩
         have n8_ : Aside0 (gb229 ≠ gb214) := ⟨h8_⟩
         have n9_ : Aside0 (Below w.heap.size w w24) := ⟨h9_⟩
         clear BK213
         clear BK214
         clear HB
         clear h0_ h1_ h2_ h3_ h4_ h5_ h6_ h7_ h8_ h9_
         have BK213 := n0_
         have BK214 := n1_
         have BK229 := n2_
         have GW229 := n3_
         have GE229 := n4_
         have NB213_229 := n5_
         have NB229_213 := n6_
         have NB214_229 := n7_
         have NB229_214 := n8_
         have HB := n9_
         clear n0_ n1_ n2_ n3_ n4_ n5_ n6_ n7_ n8_ n9_
         have hHeld : w24.cell? ⟨gb213, 0, none⟩ = some (.int .i64 ji8) ∧ w24.cell? ⟨gb213, 1, none⟩ = some (.int .i64 a0_1) ∧ w24.cell? ⟨gb213, 2, none⟩ = some (.int .i64 a0_2) ∧ w24.cell? ⟨gb214, 0, none⟩ = some (.int .i64 t216) ∧ w24.cell? ⟨gb214, 1, none⟩ = some (.int .i64 t217) ∧ w24.cell? ⟨gb214, 2, none⟩ = some (.int .i64 t218) ∧ w24.cell? ⟨gb214, 3, none⟩ = some (.int .i64 t219) ∧ w24.cell? ⟨gb214, 4, none⟩ = some (.int .i64 t220) ∧ w24.cell? ⟨gb214, 5, none⟩ = some (.int .i64 t221) ∧ w24.cell? ⟨gb214, 6, none⟩ = some (.int .i64 t222) := hS_
         refine norm_ (a' := ?_) ?_ ?_
         rotate_left
         ·simp only [putAll, Act.put, List.setIfInBounds_toArray, List.set_cons_zero, List.set_cons_succ]
          rfl
         refine two_ (i := 7) (j := 9) (Ni := some 31) (Nj := some 10) #[true, true, true, true, true, true, true, true, true, false, false, false] #[true, true, true, true, true, true, true, false, true, true, false, false] rfl rfl rfl rfl (two_of HT_.out (by kernel_rfl)) (by decide) (by decide) (fun K hK => ?_) (fun K hK => ?_)
         ·skip
          refine goes_ Try.func11 (by kernel_rfl) rfl #[.agg #[.int .i64 ji8, .int .i64 a0_1, .int .i64 a0_2], .agg #[.int .i64 t216, .int .i64 t217, .int .i64 t218, .int .i64 t219, .int .i64 t220, .int .i64 t221, .int .i64 t222], .int .i64 a2] (by rfl) rfl rfl (by (try simp only [List.map_toArray, List.map_cons, List.map_nil]); first | done | (simp only [hji8]; rfl) | rfl | (simp only [List.length_drop, List.length_take]; rfl)) ?_
          with_reducible refine (pid_State_Sample.calls k ji8 a0_1 a0_2 t216 t217 t218 t219 t220 t221 t222 a2 t226 t227 t228 _ A11.out).mono ?_
          rintro e w25 ⟨rfl, hb⟩
          refine ⟨_, rfl, ?_⟩
          have n0_ := Aside0.mk (blk_below (by exact BK213.out) hb)
          have n1_ := Aside0.mk (blk_below (by exact BK214.out) hb)
          have n2_ := Aside0.mk (blk_below (by exact BK229.out) hb)
          have n3_ := Aside0.mk (below_step (by repeat (first | (with_reducible first | exact HB.out | apply below_alloc | apply pw_below_drewN | apply below_drew1 | refine below_set ?_ GE213.out | refine below_set ?_ GE214.out | refine below_set ?_ GE229.out) | exact HB.out)) hb)
          clear BK213
          clear BK214
          clear BK229
          clear HB
          have BK213 := n0_
          have BK214 := n1_
          have BK229 := n2_
          have HB := n3_
          clear n0_ n1_ n2_ n3_
          (try clear hb)
          (try clear hb2)
          (try clear hk)
          (try clear hi)
          refine hK.out _ _ ⟨(blk_cell BK213.out 0).trans rfl, (blk_cell BK213.out 1).trans rfl, (blk_cell BK213.out 2).trans rfl, (blk_cell BK214.out 0).trans rfl, (blk_cell BK214.out 1).trans rfl, (blk_cell BK214.out 2).trans rfl, (blk_cell BK214.out 3).trans rfl, (blk_cell BK214.out 4).trans rfl, (blk_cell BK214.out 5).trans rfl, (blk_cell BK214.out 6).trans rfl⟩ (fun hHeld => ?_)
          clear hK K
          refine norm_ (a' := ?_) ?_ ?_
          rotate_left
          ·show Act.put _ (some 31) _ = _
           simp only [Act.put, List.setIfInBounds_toArray, List.set_cons_zero, List.set_cons_succ, i64_w, i32_w]
           rfl
          exact norm_ (by first | (simp only [putAll, Act.put, List.setIfInBounds_toArray, List.set_cons_zero, List.set_cons_succ]; done) | (simp only [putAll, Act.put, List.setIfInBounds_toArray, List.set_cons_zero, List.set_cons_succ]; rfl)) (hJ3_7_8 (gb229) _ ⟨hHeld, (by exact BK213.out), (by exact BK214.out), (by exact BK229.out), GW229.out, GE229.out, NB213_229.out, NB229_213.out, NB214_229.out, NB229_214.out, (by repeat (first | (with_reducible first | exact HB.out | apply below_alloc | apply pw_below_drewN | apply below_drew1 | refine below_set ?_ GE213.out | refine below_set ?_ GE214.out | refine below_set ?_ GE229.out) | exact HB.out))⟩)
         ·skip
          refine box_step ?hg (N := 10) ?hd (cs := #[.int .i64 0, .int .i64 0, .int .i64 0]) (t := 24) ?hr ?_; (case hd => rfl); (case hg => rfl); (case hr => first | (go_simp; done) | (go_simp; rfl))
          intro gb230 hg w25 hbox hb
          have n0_ := Aside0.mk (blk_below (by exact BK213.out) hb)
          have n1_ := Aside0.mk (blk_below (by exact BK214.out) hb)
          have n2_ := Aside0.mk (blk_below (by exact BK229.out) hb)
          have n3_ := Aside0.mk (below_step (by repeat (first | (with_reducible first | exact HB.out | apply below_alloc | apply pw_below_drewN | apply below_drew1 | refine below_set ?_ GE213.out | refine below_set ?_ GE214.out | refine below_set ?_ GE229.out) | exact HB.out)) hb)
          have n4_ := Aside0.mk (hbox)
          have n5_ := Aside0.mk ((by rw [hg]; exact (below_size (by repeat (first | (with_reducible first | exact HB.out | apply below_alloc | apply pw_below_drewN | apply below_drew1 | refine below_set ?_ GE213.out | refine below_set ?_ GE214.out | refine below_set ?_ GE229.out) | exact HB.out))) : w.heap.size ≤ gb230))
          have n6_ := Aside0.mk ((by rw [hg]; exact (below_size (by repeat (first | (with_reducible first | exact HB.out | apply below_alloc | apply pw_below_drewN | apply below_drew1 | refine below_set ?_ GE213.out | refine below_set ?_ GE214.out | refine below_set ?_ GE229.out) | exact HB.out))) : w.heap.size ≤ gb230))
          have n7_ := Aside0.mk ((by rw [hg]; exact Nat.ne_of_lt (blk_lt (by exact BK213.out)) : gb213 ≠ gb230))
          have n8_ := Aside0.mk ((by rw [hg]; exact Nat.ne_of_gt (blk_lt (by exact BK213.out)) : gb230 ≠ gb213))
          have n9_ := Aside0.mk ((by rw [hg]; exact Nat.ne_of_lt (blk_lt (by exact BK214.out)) : gb214 ≠ gb230))
          have n10_ := Aside0.mk ((by rw [hg]; exact Nat.ne_of_gt (blk_lt (by exact BK214.out)) : gb230 ≠ gb214))
          have n11_ := Aside0.mk ((by rw [hg]; exact Nat.ne_of_lt (blk_lt (by exact BK229.out)) : gb229 ≠ gb230))
          have n12_ := Aside0.mk ((by rw [hg]; exact Nat.ne_of_gt (blk_lt (by exact BK229.out)) : gb230 ≠ gb229))
          clear BK213
          clear BK214
          clear BK229
          clear HB
          have BK213 := n0_
          have BK214 := n1_
          have BK229 := n2_
          have HB := n3_
          have BK230 := n4_
          have GW230 := n5_
          have GE230 := n6_
          have NB213_230 := n7_
          have NB230_213 := n8_
          have NB214_230 := n9_
          have NB230_214 := n10_
          have NB229_230 := n11_
          have NB230_229 := n12_
          clear n0_ n1_ n2_ n3_ n4_ n5_ n6_ n7_ n8_ n9_ n10_ n11_ n12_
          clear hb hbox hg
          refine hK.out _ _ ⟨(blk_cell BK213.out 0).trans rfl, (blk_cell BK213.out 1).trans rfl, (blk_cell BK213.out 2).trans rfl, (blk_cell BK214.out 0).trans rfl, (blk_cell BK214.out 1).trans rfl, (blk_cell BK214.out 2).trans rfl, (blk_cell BK214.out 3).trans rfl, (blk_cell BK214.out 4).trans rfl, (blk_cell BK214.out 5).trans rfl, (blk_cell BK214.out 6).trans rfl⟩ (fun hHeld => ?_)
          clear hK K
          refine norm_ (a' := ?_) ?_ ?_
          rotate_left
          ·show Act.put _ (some 10) _ = _
           simp only [Act.put, List.setIfInBounds_toArray, List.set_cons_zero, List.set_cons_succ, i64_w, i32_w]
           rfl
          exact norm_ (by first | (simp only [putAll, Act.put, List.setIfInBounds_toArray, List.set_cons_zero, List.set_cons_succ]; done) | (simp only [putAll, Act.put, List.setIfInBounds_toArray, List.set_cons_zero, List.set_cons_succ]; rfl)) (hJ3_8_9 (gb229, gb230) _ ⟨hHeld, (by exact BK213.out), (by exact BK214.out), (by exact BK229.out), (by exact BK230.out), GW229.out, GE229.out, NB213_229.out, NB229_213.out, NB214_229.out, NB229_214.out, NB230_229.out, NB229_230.out, GW230.out, GE230.out, NB213_230.out, NB230_213.out, NB214_230.out, NB230_214.out, (by repeat (first | (with_reducible first | exact HB.out | apply below_alloc | apply pw_below_drewN | apply below_drew1 | refine below_set ?_ GE213.out | refine below_set ?_ GE214.out | refine below_set ?_ GE229.out | refine below_set ?_ GE230.out) | exact HB.out))⟩)
       ·skip
        rintro _ w24 ⟨hS_, h0_, h1_, h2_⟩
        have n0_ : Aside0 (w24.heap[gb213]? = some (.cells #[.int .i64 ji8, .int .i64 a0_1, .int .i64 a0_2] 24 (0, 0))) := ⟨h0_⟩
        have n1_ : Aside0 (w24.heap[gb214]? = some (.cells #[.int .i64 t216, .int .i64 t217, .int .i64 t218, .int .i64 t219, .int .i64 t220, .int .i64 t221, .int .i64 t222] 26 (0, 0))) := ⟨h1_⟩
        have n2_ : Aside0 (Below w.heap.size w w24) := ⟨h2_⟩
        clear BK213
        clear BK214
        clear HB
        clear h0_ h1_ h2_
        have BK213 := n0_
        have BK214 := n1_
        have HB := n2_
        clear n0_ n1_ n2_
        have hHeld : w24.cell? ⟨gb213, 0, none⟩ = some (.int .i64 ji8) ∧ w24.cell? ⟨gb213, 1, none⟩ = some (.int .i64 a0_1) ∧ w24.cell? ⟨gb213, 2, none⟩ = some (.int .i64 a0_2) ∧ w24.cell? ⟨gb214, 0, none⟩ = some (.int .i64 t216) ∧ w24.cell? ⟨gb214, 1, none⟩ = some (.int .i64 t217) ∧ w24.cell? ⟨gb214, 2, none⟩ = some (.int .i64 t218) ∧ w24.cell? ⟨gb214, 3, none⟩ = some (.int .i64 t219) ∧ w24.cell? ⟨gb214, 4, none⟩ = some (.int .i64 t220) ∧ w24.cell? ⟨gb214, 5, none⟩ = some (.int .i64 t221) ∧ w24.cell? ⟨gb214, 6, none⟩ = some (.int .i64 t222) := hS_
        refine norm_ (a' := ?_) ?_ ?_
        rotate_left
        ·simp only [putAll, Act.put, List.setIfInBounds_toArray, List.set_cons_zero, List.set_cons_succ]
         rfl
        refine two_ (i := 8) (j := 9) (Ni := some 9) (Nj := some 10) #[true, true, true, true, true, true, true, true, true, false, false, false] #[true, true, true, true, true, true, true, true, false, true, false, false] rfl rfl rfl rfl (two_of HT_.out (by kernel_rfl)) (by decide) (by decide) (fun K hK => ?_) (fun K hK => ?_)
        ·skip
         refine box_step ?hg (N := 9) ?hd (cs := #[.int .i64 0, .int .i64 0, .int .i64 0]) (t := 24) ?hr ?_; (case hd => rfl); (case hg => rfl); (case hr => first | (go_simp; done) | (go_simp; rfl))
         intro gb229 hg w25 hbox hb
         have n0_ := Aside0.mk (blk_below (by exact BK213.out) hb)
         have n1_ := Aside0.mk (blk_below (by exact BK214.out) hb)
         have n2_ := Aside0.mk (below_step (by repeat (first | (with_reducible first | exact HB.out | apply below_alloc | apply pw_below_drewN | apply below_drew1 | refine below_set ?_ GE213.out | refine below_set ?_ GE214.out) | exact HB.out)) hb)
         have n3_ := Aside0.mk (hbox)
         have n4_ := Aside0.mk ((by rw [hg]; exact (below_size (by repeat (first | (with_reducible first | exact HB.out | apply below_alloc | apply pw_below_drewN | apply below_drew1 | refine below_set ?_ GE213.out | refine below_set ?_ GE214.out) | exact HB.out))) : w.heap.size ≤ gb229))
         have n5_ := Aside0.mk ((by rw [hg]; exact (below_size (by repeat (first | (with_reducible first | exact HB.out | apply below_alloc | apply pw_below_drewN | apply below_drew1 | refine below_set ?_ GE213.out | refine below_set ?_ GE214.out) | exact HB.out))) : w.heap.size ≤ gb229))
         have n6_ := Aside0.mk ((by rw [hg]; exact Nat.ne_of_lt (blk_lt (by exact BK213.out)) : gb213 ≠ gb229))
         have n7_ := Aside0.mk ((by rw [hg]; exact Nat.ne_of_gt (blk_lt (by exact BK213.out)) : gb229 ≠ gb213))
         have n8_ := Aside0.mk ((by rw [hg]; exact Nat.ne_of_lt (blk_lt (by exact BK214.out)) : gb214 ≠ gb229))
         have n9_ := Aside0.mk ((by rw [hg]; exact Nat.ne_of_gt (blk_lt (by exact BK214.out)) : gb229 ≠ gb214))
         clear BK213
         clear BK214
         clear HB
         have BK213 := n0_
         have BK214 := n1_
         have HB := n2_
         have BK229 := n3_
         have GW229 := n4_
         have GE229 := n5_
         have NB213_229 := n6_
         have NB229_213 := n7_
         have NB214_229 := n8_
         have NB229_214 := n9_
         clear n0_ n1_ n2_ n3_ n4_ n5_ n6_ n7_ n8_ n9_
         clear hb hbox hg
         refine hK.out _ _ ⟨(blk_cell BK213.out 0).trans rfl, (blk_cell BK213.out 1).trans rfl, (blk_cell BK213.out 2).trans rfl, (blk_cell BK214.out 0).trans rfl, (blk_cell BK214.out 1).trans rfl, (blk_cell BK214.out 2).trans rfl, (blk_cell BK214.out 3).trans rfl, (blk_cell BK214.out 4).trans rfl, (blk_cell BK214.out 5).trans rfl, (blk_cell BK214.out 6).trans rfl⟩ (fun hHeld => ?_)
         clear hK K
         refine norm_ (a' := ?_) ?_ ?_
         rotate_left
         ·show Act.put _ (some 9) _ = _
          simp only [Act.put, List.setIfInBounds_toArray, List.set_cons_zero, List.set_cons_succ, i64_w, i32_w]
          rfl
         exact norm_ (by first | (simp only [putAll, Act.put, List.setIfInBounds_toArray, List.set_cons_zero, List.set_cons_succ]; done) | (simp only [putAll, Act.put, List.setIfInBounds_toArray, List.set_cons_zero, List.set_cons_succ]; rfl)) (hJ3_7_8 (gb229) _ ⟨hHeld, (by exact BK213.out), (by exact BK214.out), (by exact BK229.out), GW229.out, GE229.out, NB213_229.out, NB229_213.out, NB214_229.out, NB229_214.out, (by repeat (first | (with_reducible first | exact HB.out | apply below_alloc | apply pw_below_drewN | apply below_drew1 | refine below_set ?_ GE213.out | refine below_set ?_ GE214.out | refine below_set ?_ GE229.out) | exact HB.out))⟩)
        ·skip
         refine box_step ?hg (N := 10) ?hd (cs := #[.int .i64 0, .int .i64 0, .int .i64 0]) (t := 24) ?hr ?_; (case hd => rfl); (case hg => rfl); (case hr => first | (go_simp; done) | (go_simp; rfl))
         intro gb230 hg w25 hbox hb
         have n0_ := Aside0.mk (blk_below (by exact BK213.out) hb)
         have n1_ := Aside0.mk (blk_below (by exact BK214.out) hb)
         have n2_ := Aside0.mk (below_step (by repeat (first | (with_reducible first | exact HB.out | apply below_alloc | apply pw_below_drewN | apply below_drew1 | refine below_set ?_ GE213.out | refine below_set ?_ GE214.out) | exact HB.out)) hb)
         have n3_ := Aside0.mk (hbox)
         have n4_ := Aside0.mk ((by rw [hg]; exact (below_size (by repeat (first | (with_reducible first | exact HB.out | apply below_alloc | apply pw_below_drewN | apply below_drew1 | refine below_set ?_ GE213.out | refine below_set ?_ GE214.out) | exact HB.out))) : w.heap.size ≤ gb230))
         have n5_ := Aside0.mk ((by rw [hg]; exact (below_size (by repeat (first | (with_reducible first | exact HB.out | apply below_alloc | apply pw_below_drewN | apply below_drew1 | refine below_set ?_ GE213.out | refine below_set ?_ GE214.out) | exact HB.out))) : w.heap.size ≤ gb230))
         have n6_ := Aside0.mk ((by rw [hg]; exact Nat.ne_of_lt (blk_lt (by exact BK213.out)) : gb213 ≠ gb230))
         have n7_ := Aside0.mk ((by rw [hg]; exact Nat.ne_of_gt (blk_lt (by exact BK213.out)) : gb230 ≠ gb213))
         have n8_ := Aside0.mk ((by rw [hg]; exact Nat.ne_of_lt (blk_lt (by exact BK214.out)) : gb214 ≠ gb230))
         have n9_ := Aside0.mk ((by rw [hg]; exact Nat.ne_of_gt (blk_lt (by exact BK214.out)) : gb230 ≠ gb214))
         clear BK213
         clear BK214
         clear HB
         have BK213 := n0_
         have BK214 := n1_
         have HB := n2_
         have BK230 := n3_
         have GW230 := n4_
         have GE230 := n5_
         have NB213_230 := n6_
         have NB230_213 := n7_
         have NB214_230 := n8_
         have NB230_214 := n9_
         clear n0_ n1_ n2_ n3_ n4_ n5_ n6_ n7_ n8_ n9_
         clear hb hbox hg
         refine hK.out _ _ ⟨(blk_cell BK213.out 0).trans rfl, (blk_cell BK213.out 1).trans rfl, (blk_cell BK213.out 2).trans rfl, (blk_cell BK214.out 0).trans rfl, (blk_cell BK214.out 1).trans rfl, (blk_cell BK214.out 2).trans rfl, (blk_cell BK214.out 3).trans rfl, (blk_cell BK214.out 4).trans rfl, (blk_cell BK214.out 5).trans rfl, (blk_cell BK214.out 6).trans rfl⟩ (fun hHeld => ?_)
         clear hK K
         refine norm_ (a' := ?_) ?_ ?_
         rotate_left
         ·show Act.put _ (some 10) _ = _
          simp only [Act.put, List.setIfInBounds_toArray, List.set_cons_zero, List.set_cons_succ, i64_w, i32_w]
          rfl
         exact norm_ (by first | (simp only [putAll, Act.put, List.setIfInBounds_toArray, List.set_cons_zero, List.set_cons_succ]; done) | (simp only [putAll, Act.put, List.setIfInBounds_toArray, List.set_cons_zero, List.set_cons_succ]; rfl)) (hJ3_7_9 (gb230) _ ⟨hHeld, (by exact BK213.out), (by exact BK214.out), (by exact BK230.out), GW230.out, GE230.out, NB213_230.out, NB230_213.out, NB214_230.out, NB230_214.out, (by repeat (first | (with_reducible first | exact HB.out | apply below_alloc | apply pw_below_drewN | apply below_drew1 | refine below_set ?_ GE213.out | refine below_set ?_ GE214.out | refine below_set ?_ GE230.out) | exact HB.out))⟩)
      ·skip
       rintro ⟨gb229, gb230⟩ w25 ⟨hS_, h0_, h1_, h2_, h3_, h4_, h5_, h6_, h7_, h8_, h9_, h10_, h11_, h12_, h13_, h14_, h15_, h16_, h17_, h18_⟩
       have n0_ : Aside0 (w25.heap[gb213]? = some (.cells #[.int .i64 ji8, .int .i64 a0_1, .int .i64 a0_2] 24 (0, 0))) := ⟨h0_⟩
       have n1_ : Aside0 (w25.heap[gb214]? = some (.cells #[.int .i64 t216, .int .i64 t217, .int .i64 t218, .int .i64 t219, .int .i64 t220, .int .i64 t221, .int .i64 t222] 26 (0, 0))) := ⟨h1_⟩
       have n2_ : Aside0 (w25.heap[gb229]? = some (.cells #[.int .i64 0, .int .i64 0, .int .i64 0] 24 (0, 0))) := ⟨h2_⟩
       have n3_ : Aside0 (w25.heap[gb230]? = some (.cells #[.int .i64 0, .int .i64 0, .int .i64 0] 24 (0, 0))) := ⟨h3_⟩
       have n4_ : Aside0 (w.heap.size ≤ gb229) := ⟨h4_⟩
       have n5_ : Aside0 (w.heap.size ≤ gb229) := ⟨h5_⟩
       have n6_ : Aside0 (gb213 ≠ gb229) := ⟨h6_⟩
       have n7_ : Aside0 (gb229 ≠ gb213) := ⟨h7_⟩
       have n8_ : Aside0 (gb214 ≠ gb229) := ⟨h8_⟩
       have n9_ : Aside0 (gb229 ≠ gb214) := ⟨h9_⟩
       have n10_ : Aside0 (gb230 ≠ gb229) := ⟨h10_⟩
       have n11_ : Aside0 (gb229 ≠ gb230) := ⟨h11_⟩
       have n12_ : Aside0 (w.heap.size ≤ gb230) := ⟨h12_⟩
       have n13_ : Aside0 (w.heap.size ≤ gb230) := ⟨h13_⟩
       have n14_ : Aside0 (gb213 ≠ gb230) := ⟨h14_⟩
       have n15_ : Aside0 (gb230 ≠ gb213) := ⟨h15_⟩
       have n16_ : Aside0 (gb214 ≠ gb230) := ⟨h16_⟩
       have n17_ : Aside0 (gb230 ≠ gb214) := ⟨h17_⟩
       have n18_ : Aside0 (Below w.heap.size w w25) := ⟨h18_⟩
       clear BK213
       clear BK214
       clear HB
       clear h0_ h1_ h2_ h3_ h4_ h5_ h6_ h7_ h8_ h9_ h10_ h11_ h12_ h13_ h14_ h15_ h16_ h17_ h18_
       have BK213 := n0_
       have BK214 := n1_
       have BK229 := n2_
       have BK230 := n3_
       have GW229 := n4_
       have GE229 := n5_
       have NB213_229 := n6_
       have NB229_213 := n7_
       have NB214_229 := n8_
       have NB229_214 := n9_
       have NB230_229 := n10_
       have NB229_230 := n11_
       have GW230 := n12_
       have GE230 := n13_
       have NB213_230 := n14_
       have NB230_213 := n15_
       have NB214_230 := n16_
       have NB230_214 := n17_
       have HB := n18_
       clear n0_ n1_ n2_ n3_ n4_ n5_ n6_ n7_ n8_ n9_ n10_ n11_ n12_ n13_ n14_ n15_ n16_ n17_ n18_
       have hHeld : w25.cell? ⟨gb213, 0, none⟩ = some (.int .i64 ji8) ∧ w25.cell? ⟨gb213, 1, none⟩ = some (.int .i64 a0_1) ∧ w25.cell? ⟨gb213, 2, none⟩ = some (.int .i64 a0_2) ∧ w25.cell? ⟨gb214, 0, none⟩ = some (.int .i64 t216) ∧ w25.cell? ⟨gb214, 1, none⟩ = some (.int .i64 t217) ∧ w25.cell? ⟨gb214, 2, none⟩ = some (.int .i64 t218) ∧ w25.cell? ⟨gb214, 3, none⟩ = some (.int .i64 t219) ∧ w25.cell? ⟨gb214, 4, none⟩ = some (.int .i64 t220) ∧ w25.cell? ⟨gb214, 5, none⟩ = some (.int .i64 t221) ∧ w25.cell? ⟨gb214, 6, none⟩ = some (.int .i64 t222) := hS_
       refine norm_ (a' := ?_) ?_ ?_
       rotate_left
       ·simp only [putAll, Act.put, List.setIfInBounds_toArray, List.set_cons_zero, List.set_cons_succ]
        rfl
       refine one_ (i := 7) (N := some 31) #[true, true, true, true, true, true, true, true, true, true, false, false] rfl rfl (one_of HT_.out (by kernel_rfl)) (by decide) (fun K hK => ?_)
       refine goes_ Try.func11 (by kernel_rfl) rfl #[.agg #[.int .i64 ji8, .int .i64 a0_1, .int .i64 a0_2], .agg #[.int .i64 t216, .int .i64 t217, .int .i64 t218, .int .i64 t219, .int .i64 t220, .int .i64 t221, .int .i64 t222], .int .i64 a2] (by rfl) rfl rfl (by (try simp only [List.map_toArray, List.map_cons, List.map_nil]); first | done | (simp only [hji8]; rfl) | rfl | (simp only [List.length_drop, List.length_take]; rfl)) ?_
       with_reducible refine (pid_State_Sample.calls k ji8 a0_1 a0_2 t216 t217 t218 t219 t220 t221 t222 a2 t226 t227 t228 _ A11.out).mono ?_
       rintro e w26 ⟨rfl, hb⟩
       refine ⟨_, rfl, ?_⟩
       have n0_ := Aside0.mk (blk_below (by exact BK213.out) hb)
       have n1_ := Aside0.mk (blk_below (by exact BK214.out) hb)
       have n2_ := Aside0.mk (blk_below (by exact BK229.out) hb)
       have n3_ := Aside0.mk (blk_below (by exact BK230.out) hb)
       have n4_ := Aside0.mk (below_step (by repeat (first | (with_reducible first | exact HB.out | apply below_alloc | apply pw_below_drewN | apply below_drew1 | refine below_set ?_ GE213.out | refine below_set ?_ GE214.out | refine below_set ?_ GE229.out | refine below_set ?_ GE230.out) | exact HB.out)) hb)
       clear BK213
       clear BK214
       clear BK229
       clear BK230
       clear HB
       have BK213 := n0_
       have BK214 := n1_
       have BK229 := n2_
       have BK230 := n3_
       have HB := n4_
       clear n0_ n1_ n2_ n3_ n4_
       (try clear hb)
       (try clear hb2)
       (try clear hk)
       (try clear hi)
       refine hK.out _ _ ⟨(blk_cell BK213.out 0).trans rfl, (blk_cell BK213.out 1).trans rfl, (blk_cell BK213.out 2).trans rfl, (blk_cell BK214.out 0).trans rfl, (blk_cell BK214.out 1).trans rfl, (blk_cell BK214.out 2).trans rfl, (blk_cell BK214.out 3).trans rfl, (blk_cell BK214.out 4).trans rfl, (blk_cell BK214.out 5).trans rfl, (blk_cell BK214.out 6).trans rfl⟩ (fun hHeld => ?_)
       clear hK K
       refine norm_ (a' := ?_) ?_ ?_
       rotate_left
       ·show Act.put _ (some 31) _ = _
        simp only [Act.put, List.setIfInBounds_toArray, List.set_cons_zero, List.set_cons_succ, i64_w, i32_w]
        rfl
       exact norm_ (by first | (simp only [putAll, Act.put, List.setIfInBounds_toArray, List.set_cons_zero, List.set_cons_succ]; done) | (simp only [putAll, Act.put, List.setIfInBounds_toArray, List.set_cons_zero, List.set_cons_succ]; rfl)) (hJ3_7_8_9 (gb229, gb230) _ ⟨hHeld, (by exact BK213.out), (by exact BK214.out), (by exact BK229.out), (by exact BK230.out), GW229.out, GE229.out, NB213_229.out, NB229_213.out, NB214_229.out, NB229_214.out, NB230_229.out, NB229_230.out, GW230.out, GE230.out, NB213_230.out, NB230_213.out, NB214_230.out, NB230_214.out, (by repeat (first | (with_reducible first | exact HB.out | apply below_alloc | apply pw_below_drewN | apply below_drew1 | refine below_set ?_ GE213.out | refine below_set ?_ GE214.out | refine below_set ?_ GE229.out | refine below_set ?_ GE230.out) | exact HB.out))⟩)
     ·skip
      rintro gb230 w25 ⟨hS_, h0_, h1_, h2_, h3_, h4_, h5_, h6_, h7_, h8_, h9_⟩
      have n0_ : Aside0 (w25.heap[gb213]? = some (.cells #[.int .i64 ji8, .int .i64 a0_1, .int .i64 a0_2] 24 (0, 0))) := ⟨h0_⟩
      have n1_ : Aside0 (w25.heap[gb214]? = some (.cells #[.int .i64 t216, .int .i64 t217, .int .i64 t218, .int .i64 t219, .int .i64 t220, .int .i64 t221, .int .i64 t222] 26 (0, 0))) := ⟨h1_⟩
      have n2_ : Aside0 (w25.heap[gb230]? = some (.cells #[.int .i64 0, .int .i64 0, .int .i64 0] 24 (0, 0))) := ⟨h2_⟩
      have n3_ : Aside0 (w.heap.size ≤ gb230) := ⟨h3_⟩
      have n4_ : Aside0 (w.heap.size ≤ gb230) := ⟨h4_⟩
      have n5_ : Aside0 (gb213 ≠ gb230) := ⟨h5_⟩
      have n6_ : Aside0 (gb230 ≠ gb213) := ⟨h6_⟩
      have n7_ : Aside0 (gb214 ≠ gb230) := ⟨h7_⟩
      have n8_ : Aside0 (gb230 ≠ gb214) := ⟨h8_⟩
      have n9_ : Aside0 (Below w.heap.size w w25) := ⟨h9_⟩
      clear BK213
      clear BK214
      clear HB
      clear h0_ h1_ h2_ h3_ h4_ h5_ h6_ h7_ h8_ h9_
      have BK213 := n0_
      have BK214 := n1_
      have BK230 := n2_
      have GW230 := n3_
      have GE230 := n4_
      have NB213_230 := n5_
      have NB230_213 := n6_
      have NB214_230 := n7_
      have NB230_214 := n8_
      have HB := n9_
      clear n0_ n1_ n2_ n3_ n4_ n5_ n6_ n7_ n8_ n9_
      have hHeld : w25.cell? ⟨gb213, 0, none⟩ = some (.int .i64 ji8) ∧ w25.cell? ⟨gb213, 1, none⟩ = some (.int .i64 a0_1) ∧ w25.cell? ⟨gb213, 2, none⟩ = some (.int .i64 a0_2) ∧ w25.cell? ⟨gb214, 0, none⟩ = some (.int .i64 t216) ∧ w25.cell? ⟨gb214, 1, none⟩ = some (.int .i64 t217) ∧ w25.cell? ⟨gb214, 2, none⟩ = some (.int .i64 t218) ∧ w25.cell? ⟨gb214, 3, none⟩ = some (.int .i64 t219) ∧ w25.cell? ⟨gb214, 4, none⟩ = some (.int .i64 t220) ∧ w25.cell? ⟨gb214, 5, none⟩ = some (.int .i64 t221) ∧ w25.cell? ⟨gb214, 6, none⟩ = some (.int .i64 t222) := hS_
      refine norm_ (a' := ?_) ?_ ?_
      rotate_left
      ·simp only [putAll, Act.put, List.setIfInBounds_toArray, List.set_cons_zero, List.set_cons_succ]
       rfl
      refine one_ (i := 8) (N := some 9) #[true, true, true, true, true, true, true, true, true, true, false, false] rfl rfl (one_of HT_.out (by kernel_rfl)) (by decide) (fun K hK => ?_)
      refine box_step ?hg (N := 9) ?hd (cs := #[.int .i64 0, .int .i64 0, .int .i64 0]) (t := 24) ?hr ?_; (case hd => rfl); (case hg => rfl); (case hr => first | (go_simp; done) | (go_simp; rfl))
      intro gb229 hg w26 hbox hb
      have n0_ := Aside0.mk (blk_below (by exact BK213.out) hb)
      have n1_ := Aside0.mk (blk_below (by exact BK214.out) hb)
      have n2_ := Aside0.mk (blk_below (by exact BK230.out) hb)
      have n3_ := Aside0.mk (below_step (by repeat (first | (with_reducible first | exact HB.out | apply below_alloc | apply pw_below_drewN | apply below_drew1 | refine below_set ?_ GE213.out | refine below_set ?_ GE214.out | refine below_set ?_ GE230.out) | exact HB.out)) hb)
      have n4_ := Aside0.mk (hbox)
      have n5_ := Aside0.mk ((by rw [hg]; exact (below_size (by repeat (first | (with_reducible first | exact HB.out | apply below_alloc | apply pw_below_drewN | apply below_drew1 | refine below_set ?_ GE213.out | refine below_set ?_ GE214.out | refine below_set ?_ GE230.out) | exact HB.out))) : w.heap.size ≤ gb229))
      have n6_ := Aside0.mk ((by rw [hg]; exact (below_size (by repeat (first | (with_reducible first | exact HB.out | apply below_alloc | apply pw_below_drewN | apply below_drew1 | refine below_set ?_ GE213.out | refine below_set ?_ GE214.out | refine below_set ?_ GE230.out) | exact HB.out))) : w.heap.size ≤ gb229))
      have n7_ := Aside0.mk ((by rw [hg]; exact Nat.ne_of_lt (blk_lt (by exact BK213.out)) : gb213 ≠ gb229))
      have n8_ := Aside0.mk ((by rw [hg]; exact Nat.ne_of_gt (blk_lt (by exact BK213.out)) : gb229 ≠ gb213))
      have n9_ := Aside0.mk ((by rw [hg]; exact Nat.ne_of_lt (blk_lt (by exact BK214.out)) : gb214 ≠ gb229))
      have n10_ := Aside0.mk ((by rw [hg]; exact Nat.ne_of_gt (blk_lt (by exact BK214.out)) : gb229 ≠ gb214))
      have n11_ := Aside0.mk ((by rw [hg]; exact Nat.ne_of_lt (blk_lt (by exact BK230.out)) : gb230 ≠ gb229))
      have n12_ := Aside0.mk ((by rw [hg]; exact Nat.ne_of_gt (blk_lt (by exact BK230.out)) : gb229 ≠ gb230))
      clear BK213
      clear BK214
      clear BK230
      clear HB
      have BK213 := n0_
      have BK214 := n1_
      have BK230 := n2_
      have HB := n3_
      have BK229 := n4_
      have GW229 := n5_
      have GE229 := n6_
      have NB213_229 := n7_
      have NB229_213 := n8_
      have NB214_229 := n9_
      have NB229_214 := n10_
      have NB230_229 := n11_
      have NB229_230 := n12_
      clear n0_ n1_ n2_ n3_ n4_ n5_ n6_ n7_ n8_ n9_ n10_ n11_ n12_
      clear hb hbox hg
      refine hK.out _ _ ⟨(blk_cell BK213.out 0).trans rfl, (blk_cell BK213.out 1).trans rfl, (blk_cell BK213.out 2).trans rfl, (blk_cell BK214.out 0).trans rfl, (blk_cell BK214.out 1).trans rfl, (blk_cell BK214.out 2).trans rfl, (blk_cell BK214.out 3).trans rfl, (blk_cell BK214.out 4).trans rfl, (blk_cell BK214.out 5).trans rfl, (blk_cell BK214.out 6).trans rfl⟩ (fun hHeld => ?_)
      clear hK K
      refine norm_ (a' := ?_) ?_ ?_
      rotate_left
      ·show Act.put _ (some 9) _ = _
       simp only [Act.put, List.setIfInBounds_toArray, List.set_cons_zero, List.set_cons_succ, i64_w, i32_w]
       rfl
      exact norm_ (by first | (simp only [putAll, Act.put, List.setIfInBounds_toArray, List.set_cons_zero, List.set_cons_succ]; done) | (simp only [putAll, Act.put, List.setIfInBounds_toArray, List.set_cons_zero, List.set_cons_succ]; rfl)) (hJ3_7_8_9 (gb229, gb230) _ ⟨hHeld, (by exact BK213.out), (by exact BK214.out), (by exact BK229.out), (by exact BK230.out), GW229.out, GE229.out, NB213_229.out, NB229_213.out, NB214_229.out, NB229_214.out, NB230_229.out, NB229_230.out, GW230.out, GE230.out, NB213_230.out, NB230_213.out, NB214_230.out, NB230_214.out, (by repeat (first | (with_reducible first | exact HB.out | apply below_alloc | apply pw_below_drewN | apply below_drew1 | refine below_set ?_ GE213.out | refine below_set ?_ GE214.out | refine below_set ?_ GE230.out | refine below_set ?_ GE229.out) | exact HB.out))⟩)
    ·skip
     rintro gb229 w25 ⟨hS_, h0_, h1_, h2_, h3_, h4_, h5_, h6_, h7_, h8_, h9_⟩
     have n0_ : Aside0 (w25.heap[gb213]? = some (.cells #[.int .i64 ji8, .int .i64 a0_1, .int .i64 a0_2] 24 (0, 0))) := ⟨h0_⟩
     have n1_ : Aside0 (w25.heap[gb214]? = some (.cells #[.int .i64 t216, .int .i64 t217, .int .i64 t218, .int .i64 t219, .int .i64 t220, .int .i64 t221, .int .i64 t222] 26 (0, 0))) := ⟨h1_⟩
     have n2_ : Aside0 (w25.heap[gb229]? = some (.cells #[.int .i64 0, .int .i64 0, .int .i64 0] 24 (0, 0))) := ⟨h2_⟩
     have n3_ : Aside0 (w.heap.size ≤ gb229) := ⟨h3_⟩
     have n4_ : Aside0 (w.heap.size ≤ gb229) := ⟨h4_⟩
     have n5_ : Aside0 (gb213 ≠ gb229) := ⟨h5_⟩
     have n6_ : Aside0 (gb229 ≠ gb213) := ⟨h6_⟩
     have n7_ : Aside0 (gb214 ≠ gb229) := ⟨h7_⟩
     have n8_ : Aside0 (gb229 ≠ gb214) := ⟨h8_⟩
     have n9_ : Aside0 (Below w.heap.size w w25) := ⟨h9_⟩
     clear BK213
     clear BK214
     clear HB
     clear h0_ h1_ h2_ h3_ h4_ h5_ h6_ h7_ h8_ h9_
     have BK213 := n0_
     have BK214 := n1_
     have BK229 := n2_
     have GW229 := n3_
     have GE229 := n4_
     have NB213_229 := n5_
     have NB229_213 := n6_
     have NB214_229 := n7_
     have NB229_214 := n8_
     have HB := n9_
     clear n0_ n1_ n2_ n3_ n4_ n5_ n6_ n7_ n8_ n9_
     have hHeld : w25.cell? ⟨gb213, 0, none⟩ = some (.int .i64 ji8) ∧ w25.cell? ⟨gb213, 1, none⟩ = some (.int .i64 a0_1) ∧ w25.cell? ⟨gb213, 2, none⟩ = some (.int .i64 a0_2) ∧ w25.cell? ⟨gb214, 0, none⟩ = some (.int .i64 t216) ∧ w25.cell? ⟨gb214, 1, none⟩ = some (.int .i64 t217) ∧ w25.cell? ⟨gb214, 2, none⟩ = some (.int .i64 t218) ∧ w25.cell? ⟨gb214, 3, none⟩ = some (.int .i64 t219) ∧ w25.cell? ⟨gb214, 4, none⟩ = some (.int .i64 t220) ∧ w25.cell? ⟨gb214, 5, none⟩ = some (.int .i64 t221) ∧ w25.cell? ⟨gb214, 6, none⟩ = some (.int .i64 t222) := hS_
     refine norm_ (a' := ?_) ?_ ?_
     rotate_left
     ·simp only [putAll, Act.put, List.setIfInBounds_toArray, List.set_cons_zero, List.set_cons_succ]
      rfl
     refine one_ (i := 9) (N := some 10) #[true, true, true, true, true, true, true, true, true, true, false, false] rfl rfl (one_of HT_.out (by kernel_rfl)) (by decide) (fun K hK => ?_)
     refine box_step ?hg (N := 10) ?hd (cs := #[.int .i64 0, .int .i64 0, .int .i64 0]) (t := 24) ?hr ?_; (case hd => rfl); (case hg => rfl); (case hr => first | (go_simp; done) | (go_simp; rfl))
     intro gb230 hg w26 hbox hb
     have n0_ := Aside0.mk (blk_below (by exact BK213.out) hb)
     have n1_ := Aside0.mk (blk_below (by exact BK214.out) hb)
     have n2_ := Aside0.mk (blk_below (by exact BK229.out) hb)
     have n3_ := Aside0.mk (below_step (by repeat (first | (with_reducible first | exact HB.out | apply below_alloc | apply pw_below_drewN | apply below_drew1 | refine below_set ?_ GE213.out | refine below_set ?_ GE214.out | refine below_set ?_ GE229.out) | exact HB.out)) hb)
     have n4_ := Aside0.mk (hbox)
     have n5_ := Aside0.mk ((by rw [hg]; exact (below_size (by repeat (first | (with_reducible first | exact HB.out | apply below_alloc | apply pw_below_drewN | apply below_drew1 | refine below_set ?_ GE213.out | refine below_set ?_ GE214.out | refine below_set ?_ GE229.out) | exact HB.out))) : w.heap.size ≤ gb230))
     have n6_ := Aside0.mk ((by rw [hg]; exact (below_size (by repeat (first | (with_reducible first | exact HB.out | apply below_alloc | apply pw_below_drewN | apply below_drew1 | refine below_set ?_ GE213.out | refine below_set ?_ GE214.out | refine below_set ?_ GE229.out) | exact HB.out))) : w.heap.size ≤ gb230))
     have n7_ := Aside0.mk ((by rw [hg]; exact Nat.ne_of_lt (blk_lt (by exact BK213.out)) : gb213 ≠ gb230))
     have n8_ := Aside0.mk ((by rw [hg]; exact Nat.ne_of_gt (blk_lt (by exact BK213.out)) : gb230 ≠ gb213))
     have n9_ := Aside0.mk ((by rw [hg]; exact Nat.ne_of_lt (blk_lt (by exact BK214.out)) : gb214 ≠ gb230))
     have n10_ := Aside0.mk ((by rw [hg]; exact Nat.ne_of_gt (blk_lt (by exact BK214.out)) : gb230 ≠ gb214))
     have n11_ := Aside0.mk ((by rw [hg]; exact Nat.ne_of_lt (blk_lt (by exact BK229.out)) : gb229 ≠ gb230))
     have n12_ := Aside0.mk ((by rw [hg]; exact Nat.ne_of_gt (blk_lt (by exact BK229.out)) : gb230 ≠ gb229))
     clear BK213
     clear BK214
     clear BK229
     clear HB
     have BK213 := n0_
     have BK214 := n1_
     have BK229 := n2_
     have HB := n3_
     have BK230 := n4_
     have GW230 := n5_
     have GE230 := n6_
     have NB213_230 := n7_
     have NB230_213 := n8_
     have NB214_230 := n9_
     have NB230_214 := n10_
     have NB229_230 := n11_
     have NB230_229 := n12_
     clear n0_ n1_ n2_ n3_ n4_ n5_ n6_ n7_ n8_ n9_ n10_ n11_ n12_
     clear hb hbox hg
     refine hK.out _ _ ⟨(blk_cell BK213.out 0).trans rfl, (blk_cell BK213.out 1).trans rfl, (blk_cell BK213.out 2).trans rfl, (blk_cell BK214.out 0).trans rfl, (blk_cell BK214.out 1).trans rfl, (blk_cell BK214.out 2).trans rfl, (blk_cell BK214.out 3).trans rfl, (blk_cell BK214.out 4).trans rfl, (blk_cell BK214.out 5).trans rfl, (blk_cell BK214.out 6).trans rfl⟩ (fun hHeld => ?_)
     clear hK K
     refine norm_ (a' := ?_) ?_ ?_
     rotate_left
     ·show Act.put _ (some 10) _ = _
      simp only [Act.put, List.setIfInBounds_toArray, List.set_cons_zero, List.set_cons_succ, i64_w, i32_w]
      rfl
     exact norm_ (by first | (simp only [putAll, Act.put, List.setIfInBounds_toArray, List.set_cons_zero, List.set_cons_succ]; done) | (simp only [putAll, Act.put, List.setIfInBounds_toArray, List.set_cons_zero, List.set_cons_succ]; rfl)) (hJ3_7_8_9 (gb229, gb230) _ ⟨hHeld, (by exact BK213.out), (by exact BK214.out), (by exact BK229.out), (by exact BK230.out), GW229.out, GE229.out, NB213_229.out, NB229_213.out, NB214_229.out, NB229_214.out, NB230_229.out, NB229_230.out, GW230.out, GE230.out, NB213_230.out, NB230_213.out, NB214_230.out, NB230_214.out, (by repeat (first | (with_reducible first | exact HB.out | apply below_alloc | apply pw_below_drewN | apply below_drew1 | refine below_set ?_ GE213.out | refine below_set ?_ GE214.out | refine below_set ?_ GE229.out | refine below_set ?_ GE230.out) | exact HB.out))⟩)
   rintro ⟨gb229, gb230⟩ w26 ⟨hS_, h0_, h1_, h2_, h3_, h4_, h5_, h6_, h7_, h8_, h9_, h10_, h11_, h12_, h13_, h14_, h15_, h16_, h17_, h18_⟩
   have n0_ : Aside0 (w26.heap[gb213]? = some (.cells #[.int .i64 ji8, .int .i64 a0_1, .int .i64 a0_2] 24 (0, 0))) := ⟨h0_⟩
   have n1_ : Aside0 (w26.heap[gb214]? = some (.cells #[.int .i64 t216, .int .i64 t217, .int .i64 t218, .int .i64 t219, .int .i64 t220, .int .i64 t221, .int .i64 t222] 26 (0, 0))) := ⟨h1_⟩
   have n2_ : Aside0 (w26.heap[gb229]? = some (.cells #[.int .i64 0, .int .i64 0, .int .i64 0] 24 (0, 0))) := ⟨h2_⟩
   have n3_ : Aside0 (w26.heap[gb230]? = some (.cells #[.int .i64 0, .int .i64 0, .int .i64 0] 24 (0, 0))) := ⟨h3_⟩
   have n4_ : Aside0 (w.heap.size ≤ gb229) := ⟨h4_⟩
   have n5_ : Aside0 (w.heap.size ≤ gb229) := ⟨h5_⟩
   have n6_ : Aside0 (gb213 ≠ gb229) := ⟨h6_⟩
   have n7_ : Aside0 (gb229 ≠ gb213) := ⟨h7_⟩
   have n8_ : Aside0 (gb214 ≠ gb229) := ⟨h8_⟩
   have n9_ : Aside0 (gb229 ≠ gb214) := ⟨h9_⟩
   have n10_ : Aside0 (gb230 ≠ gb229) := ⟨h10_⟩
   have n11_ : Aside0 (gb229 ≠ gb230) := ⟨h11_⟩
   have n12_ : Aside0 (w.heap.size ≤ gb230) := ⟨h12_⟩
   have n13_ : Aside0 (w.heap.size ≤ gb230) := ⟨h13_⟩
   have n14_ : Aside0 (gb213 ≠ gb230) := ⟨h14_⟩
   have n15_ : Aside0 (gb230 ≠ gb213) := ⟨h15_⟩
   have n16_ : Aside0 (gb214 ≠ gb230) := ⟨h16_⟩
   have n17_ : Aside0 (gb230 ≠ gb214) := ⟨h17_⟩
   have n18_ : Aside0 (Below w.heap.size w w26) := ⟨h18_⟩
   clear BK213
   clear BK214
   clear HB
   clear h0_ h1_ h2_ h3_ h4_ h5_ h6_ h7_ h8_ h9_ h10_ h11_ h12_ h13_ h14_ h15_ h16_ h17_ h18_
   have BK213 := n0_
   have BK214 := n1_
   have BK229 := n2_
   have BK230 := n3_
   have GW229 := n4_
   have GE229 := n5_
   have NB213_229 := n6_
   have NB229_213 := n7_
   have NB214_229 := n8_
   have NB229_214 := n9_
   have NB230_229 := n10_
   have NB229_230 := n11_
   have GW230 := n12_
   have GE230 := n13_
   have NB213_230 := n14_
   have NB230_213 := n15_
   have NB214_230 := n16_
   have NB230_214 := n17_
   have HB := n18_
   clear n0_ n1_ n2_ n3_ n4_ n5_ n6_ n7_ n8_ n9_ n10_ n11_ n12_ n13_ n14_ n15_ n16_ n17_ n18_
   have hHeld : w26.cell? ⟨gb213, 0, none⟩ = some (.int .i64 ji8) ∧ w26.cell? ⟨gb213, 1, none⟩ = some (.int .i64 a0_1) ∧ w26.cell? ⟨gb213, 2, none⟩ = some (.int .i64 a0_2) ∧ w26.cell? ⟨gb214, 0, none⟩ = some (.int .i64 t216) ∧ w26.cell? ⟨gb214, 1, none⟩ = some (.int .i64 t217) ∧ w26.cell? ⟨gb214, 2, none⟩ = some (.int .i64 t218) ∧ w26.cell? ⟨gb214, 3, none⟩ = some (.int .i64 t219) ∧ w26.cell? ⟨gb214, 4, none⟩ = some (.int .i64 t220) ∧ w26.cell? ⟨gb214, 5, none⟩ = some (.int .i64 t221) ∧ w26.cell? ⟨gb214, 6, none⟩ = some (.int .i64 t222) := hS_
   refine norm_ (a' := ?_) ?_ ?_
   rotate_left
   ·simp only [putAll, Act.put, List.setIfInBounds_toArray, List.set_cons_zero, List.set_cons_succ]
    rfl
   refine one_ (i := 10) (N := none) #[true, true, true, true, true, true, true, true, true, true, true, false] rfl rfl (one_of HT_.out (by kernel_rfl)) (by decide) (fun K hK => ?_)
   have hs27 : w26.cell? ⟨gb229, 0, none⟩ = some (.int .i64 0) := (blk_cell BK229.out 0).trans rfl
   have hfs27 := blk_frozen BK229.out 0
   have hns27_0 := NB213_229.out
   have hns27_1 := NB214_229.out
   have hns27_3 := NB230_229.out
   have hms27_0 := NB229_213.out
   have hms27_1 := NB229_214.out
   have hms27_3 := NB229_230.out
   have hs28 : w26.cell? ⟨gb229, 1, none⟩ = some (.int .i64 0) := (blk_cell BK229.out 1).trans rfl
   have hfs28 := blk_frozen BK229.out 1
   have hns28_0 := NB213_229.out
   have hns28_1 := NB214_229.out
   have hns28_3 := NB230_229.out
   have hms28_0 := NB229_213.out
   have hms28_1 := NB229_214.out
   have hms28_3 := NB229_230.out
   have hs29 : w26.cell? ⟨gb229, 2, none⟩ = some (.int .i64 0) := (blk_cell BK229.out 2).trans rfl
   have hfs29 := blk_frozen BK229.out 2
   have hns29_0 := NB213_229.out
   have hns29_1 := NB214_229.out
   have hns29_3 := NB230_229.out
   have hms29_0 := NB229_213.out
   have hms29_1 := NB229_214.out
   have hms29_3 := NB229_230.out
   refine skip_ (w1 := ?_) (by rfl) rfl ?_ ?_
   rotate_left
   ·go_simp
    rfl
   refine hK.out _ _ ⟨((cell_far (p := ⟨gb229, _, none⟩) NB213_229.out _).trans (((cell_far (p := ⟨gb229, _, none⟩) NB213_229.out _).trans (((cell_far (p := ⟨gb229, _, none⟩) NB213_229.out _).trans (hHeld.1)))))), ((cell_far (p := ⟨gb229, _, none⟩) NB213_229.out _).trans (((cell_far (p := ⟨gb229, _, none⟩) NB213_229.out _).trans (((cell_far (p := ⟨gb229, _, none⟩) NB213_229.out _).trans (hHeld.2.1)))))), ((cell_far (p := ⟨gb229, _, none⟩) NB213_229.out _).trans (((cell_far (p := ⟨gb229, _, none⟩) NB213_229.out _).trans (((cell_far (p := ⟨gb229, _, none⟩) NB213_229.out _).trans (hHeld.2.2.1)))))), ((cell_far (p := ⟨gb229, _, none⟩) NB214_229.out _).trans (((cell_far (p := ⟨gb229, _, none⟩) NB214_229.out _).trans (((cell_far (p := ⟨gb229, _, none⟩) NB214_229.out _).trans (hHeld.2.2.2.1)))))), ((cell_far (p := ⟨gb229, _, none⟩) NB214_229.out _).trans (((cell_far (p := ⟨gb229, _, none⟩) NB214_229.out _).trans (((cell_far (p := ⟨gb229, _, none⟩) NB214_229.out _).trans (hHeld.2.2.2.2.1)))))), ((cell_far (p := ⟨gb229, _, none⟩) NB214_229.out _).trans (((cell_far (p := ⟨gb229, _, none⟩) NB214_229.out _).trans (((cell_far (p := ⟨gb229, _, none⟩) NB214_229.out _).trans (hHeld.2.2.2.2.2.1)))))), ((cell_far (p := ⟨gb229, _, none⟩) NB214_229.out _).trans (((cell_far (p := ⟨gb229, _, none⟩) NB214_229.out _).trans (((cell_far (p := ⟨gb229, _, none⟩) NB214_229.out _).trans (hHeld.2.2.2.2.2.2.1)))))), ((cell_far (p := ⟨gb229, _, none⟩) NB214_229.out _).trans (((cell_far (p := ⟨gb229, _, none⟩) NB214_229.out _).trans (((cell_far (p := ⟨gb229, _, none⟩) NB214_229.out _).trans (hHeld.2.2.2.2.2.2.2.1)))))), ((cell_far (p := ⟨gb229, _, none⟩) NB214_229.out _).trans (((cell_far (p := ⟨gb229, _, none⟩) NB214_229.out _).trans (((cell_far (p := ⟨gb229, _, none⟩) NB214_229.out _).trans (hHeld.2.2.2.2.2.2.2.2.1)))))), ((cell_far (p := ⟨gb229, _, none⟩) NB214_229.out _).trans (((cell_far (p := ⟨gb229, _, none⟩) NB214_229.out _).trans (((cell_far (p := ⟨gb229, _, none⟩) NB214_229.out _).trans (hHeld.2.2.2.2.2.2.2.2.2))))))⟩ (fun hHeld => ?_)
   clear hK K
   refine one_ (i := 11) (N := none) #[true, true, true, true, true, true, true, true, true, true, true, true] rfl rfl (one_of HT_.out (by kernel_rfl)) (by decide) (fun K hK => ?_)
   have hs30 : w26.cell? ⟨gb230, 0, none⟩ = some (.int .i64 0) := (blk_cell BK230.out 0).trans rfl
   have hfs30 := blk_frozen BK230.out 0
   have hns30_0 := NB213_230.out
   have hns30_1 := NB214_230.out
   have hns30_2 := NB229_230.out
   have hms30_0 := NB230_213.out
   have hms30_1 := NB230_214.out
   have hms30_2 := NB230_229.out
   have hs31 : w26.cell? ⟨gb230, 1, none⟩ = some (.int .i64 0) := (blk_cell BK230.out 1).trans rfl
   have hfs31 := blk_frozen BK230.out 1
   have hns31_0 := NB213_230.out
   have hns31_1 := NB214_230.out
   have hns31_2 := NB229_230.out
   have hms31_0 := NB230_213.out
   have hms31_1 := NB230_214.out
   have hms31_2 := NB230_229.out
   have hs32 : w26.cell? ⟨gb230, 2, none⟩ = some (.int .i64 0) := (blk_cell BK230.out 2).trans rfl
   have hfs32 := blk_frozen BK230.out 2
   have hns32_0 := NB213_230.out
   have hns32_1 := NB214_230.out
   have hns32_2 := NB229_230.out
   have hms32_0 := NB230_213.out
   have hms32_1 := NB230_214.out
   have hms32_2 := NB230_229.out
   refine skip_ (w1 := ?_) (by rfl) rfl ?_ ?_
   rotate_left
   ·go_simp
    rfl
   refine hK.out _ _ ⟨((cell_far (p := ⟨gb230, _, none⟩) NB213_230.out _).trans (((cell_far (p := ⟨gb230, _, none⟩) NB213_230.out _).trans (((cell_far (p := ⟨gb230, _, none⟩) NB213_230.out _).trans (hHeld.1)))))), ((cell_far (p := ⟨gb230, _, none⟩) NB213_230.out _).trans (((cell_far (p := ⟨gb230, _, none⟩) NB213_230.out _).trans (((cell_far (p := ⟨gb230, _, none⟩) NB213_230.out _).trans (hHeld.2.1)))))), ((cell_far (p := ⟨gb230, _, none⟩) NB213_230.out _).trans (((cell_far (p := ⟨gb230, _, none⟩) NB213_230.out _).trans (((cell_far (p := ⟨gb230, _, none⟩) NB213_230.out _).trans (hHeld.2.2.1)))))), ((cell_far (p := ⟨gb230, _, none⟩) NB214_230.out _).trans (((cell_far (p := ⟨gb230, _, none⟩) NB214_230.out _).trans (((cell_far (p := ⟨gb230, _, none⟩) NB214_230.out _).trans (hHeld.2.2.2.1)))))), ((cell_far (p := ⟨gb230, _, none⟩) NB214_230.out _).trans (((cell_far (p := ⟨gb230, _, none⟩) NB214_230.out _).trans (((cell_far (p := ⟨gb230, _, none⟩) NB214_230.out _).trans (hHeld.2.2.2.2.1)))))), ((cell_far (p := ⟨gb230, _, none⟩) NB214_230.out _).trans (((cell_far (p := ⟨gb230, _, none⟩) NB214_230.out _).trans (((cell_far (p := ⟨gb230, _, none⟩) NB214_230.out _).trans (hHeld.2.2.2.2.2.1)))))), ((cell_far (p := ⟨gb230, _, none⟩) NB214_230.out _).trans (((cell_far (p := ⟨gb230, _, none⟩) NB214_230.out _).trans (((cell_far (p := ⟨gb230, _, none⟩) NB214_230.out _).trans (hHeld.2.2.2.2.2.2.1)))))), ((cell_far (p := ⟨gb230, _, none⟩) NB214_230.out _).trans (((cell_far (p := ⟨gb230, _, none⟩) NB214_230.out _).trans (((cell_far (p := ⟨gb230, _, none⟩) NB214_230.out _).trans (hHeld.2.2.2.2.2.2.2.1)))))), ((cell_far (p := ⟨gb230, _, none⟩) NB214_230.out _).trans (((cell_far (p := ⟨gb230, _, none⟩) NB214_230.out _).trans (((cell_far (p := ⟨gb230, _, none⟩) NB214_230.out _).trans (hHeld.2.2.2.2.2.2.2.2.1)))))), ((cell_far (p := ⟨gb230, _, none⟩) NB214_230.out _).trans (((cell_far (p := ⟨gb230, _, none⟩) NB214_230.out _).trans (((cell_far (p := ⟨gb230, _, none⟩) NB214_230.out _).trans (hHeld.2.2.2.2.2.2.2.2.2))))))⟩ (fun hHeld => ?_)
   clear hK K
   refine done_ (done_of HT_.out (by kernel_rfl)) ?_
   have hnb33 := NB229_213.out
   have hnc33 := NB213_229.out
   have hnb34 := NB229_214.out
   have hnc34 := NB214_229.out
   have hnb35 := NB229_230.out
   have hnc35 := NB230_229.out
   have hcz36_0 : w26.cell? ⟨gb229, 0, none⟩ = some (.int .i64 0) := (blk_cell BK229.out 0).trans rfl
   have hcz36_1 : w26.cell? ⟨gb229, 1, none⟩ = some (.int .i64 0) := (blk_cell BK229.out 1).trans rfl
   have hcz36_2 : w26.cell? ⟨gb229, 2, none⟩ = some (.int .i64 0) := (blk_cell BK229.out 2).trans rfl
   have hfz36_0 := blk_frozen BK229.out 0
   have hfz36_1 := blk_frozen BK229.out 1
   have hfz36_2 := blk_frozen BK229.out 2
   have hnb37 := NB230_213.out
   have hnc37 := NB213_230.out
   have hnb38 := NB230_214.out
   have hnc38 := NB214_230.out
   have hcz39_0 : w26.cell? ⟨gb230, 0, none⟩ = some (.int .i64 0) := (blk_cell BK230.out 0).trans rfl
   have hcz39_1 : w26.cell? ⟨gb230, 1, none⟩ = some (.int .i64 0) := (blk_cell BK230.out 1).trans rfl
   have hcz39_2 : w26.cell? ⟨gb230, 2, none⟩ = some (.int .i64 0) := (blk_cell BK230.out 2).trans rfl
   have hfz39_0 := blk_frozen BK230.out 0
   have hfz39_1 := blk_frozen BK230.out 1
   have hfz39_2 := blk_frozen BK230.out 2
   try go_wp2
   go_ret
   exact ⟨by first | rfl | (simp [errW_none, errW_some] <;> rfl) | (simp only [← hji8]; first | rfl | (simp [errW_none, errW_some] <;> rfl)) | (simp [*, errW_none, errW_some] <;> rfl), by repeat (first | (with_reducible first | exact HB.out | apply below_alloc | apply pw_below_drewN | apply below_drew1 | refine below_set ?_ GE213.out | refine below_set ?_ GE214.out | refine below_set ?_ GE229.out | refine below_set ?_ GE230.out) | exact HB.out)⟩
  ·rw [if_neg c9] at H
   have c9b0 : decide (a3 < a2) = false := decide_eq_false c9
   clear c9
   replace H := Option.bind_eq_some_iff.mp H
   obtain ⟨⟨t231, t232, t233⟩, A400, H⟩ := H
   replace H : ((pid_State_Sample.f k (ji8) a0_1 a0_2 t216 t217 t218 t219 t220 t221 t222 a3).bind fun bt234 => (some (decide (t233 ≤ bt234.2.2)))) = some r := H
   have A40 := Aside0.mk A400
   clear A400
   replace H := Option.bind_eq_some_iff.mp H
   obtain ⟨⟨t234, t235, t236⟩, A410, H⟩ := H
   replace H : (some (decide (t233 ≤ t236))) = some r := H
   have A41 := Aside0.mk A410
   clear A410
   obtain rfl := Option.some.inj H
   go_enter Try.func6, Try.ntmps6
   try go_wp2_with (first | ((with_reducible refine gate_dst (N := 4) rfl ?_); refine box_event ?hg (N := 4) ?hd (cs := #[.int .i64 a0_0, .int .i64 a0_1, .int .i64 a0_2]) (t := 24) ?hr ?_; (case hd => rfl); (case hg => rfl); (case hr => first | (go_simp; done) | (go_simp; rfl)); intro gb213 hg w42 hbox hb; have n0_ := Aside0.mk (below_step (by repeat (first | (with_reducible first | exact HB.out | apply below_alloc | apply pw_below_drewN | apply below_drew1) | exact HB.out)) hb); have n1_ := Aside0.mk (hbox); have n2_ := Aside0.mk ((by rw [hg]; exact (below_size (by repeat (first | (with_reducible first | exact HB.out | apply below_alloc | apply pw_below_drewN | apply below_drew1) | exact HB.out))) : w.heap.size ≤ gb213)); have n3_ := Aside0.mk ((by rw [hg]; exact (below_size (by repeat (first | (with_reducible first | exact HB.out | apply below_alloc | apply pw_below_drewN | apply below_drew1) | exact HB.out))) : w.heap.size ≤ gb213)); clear HB; have HB := n0_; have BK213 := n1_; have GW213 := n2_; have GE213 := n3_; clear n0_ n1_ n2_ n3_; clear hb hbox hg) | ((with_reducible refine gate_dst (N := 5) rfl ?_); refine box_event ?hg (N := 5) ?hd (cs := #[.int .i64 a1_0, .int .i64 a1_1, .int .i64 a1_2, .int .i64 a1_3, .int .i64 a1_4, .int .i64 a1_5, .int .i64 a1_6]) (t := 26) ?hr ?_; (case hd => rfl); (case hg => rfl); (case hr => first | (go_simp; done) | (go_simp; rfl)); intro gb214 hg w43 hbox hb; have n0_ := Aside0.mk (blk_below (by exact BK213.out) hb); have n1_ := Aside0.mk (below_step (by repeat (first | (with_reducible first | exact HB.out | apply below_alloc | apply pw_below_drewN | apply below_drew1 | refine below_set ?_ GE213.out) | exact HB.out)) hb); have n2_ := Aside0.mk (hbox); have n3_ := Aside0.mk ((by rw [hg]; exact (below_size (by repeat (first | (with_reducible first | exact HB.out | apply below_alloc | apply pw_below_drewN | apply below_drew1 | refine below_set ?_ GE213.out) | exact HB.out))) : w.heap.size ≤ gb214)); have n4_ := Aside0.mk ((by rw [hg]; exact (below_size (by repeat (first | (with_reducible first | exact HB.out | apply below_alloc | apply pw_below_drewN | apply below_drew1 | refine below_set ?_ GE213.out) | exact HB.out))) : w.heap.size ≤ gb214)); have n5_ := Aside0.mk ((by rw [hg]; exact Nat.ne_of_lt (blk_lt (by exact BK213.out)) : gb213 ≠ gb214)); have n6_ := Aside0.mk ((by rw [hg]; exact Nat.ne_of_gt (blk_lt (by exact BK213.out)) : gb214 ≠ gb213)); clear BK213; clear HB; have BK213 := n0_; have HB := n1_; have BK214 := n2_; have GW214 := n3_; have GE214 := n4_; have NB213_214 := n5_; have NB214_213 := n6_; clear n0_ n1_ n2_ n3_ n4_ n5_ n6_; clear hb hbox hg) | ((with_reducible refine gate_callee (f := 8) rfl ?_); refine goesL_ (some 11) rfl rfl Try.func8 (by kernel_rfl) rfl #[] rfl (by (try simp only [List.map_toArray, List.map_cons, List.map_nil]); first | done | rfl | (simp only [List.length_drop, List.length_take]; rfl)) ?_; (with_reducible refine (overfalllaw11_awake.calls k  true _ A5.out).mono ?_); rintro e w44 ⟨rfl, hb⟩; refine ⟨_, rfl, ?_⟩; have n0_ := Aside0.mk (blk_below (by exact BK213.out) hb); have n1_ := Aside0.mk (blk_below (by exact BK214.out) hb); have n2_ := Aside0.mk (below_step (by repeat (first | (with_reducible first | exact HB.out | apply below_alloc | apply pw_below_drewN | apply below_drew1 | refine below_set ?_ GE213.out | refine below_set ?_ GE214.out) | exact HB.out)) hb); clear BK213; clear BK214; clear HB; have BK213 := n0_; have BK214 := n1_; have HB := n2_; clear n0_ n1_ n2_; (try clear hb); (try clear hb2); (try clear hk); (try clear hi); have hnb45 := NB214_213.out; have hnc45 := NB213_214.out; have hcz46_0 : w44.cell? ⟨gb214, 0, none⟩ = some (.int .i64 a1_0) := (blk_cell BK214.out 0).trans rfl; have hcz46_1 : w44.cell? ⟨gb214, 1, none⟩ = some (.int .i64 a1_1) := (blk_cell BK214.out 1).trans rfl; have hcz46_2 : w44.cell? ⟨gb214, 2, none⟩ = some (.int .i64 a1_2) := (blk_cell BK214.out 2).trans rfl; have hcz46_3 : w44.cell? ⟨gb214, 3, none⟩ = some (.int .i64 a1_3) := (blk_cell BK214.out 3).trans rfl; have hcz46_4 : w44.cell? ⟨gb214, 4, none⟩ = some (.int .i64 a1_4) := (blk_cell BK214.out 4).trans rfl; have hcz46_5 : w44.cell? ⟨gb214, 5, none⟩ = some (.int .i64 a1_5) := (blk_cell BK214.out 5).trans rfl; have hcz46_6 : w44.cell? ⟨gb214, 6, none⟩ = some (.int .i64 a1_6) := (blk_cell BK214.out 6).trans rfl; have hfz46_0 := blk_frozen BK214.out 0; have hfz46_1 := blk_frozen BK214.out 1; have hfz46_2 := blk_frozen BK214.out 2; have hfz46_3 := blk_frozen BK214.out 3; have hfz46_4 := blk_frozen BK214.out 4; have hfz46_5 := blk_frozen BK214.out 5; have hfz46_6 := blk_frozen BK214.out 6) | ((with_reducible refine gate_callee (f := 16) rfl ?_); refine goesL_ (some 14) rfl rfl Try.func16 (by kernel_rfl) rfl #[.agg #[.int .i64 a1_0, .int .i64 a1_1, .int .i64 a1_2, .int .i64 a1_3, .int .i64 a1_4, .int .i64 a1_5, .int .i64 a1_6]] rfl (by (try simp only [List.map_toArray, List.map_cons, List.map_nil]); first | done | rfl | (simp only [List.length_drop, List.length_take]; rfl)) ?_; (with_reducible refine (overfalllaw11_right.calls a1_0 a1_1 a1_2 a1_3 a1_4 a1_5 a1_6 t216 t217 t218 t219 t220 t221 t222 _ A7.out).mono ?_); rintro e w47 ⟨rfl, hb⟩; refine ⟨_, rfl, ?_⟩; have n0_ := Aside0.mk (blk_below (by exact BK213.out) hb); have n1_ := Aside0.mk (blk_below (by exact BK214.out) hb); have n2_ := Aside0.mk (below_step (by repeat (first | (with_reducible first | exact HB.out | apply below_alloc | apply pw_below_drewN | apply below_drew1 | refine below_set ?_ GE213.out | refine below_set ?_ GE214.out) | exact HB.out)) hb); clear BK213; clear BK214; clear HB; have BK213 := n0_; have BK214 := n1_; have HB := n2_; clear n0_ n1_ n2_; (try clear hb); (try clear hb2); (try clear hk); (try clear hi); have hcz48_0 : w47.cell? ⟨gb214, 0, none⟩ = some (.int .i64 a1_0) := (blk_cell BK214.out 0).trans rfl; have hcz48_1 : w47.cell? ⟨gb214, 1, none⟩ = some (.int .i64 a1_1) := (blk_cell BK214.out 1).trans rfl; have hcz48_2 : w47.cell? ⟨gb214, 2, none⟩ = some (.int .i64 a1_2) := (blk_cell BK214.out 2).trans rfl; have hcz48_3 : w47.cell? ⟨gb214, 3, none⟩ = some (.int .i64 a1_3) := (blk_cell BK214.out 3).trans rfl; have hcz48_4 : w47.cell? ⟨gb214, 4, none⟩ = some (.int .i64 a1_4) := (blk_cell BK214.out 4).trans rfl; have hcz48_5 : w47.cell? ⟨gb214, 5, none⟩ = some (.int .i64 a1_5) := (blk_cell BK214.out 5).trans rfl; have hcz48_6 : w47.cell? ⟨gb214, 6, none⟩ = some (.int .i64 a1_6) := (blk_cell BK214.out 6).trans rfl; have hfz48_0 := blk_frozen BK214.out 0; have hfz48_1 := blk_frozen BK214.out 1; have hfz48_2 := blk_frozen BK214.out 2; have hfz48_3 := blk_frozen BK214.out 3; have hfz48_4 := blk_frozen BK214.out 4; have hfz48_5 := blk_frozen BK214.out 5; have hfz48_6 := blk_frozen BK214.out 6; have hcz49_0 : w47.cell? ⟨gb213, 0, none⟩ = some (.int .i64 a0_0) := (blk_cell BK213.out 0).trans rfl; have hcz49_1 : w47.cell? ⟨gb213, 1, none⟩ = some (.int .i64 a0_1) := (blk_cell BK213.out 1).trans rfl; have hcz49_2 : w47.cell? ⟨gb213, 2, none⟩ = some (.int .i64 a0_2) := (blk_cell BK213.out 2).trans rfl; have hfz49_0 := blk_frozen BK213.out 0; have hfz49_1 := blk_frozen BK213.out 1; have hfz49_2 := blk_frozen BK213.out 2))
   have n0_ : Aside0 (((((((((w47.setCell ⟨gb214, 0, none⟩ (.int .i64 t216)).setCell ⟨gb214, 1, none⟩ (.int .i64 t217)).setCell ⟨gb214, 2, none⟩ (.int .i64 t218)).setCell ⟨gb214, 3, none⟩ (.int .i64 t219)).setCell ⟨gb214, 4, none⟩ (.int .i64 t220)).setCell ⟨gb214, 5, none⟩ (.int .i64 t221)).setCell ⟨gb214, 6, none⟩ (.int .i64 t222)).setCell ⟨gb213, 0, none⟩ (.int .i64 ji8)).heap[gb213]? = some (.cells #[.int .i64 ji8, .int .i64 a0_1, .int .i64 a0_2] 24 (0, 0))) := ⟨by refine blk_put (cs := #[.int .i64 a0_0, .int .i64 a0_1, .int .i64 a0_2]) ?_ 0 _ rfl; refine blk_far ?_ NB213_214.out _; refine blk_far ?_ NB213_214.out _; refine blk_far ?_ NB213_214.out _; refine blk_far ?_ NB213_214.out _; refine blk_far ?_ NB213_214.out _; refine blk_far ?_ NB213_214.out _; refine blk_far ?_ NB213_214.out _; exact BK213.out⟩
   have n1_ : Aside0 (((((((((w47.setCell ⟨gb214, 0, none⟩ (.int .i64 t216)).setCell ⟨gb214, 1, none⟩ (.int .i64 t217)).setCell ⟨gb214, 2, none⟩ (.int .i64 t218)).setCell ⟨gb214, 3, none⟩ (.int .i64 t219)).setCell ⟨gb214, 4, none⟩ (.int .i64 t220)).setCell ⟨gb214, 5, none⟩ (.int .i64 t221)).setCell ⟨gb214, 6, none⟩ (.int .i64 t222)).setCell ⟨gb213, 0, none⟩ (.int .i64 ji8)).heap[gb214]? = some (.cells #[.int .i64 t216, .int .i64 t217, .int .i64 t218, .int .i64 t219, .int .i64 t220, .int .i64 t221, .int .i64 t222] 26 (0, 0))) := ⟨by refine blk_far ?_ NB214_213.out _; refine blk_put (cs := #[.int .i64 t216, .int .i64 t217, .int .i64 t218, .int .i64 t219, .int .i64 t220, .int .i64 t221, .int .i64 a1_6]) ?_ 6 _ rfl; refine blk_put (cs := #[.int .i64 t216, .int .i64 t217, .int .i64 t218, .int .i64 t219, .int .i64 t220, .int .i64 a1_5, .int .i64 a1_6]) ?_ 5 _ rfl; refine blk_put (cs := #[.int .i64 t216, .int .i64 t217, .int .i64 t218, .int .i64 t219, .int .i64 a1_4, .int .i64 a1_5, .int .i64 a1_6]) ?_ 4 _ rfl; refine blk_put (cs := #[.int .i64 t216, .int .i64 t217, .int .i64 t218, .int .i64 a1_3, .int .i64 a1_4, .int .i64 a1_5, .int .i64 a1_6]) ?_ 3 _ rfl; refine blk_put (cs := #[.int .i64 t216, .int .i64 t217, .int .i64 a1_2, .int .i64 a1_3, .int .i64 a1_4, .int .i64 a1_5, .int .i64 a1_6]) ?_ 2 _ rfl; refine blk_put (cs := #[.int .i64 t216, .int .i64 a1_1, .int .i64 a1_2, .int .i64 a1_3, .int .i64 a1_4, .int .i64 a1_5, .int .i64 a1_6]) ?_ 1 _ rfl; refine blk_put (cs := #[.int .i64 a1_0, .int .i64 a1_1, .int .i64 a1_2, .int .i64 a1_3, .int .i64 a1_4, .int .i64 a1_5, .int .i64 a1_6]) ?_ 0 _ rfl; exact BK214.out⟩
   have n2_ : Aside0 (Below w.heap.size w ((((((((w47.setCell ⟨gb214, 0, none⟩ (.int .i64 t216)).setCell ⟨gb214, 1, none⟩ (.int .i64 t217)).setCell ⟨gb214, 2, none⟩ (.int .i64 t218)).setCell ⟨gb214, 3, none⟩ (.int .i64 t219)).setCell ⟨gb214, 4, none⟩ (.int .i64 t220)).setCell ⟨gb214, 5, none⟩ (.int .i64 t221)).setCell ⟨gb214, 6, none⟩ (.int .i64 t222)).setCell ⟨gb213, 0, none⟩ (.int .i64 ji8))) := ⟨by repeat (first | (with_reducible first | exact HB.out | apply below_alloc | apply pw_below_drewN | apply below_drew1 | refine below_set ?_ GE213.out | refine below_set ?_ GE214.out) | exact HB.out)⟩
   (try clear BK213)
   (try clear BK214)
   (try clear HB)
   generalize ((((((((w47.setCell ⟨gb214, 0, none⟩ (.int .i64 t216)).setCell ⟨gb214, 1, none⟩ (.int .i64 t217)).setCell ⟨gb214, 2, none⟩ (.int .i64 t218)).setCell ⟨gb214, 3, none⟩ (.int .i64 t219)).setCell ⟨gb214, 4, none⟩ (.int .i64 t220)).setCell ⟨gb214, 5, none⟩ (.int .i64 t221)).setCell ⟨gb214, 6, none⟩ (.int .i64 t222)).setCell ⟨gb213, 0, none⟩ (.int .i64 ji8)) = w50 at n0_ n1_ n2_ ⊢
   have BK213 := n0_
   have BK214 := n1_
   have HB := n2_
   clear n0_ n1_ n2_
   have n0_ := Aside0.mk (blk_drew BK213.out)
   have n1_ := Aside0.mk (blk_drew BK214.out)
   have n2_ := Aside0.mk (below_drew1 HB.out)
   clear BK213
   clear BK214
   clear HB
   have BK213 := n0_
   have BK214 := n1_
   have HB := n2_
   clear n0_ n1_ n2_
   refine start_ (n := 12) (S := fun w' => w'.cell? ⟨gb213, 0, none⟩ = some (.int .i64 ji8) ∧ w'.cell? ⟨gb213, 1, none⟩ = some (.int .i64 a0_1) ∧ w'.cell? ⟨gb213, 2, none⟩ = some (.int .i64 a0_2) ∧ w'.cell? ⟨gb214, 0, none⟩ = some (.int .i64 t216) ∧ w'.cell? ⟨gb214, 1, none⟩ = some (.int .i64 t217) ∧ w'.cell? ⟨gb214, 2, none⟩ = some (.int .i64 t218) ∧ w'.cell? ⟨gb214, 3, none⟩ = some (.int .i64 t219) ∧ w'.cell? ⟨gb214, 4, none⟩ = some (.int .i64 t220) ∧ w'.cell? ⟨gb214, 5, none⟩ = some (.int .i64 t221) ∧ w'.cell? ⟨gb214, 6, none⟩ = some (.int .i64 t222)) (ds := []) #[false, false, false, false, false, false, false, false, false, false, false, false] (by kernel_rfl) rfl rfl ⟨(blk_cell BK213.out 0).trans rfl, (blk_cell BK213.out 1).trans rfl, (blk_cell BK213.out 2).trans rfl, (blk_cell BK214.out 0).trans rfl, (blk_cell BK214.out 1).trans rfl, (blk_cell BK214.out 2).trans rfl, (blk_cell BK214.out 3).trans rfl, (blk_cell BK214.out 4).trans rfl, (blk_cell BK214.out 5).trans rfl, (blk_cell BK214.out 6).trans rfl⟩ (fun hHeld => ?_); refine with_tabW overfalllaw11_PidRises.tab7 overfalllaw11_PidRises.bits7 (fun HT_ HW_ => ?_)
   generalize w50.drew = w51 at BK213 BK214 HB hHeld ⊢
   refine pure_ (i := 2) (N := some 26) (v := ?_) (a' := ?_) #[false, false, true, false, false, false, false, false, false, false, false, false] rfl rfl (any_of HT_.out (by kernel_rfl)) (fun _ _ _ h => h) (Or.inl ⟨by rfl, ?_⟩) ?_ ?_
   rotate_left
   ·intro w'
    go_simp
    with_reducible rfl
   rotate_left
   ·simp only [Act.put, List.setIfInBounds_toArray, List.set_cons_zero, List.set_cons_succ, i64_w, i32_w]
    rfl
   refine pure_ (i := 6) (N := some 30) (v := ?_) (a' := ?_) #[false, false, true, false, false, false, true, false, false, false, false, false] rfl rfl (any_of HT_.out (by kernel_rfl)) (fun _ _ _ h => h) (Or.inl ⟨by rfl, ?_⟩) ?_ ?_
   rotate_left
   ·intro w'
    go_simp
    with_reducible rfl
   rotate_left
   ·simp only [Act.put, List.setIfInBounds_toArray, List.set_cons_zero, List.set_cons_succ, i64_w, i32_w]
    rfl
   refine take_ (i := 0) (N := some 24) (v := ?_) (a' := ?_) #[true, false, true, false, false, false, true, false, false, false, false, false] rfl rfl (take_ofW HT_.out HW_.out (by kernel_rfl)) (fun _ _ _ h => h) (Or.inl ⟨by rfl, ?_⟩) hHeld ?_ ?_
   rotate_left
   ·rintro w' ⟨s0, s1, s2, s3, s4, s5, s6, s7, s8, s9⟩
    go_simp
    with_reducible rfl
   rotate_left
   ·simp only [Act.put, List.setIfInBounds_toArray, List.set_cons_zero, List.set_cons_succ, i64_w, i32_w]
    rfl
   refine take_ (i := 1) (N := some 25) (v := ?_) (a' := ?_) #[true, true, true, false, false, false, true, false, false, false, false, false] rfl rfl (take_ofW HT_.out HW_.out (by kernel_rfl)) (fun _ _ _ h => h) (Or.inl ⟨by rfl, ?_⟩) hHeld ?_ ?_
   rotate_left
   ·rintro w' ⟨s0, s1, s2, s3, s4, s5, s6, s7, s8, s9⟩
    go_simp
    with_reducible rfl
   rotate_left
   ·simp only [Act.put, List.setIfInBounds_toArray, List.set_cons_zero, List.set_cons_succ, i64_w, i32_w]
    rfl
   refine take_ (i := 4) (N := some 28) (v := ?_) (a' := ?_) #[true, true, true, false, true, false, true, false, false, false, false, false] rfl rfl (take_ofW HT_.out HW_.out (by kernel_rfl)) (fun _ _ _ h => h) (Or.inl ⟨by rfl, ?_⟩) hHeld ?_ ?_
   rotate_left
   ·rintro w' ⟨s0, s1, s2, s3, s4, s5, s6, s7, s8, s9⟩
    go_simp
    with_reducible rfl
   rotate_left
   ·simp only [Act.put, List.setIfInBounds_toArray, List.set_cons_zero, List.set_cons_succ, i64_w, i32_w]
    rfl
   refine take_ (i := 5) (N := some 29) (v := ?_) (a' := ?_) #[true, true, true, false, true, true, true, false, false, false, false, false] rfl rfl (take_ofW HT_.out HW_.out (by kernel_rfl)) (fun _ _ _ h => h) (Or.inl ⟨by rfl, ?_⟩) hHeld ?_ ?_
   rotate_left
   ·rintro w' ⟨s0, s1, s2, s3, s4, s5, s6, s7, s8, s9⟩
    go_simp
    with_reducible rfl
   rotate_left
   ·simp only [Act.put, List.setIfInBounds_toArray, List.set_cons_zero, List.set_cons_succ, i64_w, i32_w]
    rfl
   refine join_ (σ := Nat × Nat) 2 #[true, true, true, true, true, true, true, true, true, true, false, false] (fun s_ => [(27, .agg #[.int .i64 t231, .int .i64 t232, .int .i64 t233]), (31, .agg #[.int .i64 t234, .int .i64 t235, .int .i64 t236]), (9, .pointer (some ⟨s_.1, 0, none⟩)), (10, .pointer (some ⟨s_.2, 0, none⟩))]) (fun s_ w' => (w'.cell? ⟨gb213, 0, none⟩ = some (.int .i64 ji8) ∧ w'.cell? ⟨gb213, 1, none⟩ = some (.int .i64 a0_1) ∧ w'.cell? ⟨gb213, 2, none⟩ = some (.int .i64 a0_2) ∧ w'.cell? ⟨gb214, 0, none⟩ = some (.int .i64 t216) ∧ w'.cell? ⟨gb214, 1, none⟩ = some (.int .i64 t217) ∧ w'.cell? ⟨gb214, 2, none⟩ = some (.int .i64 t218) ∧ w'.cell? ⟨gb214, 3, none⟩ = some (.int .i64 t219) ∧ w'.cell? ⟨gb214, 4, none⟩ = some (.int .i64 t220) ∧ w'.cell? ⟨gb214, 5, none⟩ = some (.int .i64 t221) ∧ w'.cell? ⟨gb214, 6, none⟩ = some (.int .i64 t222)) ∧ (w'.heap[gb213]? = some (.cells #[.int .i64 ji8, .int .i64 a0_1, .int .i64 a0_2] 24 (0, 0))) ∧ (w'.heap[gb214]? = some (.cells #[.int .i64 t216, .int .i64 t217, .int .i64 t218, .int .i64 t219, .int .i64 t220, .int .i64 t221, .int .i64 t222] 26 (0, 0))) ∧ (w'.heap[s_.1]? = some (.cells #[.int .i64 0, .int .i64 0, .int .i64 0] 24 (0, 0))) ∧ (w'.heap[s_.2]? = some (.cells #[.int .i64 0, .int .i64 0, .int .i64 0] 24 (0, 0))) ∧ (w.heap.size ≤ s_.1) ∧ (w.heap.size ≤ s_.1) ∧ (gb213 ≠ s_.1) ∧ (s_.1 ≠ gb213) ∧ (gb214 ≠ s_.1) ∧ (s_.1 ≠ gb214) ∧ (s_.2 ≠ s_.1) ∧ (s_.1 ≠ s_.2) ∧ (w.heap.size ≤ s_.2) ∧ (w.heap.size ≤ s_.2) ∧ (gb213 ≠ s_.2) ∧ (s_.2 ≠ gb213) ∧ (gb214 ≠ s_.2) ∧ (s_.2 ≠ gb214) ∧ (Below w.heap.size w w')) ?_ ?_
   rotate_left
   ·intro hJ3_7_8_9
    refine join_ (σ := Nat) 3 #[true, true, true, true, true, true, true, true, true, false, false, false] (fun s_ => [(27, .agg #[.int .i64 t231, .int .i64 t232, .int .i64 t233]), (31, .agg #[.int .i64 t234, .int .i64 t235, .int .i64 t236]), (9, .pointer (some ⟨s_, 0, none⟩))]) (fun s_ w' => (w'.cell? ⟨gb213, 0, none⟩ = some (.int .i64 ji8) ∧ w'.cell? ⟨gb213, 1, none⟩ = some (.int .i64 a0_1) ∧ w'.cell? ⟨gb213, 2, none⟩ = some (.int .i64 a0_2) ∧ w'.cell? ⟨gb214, 0, none⟩ = some (.int .i64 t216) ∧ w'.cell? ⟨gb214, 1, none⟩ = some (.int .i64 t217) ∧ w'.cell? ⟨gb214, 2, none⟩ = some (.int .i64 t218) ∧ w'.cell? ⟨gb214, 3, none⟩ = some (.int .i64 t219) ∧ w'.cell? ⟨gb214, 4, none⟩ = some (.int .i64 t220) ∧ w'.cell? ⟨gb214, 5, none⟩ = some (.int .i64 t221) ∧ w'.cell? ⟨gb214, 6, none⟩ = some (.int .i64 t222)) ∧ (w'.heap[gb213]? = some (.cells #[.int .i64 ji8, .int .i64 a0_1, .int .i64 a0_2] 24 (0, 0))) ∧ (w'.heap[gb214]? = some (.cells #[.int .i64 t216, .int .i64 t217, .int .i64 t218, .int .i64 t219, .int .i64 t220, .int .i64 t221, .int .i64 t222] 26 (0, 0))) ∧ (w'.heap[s_]? = some (.cells #[.int .i64 0, .int .i64 0, .int .i64 0] 24 (0, 0))) ∧ (w.heap.size ≤ s_) ∧ (w.heap.size ≤ s_) ∧ (gb213 ≠ s_) ∧ (s_ ≠ gb213) ∧ (gb214 ≠ s_) ∧ (s_ ≠ gb214) ∧ (Below w.heap.size w w')) ?_ ?_
    rotate_left
    ·intro hJ3_7_8
     refine join_ (σ := Nat) 3 #[true, true, true, true, true, true, true, true, false, true, false, false] (fun s_ => [(27, .agg #[.int .i64 t231, .int .i64 t232, .int .i64 t233]), (31, .agg #[.int .i64 t234, .int .i64 t235, .int .i64 t236]), (10, .pointer (some ⟨s_, 0, none⟩))]) (fun s_ w' => (w'.cell? ⟨gb213, 0, none⟩ = some (.int .i64 ji8) ∧ w'.cell? ⟨gb213, 1, none⟩ = some (.int .i64 a0_1) ∧ w'.cell? ⟨gb213, 2, none⟩ = some (.int .i64 a0_2) ∧ w'.cell? ⟨gb214, 0, none⟩ = some (.int .i64 t216) ∧ w'.cell? ⟨gb214, 1, none⟩ = some (.int .i64 t217) ∧ w'.cell? ⟨gb214, 2, none⟩ = some (.int .i64 t218) ∧ w'.cell? ⟨gb214, 3, none⟩ = some (.int .i64 t219) ∧ w'.cell? ⟨gb214, 4, none⟩ = some (.int .i64 t220) ∧ w'.cell? ⟨gb214, 5, none⟩ = some (.int .i64 t221) ∧ w'.cell? ⟨gb214, 6, none⟩ = some (.int .i64 t222)) ∧ (w'.heap[gb213]? = some (.cells #[.int .i64 ji8, .int .i64 a0_1, .int .i64 a0_2] 24 (0, 0))) ∧ (w'.heap[gb214]? = some (.cells #[.int .i64 t216, .int .i64 t217, .int .i64 t218, .int .i64 t219, .int .i64 t220, .int .i64 t221, .int .i64 t222] 26 (0, 0))) ∧ (w'.heap[s_]? = some (.cells #[.int .i64 0, .int .i64 0, .int .i64 0] 24 (0, 0))) ∧ (w.heap.size ≤ s_) ∧ (w.heap.size ≤ s_) ∧ (gb213 ≠ s_) ∧ (s_ ≠ gb213) ∧ (gb214 ≠ s_) ∧ (s_ ≠ gb214) ∧ (Below w.heap.size w w')) ?_ ?_
     rotate_left
     ·intro hJ3_7_9
      refine join_ (σ := Nat × Nat) 3 #[true, true, true, true, true, true, true, false, true, true, false, false] (fun s_ => [(27, .agg #[.int .i64 t231, .int .i64 t232, .int .i64 t233]), (9, .pointer (some ⟨s_.1, 0, none⟩)), (10, .pointer (some ⟨s_.2, 0, none⟩))]) (fun s_ w' => (w'.cell? ⟨gb213, 0, none⟩ = some (.int .i64 ji8) ∧ w'.cell? ⟨gb213, 1, none⟩ = some (.int .i64 a0_1) ∧ w'.cell? ⟨gb213, 2, none⟩ = some (.int .i64 a0_2) ∧ w'.cell? ⟨gb214, 0, none⟩ = some (.int .i64 t216) ∧ w'.cell? ⟨gb214, 1, none⟩ = some (.int .i64 t217) ∧ w'.cell? ⟨gb214, 2, none⟩ = some (.int .i64 t218) ∧ w'.cell? ⟨gb214, 3, none⟩ = some (.int .i64 t219) ∧ w'.cell? ⟨gb214, 4, none⟩ = some (.int .i64 t220) ∧ w'.cell? ⟨gb214, 5, none⟩ = some (.int .i64 t221) ∧ w'.cell? ⟨gb214, 6, none⟩ = some (.int .i64 t222)) ∧ (w'.heap[gb213]? = some (.cells #[.int .i64 ji8, .int .i64 a0_1, .int .i64 a0_2] 24 (0, 0))) ∧ (w'.heap[gb214]? = some (.cells #[.int .i64 t216, .int .i64 t217, .int .i64 t218, .int .i64 t219, .int .i64 t220, .int .i64 t221, .int .i64 t222] 26 (0, 0))) ∧ (w'.heap[s_.1]? = some (.cells #[.int .i64 0, .int .i64 0, .int .i64 0] 24 (0, 0))) ∧ (w'.heap[s_.2]? = some (.cells #[.int .i64 0, .int .i64 0, .int .i64 0] 24 (0, 0))) ∧ (w.heap.size ≤ s_.1) ∧ (w.heap.size ≤ s_.1) ∧ (gb213 ≠ s_.1) ∧ (s_.1 ≠ gb213) ∧ (gb214 ≠ s_.1) ∧ (s_.1 ≠ gb214) ∧ (s_.2 ≠ s_.1) ∧ (s_.1 ≠ s_.2) ∧ (w.heap.size ≤ s_.2) ∧ (w.heap.size ≤ s_.2) ∧ (gb213 ≠ s_.2) ∧ (s_.2 ≠ gb213) ∧ (gb214 ≠ s_.2) ∧ (s_.2 ≠ gb214) ∧ (Below w.heap.size w w')) ?_ ?_
      rotate_left
      ·intro hJ3_8_9
       refine join_ (σ := Unit) 4 #[true, true, true, true, true, true, true, true, false, false, false, false] (fun s_ => [(27, .agg #[.int .i64 t231, .int .i64 t232, .int .i64 t233]), (31, .agg #[.int .i64 t234, .int .i64 t235, .int .i64 t236])]) (fun s_ w' => (w'.cell? ⟨gb213, 0, none⟩ = some (.int .i64 ji8) ∧ w'.cell? ⟨gb213, 1, none⟩ = some (.int .i64 a0_1) ∧ w'.cell? ⟨gb213, 2, none⟩ = some (.int .i64 a0_2) ∧ w'.cell? ⟨gb214, 0, none⟩ = some (.int .i64 t216) ∧ w'.cell? ⟨gb214, 1, none⟩ = some (.int .i64 t217) ∧ w'.cell? ⟨gb214, 2, none⟩ = some (.int .i64 t218) ∧ w'.cell? ⟨gb214, 3, none⟩ = some (.int .i64 t219) ∧ w'.cell? ⟨gb214, 4, none⟩ = some (.int .i64 t220) ∧ w'.cell? ⟨gb214, 5, none⟩ = some (.int .i64 t221) ∧ w'.cell? ⟨gb214, 6, none⟩ = some (.int .i64 t222)) ∧ (w'.heap[gb213]? = some (.cells #[.int .i64 ji8, .int .i64 a0_1, .int .i64 a0_2] 24 (0, 0))) ∧ (w'.heap[gb214]? = some (.cells #[.int .i64 t216, .int .i64 t217, .int .i64 t218, .int .i64 t219, .int .i64 t220, .int .i64 t221, .int .i64 t222] 26 (0, 0))) ∧ (Below w.heap.size w w')) ?_ ?_
       rotate_left
       ·intro hJ3_7
        refine join_ (σ := Nat) 4 #[true, true, true, true, true, true, true, false, true, false, false, false] (fun s_ => [(27, .agg #[.int .i64 t231, .int .i64 t232, .int .i64 t233]), (9, .pointer (some ⟨s_, 0, none⟩))]) (fun s_ w' => (w'.cell? ⟨gb213, 0, none⟩ = some (.int .i64 ji8) ∧ w'.cell? ⟨gb213, 1, none⟩ = some (.int .i64 a0_1) ∧ w'.cell? ⟨gb213, 2, none⟩ = some (.int .i64 a0_2) ∧ w'.cell? ⟨gb214, 0, none⟩ = some (.int .i64 t216) ∧ w'.cell? ⟨gb214, 1, none⟩ = some (.int .i64 t217) ∧ w'.cell? ⟨gb214, 2, none⟩ = some (.int .i64 t218) ∧ w'.cell? ⟨gb214, 3, none⟩ = some (.int .i64 t219) ∧ w'.cell? ⟨gb214, 4, none⟩ = some (.int .i64 t220) ∧ w'.cell? ⟨gb214, 5, none⟩ = some (.int .i64 t221) ∧ w'.cell? ⟨gb214, 6, none⟩ = some (.int .i64 t222)) ∧ (w'.heap[gb213]? = some (.cells #[.int .i64 ji8, .int .i64 a0_1, .int .i64 a0_2] 24 (0, 0))) ∧ (w'.heap[gb214]? = some (.cells #[.int .i64 t216, .int .i64 t217, .int .i64 t218, .int .i64 t219, .int .i64 t220, .int .i64 t221, .int .i64 t222] 26 (0, 0))) ∧ (w'.heap[s_]? = some (.cells #[.int .i64 0, .int .i64 0, .int .i64 0] 24 (0, 0))) ∧ (w.heap.size ≤ s_) ∧ (w.heap.size ≤ s_) ∧ (gb213 ≠ s_) ∧ (s_ ≠ gb213) ∧ (gb214 ≠ s_) ∧ (s_ ≠ gb214) ∧ (Below w.heap.size w w')) ?_ ?_
        rotate_left
        ·intro hJ3_8
         refine join_ (σ := Nat) 4 #[true, true, true, true, true, true, true, false, false, true, false, false] (fun s_ => [(27, .agg #[.int .i64 t231, .int .i64 t232, .int .i64 t233]), (10, .pointer (some ⟨s_, 0, none⟩))]) (fun s_ w' => (w'.cell? ⟨gb213, 0, none⟩ = some (.int .i64 ji8) ∧ w'.cell? ⟨gb213, 1, none⟩ = some (.int .i64 a0_1) ∧ w'.cell? ⟨gb213, 2, none⟩ = some (.int .i64 a0_2) ∧ w'.cell? ⟨gb214, 0, none⟩ = some (.int .i64 t216) ∧ w'.cell? ⟨gb214, 1, none⟩ = some (.int .i64 t217) ∧ w'.cell? ⟨gb214, 2, none⟩ = some (.int .i64 t218) ∧ w'.cell? ⟨gb214, 3, none⟩ = some (.int .i64 t219) ∧ w'.cell? ⟨gb214, 4, none⟩ = some (.int .i64 t220) ∧ w'.cell? ⟨gb214, 5, none⟩ = some (.int .i64 t221) ∧ w'.cell? ⟨gb214, 6, none⟩ = some (.int .i64 t222)) ∧ (w'.heap[gb213]? = some (.cells #[.int .i64 ji8, .int .i64 a0_1, .int .i64 a0_2] 24 (0, 0))) ∧ (w'.heap[gb214]? = some (.cells #[.int .i64 t216, .int .i64 t217, .int .i64 t218, .int .i64 t219, .int .i64 t220, .int .i64 t221, .int .i64 t222] 26 (0, 0))) ∧ (w'.heap[s_]? = some (.cells #[.int .i64 0, .int .i64 0, .int .i64 0] 24 (0, 0))) ∧ (w.heap.size ≤ s_) ∧ (w.heap.size ≤ s_) ∧ (gb213 ≠ s_) ∧ (s_ ≠ gb213) ∧ (gb214 ≠ s_) ∧ (s_ ≠ gb214) ∧ (Below w.heap.size w w')) ?_ ?_
         rotate_left
         ·intro hJ3_9
          refine join_ (σ := Nat × Nat) 4 #[true, true, true, false, true, true, true, false, true, true, false, false] (fun s_ => [(9, .pointer (some ⟨s_.1, 0, none⟩)), (10, .pointer (some ⟨s_.2, 0, none⟩))]) (fun s_ w' => (w'.cell? ⟨gb213, 0, none⟩ = some (.int .i64 ji8) ∧ w'.cell? ⟨gb213, 1, none⟩ = some (.int .i64 a0_1) ∧ w'.cell? ⟨gb213, 2, none⟩ = some (.int .i64 a0_2) ∧ w'.cell? ⟨gb214, 0, none⟩ = some (.int .i64 t216) ∧ w'.cell? ⟨gb214, 1, none⟩ = some (.int .i64 t217) ∧ w'.cell? ⟨gb214, 2, none⟩ = some (.int .i64 t218) ∧ w'.cell? ⟨gb214, 3, none⟩ = some (.int .i64 t219) ∧ w'.cell? ⟨gb214, 4, none⟩ = some (.int .i64 t220) ∧ w'.cell? ⟨gb214, 5, none⟩ = some (.int .i64 t221) ∧ w'.cell? ⟨gb214, 6, none⟩ = some (.int .i64 t222)) ∧ (w'.heap[gb213]? = some (.cells #[.int .i64 ji8, .int .i64 a0_1, .int .i64 a0_2] 24 (0, 0))) ∧ (w'.heap[gb214]? = some (.cells #[.int .i64 t216, .int .i64 t217, .int .i64 t218, .int .i64 t219, .int .i64 t220, .int .i64 t221, .int .i64 t222] 26 (0, 0))) ∧ (w'.heap[s_.1]? = some (.cells #[.int .i64 0, .int .i64 0, .int .i64 0] 24 (0, 0))) ∧ (w'.heap[s_.2]? = some (.cells #[.int .i64 0, .int .i64 0, .int .i64 0] 24 (0, 0))) ∧ (w.heap.size ≤ s_.1) ∧ (w.heap.size ≤ s_.1) ∧ (gb213 ≠ s_.1) ∧ (s_.1 ≠ gb213) ∧ (gb214 ≠ s_.1) ∧ (s_.1 ≠ gb214) ∧ (s_.2 ≠ s_.1) ∧ (s_.1 ≠ s_.2) ∧ (w.heap.size ≤ s_.2) ∧ (w.heap.size ≤ s_.2) ∧ (gb213 ≠ s_.2) ∧ (s_.2 ≠ gb213) ∧ (gb214 ≠ s_.2) ∧ (s_.2 ≠ gb214) ∧ (Below w.heap.size w w')) ?_ ?_
          rotate_left
          ·intro hJ8_9
           refine join_ (σ := Unit) 5 #[true, true, true, true, true, true, true, false, false, false, false, false] (fun s_ => [(27, .agg #[.int .i64 t231, .int .i64 t232, .int .i64 t233])]) (fun s_ w' => (w'.cell? ⟨gb213, 0, none⟩ = some (.int .i64 ji8) ∧ w'.cell? ⟨gb213, 1, none⟩ = some (.int .i64 a0_1) ∧ w'.cell? ⟨gb213, 2, none⟩ = some (.int .i64 a0_2) ∧ w'.cell? ⟨gb214, 0, none⟩ = some (.int .i64 t216) ∧ w'.cell? ⟨gb214, 1, none⟩ = some (.int .i64 t217) ∧ w'.cell? ⟨gb214, 2, none⟩ = some (.int .i64 t218) ∧ w'.cell? ⟨gb214, 3, none⟩ = some (.int .i64 t219) ∧ w'.cell? ⟨gb214, 4, none⟩ = some (.int .i64 t220) ∧ w'.cell? ⟨gb214, 5, none⟩ = some (.int .i64 t221) ∧ w'.cell? ⟨gb214, 6, none⟩ = some (.int .i64 t222)) ∧ (w'.heap[gb213]? = some (.cells #[.int .i64 ji8, .int .i64 a0_1, .int .i64 a0_2] 24 (0, 0))) ∧ (w'.heap[gb214]? = some (.cells #[.int .i64 t216, .int .i64 t217, .int .i64 t218, .int .i64 t219, .int .i64 t220, .int .i64 t221, .int .i64 t222] 26 (0, 0))) ∧ (Below w.heap.size w w')) ?_ ?_
           rotate_left
           ·intro hJ3
            refine join_ (σ := Nat) 5 #[true, true, true, false, true, true, true, false, true, false, false, false] (fun s_ => [(9, .pointer (some ⟨s_, 0, none⟩))]) (fun s_ w' => (w'.cell? ⟨gb213, 0, none⟩ = some (.int .i64 ji8) ∧ w'.cell? ⟨gb213, 1, none⟩ = some (.int .i64 a0_1) ∧ w'.cell? ⟨gb213, 2, none⟩ = some (.int .i64 a0_2) ∧ w'.cell? ⟨gb214, 0, none⟩ = some (.int .i64 t216) ∧ w'.cell? ⟨gb214, 1, none⟩ = some (.int .i64 t217) ∧ w'.cell? ⟨gb214, 2, none⟩ = some (.int .i64 t218) ∧ w'.cell? ⟨gb214, 3, none⟩ = some (.int .i64 t219) ∧ w'.cell? ⟨gb214, 4, none⟩ = some (.int .i64 t220) ∧ w'.cell? ⟨gb214, 5, none⟩ = some (.int .i64 t221) ∧ w'.cell? ⟨gb214, 6, none⟩ = some (.int .i64 t222)) ∧ (w'.heap[gb213]? = some (.cells #[.int .i64 ji8, .int .i64 a0_1, .int .i64 a0_2] 24 (0, 0))) ∧ (w'.heap[gb214]? = some (.cells #[.int .i64 t216, .int .i64 t217, .int .i64 t218, .int .i64 t219, .int .i64 t220, .int .i64 t221, .int .i64 t222] 26 (0, 0))) ∧ (w'.heap[s_]? = some (.cells #[.int .i64 0, .int .i64 0, .int .i64 0] 24 (0, 0))) ∧ (w.heap.size ≤ s_) ∧ (w.heap.size ≤ s_) ∧ (gb213 ≠ s_) ∧ (s_ ≠ gb213) ∧ (gb214 ≠ s_) ∧ (s_ ≠ gb214) ∧ (Below w.heap.size w w')) ?_ ?_
            rotate_left
            ·intro hJ8
             refine join_ (σ := Nat) 5 #[true, true, true, false, true, true, true, false, false, true, false, false] (fun s_ => [(10, .pointer (some ⟨s_, 0, none⟩))]) (fun s_ w' => (w'.cell? ⟨gb213, 0, none⟩ = some (.int .i64 ji8) ∧ w'.cell? ⟨gb213, 1, none⟩ = some (.int .i64 a0_1) ∧ w'.cell? ⟨gb213, 2, none⟩ = some (.int .i64 a0_2) ∧ w'.cell? ⟨gb214, 0, none⟩ = some (.int .i64 t216) ∧ w'.cell? ⟨gb214, 1, none⟩ = some (.int .i64 t217) ∧ w'.cell? ⟨gb214, 2, none⟩ = some (.int .i64 t218) ∧ w'.cell? ⟨gb214, 3, none⟩ = some (.int .i64 t219) ∧ w'.cell? ⟨gb214, 4, none⟩ = some (.int .i64 t220) ∧ w'.cell? ⟨gb214, 5, none⟩ = some (.int .i64 t221) ∧ w'.cell? ⟨gb214, 6, none⟩ = some (.int .i64 t222)) ∧ (w'.heap[gb213]? = some (.cells #[.int .i64 ji8, .int .i64 a0_1, .int .i64 a0_2] 24 (0, 0))) ∧ (w'.heap[gb214]? = some (.cells #[.int .i64 t216, .int .i64 t217, .int .i64 t218, .int .i64 t219, .int .i64 t220, .int .i64 t221, .int .i64 t222] 26 (0, 0))) ∧ (w'.heap[s_]? = some (.cells #[.int .i64 0, .int .i64 0, .int .i64 0] 24 (0, 0))) ∧ (w.heap.size ≤ s_) ∧ (w.heap.size ≤ s_) ∧ (gb213 ≠ s_) ∧ (s_ ≠ gb213) ∧ (gb214 ≠ s_) ∧ (s_ ≠ gb214) ∧ (Below w.heap.size w w')) ?_ ?_
             rotate_left
             ·intro hJ9
              refine three_ (i := 3) (j := 8) (k := 9) (Ni := some 27) (Nj := some 9) (Nk := some 10) #[true, true, true, true, true, true, true, false, false, false, false, false] #[true, true, true, false, true, true, true, false, true, false, false, false] #[true, true, true, false, true, true, true, false, false, true, false, false] rfl rfl rfl rfl rfl rfl (three_of HT_.out (by kernel_rfl)) (by decide) (by decide) (by decide) (fun K hK => ?_) (fun K hK => ?_) (fun K hK => ?_)
              ·skip
               refine goes_ Try.func11 (by kernel_rfl) rfl #[.agg #[.int .i64 ji8, .int .i64 a0_1, .int .i64 a0_2], .agg #[.int .i64 t216, .int .i64 t217, .int .i64 t218, .int .i64 t219, .int .i64 t220, .int .i64 t221, .int .i64 t222], .int .i64 a2] (by rfl) rfl rfl (by (try simp only [List.map_toArray, List.map_cons, List.map_nil]); first | done | (simp only [hji8]; rfl) | rfl | (simp only [List.length_drop, List.length_take]; rfl)) ?_
               with_reducible refine (pid_State_Sample.calls k ji8 a0_1 a0_2 t216 t217 t218 t219 t220 t221 t222 a2 t231 t232 t233 _ A40.out).mono ?_
               rintro e w52 ⟨rfl, hb⟩
               refine ⟨_, rfl, ?_⟩
               have n0_ := Aside0.mk (blk_below (by exact BK213.out) hb)
               have n1_ := Aside0.mk (blk_below (by exact BK214.out) hb)
               have n2_ := Aside0.mk (below_step (by repeat (first | (with_reducible first | exact HB.out | apply below_alloc | apply pw_below_drewN | apply below_drew1 | refine below_set ?_ GE213.out | refine below_set ?_ GE214.out) | exact HB.out)) hb)
               clear BK213
               clear BK214
               clear HB
               have BK213 := n0_
               have BK214 := n1_
               have HB := n2_
               clear n0_ n1_ n2_
               (try clear hb)
               (try clear hb2)
               (try clear hk)
               (try clear hi)
               refine hK.out _ _ ⟨(blk_cell BK213.out 0).trans rfl, (blk_cell BK213.out 1).trans rfl, (blk_cell BK213.out 2).trans rfl, (blk_cell BK214.out 0).trans rfl, (blk_cell BK214.out 1).trans rfl, (blk_cell BK214.out 2).trans rfl, (blk_cell BK214.out 3).trans rfl, (blk_cell BK214.out 4).trans rfl, (blk_cell BK214.out 5).trans rfl, (blk_cell BK214.out 6).trans rfl⟩ (fun hHeld => ?_)
               clear hK K
               refine norm_ (a' := ?_) ?_ ?_
               rotate_left
               ·show Act.put _ (some 27) _ = _
                simp only [Act.put, List.setIfInBounds_toArray, List.set_cons_zero, List.set_cons_succ, i64_w, i32_w]
                rfl
               exact norm_ (by first | (simp only [putAll, Act.put, List.setIfInBounds_toArray, List.set_cons_zero, List.set_cons_succ]; done) | (simp only [putAll, Act.put, List.setIfInBounds_toArray, List.set_cons_zero, List.set_cons_succ]; rfl)) (hJ3 () _ ⟨hHeld, (by exact BK213.out), (by exact BK214.out), (by repeat (first | (with_reducible first | exact HB.out | apply below_alloc | apply pw_below_drewN | apply below_drew1 | refine below_set ?_ GE213.out | refine below_set ?_ GE214.out) | exact HB.out))⟩)
              ·skip
               refine box_step ?hg (N := 9) ?hd (cs := #[.int .i64 0, .int .i64 0, .int .i64 0]) (t := 24) ?hr ?_; (case hd => rfl); (case hg => rfl); (case hr => first | (go_simp; done) | (go_simp; rfl))
               intro gb237 hg w52 hbox hb
               have n0_ := Aside0.mk (blk_below (by exact BK213.out) hb)
               have n1_ := Aside0.mk (blk_below (by exact BK214.out) hb)
               have n2_ := Aside0.mk (below_step (by repeat (first | (with_reducible first | exact HB.out | apply below_alloc | apply pw_below_drewN | apply below_drew1 | refine below_set ?_ GE213.out | refine below_set ?_ GE214.out) | exact HB.out)) hb)
               have n3_ := Aside0.mk (hbox)
               have n4_ := Aside0.mk ((by rw [hg]; exact (below_size (by repeat (first | (with_reducible first | exact HB.out | apply below_alloc | apply pw_below_drewN | apply below_drew1 | refine below_set ?_ GE213.out | refine below_set ?_ GE214.out) | exact HB.out))) : w.heap.size ≤ gb237))
               have n5_ := Aside0.mk ((by rw [hg]; exact (below_size (by repeat (first | (with_reducible first | exact HB.out | apply below_alloc | apply pw_below_drewN | apply below_drew1 | refine below_set ?_ GE213.out | refine below_set ?_ GE214.out) | exact HB.out))) : w.heap.size ≤ gb237))
               have n6_ := Aside0.mk ((by rw [hg]; exact Nat.ne_of_lt (blk_lt (by exact BK213.out)) : gb213 ≠ gb237))
               have n7_ := Aside0.mk ((by rw [hg]; exact Nat.ne_of_gt (blk_lt (by exact BK213.out)) : gb237 ≠ gb213))
               have n8_ := Aside0.mk ((by rw [hg]; exact Nat.ne_of_lt (blk_lt (by exact BK214.out)) : gb214 ≠ gb237))
               have n9_ := Aside0.mk ((by rw [hg]; exact Nat.ne_of_gt (blk_lt (by exact BK214.out)) : gb237 ≠ gb214))
               clear BK213
               clear BK214
               clear HB
               have BK213 := n0_
               have BK214 := n1_
               have HB := n2_
               have BK237 := n3_
               have GW237 := n4_
               have GE237 := n5_
               have NB213_237 := n6_
               have NB237_213 := n7_
               have NB214_237 := n8_
               have NB237_214 := n9_
               clear n0_ n1_ n2_ n3_ n4_ n5_ n6_ n7_ n8_ n9_
               clear hb hbox hg
               refine hK.out _ _ ⟨(blk_cell BK213.out 0).trans rfl, (blk_cell BK213.out 1).trans rfl, (blk_cell BK213.out 2).trans rfl, (blk_cell BK214.out 0).trans rfl, (blk_cell BK214.out 1).trans rfl, (blk_cell BK214.out 2).trans rfl, (blk_cell BK214.out 3).trans rfl, (blk_cell BK214.out 4).trans rfl, (blk_cell BK214.out 5).trans rfl, (blk_cell BK214.out 6).trans rfl⟩ (fun hHeld => ?_)
               clear hK K
               refine norm_ (a' := ?_) ?_ ?_
               rotate_left
               ·show Act.put _ (some 9) _ = _
                simp only [Act.put, List.setIfInBounds_toArray, List.set_cons_zero, List.set_cons_succ, i64_w, i32_w]
                rfl
               exact norm_ (by first | (simp only [putAll, Act.put, List.setIfInBounds_toArray, List.set_cons_zero, List.set_cons_succ]; done) | (simp only [putAll, Act.put, List.setIfInBounds_toArray, List.set_cons_zero, List.set_cons_succ]; rfl)) (hJ8 (gb237) _ ⟨hHeld, (by exact BK213.out), (by exact BK214.out), (by exact BK237.out), GW237.out, GE237.out, NB213_237.out, NB237_213.out, NB214_237.out, NB237_214.out, (by repeat (first | (with_reducible first | exact HB.out | apply below_alloc | apply pw_below_drewN | apply below_drew1 | refine below_set ?_ GE213.out | refine below_set ?_ GE214.out | refine below_set ?_ GE237.out) | exact HB.out))⟩)
              ·skip
               refine box_step ?hg (N := 10) ?hd (cs := #[.int .i64 0, .int .i64 0, .int .i64 0]) (t := 24) ?hr ?_; (case hd => rfl); (case hg => rfl); (case hr => first | (go_simp; done) | (go_simp; rfl))
               intro gb238 hg w52 hbox hb
               have n0_ := Aside0.mk (blk_below (by exact BK213.out) hb)
               have n1_ := Aside0.mk (blk_below (by exact BK214.out) hb)
               have n2_ := Aside0.mk (below_step (by repeat (first | (with_reducible first | exact HB.out | apply below_alloc | apply pw_below_drewN | apply below_drew1 | refine below_set ?_ GE213.out | refine below_set ?_ GE214.out) | exact HB.out)) hb)
               have n3_ := Aside0.mk (hbox)
               have n4_ := Aside0.mk ((by rw [hg]; exact (below_size (by repeat (first | (with_reducible first | exact HB.out | apply below_alloc | apply pw_below_drewN | apply below_drew1 | refine below_set ?_ GE213.out | refine below_set ?_ GE214.out) | exact HB.out))) : w.heap.size ≤ gb238))
               have n5_ := Aside0.mk ((by rw [hg]; exact (below_size (by repeat (first | (with_reducible first | exact HB.out | apply below_alloc | apply pw_below_drewN | apply below_drew1 | refine below_set ?_ GE213.out | refine below_set ?_ GE214.out) | exact HB.out))) : w.heap.size ≤ gb238))
               have n6_ := Aside0.mk ((by rw [hg]; exact Nat.ne_of_lt (blk_lt (by exact BK213.out)) : gb213 ≠ gb238))
               have n7_ := Aside0.mk ((by rw [hg]; exact Nat.ne_of_gt (blk_lt (by exact BK213.out)) : gb238 ≠ gb213))
               have n8_ := Aside0.mk ((by rw [hg]; exact Nat.ne_of_lt (blk_lt (by exact BK214.out)) : gb214 ≠ gb238))
               have n9_ := Aside0.mk ((by rw [hg]; exact Nat.ne_of_gt (blk_lt (by exact BK214.out)) : gb238 ≠ gb214))
               clear BK213
               clear BK214
               clear HB
               have BK213 := n0_
               have BK214 := n1_
               have HB := n2_
               have BK238 := n3_
               have GW238 := n4_
               have GE238 := n5_
               have NB213_238 := n6_
               have NB238_213 := n7_
               have NB214_238 := n8_
               have NB238_214 := n9_
               clear n0_ n1_ n2_ n3_ n4_ n5_ n6_ n7_ n8_ n9_
               clear hb hbox hg
               refine hK.out _ _ ⟨(blk_cell BK213.out 0).trans rfl, (blk_cell BK213.out 1).trans rfl, (blk_cell BK213.out 2).trans rfl, (blk_cell BK214.out 0).trans rfl, (blk_cell BK214.out 1).trans rfl, (blk_cell BK214.out 2).trans rfl, (blk_cell BK214.out 3).trans rfl, (blk_cell BK214.out 4).trans rfl, (blk_cell BK214.out 5).trans rfl, (blk_cell BK214.out 6).trans rfl⟩ (fun hHeld => ?_)
               clear hK K
               refine norm_ (a' := ?_) ?_ ?_
               rotate_left
               ·show Act.put _ (some 10) _ = _
                simp only [Act.put, List.setIfInBounds_toArray, List.set_cons_zero, List.set_cons_succ, i64_w, i32_w]
                rfl
               exact norm_ (by first | (simp only [putAll, Act.put, List.setIfInBounds_toArray, List.set_cons_zero, List.set_cons_succ]; done) | (simp only [putAll, Act.put, List.setIfInBounds_toArray, List.set_cons_zero, List.set_cons_succ]; rfl)) (hJ9 (gb238) _ ⟨hHeld, (by exact BK213.out), (by exact BK214.out), (by exact BK238.out), GW238.out, GE238.out, NB213_238.out, NB238_213.out, NB214_238.out, NB238_214.out, (by repeat (first | (with_reducible first | exact HB.out | apply below_alloc | apply pw_below_drewN | apply below_drew1 | refine below_set ?_ GE213.out | refine below_set ?_ GE214.out | refine below_set ?_ GE238.out) | exact HB.out))⟩)
             ·skip
              rintro gb238 w53 ⟨hS_, h0_, h1_, h2_, h3_, h4_, h5_, h6_, h7_, h8_, h9_⟩
              have n0_ : Aside0 (w53.heap[gb213]? = some (.cells #[.int .i64 ji8, .int .i64 a0_1, .int .i64 a0_2] 24 (0, 0))) := ⟨h0_⟩
              have n1_ : Aside0 (w53.heap[gb214]? = some (.cells #[.int .i64 t216, .int .i64 t217, .int .i64 t218, .int .i64 t219, .int .i64 t220, .int .i64 t221, .int .i64 t222] 26 (0, 0))) := ⟨h1_⟩
              have n2_ : Aside0 (w53.heap[gb238]? = some (.cells #[.int .i64 0, .int .i64 0, .int .i64 0] 24 (0, 0))) := ⟨h2_⟩
              have n3_ : Aside0 (w.heap.size ≤ gb238) := ⟨h3_⟩
              have n4_ : Aside0 (w.heap.size ≤ gb238) := ⟨h4_⟩
              have n5_ : Aside0 (gb213 ≠ gb238) := ⟨h5_⟩
              have n6_ : Aside0 (gb238 ≠ gb213) := ⟨h6_⟩
              have n7_ : Aside0 (gb214 ≠ gb238) := ⟨h7_⟩
              have n8_ : Aside0 (gb238 ≠ gb214) := ⟨h8_⟩
              have n9_ : Aside0 (Below w.heap.size w w53) := ⟨h9_⟩
              clear BK213
              clear BK214
              clear HB
              clear h0_ h1_ h2_ h3_ h4_ h5_ h6_ h7_ h8_ h9_
              have BK213 := n0_
              have BK214 := n1_
              have BK238 := n2_
              have GW238 := n3_
              have GE238 := n4_
              have NB213_238 := n5_
              have NB238_213 := n6_
              have NB214_238 := n7_
              have NB238_214 := n8_
              have HB := n9_
              clear n0_ n1_ n2_ n3_ n4_ n5_ n6_ n7_ n8_ n9_
              have hHeld : w53.cell? ⟨gb213, 0, none⟩ = some (.int .i64 ji8) ∧ w53.cell? ⟨gb213, 1, none⟩ = some (.int .i64 a0_1) ∧ w53.cell? ⟨gb213, 2, none⟩ = some (.int .i64 a0_2) ∧ w53.cell? ⟨gb214, 0, none⟩ = some (.int .i64 t216) ∧ w53.cell? ⟨gb214, 1, none⟩ = some (.int .i64 t217) ∧ w53.cell? ⟨gb214, 2, none⟩ = some (.int .i64 t218) ∧ w53.cell? ⟨gb214, 3, none⟩ = some (.int .i64 t219) ∧ w53.cell? ⟨gb214, 4, none⟩ = some (.int .i64 t220) ∧ w53.cell? ⟨gb214, 5, none⟩ = some (.int .i64 t221) ∧ w53.cell? ⟨gb214, 6, none⟩ = some (.int .i64 t222) := hS_
              refine norm_ (a' := ?_) ?_ ?_
              rotate_left
              ·simp only [putAll, Act.put, List.setIfInBounds_toArray, List.set_cons_zero, List.set_cons_succ]
               rfl
              refine two_ (i := 3) (j := 8) (Ni := some 27) (Nj := some 9) #[true, true, true, true, true, true, true, false, false, true, false, false] #[true, true, true, false, true, true, true, false, true, true, false, false] rfl rfl rfl rfl (two_of HT_.out (by kernel_rfl)) (by decide) (by decide) (fun K hK => ?_) (fun K hK => ?_)
              ·skip
               refine goes_ Try.func11 (by kernel_rfl) rfl #[.agg #[.int .i64 ji8, .int .i64 a0_1, .int .i64 a0_2], .agg #[.int .i64 t216, .int .i64 t217, .int .i64 t218, .int .i64 t219, .int .i64 t220, .int .i64 t221, .int .i64 t222], .int .i64 a2] (by rfl) rfl rfl (by (try simp only [List.map_toArray, List.map_cons, List.map_nil]); first | done | (simp only [hji8]; rfl) | rfl | (simp only [List.length_drop, List.length_take]; rfl)) ?_
               with_reducible refine (pid_State_Sample.calls k ji8 a0_1 a0_2 t216 t217 t218 t219 t220 t221 t222 a2 t231 t232 t233 _ A40.out).mono ?_
               rintro e w54 ⟨rfl, hb⟩
               refine ⟨_, rfl, ?_⟩
               have n0_ := Aside0.mk (blk_below (by exact BK213.out) hb)
               have n1_ := Aside0.mk (blk_below (by exact BK214.out) hb)
               have n2_ := Aside0.mk (blk_below (by exact BK238.out) hb)
               have n3_ := Aside0.mk (below_step (by repeat (first | (with_reducible first | exact HB.out | apply below_alloc | apply pw_below_drewN | apply below_drew1 | refine below_set ?_ GE213.out | refine below_set ?_ GE214.out | refine below_set ?_ GE238.out) | exact HB.out)) hb)
               clear BK213
               clear BK214
               clear BK238
               clear HB
               have BK213 := n0_
               have BK214 := n1_
               have BK238 := n2_
               have HB := n3_
               clear n0_ n1_ n2_ n3_
               (try clear hb)
               (try clear hb2)
               (try clear hk)
               (try clear hi)
               refine hK.out _ _ ⟨(blk_cell BK213.out 0).trans rfl, (blk_cell BK213.out 1).trans rfl, (blk_cell BK213.out 2).trans rfl, (blk_cell BK214.out 0).trans rfl, (blk_cell BK214.out 1).trans rfl, (blk_cell BK214.out 2).trans rfl, (blk_cell BK214.out 3).trans rfl, (blk_cell BK214.out 4).trans rfl, (blk_cell BK214.out 5).trans rfl, (blk_cell BK214.out 6).trans rfl⟩ (fun hHeld => ?_)
               clear hK K
               refine norm_ (a' := ?_) ?_ ?_
               rotate_left
               ·show Act.put _ (some 27) _ = _
                simp only [Act.put, List.setIfInBounds_toArray, List.set_cons_zero, List.set_cons_succ, i64_w, i32_w]
                rfl
               exact norm_ (by first | (simp only [putAll, Act.put, List.setIfInBounds_toArray, List.set_cons_zero, List.set_cons_succ]; done) | (simp only [putAll, Act.put, List.setIfInBounds_toArray, List.set_cons_zero, List.set_cons_succ]; rfl)) (hJ3_9 (gb238) _ ⟨hHeld, (by exact BK213.out), (by exact BK214.out), (by exact BK238.out), GW238.out, GE238.out, NB213_238.out, NB238_213.out, NB214_238.out, NB238_214.out, (by repeat (first | (with_reducible first | exact HB.out | apply below_alloc | apply pw_below_drewN | apply below_drew1 | refine below_set ?_ GE213.out | refine below_set ?_ GE214.out | refine below_set ?_ GE238.out) | exact HB.out))⟩)
              ·skip
               refine box_step ?hg (N := 9) ?hd (cs := #[.int .i64 0, .int .i64 0, .int .i64 0]) (t := 24) ?hr ?_; (case hd => rfl); (case hg => rfl); (case hr => first | (go_simp; done) | (go_simp; rfl))
               intro gb237 hg w54 hbox hb
               have n0_ := Aside0.mk (blk_below (by exact BK213.out) hb)
               have n1_ := Aside0.mk (blk_below (by exact BK214.out) hb)
               have n2_ := Aside0.mk (blk_below (by exact BK238.out) hb)
               have n3_ := Aside0.mk (below_step (by repeat (first | (with_reducible first | exact HB.out | apply below_alloc | apply pw_below_drewN | apply below_drew1 | refine below_set ?_ GE213.out | refine below_set ?_ GE214.out | refine below_set ?_ GE238.out) | exact HB.out)) hb)
               have n4_ := Aside0.mk (hbox)
               have n5_ := Aside0.mk ((by rw [hg]; exact (below_size (by repeat (first | (with_reducible first | exact HB.out | apply below_alloc | apply pw_below_drewN | apply below_drew1 | refine below_set ?_ GE213.out | refine below_set ?_ GE214.out | refine below_set ?_ GE238.out) | exact HB.out))) : w.heap.size ≤ gb237))
               have n6_ := Aside0.mk ((by rw [hg]; exact (below_size (by repeat (first | (with_reducible first | exact HB.out | apply below_alloc | apply pw_below_drewN | apply below_drew1 | refine below_set ?_ GE213.out | refine below_set ?_ GE214.out | refine below_set ?_ GE238.out) | exact HB.out))) : w.heap.size ≤ gb237))
               have n7_ := Aside0.mk ((by rw [hg]; exact Nat.ne_of_lt (blk_lt (by exact BK213.out)) : gb213 ≠ gb237))
               have n8_ := Aside0.mk ((by rw [hg]; exact Nat.ne_of_gt (blk_lt (by exact BK213.out)) : gb237 ≠ gb213))
               have n9_ := Aside0.mk ((by rw [hg]; exact Nat.ne_of_lt (blk_lt (by exact BK214.out)) : gb214 ≠ gb237))
               have n10_ := Aside0.mk ((by rw [hg]; exact Nat.ne_of_gt (blk_lt (by exact BK214.out)) : gb237 ≠ gb214))
               have n11_ := Aside0.mk ((by rw [hg]; exact Nat.ne_of_lt (blk_lt (by exact BK238.out)) : gb238 ≠ gb237))
               have n12_ := Aside0.mk ((by rw [hg]; exact Nat.ne_of_gt (blk_lt (by exact BK238.out)) : gb237 ≠ gb238))
               clear BK213
               clear BK214
               clear BK238
               clear HB
               have BK213 := n0_
               have BK214 := n1_
               have BK238 := n2_
               have HB := n3_
               have BK237 := n4_
               have GW237 := n5_
               have GE237 := n6_
               have NB213_237 := n7_
               have NB237_213 := n8_
               have NB214_237 := n9_
               have NB237_214 := n10_
               have NB238_237 := n11_
               have NB237_238 := n12_
               clear n0_ n1_ n2_ n3_ n4_ n5_ n6_ n7_ n8_ n9_ n10_ n11_ n12_
               clear hb hbox hg
               refine hK.out _ _ ⟨(blk_cell BK213.out 0).trans rfl, (blk_cell BK213.out 1).trans rfl, (blk_cell BK213.out 2).trans rfl, (blk_cell BK214.out 0).trans rfl, (blk_cell BK214.out 1).trans rfl, (blk_cell BK214.out 2).trans rfl, (blk_cell BK214.out 3).trans rfl, (blk_cell BK214.out 4).trans rfl, (blk_cell BK214.out 5).trans rfl, (blk_cell BK214.out 6).trans rfl⟩ (fun hHeld => ?_)
               clear hK K
               refine norm_ (a' := ?_) ?_ ?_
               rotate_left
               ·show Act.put _ (some 9) _ = _
                simp only [Act.put, List.setIfInBounds_toArray, List.set_cons_zero, List.set_cons_succ, i64_w, i32_w]
                rfl
               exact norm_ (by first | (simp only [putAll, Act.put, List.setIfInBounds_toArray, List.set_cons_zero, List.set_cons_succ]; done) | (simp only [putAll, Act.put, List.setIfInBounds_toArray, List.set_cons_zero, List.set_cons_succ]; rfl)) (hJ8_9 (gb237, gb238) _ ⟨hHeld, (by exact BK213.out), (by exact BK214.out), (by exact BK237.out), (by exact BK238.out), GW237.out, GE237.out, NB213_237.out, NB237_213.out, NB214_237.out, NB237_214.out, NB238_237.out, NB237_238.out, GW238.out, GE238.out, NB213_238.out, NB238_213.out, NB214_238.out, NB238_214.out, (by repeat (first | (with_reducible first | exact HB.out | apply below_alloc | apply pw_below_drewN | apply below_drew1 | refine below_set ?_ GE213.out | refine below_set ?_ GE214.out | refine below_set ?_ GE238.out | refine below_set ?_ GE237.out) | exact HB.out))⟩)
            ·skip
             rintro gb237 w53 ⟨hS_, h0_, h1_, h2_, h3_, h4_, h5_, h6_, h7_, h8_, h9_⟩
             have n0_ : Aside0 (w53.heap[gb213]? = some (.cells #[.int .i64 ji8, .int .i64 a0_1, .int .i64 a0_2] 24 (0, 0))) := ⟨h0_⟩
             have n1_ : Aside0 (w53.heap[gb214]? = some (.cells #[.int .i64 t216, .int .i64 t217, .int .i64 t218, .int .i64 t219, .int .i64 t220, .int .i64 t221, .int .i64 t222] 26 (0, 0))) := ⟨h1_⟩
             have n2_ : Aside0 (w53.heap[gb237]? = some (.cells #[.int .i64 0, .int .i64 0, .int .i64 0] 24 (0, 0))) := ⟨h2_⟩
             have n3_ : Aside0 (w.heap.size ≤ gb237) := ⟨h3_⟩
             have n4_ : Aside0 (w.heap.size ≤ gb237) := ⟨h4_⟩
             have n5_ : Aside0 (gb213 ≠ gb237) := ⟨h5_⟩
             have n6_ : Aside0 (gb237 ≠ gb213) := ⟨h6_⟩
             have n7_ : Aside0 (gb214 ≠ gb237) := ⟨h7_⟩
             have n8_ : Aside0 (gb237 ≠ gb214) := ⟨h8_⟩
             have n9_ : Aside0 (Below w.heap.size w w53) := ⟨h9_⟩
             clear BK213
             clear BK214
             clear HB
             clear h0_ h1_ h2_ h3_ h4_ h5_ h6_ h7_ h8_ h9_
             have BK213 := n0_
             have BK214 := n1_
             have BK237 := n2_
             have GW237 := n3_
             have GE237 := n4_
             have NB213_237 := n5_
             have NB237_213 := n6_
             have NB214_237 := n7_
             have NB237_214 := n8_
             have HB := n9_
             clear n0_ n1_ n2_ n3_ n4_ n5_ n6_ n7_ n8_ n9_
             have hHeld : w53.cell? ⟨gb213, 0, none⟩ = some (.int .i64 ji8) ∧ w53.cell? ⟨gb213, 1, none⟩ = some (.int .i64 a0_1) ∧ w53.cell? ⟨gb213, 2, none⟩ = some (.int .i64 a0_2) ∧ w53.cell? ⟨gb214, 0, none⟩ = some (.int .i64 t216) ∧ w53.cell? ⟨gb214, 1, none⟩ = some (.int .i64 t217) ∧ w53.cell? ⟨gb214, 2, none⟩ = some (.int .i64 t218) ∧ w53.cell? ⟨gb214, 3, none⟩ = some (.int .i64 t219) ∧ w53.cell? ⟨gb214, 4, none⟩ = some (.int .i64 t220) ∧ w53.cell? ⟨gb214, 5, none⟩ = some (.int .i64 t221) ∧ w53.cell? ⟨gb214, 6, none⟩ = some (.int .i64 t222) := hS_
             refine norm_ (a' := ?_) ?_ ?_
             rotate_left
             ·simp only [putAll, Act.put, List.setIfInBounds_toArray, List.set_cons_zero, List.set_cons_succ]
              rfl
             refine two_ (i := 3) (j := 9) (Ni := some 27) (Nj := some 10) #[true, true, true, true, true, true, true, false, true, false, false, false] #[true, true, true, false, true, true, true, false, true, true, false, false] rfl rfl rfl rfl (two_of HT_.out (by kernel_rfl)) (by decide) (by decide) (fun K hK => ?_) (fun K hK => ?_)
             ·skip
              refine goes_ Try.func11 (by kernel_rfl) rfl #[.agg #[.int .i64 ji8, .int .i64 a0_1, .int .i64 a0_2], .agg #[.int .i64 t216, .int .i64 t217, .int .i64 t218, .int .i64 t219, .int .i64 t220, .int .i64 t221, .int .i64 t222], .int .i64 a2] (by rfl) rfl rfl (by (try simp only [List.map_toArray, List.map_cons, List.map_nil]); first | done | (simp only [hji8]; rfl) | rfl | (simp only [List.length_drop, List.length_take]; rfl)) ?_
              with_reducible refine (pid_State_Sample.calls k ji8 a0_1 a0_2 t216 t217 t218 t219 t220 t221 t222 a2 t231 t232 t233 _ A40.out).mono ?_
              rintro e w54 ⟨rfl, hb⟩
              refine ⟨_, rfl, ?_⟩
              have n0_ := Aside0.mk (blk_below (by exact BK213.out) hb)
              have n1_ := Aside0.mk (blk_below (by exact BK214.out) hb)
              have n2_ := Aside0.mk (blk_below (by exact BK237.out) hb)
              have n3_ := Aside0.mk (below_step (by repeat (first | (with_reducible first | exact HB.out | apply below_alloc | apply pw_below_drewN | apply below_drew1 | refine below_set ?_ GE213.out | refine below_set ?_ GE214.out | refine below_set ?_ GE237.out) | exact HB.out)) hb)
              clear BK213
              clear BK214
              clear BK237
              clear HB
              have BK213 := n0_
              have BK214 := n1_
              have BK237 := n2_
              have HB := n3_
              clear n0_ n1_ n2_ n3_
              (try clear hb)
              (try clear hb2)
              (try clear hk)
              (try clear hi)
              refine hK.out _ _ ⟨(blk_cell BK213.out 0).trans rfl, (blk_cell BK213.out 1).trans rfl, (blk_cell BK213.out 2).trans rfl, (blk_cell BK214.out 0).trans rfl, (blk_cell BK214.out 1).trans rfl, (blk_cell BK214.out 2).trans rfl, (blk_cell BK214.out 3).trans rfl, (blk_cell BK214.out 4).trans rfl, (blk_cell BK214.out 5).trans rfl, (blk_cell BK214.out 6).trans rfl⟩ (fun hHeld => ?_)
              clear hK K
              refine norm_ (a' := ?_) ?_ ?_
              rotate_left
              ·show Act.put _ (some 27) _ = _
               simp only [Act.put, List.setIfInBounds_toArray, List.set_cons_zero, List.set_cons_succ, i64_w, i32_w]
               rfl
              exact norm_ (by first | (simp only [putAll, Act.put, List.setIfInBounds_toArray, List.set_cons_zero, List.set_cons_succ]; done) | (simp only [putAll, Act.put, List.setIfInBounds_toArray, List.set_cons_zero, List.set_cons_succ]; rfl)) (hJ3_8 (gb237) _ ⟨hHeld, (by exact BK213.out), (by exact BK214.out), (by exact BK237.out), GW237.out, GE237.out, NB213_237.out, NB237_213.out, NB214_237.out, NB237_214.out, (by repeat (first | (with_reducible first | exact HB.out | apply below_alloc | apply pw_below_drewN | apply below_drew1 | refine below_set ?_ GE213.out | refine below_set ?_ GE214.out | refine below_set ?_ GE237.out) | exact HB.out))⟩)
             ·skip
              refine box_step ?hg (N := 10) ?hd (cs := #[.int .i64 0, .int .i64 0, .int .i64 0]) (t := 24) ?hr ?_; (case hd => rfl); (case hg => rfl); (case hr => first | (go_simp; done) | (go_simp; rfl))
              intro gb238 hg w54 hbox hb
              have n0_ := Aside0.mk (blk_below (by exact BK213.out) hb)
              have n1_ := Aside0.mk (blk_below (by exact BK214.out) hb)
              have n2_ := Aside0.mk (blk_below (by exact BK237.out) hb)
              have n3_ := Aside0.mk (below_step (by repeat (first | (with_reducible first | exact HB.out | apply below_alloc | apply pw_below_drewN | apply below_drew1 | refine below_set ?_ GE213.out | refine below_set ?_ GE214.out | refine below_set ?_ GE237.out) | exact HB.out)) hb)
              have n4_ := Aside0.mk (hbox)
              have n5_ := Aside0.mk ((by rw [hg]; exact (below_size (by repeat (first | (with_reducible first | exact HB.out | apply below_alloc | apply pw_below_drewN | apply below_drew1 | refine below_set ?_ GE213.out | refine below_set ?_ GE214.out | refine below_set ?_ GE237.out) | exact HB.out))) : w.heap.size ≤ gb238))
              have n6_ := Aside0.mk ((by rw [hg]; exact (below_size (by repeat (first | (with_reducible first | exact HB.out | apply below_alloc | apply pw_below_drewN | apply below_drew1 | refine below_set ?_ GE213.out | refine below_set ?_ GE214.out | refine below_set ?_ GE237.out) | exact HB.out))) : w.heap.size ≤ gb238))
              have n7_ := Aside0.mk ((by rw [hg]; exact Nat.ne_of_lt (blk_lt (by exact BK213.out)) : gb213 ≠ gb238))
              have n8_ := Aside0.mk ((by rw [hg]; exact Nat.ne_of_gt (blk_lt (by exact BK213.out)) : gb238 ≠ gb213))
              have n9_ := Aside0.mk ((by rw [hg]; exact Nat.ne_of_lt (blk_lt (by exact BK214.out)) : gb214 ≠ gb238))
              have n10_ := Aside0.mk ((by rw [hg]; exact Nat.ne_of_gt (blk_lt (by exact BK214.out)) : gb238 ≠ gb214))
              have n11_ := Aside0.mk ((by rw [hg]; exact Nat.ne_of_lt (blk_lt (by exact BK237.out)) : gb237 ≠ gb238))
              have n12_ := Aside0.mk ((by rw [hg]; exact Nat.ne_of_gt (blk_lt (by exact BK237.out)) : gb238 ≠ gb237))
              clear BK213
              clear BK214
              clear BK237
              clear HB
              have BK213 := n0_
              have BK214 := n1_
              have BK237 := n2_
              have HB := n3_
              have BK238 := n4_
              have GW238 := n5_
              have GE238 := n6_
              have NB213_238 := n7_
              have NB238_213 := n8_
              have NB214_238 := n9_
              have NB238_214 := n10_
              have NB237_238 := n11_
              have NB238_237 := n12_
              clear n0_ n1_ n2_ n3_ n4_ n5_ n6_ n7_ n8_ n9_ n10_ n11_ n12_
              clear hb hbox hg
              refine hK.out _ _ ⟨(blk_cell BK213.out 0).trans rfl, (blk_cell BK213.out 1).trans rfl, (blk_cell BK213.out 2).trans rfl, (blk_cell BK214.out 0).trans rfl, (blk_cell BK214.out 1).trans rfl, (blk_cell BK214.out 2).trans rfl, (blk_cell BK214.out 3).trans rfl, (blk_cell BK214.out 4).trans rfl, (blk_cell BK214.out 5).trans rfl, (blk_cell BK214.out 6).trans rfl⟩ (fun hHeld => ?_)
              clear hK K
              refine norm_ (a' := ?_) ?_ ?_
              rotate_left
              ·show Act.put _ (some 10) _ = _
               simp only [Act.put, List.setIfInBounds_toArray, List.set_cons_zero, List.set_cons_succ, i64_w, i32_w]
               rfl
              exact norm_ (by first | (simp only [putAll, Act.put, List.setIfInBounds_toArray, List.set_cons_zero, List.set_cons_succ]; done) | (simp only [putAll, Act.put, List.setIfInBounds_toArray, List.set_cons_zero, List.set_cons_succ]; rfl)) (hJ8_9 (gb237, gb238) _ ⟨hHeld, (by exact BK213.out), (by exact BK214.out), (by exact BK237.out), (by exact BK238.out), GW237.out, GE237.out, NB213_237.out, NB237_213.out, NB214_237.out, NB237_214.out, NB238_237.out, NB237_238.out, GW238.out, GE238.out, NB213_238.out, NB238_213.out, NB214_238.out, NB238_214.out, (by repeat (first | (with_reducible first | exact HB.out | apply below_alloc | apply pw_below_drewN | apply below_drew1 | refine below_set ?_ GE213.out | refine below_set ?_ GE214.out | refine below_set ?_ GE237.out | refine below_set ?_ GE238.out) | exact HB.out))⟩)
           ·skip
            rintro _ w53 ⟨hS_, h0_, h1_, h2_⟩
            have n0_ : Aside0 (w53.heap[gb213]? = some (.cells #[.int .i64 ji8, .int .i64 a0_1, .int .i64 a0_2] 24 (0, 0))) := ⟨h0_⟩
            have n1_ : Aside0 (w53.heap[gb214]? = some (.cells #[.int .i64 t216, .int .i64 t217, .int .i64 t218, .int .i64 t219, .int .i64 t220, .int .i64 t221, .int .i64 t222] 26 (0, 0))) := ⟨h1_⟩
            have n2_ : Aside0 (Below w.heap.size w w53) := ⟨h2_⟩
            clear BK213
            clear BK214
            clear HB
            clear h0_ h1_ h2_
            have BK213 := n0_
            have BK214 := n1_
            have HB := n2_
            clear n0_ n1_ n2_
            have hHeld : w53.cell? ⟨gb213, 0, none⟩ = some (.int .i64 ji8) ∧ w53.cell? ⟨gb213, 1, none⟩ = some (.int .i64 a0_1) ∧ w53.cell? ⟨gb213, 2, none⟩ = some (.int .i64 a0_2) ∧ w53.cell? ⟨gb214, 0, none⟩ = some (.int .i64 t216) ∧ w53.cell? ⟨gb214, 1, none⟩ = some (.int .i64 t217) ∧ w53.cell? ⟨gb214, 2, none⟩ = some (.int .i64 t218) ∧ w53.cell? ⟨gb214, 3, none⟩ = some (.int .i64 t219) ∧ w53.cell? ⟨gb214, 4, none⟩ = some (.int .i64 t220) ∧ w53.cell? ⟨gb214, 5, none⟩ = some (.int .i64 t221) ∧ w53.cell? ⟨gb214, 6, none⟩ = some (.int .i64 t222) := hS_
            refine norm_ (a' := ?_) ?_ ?_
            rotate_left
            ·simp only [putAll, Act.put, List.setIfInBounds_toArray, List.set_cons_zero, List.set_cons_succ]
             rfl
            refine three_ (i := 7) (j := 8) (k := 9) (Ni := some 31) (Nj := some 9) (Nk := some 10) #[true, true, true, true, true, true, true, true, false, false, false, false] #[true, true, true, true, true, true, true, false, true, false, false, false] #[true, true, true, true, true, true, true, false, false, true, false, false] rfl rfl rfl rfl rfl rfl (three_of HT_.out (by kernel_rfl)) (by decide) (by decide) (by decide) (fun K hK => ?_) (fun K hK => ?_) (fun K hK => ?_)
            ·skip
             refine goes_ Try.func11 (by kernel_rfl) rfl #[.agg #[.int .i64 ji8, .int .i64 a0_1, .int .i64 a0_2], .agg #[.int .i64 t216, .int .i64 t217, .int .i64 t218, .int .i64 t219, .int .i64 t220, .int .i64 t221, .int .i64 t222], .int .i64 a3] (by rfl) rfl rfl (by (try simp only [List.map_toArray, List.map_cons, List.map_nil]); first | done | (simp only [hji8]; rfl) | rfl | (simp only [List.length_drop, List.length_take]; rfl)) ?_
             with_reducible refine (pid_State_Sample.calls k ji8 a0_1 a0_2 t216 t217 t218 t219 t220 t221 t222 a3 t234 t235 t236 _ A41.out).mono ?_
             rintro e w54 ⟨rfl, hb⟩
             refine ⟨_, rfl, ?_⟩
             have n0_ := Aside0.mk (blk_below (by exact BK213.out) hb)
             have n1_ := Aside0.mk (blk_below (by exact BK214.out) hb)
             have n2_ := Aside0.mk (below_step (by repeat (first | (with_reducible first | exact HB.out | apply below_alloc | apply pw_below_drewN | apply below_drew1 | refine below_set ?_ GE213.out | refine below_set ?_ GE214.out) | exact HB.out)) hb)
             clear BK213
             clear BK214
             clear HB
             have BK213 := n0_
             have BK214 := n1_
             have HB := n2_
             clear n0_ n1_ n2_
             (try clear hb)
             (try clear hb2)
             (try clear hk)
             (try clear hi)
             refine hK.out _ _ ⟨(blk_cell BK213.out 0).trans rfl, (blk_cell BK213.out 1).trans rfl, (blk_cell BK213.out 2).trans rfl, (blk_cell BK214.out 0).trans rfl, (blk_cell BK214.out 1).trans rfl, (blk_cell BK214.out 2).trans rfl, (blk_cell BK214.out 3).trans rfl, (blk_cell BK214.out 4).trans rfl, (blk_cell BK214.out 5).trans rfl, (blk_cell BK214.out 6).trans rfl⟩ (fun hHeld => ?_)
             clear hK K
             refine norm_ (a' := ?_) ?_ ?_
             rotate_left
             ·show Act.put _ (some 31) _ = _
              simp only [Act.put, List.setIfInBounds_toArray, List.set_cons_zero, List.set_cons_succ, i64_w, i32_w]
              rfl
             exact norm_ (by first | (simp only [putAll, Act.put, List.setIfInBounds_toArray, List.set_cons_zero, List.set_cons_succ]; done) | (simp only [putAll, Act.put, List.setIfInBounds_toArray, List.set_cons_zero, List.set_cons_succ]; rfl)) (hJ3_7 () _ ⟨hHeld, (by exact BK213.out), (by exact BK214.out), (by repeat (first | (with_reducible first | exact HB.out | apply below_alloc | apply pw_below_drewN | apply below_drew1 | refine below_set ?_ GE213.out | refine below_set ?_ GE214.out) | exact HB.out))⟩)
            ·skip
             refine box_step ?hg (N := 9) ?hd (cs := #[.int .i64 0, .int .i64 0, .int .i64 0]) (t := 24) ?hr ?_; (case hd => rfl); (case hg => rfl); (case hr => first | (go_simp; done) | (go_simp; rfl))
             intro gb237 hg w54 hbox hb
             have n0_ := Aside0.mk (blk_below (by exact BK213.out) hb)
             have n1_ := Aside0.mk (blk_below (by exact BK214.out) hb)
             have n2_ := Aside0.mk (below_step (by repeat (first | (with_reducible first | exact HB.out | apply below_alloc | apply pw_below_drewN | apply below_drew1 | refine below_set ?_ GE213.out | refine below_set ?_ GE214.out) | exact HB.out)) hb)
             have n3_ := Aside0.mk (hbox)
             have n4_ := Aside0.mk ((by rw [hg]; exact (below_size (by repeat (first | (with_reducible first | exact HB.out | apply below_alloc | apply pw_below_drewN | apply below_drew1 | refine below_set ?_ GE213.out | refine below_set ?_ GE214.out) | exact HB.out))) : w.heap.size ≤ gb237))
             have n5_ := Aside0.mk ((by rw [hg]; exact (below_size (by repeat (first | (with_reducible first | exact HB.out | apply below_alloc | apply pw_below_drewN | apply below_drew1 | refine below_set ?_ GE213.out | refine below_set ?_ GE214.out) | exact HB.out))) : w.heap.size ≤ gb237))
             have n6_ := Aside0.mk ((by rw [hg]; exact Nat.ne_of_lt (blk_lt (by exact BK213.out)) : gb213 ≠ gb237))
             have n7_ := Aside0.mk ((by rw [hg]; exact Nat.ne_of_gt (blk_lt (by exact BK213.out)) : gb237 ≠ gb213))
             have n8_ := Aside0.mk ((by rw [hg]; exact Nat.ne_of_lt (blk_lt (by exact BK214.out)) : gb214 ≠ gb237))
             have n9_ := Aside0.mk ((by rw [hg]; exact Nat.ne_of_gt (blk_lt (by exact BK214.out)) : gb237 ≠ gb214))
             clear BK213
             clear BK214
             clear HB
             have BK213 := n0_
             have BK214 := n1_
             have HB := n2_
             have BK237 := n3_
             have GW237 := n4_
             have GE237 := n5_
             have NB213_237 := n6_
             have NB237_213 := n7_
             have NB214_237 := n8_
             have NB237_214 := n9_
             clear n0_ n1_ n2_ n3_ n4_ n5_ n6_ n7_ n8_ n9_
             clear hb hbox hg
             refine hK.out _ _ ⟨(blk_cell BK213.out 0).trans rfl, (blk_cell BK213.out 1).trans rfl, (blk_cell BK213.out 2).trans rfl, (blk_cell BK214.out 0).trans rfl, (blk_cell BK214.out 1).trans rfl, (blk_cell BK214.out 2).trans rfl, (blk_cell BK214.out 3).trans rfl, (blk_cell BK214.out 4).trans rfl, (blk_cell BK214.out 5).trans rfl, (blk_cell BK214.out 6).trans rfl⟩ (fun hHeld => ?_)
             clear hK K
             refine norm_ (a' := ?_) ?_ ?_
             rotate_left
             ·show Act.put _ (some 9) _ = _
              simp only [Act.put, List.setIfInBounds_toArray, List.set_cons_zero, List.set_cons_succ, i64_w, i32_w]
              rfl
             exact norm_ (by first | (simp only [putAll, Act.put, List.setIfInBounds_toArray, List.set_cons_zero, List.set_cons_succ]; done) | (simp only [putAll, Act.put, List.setIfInBounds_toArray, List.set_cons_zero, List.set_cons_succ]; rfl)) (hJ3_8 (gb237) _ ⟨hHeld, (by exact BK213.out), (by exact BK214.out), (by exact BK237.out), GW237.out, GE237.out, NB213_237.out, NB237_213.out, NB214_237.out, NB237_214.out, (by repeat (first | (with_reducible first | exact HB.out | apply below_alloc | apply pw_below_drewN | apply below_drew1 | refine below_set ?_ GE213.out | refine below_set ?_ GE214.out | refine below_set ?_ GE237.out) | exact HB.out))⟩)
            ·skip
             refine box_step ?hg (N := 10) ?hd (cs := #[.int .i64 0, .int .i64 0, .int .i64 0]) (t := 24) ?hr ?_; (case hd => rfl); (case hg => rfl); (case hr => first | (go_simp; done) | (go_simp; rfl))
             intro gb238 hg w54 hbox hb
             have n0_ := Aside0.mk (blk_below (by exact BK213.out) hb)
             have n1_ := Aside0.mk (blk_below (by exact BK214.out) hb)
             have n2_ := Aside0.mk (below_step (by repeat (first | (with_reducible first | exact HB.out | apply below_alloc | apply pw_below_drewN | apply below_drew1 | refine below_set ?_ GE213.out | refine below_set ?_ GE214.out) | exact HB.out)) hb)
             have n3_ := Aside0.mk (hbox)
             have n4_ := Aside0.mk ((by rw [hg]; exact (below_size (by repeat (first | (with_reducible first | exact HB.out | apply below_alloc | apply pw_below_drewN | apply below_drew1 | refine below_set ?_ GE213.out | refine below_set ?_ GE214.out) | exact HB.out))) : w.heap.size ≤ gb238))
             have n5_ := Aside0.mk ((by rw [hg]; exact (below_size (by repeat (first | (with_reducible first | exact HB.out | apply below_alloc | apply pw_below_drewN | apply below_drew1 | refine below_set ?_ GE213.out | refine below_set ?_ GE214.out) | exact HB.out))) : w.heap.size ≤ gb238))
             have n6_ := Aside0.mk ((by rw [hg]; exact Nat.ne_of_lt (blk_lt (by exact BK213.out)) : gb213 ≠ gb238))
             have n7_ := Aside0.mk ((by rw [hg]; exact Nat.ne_of_gt (blk_lt (by exact BK213.out)) : gb238 ≠ gb213))
             have n8_ := Aside0.mk ((by rw [hg]; exact Nat.ne_of_lt (blk_lt (by exact BK214.out)) : gb214 ≠ gb238))
             have n9_ := Aside0.mk ((by rw [hg]; exact Nat.ne_of_gt (blk_lt (by exact BK214.out)) : gb238 ≠ gb214))
             clear BK213
             clear BK214
             clear HB
             have BK213 := n0_
             have BK214 := n1_
             have HB := n2_
             have BK238 := n3_
             have GW238 := n4_
             have GE238 := n5_
             have NB213_238 := n6_
             have NB238_213 := n7_
             have NB214_238 := n8_
             have NB238_214 := n9_
             clear n0_ n1_ n2_ n3_ n4_ n5_ n6_ n7_ n8_ n9_
             clear hb hbox hg
             refine hK.out _ _ ⟨(blk_cell BK213.out 0).trans rfl, (blk_cell BK213.out 1).trans rfl, (blk_cell BK213.out 2).trans rfl, (blk_cell BK214.out 0).trans rfl, (blk_cell BK214.out 1).trans rfl, (blk_cell BK214.out 2).trans rfl, (blk_cell BK214.out 3).trans rfl, (blk_cell BK214.out 4).trans rfl, (blk_cell BK214.out 5).trans rfl, (blk_cell BK214.out 6).trans rfl⟩ (fun hHeld => ?_)
             clear hK K
             refine norm_ (a' := ?_) ?_ ?_
             rotate_left
             ·show Act.put _ (some 10) _ = _
              simp only [Act.put, List.setIfInBounds_toArray, List.set_cons_zero, List.set_cons_succ, i64_w, i32_w]
              rfl
             exact norm_ (by first | (simp only [putAll, Act.put, List.setIfInBounds_toArray, List.set_cons_zero, List.set_cons_succ]; done) | (simp only [putAll, Act.put, List.setIfInBounds_toArray, List.set_cons_zero, List.set_cons_succ]; rfl)) (hJ3_9 (gb238) _ ⟨hHeld, (by exact BK213.out), (by exact BK214.out), (by exact BK238.out), GW238.out, GE238.out, NB213_238.out, NB238_213.out, NB214_238.out, NB238_214.out, (by repeat (first | (with_reducible first | exact HB.out | apply below_alloc | apply pw_below_drewN | apply below_drew1 | refine below_set ?_ GE213.out | refine below_set ?_ GE214.out | refine below_set ?_ GE238.out) | exact HB.out))⟩)
          ·skip
           rintro ⟨gb237, gb238⟩ w54 ⟨hS_, h0_, h1_, h2_, h3_, h4_, h5_, h6_, h7_, h8_, h9_, h10_, h11_, h12_, h13_, h14_, h15_, h16_, h17_, h18_⟩
           have n0_ : Aside0 (w54.heap[gb213]? = some (.cells #[.int .i64 ji8, .int .i64 a0_1, .int .i64 a0_2] 24 (0, 0))) := ⟨h0_⟩
           have n1_ : Aside0 (w54.heap[gb214]? = some (.cells #[.int .i64 t216, .int .i64 t217, .int .i64 t218, .int .i64 t219, .int .i64 t220, .int .i64 t221, .int .i64 t222] 26 (0, 0))) := ⟨h1_⟩
           have n2_ : Aside0 (w54.heap[gb237]? = some (.cells #[.int .i64 0, .int .i64 0, .int .i64 0] 24 (0, 0))) := ⟨h2_⟩
           have n3_ : Aside0 (w54.heap[gb238]? = some (.cells #[.int .i64 0, .int .i64 0, .int .i64 0] 24 (0, 0))) := ⟨h3_⟩
           have n4_ : Aside0 (w.heap.size ≤ gb237) := ⟨h4_⟩
           have n5_ : Aside0 (w.heap.size ≤ gb237) := ⟨h5_⟩
           have n6_ : Aside0 (gb213 ≠ gb237) := ⟨h6_⟩
           have n7_ : Aside0 (gb237 ≠ gb213) := ⟨h7_⟩
           have n8_ : Aside0 (gb214 ≠ gb237) := ⟨h8_⟩
           have n9_ : Aside0 (gb237 ≠ gb214) := ⟨h9_⟩
           have n10_ : Aside0 (gb238 ≠ gb237) := ⟨h10_⟩
           have n11_ : Aside0 (gb237 ≠ gb238) := ⟨h11_⟩
           have n12_ : Aside0 (w.heap.size ≤ gb238) := ⟨h12_⟩
           have n13_ : Aside0 (w.heap.size ≤ gb238) := ⟨h13_⟩
           have n14_ : Aside0 (gb213 ≠ gb238) := ⟨h14_⟩
           have n15_ : Aside0 (gb238 ≠ gb213) := ⟨h15_⟩
           have n16_ : Aside0 (gb214 ≠ gb238) := ⟨h16_⟩
           have n17_ : Aside0 (gb238 ≠ gb214) := ⟨h17_⟩
           have n18_ : Aside0 (Below w.heap.size w w54) := ⟨h18_⟩
           clear BK213
           clear BK214
           clear HB
           clear h0_ h1_ h2_ h3_ h4_ h5_ h6_ h7_ h8_ h9_ h10_ h11_ h12_ h13_ h14_ h15_ h16_ h17_ h18_
           have BK213 := n0_
           have BK214 := n1_
           have BK237 := n2_
           have BK238 := n3_
           have GW237 := n4_
           have GE237 := n5_
           have NB213_237 := n6_
           have NB237_213 := n7_
           have NB214_237 := n8_
           have NB237_214 := n9_
           have NB238_237 := n10_
           have NB237_238 := n11_
           have GW238 := n12_
           have GE238 := n13_
           have NB213_238 := n14_
           have NB238_213 := n15_
           have NB214_238 := n16_
           have NB238_214 := n17_
           have HB := n18_
           clear n0_ n1_ n2_ n3_ n4_ n5_ n6_ n7_ n8_ n9_ n10_ n11_ n12_ n13_ n14_ n15_ n16_ n17_ n18_
           have hHeld : w54.cell? ⟨gb213, 0, none⟩ = some (.int .i64 ji8) ∧ w54.cell? ⟨gb213, 1, none⟩ = some (.int .i64 a0_1) ∧ w54.cell? ⟨gb213, 2, none⟩ = some (.int .i64 a0_2) ∧ w54.cell? ⟨gb214, 0, none⟩ = some (.int .i64 t216) ∧ w54.cell? ⟨gb214, 1, none⟩ = some (.int .i64 t217) ∧ w54.cell? ⟨gb214, 2, none⟩ = some (.int .i64 t218) ∧ w54.cell? ⟨gb214, 3, none⟩ = some (.int .i64 t219) ∧ w54.cell? ⟨gb214, 4, none⟩ = some (.int .i64 t220) ∧ w54.cell? ⟨gb214, 5, none⟩ = some (.int .i64 t221) ∧ w54.cell? ⟨gb214, 6, none⟩ = some (.int .i64 t222) := hS_
           refine norm_ (a' := ?_) ?_ ?_
           rotate_left
           ·simp only [putAll, Act.put, List.setIfInBounds_toArray, List.set_cons_zero, List.set_cons_succ]
            rfl
           refine one_ (i := 3) (N := some 27) #[true, true, true, true, true, true, true, false, true, true, false, false] rfl rfl (one_of HT_.out (by kernel_rfl)) (by decide) (fun K hK => ?_)
           refine goes_ Try.func11 (by kernel_rfl) rfl #[.agg #[.int .i64 ji8, .int .i64 a0_1, .int .i64 a0_2], .agg #[.int .i64 t216, .int .i64 t217, .int .i64 t218, .int .i64 t219, .int .i64 t220, .int .i64 t221, .int .i64 t222], .int .i64 a2] (by rfl) rfl rfl (by (try simp only [List.map_toArray, List.map_cons, List.map_nil]); first | done | (simp only [hji8]; rfl) | rfl | (simp only [List.length_drop, List.length_take]; rfl)) ?_
           with_reducible refine (pid_State_Sample.calls k ji8 a0_1 a0_2 t216 t217 t218 t219 t220 t221 t222 a2 t231 t232 t233 _ A40.out).mono ?_
           rintro e w55 ⟨rfl, hb⟩
           refine ⟨_, rfl, ?_⟩
           have n0_ := Aside0.mk (blk_below (by exact BK213.out) hb)
           have n1_ := Aside0.mk (blk_below (by exact BK214.out) hb)
           have n2_ := Aside0.mk (blk_below (by exact BK237.out) hb)
           have n3_ := Aside0.mk (blk_below (by exact BK238.out) hb)
           have n4_ := Aside0.mk (below_step (by repeat (first | (with_reducible first | exact HB.out | apply below_alloc | apply pw_below_drewN | apply below_drew1 | refine below_set ?_ GE213.out | refine below_set ?_ GE214.out | refine below_set ?_ GE237.out | refine below_set ?_ GE238.out) | exact HB.out)) hb)
           clear BK213
           clear BK214
           clear BK237
           clear BK238
           clear HB
           have BK213 := n0_
           have BK214 := n1_
           have BK237 := n2_
           have BK238 := n3_
           have HB := n4_
           clear n0_ n1_ n2_ n3_ n4_
           (try clear hb)
           (try clear hb2)
           (try clear hk)
           (try clear hi)
           refine hK.out _ _ ⟨(blk_cell BK213.out 0).trans rfl, (blk_cell BK213.out 1).trans rfl, (blk_cell BK213.out 2).trans rfl, (blk_cell BK214.out 0).trans rfl, (blk_cell BK214.out 1).trans rfl, (blk_cell BK214.out 2).trans rfl, (blk_cell BK214.out 3).trans rfl, (blk_cell BK214.out 4).trans rfl, (blk_cell BK214.out 5).trans rfl, (blk_cell BK214.out 6).trans rfl⟩ (fun hHeld => ?_)
           clear hK K
           refine norm_ (a' := ?_) ?_ ?_
           rotate_left
           ·show Act.put _ (some 27) _ = _
            simp only [Act.put, List.setIfInBounds_toArray, List.set_cons_zero, List.set_cons_succ, i64_w, i32_w]
            rfl
           exact norm_ (by first | (simp only [putAll, Act.put, List.setIfInBounds_toArray, List.set_cons_zero, List.set_cons_succ]; done) | (simp only [putAll, Act.put, List.setIfInBounds_toArray, List.set_cons_zero, List.set_cons_succ]; rfl)) (hJ3_8_9 (gb237, gb238) _ ⟨hHeld, (by exact BK213.out), (by exact BK214.out), (by exact BK237.out), (by exact BK238.out), GW237.out, GE237.out, NB213_237.out, NB237_213.out, NB214_237.out, NB237_214.out, NB238_237.out, NB237_238.out, GW238.out, GE238.out, NB213_238.out, NB238_213.out, NB214_238.out, NB238_214.out, (by repeat (first | (with_reducible first | exact HB.out | apply below_alloc | apply pw_below_drewN | apply below_drew1 | refine below_set ?_ GE213.out | refine below_set ?_ GE214.out | refine below_set ?_ GE237.out | refine below_set ?_ GE238.out) | exact HB.out))⟩)
         ·skip
          rintro gb238 w54 ⟨hS_, h0_, h1_, h2_, h3_, h4_, h5_, h6_, h7_, h8_, h9_⟩
          have n0_ : Aside0 (w54.heap[gb213]? = some (.cells #[.int .i64 ji8, .int .i64 a0_1, .int .i64 a0_2] 24 (0, 0))) := ⟨h0_⟩
          have n1_ : Aside0 (w54.heap[gb214]? = some (.cells #[.int .i64 t216, .int .i64 t217, .int .i64 t218, .int .i64 t219, .int .i64 t220, .int .i64 t221, .int .i64 t222] 26 (0, 0))) := ⟨h1_⟩
          have n2_ : Aside0 (w54.heap[gb238]? = some (.cells #[.int .i64 0, .int .i64 0, .int .i64 0] 24 (0, 0))) := ⟨h2_⟩
          have n3_ : Aside0 (w.heap.size ≤ gb238) := ⟨h3_⟩
          have n4_ : Aside0 (w.heap.size ≤ gb238) := ⟨h4_⟩
          have n5_ : Aside0 (gb213 ≠ gb238) := ⟨h5_⟩
          have n6_ : Aside0 (gb238 ≠ gb213) := ⟨h6_⟩
          have n7_ : Aside0 (gb214 ≠ gb238) := ⟨h7_⟩
          have n8_ : Aside0 (gb238 ≠ gb214) := ⟨h8_⟩
          have n9_ : Aside0 (Below w.heap.size w w54) := ⟨h9_⟩
          clear BK213
          clear BK214
          clear HB
          clear h0_ h1_ h2_ h3_ h4_ h5_ h6_ h7_ h8_ h9_
          have BK213 := n0_
          have BK214 := n1_
          have BK238 := n2_
          have GW238 := n3_
          have GE238 := n4_
          have NB213_238 := n5_
          have NB238_213 := n6_
          have NB214_238 := n7_
          have NB238_214 := n8_
          have HB := n9_
          clear n0_ n1_ n2_ n3_ n4_ n5_ n6_ n7_ n8_ n9_
          have hHeld : w54.cell? ⟨gb213, 0, none⟩ = some (.int .i64 ji8) ∧ w54.cell? ⟨gb213, 1, none⟩ = some (.int .i64 a0_1) ∧ w54.cell? ⟨gb213, 2, none⟩ = some (.int .i64 a0_2) ∧ w54.cell? ⟨gb214, 0, none⟩ = some (.int .i64 t216) ∧ w54.cell? ⟨gb214, 1, none⟩ = some (.int .i64 t217) ∧ w54.cell? ⟨gb214, 2, none⟩ = some (.int .i64 t218) ∧ w54.cell? ⟨gb214, 3, none⟩ = some (.int .i64 t219) ∧ w54.cell? ⟨gb214, 4, none⟩ = some (.int .i64 t220) ∧ w54.cell? ⟨gb214, 5, none⟩ = some (.int .i64 t221) ∧ w54.cell? ⟨gb214, 6, none⟩ = some (.int .i64 t222) := hS_
          refine norm_ (a' := ?_) ?_ ?_
          rotate_left
          ·simp only [putAll, Act.put, List.setIfInBounds_toArray, List.set_cons_zero, List.set_cons_succ]
           rfl
          refine two_ (i := 7) (j := 8) (Ni := some 31) (Nj := some 9) #[true, true, true, true, true, true, true, true, false, true, false, false] #[true, true, true, true, true, true, true, false, true, true, false, false] rfl rfl rfl rfl (two_of HT_.out (by kernel_rfl)) (by decide) (by decide) (fun K hK => ?_) (fun K hK => ?_)
          ·skip
           refine goes_ Try.func11 (by kernel_rfl) rfl #[.agg #[.int .i64 ji8, .int .i64 a0_1, .int .i64 a0_2], .agg #[.int .i64 t216, .int .i64 t217, .int .i64 t218, .int .i64 t219, .int .i64 t220, .int .i64 t221, .int .i64 t222], .int .i64 a3] (by rfl) rfl rfl (by (try simp only [List.map_toArray, List.map_cons, List.map_nil]); first | done | (simp only [hji8]; rfl) | rfl | (simp only [List.length_drop, List.length_take]; rfl)) ?_
           with_reducible refine (pid_State_Sample.calls k ji8 a0_1 a0_2 t216 t217 t218 t219 t220 t221 t222 a3 t234 t235 t236 _ A41.out).mono ?_
           rintro e w55 ⟨rfl, hb⟩
           refine ⟨_, rfl, ?_⟩
           have n0_ := Aside0.mk (blk_below (by exact BK213.out) hb)
           have n1_ := Aside0.mk (blk_below (by exact BK214.out) hb)
           have n2_ := Aside0.mk (blk_below (by exact BK238.out) hb)
           have n3_ := Aside0.mk (below_step (by repeat (first | (with_reducible first | exact HB.out | apply below_alloc | apply pw_below_drewN | apply below_drew1 | refine below_set ?_ GE213.out | refine below_set ?_ GE214.out | refine below_set ?_ GE238.out) | exact HB.out)) hb)
           clear BK213
           clear BK214
           clear BK238
           clear HB
           have BK213 := n0_
           have BK214 := n1_
           have BK238 := n2_
           have HB := n3_
           clear n0_ n1_ n2_ n3_
           (try clear hb)
           (try clear hb2)
           (try clear hk)
           (try clear hi)
           refine hK.out _ _ ⟨(blk_cell BK213.out 0).trans rfl, (blk_cell BK213.out 1).trans rfl, (blk_cell BK213.out 2).trans rfl, (blk_cell BK214.out 0).trans rfl, (blk_cell BK214.out 1).trans rfl, (blk_cell BK214.out 2).trans rfl, (blk_cell BK214.out 3).trans rfl, (blk_cell BK214.out 4).trans rfl, (blk_cell BK214.out 5).trans rfl, (blk_cell BK214.out 6).trans rfl⟩ (fun hHeld => ?_)
           clear hK K
           refine norm_ (a' := ?_) ?_ ?_
           rotate_left
           ·show Act.put _ (some 31) _ = _
            simp only [Act.put, List.setIfInBounds_toArray, List.set_cons_zero, List.set_cons_succ, i64_w, i32_w]
            rfl
           exact norm_ (by first | (simp only [putAll, Act.put, List.setIfInBounds_toArray, List.set_cons_zero, List.set_cons_succ]; done) | (simp only [putAll, Act.put, List.setIfInBounds_toArray, List.set_cons_zero, List.set_cons_succ]; rfl)) (hJ3_7_9 (gb238) _ ⟨hHeld, (by exact BK213.out), (by exact BK214.out), (by exact BK238.out), GW238.out, GE238.out, NB213_238.out, NB238_213.out, NB214_238.out, NB238_214.out, (by repeat (first | (with_reducible first | exact HB.out | apply below_alloc | apply pw_below_drewN | apply below_drew1 | refine below_set ?_ GE213.out | refine below_set ?_ GE214.out | refine below_set ?_ GE238.out) | exact HB.out))⟩)
          ·skip
           refine box_step ?hg (N := 9) ?hd (cs := #[.int .i64 0, .int .i64 0, .int .i64 0]) (t := 24) ?hr ?_; (case hd => rfl); (case hg => rfl); (case hr => first | (go_simp; done) | (go_simp; rfl))
           intro gb237 hg w55 hbox hb
           have n0_ := Aside0.mk (blk_below (by exact BK213.out) hb)
           have n1_ := Aside0.mk (blk_below (by exact BK214.out) hb)
           have n2_ := Aside0.mk (blk_below (by exact BK238.out) hb)
           have n3_ := Aside0.mk (below_step (by repeat (first | (with_reducible first | exact HB.out | apply below_alloc | apply pw_below_drewN | apply below_drew1 | refine below_set ?_ GE213.out | refine below_set ?_ GE214.out | refine below_set ?_ GE238.out) | exact HB.out)) hb)
           have n4_ := Aside0.mk (hbox)
           have n5_ := Aside0.mk ((by rw [hg]; exact (below_size (by repeat (first | (with_reducible first | exact HB.out | apply below_alloc | apply pw_below_drewN | apply below_drew1 | refine below_set ?_ GE213.out | refine below_set ?_ GE214.out | refine below_set ?_ GE238.out) | exact HB.out))) : w.heap.size ≤ gb237))
           have n6_ := Aside0.mk ((by rw [hg]; exact (below_size (by repeat (first | (with_reducible first | exact HB.out | apply below_alloc | apply pw_below_drewN | apply below_drew1 | refine below_set ?_ GE213.out | refine below_set ?_ GE214.out | refine below_set ?_ GE238.out) | exact HB.out))) : w.heap.size ≤ gb237))
           have n7_ := Aside0.mk ((by rw [hg]; exact Nat.ne_of_lt (blk_lt (by exact BK213.out)) : gb213 ≠ gb237))
           have n8_ := Aside0.mk ((by rw [hg]; exact Nat.ne_of_gt (blk_lt (by exact BK213.out)) : gb237 ≠ gb213))
           have n9_ := Aside0.mk ((by rw [hg]; exact Nat.ne_of_lt (blk_lt (by exact BK214.out)) : gb214 ≠ gb237))
           have n10_ := Aside0.mk ((by rw [hg]; exact Nat.ne_of_gt (blk_lt (by exact BK214.out)) : gb237 ≠ gb214))
           have n11_ := Aside0.mk ((by rw [hg]; exact Nat.ne_of_lt (blk_lt (by exact BK238.out)) : gb238 ≠ gb237))
           have n12_ := Aside0.mk ((by rw [hg]; exact Nat.ne_of_gt (blk_lt (by exact BK238.out)) : gb237 ≠ gb238))
           clear BK213
           clear BK214
           clear BK238
           clear HB
           have BK213 := n0_
           have BK214 := n1_
           have BK238 := n2_
           have HB := n3_
           have BK237 := n4_
           have GW237 := n5_
           have GE237 := n6_
           have NB213_237 := n7_
           have NB237_213 := n8_
           have NB214_237 := n9_
           have NB237_214 := n10_
           have NB238_237 := n11_
           have NB237_238 := n12_
           clear n0_ n1_ n2_ n3_ n4_ n5_ n6_ n7_ n8_ n9_ n10_ n11_ n12_
           clear hb hbox hg
           refine hK.out _ _ ⟨(blk_cell BK213.out 0).trans rfl, (blk_cell BK213.out 1).trans rfl, (blk_cell BK213.out 2).trans rfl, (blk_cell BK214.out 0).trans rfl, (blk_cell BK214.out 1).trans rfl, (blk_cell BK214.out 2).trans rfl, (blk_cell BK214.out 3).trans rfl, (blk_cell BK214.out 4).trans rfl, (blk_cell BK214.out 5).trans rfl, (blk_cell BK214.out 6).trans rfl⟩ (fun hHeld => ?_)
           clear hK K
           refine norm_ (a' := ?_) ?_ ?_
           rotate_left
           ·show Act.put _ (some 9) _ = _
            simp only [Act.put, List.setIfInBounds_toArray, List.set_cons_zero, List.set_cons_succ, i64_w, i32_w]
            rfl
           exact norm_ (by first | (simp only [putAll, Act.put, List.setIfInBounds_toArray, List.set_cons_zero, List.set_cons_succ]; done) | (simp only [putAll, Act.put, List.setIfInBounds_toArray, List.set_cons_zero, List.set_cons_succ]; rfl)) (hJ3_8_9 (gb237, gb238) _ ⟨hHeld, (by exact BK213.out), (by exact BK214.out), (by exact BK237.out), (by exact BK238.out), GW237.out, GE237.out, NB213_237.out, NB237_213.out, NB214_237.out, NB237_214.out, NB238_237.out, NB237_238.out, GW238.out, GE238.out, NB213_238.out, NB238_213.out, NB214_238.out, NB238_214.out, (by repeat (first | (with_reducible first | exact HB.out | apply below_alloc | apply pw_below_drewN | apply below_drew1 | refine below_set ?_ GE213.out | refine below_set ?_ GE214.out | refine below_set ?_ GE238.out | refine below_set ?_ GE237.out) | exact HB.out))⟩)
        ·skip
         rintro gb237 w54 ⟨hS_, h0_, h1_, h2_, h3_, h4_, h5_, h6_, h7_, h8_, h9_⟩
         have n0_ : Aside0 (w54.heap[gb213]? = some (.cells #[.int .i64 ji8, .int .i64 a0_1, .int .i64 a0_2] 24 (0, 0))) := ⟨h0_⟩
         have n1_ : Aside0 (w54.heap[gb214]? = some (.cells #[.int .i64 t216, .int .i64 t217, .int .i64 t218, .int .i64 t219, .int .i64 t220, .int .i64 t221, .int .i64 t222] 26 (0, 0))) := ⟨h1_⟩
         have n2_ : Aside0 (w54.heap[gb237]? = some (.cells #[.int .i64 0, .int .i64 0, .int .i64 0] 24 (0, 0))) := ⟨h2_⟩
         have n3_ : Aside0 (w.heap.size ≤ gb237) := ⟨h3_⟩
         have n4_ : Aside0 (w.heap.size ≤ gb237) := ⟨h4_⟩
         have n5_ : Aside0 (gb213 ≠ gb237) := ⟨h5_⟩
         have n6_ : Aside0 (gb237 ≠ gb213) := ⟨h6_⟩
         have n7_ : Aside0 (gb214 ≠ gb237) := ⟨h7_⟩
         have n8_ : Aside0 (gb237 ≠ gb214) := ⟨h8_⟩
         have n9_ : Aside0 (Below w.heap.size w w54) := ⟨h9_⟩
         clear BK213
         clear BK214
         clear HB
         clear h0_ h1_ h2_ h3_ h4_ h5_ h6_ h7_ h8_ h9_
         have BK213 := n0_
         have BK214 := n1_
         have BK237 := n2_
         have GW237 := n3_
         have GE237 := n4_
         have NB213_237 := n5_
         have NB237_213 := n6_
         have NB214_237 := n7_
         have NB237_214 := n8_
         have HB := n9_
         clear n0_ n1_ n2_ n3_ n4_ n5_ n6_ n7_ n8_ n9_
         have hHeld : w54.cell? ⟨gb213, 0, none⟩ = some (.int .i64 ji8) ∧ w54.cell? ⟨gb213, 1, none⟩ = some (.int .i64 a0_1) ∧ w54.cell? ⟨gb213, 2, none⟩ = some (.int .i64 a0_2) ∧ w54.cell? ⟨gb214, 0, none⟩ = some (.int .i64 t216) ∧ w54.cell? ⟨gb214, 1, none⟩ = some (.int .i64 t217) ∧ w54.cell? ⟨gb214, 2, none⟩ = some (.int .i64 t218) ∧ w54.cell? ⟨gb214, 3, none⟩ = some (.int .i64 t219) ∧ w54.cell? ⟨gb214, 4, none⟩ = some (.int .i64 t220) ∧ w54.cell? ⟨gb214, 5, none⟩ = some (.int .i64 t221) ∧ w54.cell? ⟨gb214, 6, none⟩ = some (.int .i64 t222) := hS_
         refine norm_ (a' := ?_) ?_ ?_
         rotate_left
         ·simp only [putAll, Act.put, List.setIfInBounds_toArray, List.set_cons_zero, List.set_cons_succ]
          rfl
         refine two_ (i := 7) (j := 9) (Ni := some 31) (Nj := some 10) #[true, true, true, true, true, true, true, true, true, false, false, false] #[true, true, true, true, true, true, true, false, true, true, false, false] rfl rfl rfl rfl (two_of HT_.out (by kernel_rfl)) (by decide) (by decide) (fun K hK => ?_) (fun K hK => ?_)
         ·skip
          refine goes_ Try.func11 (by kernel_rfl) rfl #[.agg #[.int .i64 ji8, .int .i64 a0_1, .int .i64 a0_2], .agg #[.int .i64 t216, .int .i64 t217, .int .i64 t218, .int .i64 t219, .int .i64 t220, .int .i64 t221, .int .i64 t222], .int .i64 a3] (by rfl) rfl rfl (by (try simp only [List.map_toArray, List.map_cons, List.map_nil]); first | done | (simp only [hji8]; rfl) | rfl | (simp only [List.length_drop, List.length_take]; rfl)) ?_
          with_reducible refine (pid_State_Sample.calls k ji8 a0_1 a0_2 t216 t217 t218 t219 t220 t221 t222 a3 t234 t235 t236 _ A41.out).mono ?_
          rintro e w55 ⟨rfl, hb⟩
          refine ⟨_, rfl, ?_⟩
          have n0_ := Aside0.mk (blk_below (by exact BK213.out) hb)
          have n1_ := Aside0.mk (blk_below (by exact BK214.out) hb)
          have n2_ := Aside0.mk (blk_below (by exact BK237.out) hb)
          have n3_ := Aside0.mk (below_step (by repeat (first | (with_reducible first | exact HB.out | apply below_alloc | apply pw_below_drewN | apply below_drew1 | refine below_set ?_ GE213.out | refine below_set ?_ GE214.out | refine below_set ?_ GE237.out) | exact HB.out)) hb)
          clear BK213
          clear BK214
          clear BK237
          clear HB
          have BK213 := n0_
          have BK214 := n1_
          have BK237 := n2_
          have HB := n3_
          clear n0_ n1_ n2_ n3_
          (try clear hb)
          (try clear hb2)
          (try clear hk)
          (try clear hi)
          refine hK.out _ _ ⟨(blk_cell BK213.out 0).trans rfl, (blk_cell BK213.out 1).trans rfl, (blk_cell BK213.out 2).trans rfl, (blk_cell BK214.out 0).trans rfl, (blk_cell BK214.out 1).trans rfl, (blk_cell BK214.out 2).trans rfl, (blk_cell BK214.out 3).trans rfl, (blk_cell BK214.out 4).trans rfl, (blk_cell BK214.out 5).trans rfl, (blk_cell BK214.out 6).trans rfl⟩ (fun hHeld => ?_)
          clear hK K
          refine norm_ (a' := ?_) ?_ ?_
          rotate_left
          ·show Act.put _ (some 31) _ = _
           simp only [Act.put, List.setIfInBounds_toArray, List.set_cons_zero, List.set_cons_succ, i64_w, i32_w]
           rfl
          exact norm_ (by first | (simp only [putAll, Act.put, List.setIfInBounds_toArray, List.set_cons_zero, List.set_cons_succ]; done) | (simp only [putAll, Act.put, List.setIfInBounds_toArray, List.set_cons_zero, List.set_cons_succ]; rfl)) (hJ3_7_8 (gb237) _ ⟨hHeld, (by exact BK213.out), (by exact BK214.out), (by exact BK237.out), GW237.out, GE237.out, NB213_237.out, NB237_213.out, NB214_237.out, NB237_214.out, (by repeat (first | (with_reducible first | exact HB.out | apply below_alloc | apply pw_below_drewN | apply below_drew1 | refine below_set ?_ GE213.out | refine below_set ?_ GE214.out | refine below_set ?_ GE237.out) | exact HB.out))⟩)
         ·skip
          refine box_step ?hg (N := 10) ?hd (cs := #[.int .i64 0, .int .i64 0, .int .i64 0]) (t := 24) ?hr ?_; (case hd => rfl); (case hg => rfl); (case hr => first | (go_simp; done) | (go_simp; rfl))
          intro gb238 hg w55 hbox hb
          have n0_ := Aside0.mk (blk_below (by exact BK213.out) hb)
          have n1_ := Aside0.mk (blk_below (by exact BK214.out) hb)
          have n2_ := Aside0.mk (blk_below (by exact BK237.out) hb)
          have n3_ := Aside0.mk (below_step (by repeat (first | (with_reducible first | exact HB.out | apply below_alloc | apply pw_below_drewN | apply below_drew1 | refine below_set ?_ GE213.out | refine below_set ?_ GE214.out | refine below_set ?_ GE237.out) | exact HB.out)) hb)
          have n4_ := Aside0.mk (hbox)
          have n5_ := Aside0.mk ((by rw [hg]; exact (below_size (by repeat (first | (with_reducible first | exact HB.out | apply below_alloc | apply pw_below_drewN | apply below_drew1 | refine below_set ?_ GE213.out | refine below_set ?_ GE214.out | refine below_set ?_ GE237.out) | exact HB.out))) : w.heap.size ≤ gb238))
          have n6_ := Aside0.mk ((by rw [hg]; exact (below_size (by repeat (first | (with_reducible first | exact HB.out | apply below_alloc | apply pw_below_drewN | apply below_drew1 | refine below_set ?_ GE213.out | refine below_set ?_ GE214.out | refine below_set ?_ GE237.out) | exact HB.out))) : w.heap.size ≤ gb238))
          have n7_ := Aside0.mk ((by rw [hg]; exact Nat.ne_of_lt (blk_lt (by exact BK213.out)) : gb213 ≠ gb238))
          have n8_ := Aside0.mk ((by rw [hg]; exact Nat.ne_of_gt (blk_lt (by exact BK213.out)) : gb238 ≠ gb213))
          have n9_ := Aside0.mk ((by rw [hg]; exact Nat.ne_of_lt (blk_lt (by exact BK214.out)) : gb214 ≠ gb238))
          have n10_ := Aside0.mk ((by rw [hg]; exact Nat.ne_of_gt (blk_lt (by exact BK214.out)) : gb238 ≠ gb214))
          have n11_ := Aside0.mk ((by rw [hg]; exact Nat.ne_of_lt (blk_lt (by exact BK237.out)) : gb237 ≠ gb238))
          have n12_ := Aside0.mk ((by rw [hg]; exact Nat.ne_of_gt (blk_lt (by exact BK237.out)) : gb238 ≠ gb237))
          clear BK213
          clear BK214
          clear BK237
          clear HB
          have BK213 := n0_
          have BK214 := n1_
          have BK237 := n2_
          have HB := n3_
          have BK238 := n4_
          have GW238 := n5_
          have GE238 := n6_
          have NB213_238 := n7_
          have NB238_213 := n8_
          have NB214_238 := n9_
          have NB238_214 := n10_
          have NB237_238 := n11_
          have NB238_237 := n12_
          clear n0_ n1_ n2_ n3_ n4_ n5_ n6_ n7_ n8_ n9_ n10_ n11_ n12_
          clear hb hbox hg
          refine hK.out _ _ ⟨(blk_cell BK213.out 0).trans rfl, (blk_cell BK213.out 1).trans rfl, (blk_cell BK213.out 2).trans rfl, (blk_cell BK214.out 0).trans rfl, (blk_cell BK214.out 1).trans rfl, (blk_cell BK214.out 2).trans rfl, (blk_cell BK214.out 3).trans rfl, (blk_cell BK214.out 4).trans rfl, (blk_cell BK214.out 5).trans rfl, (blk_cell BK214.out 6).trans rfl⟩ (fun hHeld => ?_)
          clear hK K
          refine norm_ (a' := ?_) ?_ ?_
          rotate_left
          ·show Act.put _ (some 10) _ = _
           simp only [Act.put, List.setIfInBounds_toArray, List.set_cons_zero, List.set_cons_succ, i64_w, i32_w]
           rfl
          exact norm_ (by first | (simp only [putAll, Act.put, List.setIfInBounds_toArray, List.set_cons_zero, List.set_cons_succ]; done) | (simp only [putAll, Act.put, List.setIfInBounds_toArray, List.set_cons_zero, List.set_cons_succ]; rfl)) (hJ3_8_9 (gb237, gb238) _ ⟨hHeld, (by exact BK213.out), (by exact BK214.out), (by exact BK237.out), (by exact BK238.out), GW237.out, GE237.out, NB213_237.out, NB237_213.out, NB214_237.out, NB237_214.out, NB238_237.out, NB237_238.out, GW238.out, GE238.out, NB213_238.out, NB238_213.out, NB214_238.out, NB238_214.out, (by repeat (first | (with_reducible first | exact HB.out | apply below_alloc | apply pw_below_drewN | apply below_drew1 | refine below_set ?_ GE213.out | refine below_set ?_ GE214.out | refine below_set ?_ GE237.out | refine below_set ?_ GE238.out) | exact HB.out))⟩)
       ·skip
        rintro _ w54 ⟨hS_, h0_, h1_, h2_⟩
        have n0_ : Aside0 (w54.heap[gb213]? = some (.cells #[.int .i64 ji8, .int .i64 a0_1, .int .i64 a0_2] 24 (0, 0))) := ⟨h0_⟩
        have n1_ : Aside0 (w54.heap[gb214]? = some (.cells #[.int .i64 t216, .int .i64 t217, .int .i64 t218, .int .i64 t219, .int .i64 t220, .int .i64 t221, .int .i64 t222] 26 (0, 0))) := ⟨h1_⟩
        have n2_ : Aside0 (Below w.heap.size w w54) := ⟨h2_⟩
        clear BK213
        clear BK214
        clear HB
        clear h0_ h1_ h2_
        have BK213 := n0_
        have BK214 := n1_
        have HB := n2_
        clear n0_ n1_ n2_
        have hHeld : w54.cell? ⟨gb213, 0, none⟩ = some (.int .i64 ji8) ∧ w54.cell? ⟨gb213, 1, none⟩ = some (.int .i64 a0_1) ∧ w54.cell? ⟨gb213, 2, none⟩ = some (.int .i64 a0_2) ∧ w54.cell? ⟨gb214, 0, none⟩ = some (.int .i64 t216) ∧ w54.cell? ⟨gb214, 1, none⟩ = some (.int .i64 t217) ∧ w54.cell? ⟨gb214, 2, none⟩ = some (.int .i64 t218) ∧ w54.cell? ⟨gb214, 3, none⟩ = some (.int .i64 t219) ∧ w54.cell? ⟨gb214, 4, none⟩ = some (.int .i64 t220) ∧ w54.cell? ⟨gb214, 5, none⟩ = some (.int .i64 t221) ∧ w54.cell? ⟨gb214, 6, none⟩ = some (.int .i64 t222) := hS_
        refine norm_ (a' := ?_) ?_ ?_
        rotate_left
        ·simp only [putAll, Act.put, List.setIfInBounds_toArray, List.set_cons_zero, List.set_cons_succ]
         rfl
        refine two_ (i := 8) (j := 9) (Ni := some 9) (Nj := some 10) #[true, true, true, true, true, true, true, true, true, false, false, false] #[true, true, true, true, true, true, true, true, false, true, false, false] rfl rfl rfl rfl (two_of HT_.out (by kernel_rfl)) (by decide) (by decide) (fun K hK => ?_) (fun K hK => ?_)
        ·skip
         refine box_step ?hg (N := 9) ?hd (cs := #[.int .i64 0, .int .i64 0, .int .i64 0]) (t := 24) ?hr ?_; (case hd => rfl); (case hg => rfl); (case hr => first | (go_simp; done) | (go_simp; rfl))
         intro gb237 hg w55 hbox hb
         have n0_ := Aside0.mk (blk_below (by exact BK213.out) hb)
         have n1_ := Aside0.mk (blk_below (by exact BK214.out) hb)
         have n2_ := Aside0.mk (below_step (by repeat (first | (with_reducible first | exact HB.out | apply below_alloc | apply pw_below_drewN | apply below_drew1 | refine below_set ?_ GE213.out | refine below_set ?_ GE214.out) | exact HB.out)) hb)
         have n3_ := Aside0.mk (hbox)
         have n4_ := Aside0.mk ((by rw [hg]; exact (below_size (by repeat (first | (with_reducible first | exact HB.out | apply below_alloc | apply pw_below_drewN | apply below_drew1 | refine below_set ?_ GE213.out | refine below_set ?_ GE214.out) | exact HB.out))) : w.heap.size ≤ gb237))
         have n5_ := Aside0.mk ((by rw [hg]; exact (below_size (by repeat (first | (with_reducible first | exact HB.out | apply below_alloc | apply pw_below_drewN | apply below_drew1 | refine below_set ?_ GE213.out | refine below_set ?_ GE214.out) | exact HB.out))) : w.heap.size ≤ gb237))
         have n6_ := Aside0.mk ((by rw [hg]; exact Nat.ne_of_lt (blk_lt (by exact BK213.out)) : gb213 ≠ gb237))
         have n7_ := Aside0.mk ((by rw [hg]; exact Nat.ne_of_gt (blk_lt (by exact BK213.out)) : gb237 ≠ gb213))
         have n8_ := Aside0.mk ((by rw [hg]; exact Nat.ne_of_lt (blk_lt (by exact BK214.out)) : gb214 ≠ gb237))
         have n9_ := Aside0.mk ((by rw [hg]; exact Nat.ne_of_gt (blk_lt (by exact BK214.out)) : gb237 ≠ gb214))
         clear BK213
         clear BK214
         clear HB
         have BK213 := n0_
         have BK214 := n1_
         have HB := n2_
         have BK237 := n3_
         have GW237 := n4_
         have GE237 := n5_
         have NB213_237 := n6_
         have NB237_213 := n7_
         have NB214_237 := n8_
         have NB237_214 := n9_
         clear n0_ n1_ n2_ n3_ n4_ n5_ n6_ n7_ n8_ n9_
         clear hb hbox hg
         refine hK.out _ _ ⟨(blk_cell BK213.out 0).trans rfl, (blk_cell BK213.out 1).trans rfl, (blk_cell BK213.out 2).trans rfl, (blk_cell BK214.out 0).trans rfl, (blk_cell BK214.out 1).trans rfl, (blk_cell BK214.out 2).trans rfl, (blk_cell BK214.out 3).trans rfl, (blk_cell BK214.out 4).trans rfl, (blk_cell BK214.out 5).trans rfl, (blk_cell BK214.out 6).trans rfl⟩ (fun hHeld => ?_)
         clear hK K
         refine norm_ (a' := ?_) ?_ ?_
         rotate_left
         ·show Act.put _ (some 9) _ = _
          simp only [Act.put, List.setIfInBounds_toArray, List.set_cons_zero, List.set_cons_succ, i64_w, i32_w]
          rfl
         exact norm_ (by first | (simp only [putAll, Act.put, List.setIfInBounds_toArray, List.set_cons_zero, List.set_cons_succ]; done) | (simp only [putAll, Act.put, List.setIfInBounds_toArray, List.set_cons_zero, List.set_cons_succ]; rfl)) (hJ3_7_8 (gb237) _ ⟨hHeld, (by exact BK213.out), (by exact BK214.out), (by exact BK237.out), GW237.out, GE237.out, NB213_237.out, NB237_213.out, NB214_237.out, NB237_214.out, (by repeat (first | (with_reducible first | exact HB.out | apply below_alloc | apply pw_below_drewN | apply below_drew1 | refine below_set ?_ GE213.out | refine below_set ?_ GE214.out | refine below_set ?_ GE237.out) | exact HB.out))⟩)
        ·skip
         refine box_step ?hg (N := 10) ?hd (cs := #[.int .i64 0, .int .i64 0, .int .i64 0]) (t := 24) ?hr ?_; (case hd => rfl); (case hg => rfl); (case hr => first | (go_simp; done) | (go_simp; rfl))
         intro gb238 hg w55 hbox hb
         have n0_ := Aside0.mk (blk_below (by exact BK213.out) hb)
         have n1_ := Aside0.mk (blk_below (by exact BK214.out) hb)
         have n2_ := Aside0.mk (below_step (by repeat (first | (with_reducible first | exact HB.out | apply below_alloc | apply pw_below_drewN | apply below_drew1 | refine below_set ?_ GE213.out | refine below_set ?_ GE214.out) | exact HB.out)) hb)
         have n3_ := Aside0.mk (hbox)
         have n4_ := Aside0.mk ((by rw [hg]; exact (below_size (by repeat (first | (with_reducible first | exact HB.out | apply below_alloc | apply pw_below_drewN | apply below_drew1 | refine below_set ?_ GE213.out | refine below_set ?_ GE214.out) | exact HB.out))) : w.heap.size ≤ gb238))
         have n5_ := Aside0.mk ((by rw [hg]; exact (below_size (by repeat (first | (with_reducible first | exact HB.out | apply below_alloc | apply pw_below_drewN | apply below_drew1 | refine below_set ?_ GE213.out | refine below_set ?_ GE214.out) | exact HB.out))) : w.heap.size ≤ gb238))
         have n6_ := Aside0.mk ((by rw [hg]; exact Nat.ne_of_lt (blk_lt (by exact BK213.out)) : gb213 ≠ gb238))
         have n7_ := Aside0.mk ((by rw [hg]; exact Nat.ne_of_gt (blk_lt (by exact BK213.out)) : gb238 ≠ gb213))
         have n8_ := Aside0.mk ((by rw [hg]; exact Nat.ne_of_lt (blk_lt (by exact BK214.out)) : gb214 ≠ gb238))
         have n9_ := Aside0.mk ((by rw [hg]; exact Nat.ne_of_gt (blk_lt (by exact BK214.out)) : gb238 ≠ gb214))
         clear BK213
         clear BK214
         clear HB
         have BK213 := n0_
         have BK214 := n1_
         have HB := n2_
         have BK238 := n3_
         have GW238 := n4_
         have GE238 := n5_
         have NB213_238 := n6_
         have NB238_213 := n7_
         have NB214_238 := n8_
         have NB238_214 := n9_
         clear n0_ n1_ n2_ n3_ n4_ n5_ n6_ n7_ n8_ n9_
         clear hb hbox hg
         refine hK.out _ _ ⟨(blk_cell BK213.out 0).trans rfl, (blk_cell BK213.out 1).trans rfl, (blk_cell BK213.out 2).trans rfl, (blk_cell BK214.out 0).trans rfl, (blk_cell BK214.out 1).trans rfl, (blk_cell BK214.out 2).trans rfl, (blk_cell BK214.out 3).trans rfl, (blk_cell BK214.out 4).trans rfl, (blk_cell BK214.out 5).trans rfl, (blk_cell BK214.out 6).trans rfl⟩ (fun hHeld => ?_)
         clear hK K
         refine norm_ (a' := ?_) ?_ ?_
         rotate_left
         ·show Act.put _ (some 10) _ = _
          simp only [Act.put, List.setIfInBounds_toArray, List.set_cons_zero, List.set_cons_succ, i64_w, i32_w]
          rfl
         exact norm_ (by first | (simp only [putAll, Act.put, List.setIfInBounds_toArray, List.set_cons_zero, List.set_cons_succ]; done) | (simp only [putAll, Act.put, List.setIfInBounds_toArray, List.set_cons_zero, List.set_cons_succ]; rfl)) (hJ3_7_9 (gb238) _ ⟨hHeld, (by exact BK213.out), (by exact BK214.out), (by exact BK238.out), GW238.out, GE238.out, NB213_238.out, NB238_213.out, NB214_238.out, NB238_214.out, (by repeat (first | (with_reducible first | exact HB.out | apply below_alloc | apply pw_below_drewN | apply below_drew1 | refine below_set ?_ GE213.out | refine below_set ?_ GE214.out | refine below_set ?_ GE238.out) | exact HB.out))⟩)
      ·skip
       rintro ⟨gb237, gb238⟩ w55 ⟨hS_, h0_, h1_, h2_, h3_, h4_, h5_, h6_, h7_, h8_, h9_, h10_, h11_, h12_, h13_, h14_, h15_, h16_, h17_, h18_⟩
       have n0_ : Aside0 (w55.heap[gb213]? = some (.cells #[.int .i64 ji8, .int .i64 a0_1, .int .i64 a0_2] 24 (0, 0))) := ⟨h0_⟩
       have n1_ : Aside0 (w55.heap[gb214]? = some (.cells #[.int .i64 t216, .int .i64 t217, .int .i64 t218, .int .i64 t219, .int .i64 t220, .int .i64 t221, .int .i64 t222] 26 (0, 0))) := ⟨h1_⟩
       have n2_ : Aside0 (w55.heap[gb237]? = some (.cells #[.int .i64 0, .int .i64 0, .int .i64 0] 24 (0, 0))) := ⟨h2_⟩
       have n3_ : Aside0 (w55.heap[gb238]? = some (.cells #[.int .i64 0, .int .i64 0, .int .i64 0] 24 (0, 0))) := ⟨h3_⟩
       have n4_ : Aside0 (w.heap.size ≤ gb237) := ⟨h4_⟩
       have n5_ : Aside0 (w.heap.size ≤ gb237) := ⟨h5_⟩
       have n6_ : Aside0 (gb213 ≠ gb237) := ⟨h6_⟩
       have n7_ : Aside0 (gb237 ≠ gb213) := ⟨h7_⟩
       have n8_ : Aside0 (gb214 ≠ gb237) := ⟨h8_⟩
       have n9_ : Aside0 (gb237 ≠ gb214) := ⟨h9_⟩
       have n10_ : Aside0 (gb238 ≠ gb237) := ⟨h10_⟩
       have n11_ : Aside0 (gb237 ≠ gb238) := ⟨h11_⟩
       have n12_ : Aside0 (w.heap.size ≤ gb238) := ⟨h12_⟩
       have n13_ : Aside0 (w.heap.size ≤ gb238) := ⟨h13_⟩
       have n14_ : Aside0 (gb213 ≠ gb238) := ⟨h14_⟩
       have n15_ : Aside0 (gb238 ≠ gb213) := ⟨h15_⟩
       have n16_ : Aside0 (gb214 ≠ gb238) := ⟨h16_⟩
       have n17_ : Aside0 (gb238 ≠ gb214) := ⟨h17_⟩
       have n18_ : Aside0 (Below w.heap.size w w55) := ⟨h18_⟩
       clear BK213
       clear BK214
       clear HB
       clear h0_ h1_ h2_ h3_ h4_ h5_ h6_ h7_ h8_ h9_ h10_ h11_ h12_ h13_ h14_ h15_ h16_ h17_ h18_
       have BK213 := n0_
       have BK214 := n1_
       have BK237 := n2_
       have BK238 := n3_
       have GW237 := n4_
       have GE237 := n5_
       have NB213_237 := n6_
       have NB237_213 := n7_
       have NB214_237 := n8_
       have NB237_214 := n9_
       have NB238_237 := n10_
       have NB237_238 := n11_
       have GW238 := n12_
       have GE238 := n13_
       have NB213_238 := n14_
       have NB238_213 := n15_
       have NB214_238 := n16_
       have NB238_214 := n17_
       have HB := n18_
       clear n0_ n1_ n2_ n3_ n4_ n5_ n6_ n7_ n8_ n9_ n10_ n11_ n12_ n13_ n14_ n15_ n16_ n17_ n18_
       have hHeld : w55.cell? ⟨gb213, 0, none⟩ = some (.int .i64 ji8) ∧ w55.cell? ⟨gb213, 1, none⟩ = some (.int .i64 a0_1) ∧ w55.cell? ⟨gb213, 2, none⟩ = some (.int .i64 a0_2) ∧ w55.cell? ⟨gb214, 0, none⟩ = some (.int .i64 t216) ∧ w55.cell? ⟨gb214, 1, none⟩ = some (.int .i64 t217) ∧ w55.cell? ⟨gb214, 2, none⟩ = some (.int .i64 t218) ∧ w55.cell? ⟨gb214, 3, none⟩ = some (.int .i64 t219) ∧ w55.cell? ⟨gb214, 4, none⟩ = some (.int .i64 t220) ∧ w55.cell? ⟨gb214, 5, none⟩ = some (.int .i64 t221) ∧ w55.cell? ⟨gb214, 6, none⟩ = some (.int .i64 t222) := hS_
       refine norm_ (a' := ?_) ?_ ?_
       rotate_left
       ·simp only [putAll, Act.put, List.setIfInBounds_toArray, List.set_cons_zero, List.set_cons_succ]
        rfl
       refine one_ (i := 7) (N := some 31) #[true, true, true, true, true, true, true, true, true, true, false, false] rfl rfl (one_of HT_.out (by kernel_rfl)) (by decide) (fun K hK => ?_)
       refine goes_ Try.func11 (by kernel_rfl) rfl #[.agg #[.int .i64 ji8, .int .i64 a0_1, .int .i64 a0_2], .agg #[.int .i64 t216, .int .i64 t217, .int .i64 t218, .int .i64 t219, .int .i64 t220, .int .i64 t221, .int .i64 t222], .int .i64 a3] (by rfl) rfl rfl (by (try simp only [List.map_toArray, List.map_cons, List.map_nil]); first | done | (simp only [hji8]; rfl) | rfl | (simp only [List.length_drop, List.length_take]; rfl)) ?_
       with_reducible refine (pid_State_Sample.calls k ji8 a0_1 a0_2 t216 t217 t218 t219 t220 t221 t222 a3 t234 t235 t236 _ A41.out).mono ?_
       rintro e w56 ⟨rfl, hb⟩
       refine ⟨_, rfl, ?_⟩
       have n0_ := Aside0.mk (blk_below (by exact BK213.out) hb)
       have n1_ := Aside0.mk (blk_below (by exact BK214.out) hb)
       have n2_ := Aside0.mk (blk_below (by exact BK237.out) hb)
       have n3_ := Aside0.mk (blk_below (by exact BK238.out) hb)
       have n4_ := Aside0.mk (below_step (by repeat (first | (with_reducible first | exact HB.out | apply below_alloc | apply pw_below_drewN | apply below_drew1 | refine below_set ?_ GE213.out | refine below_set ?_ GE214.out | refine below_set ?_ GE237.out | refine below_set ?_ GE238.out) | exact HB.out)) hb)
       clear BK213
       clear BK214
       clear BK237
       clear BK238
       clear HB
       have BK213 := n0_
       have BK214 := n1_
       have BK237 := n2_
       have BK238 := n3_
       have HB := n4_
       clear n0_ n1_ n2_ n3_ n4_
       (try clear hb)
       (try clear hb2)
       (try clear hk)
       (try clear hi)
       refine hK.out _ _ ⟨(blk_cell BK213.out 0).trans rfl, (blk_cell BK213.out 1).trans rfl, (blk_cell BK213.out 2).trans rfl, (blk_cell BK214.out 0).trans rfl, (blk_cell BK214.out 1).trans rfl, (blk_cell BK214.out 2).trans rfl, (blk_cell BK214.out 3).trans rfl, (blk_cell BK214.out 4).trans rfl, (blk_cell BK214.out 5).trans rfl, (blk_cell BK214.out 6).trans rfl⟩ (fun hHeld => ?_)
       clear hK K
       refine norm_ (a' := ?_) ?_ ?_
       rotate_left
       ·show Act.put _ (some 31) _ = _
        simp only [Act.put, List.setIfInBounds_toArray, List.set_cons_zero, List.set_cons_succ, i64_w, i32_w]
        rfl
       exact norm_ (by first | (simp only [putAll, Act.put, List.setIfInBounds_toArray, List.set_cons_zero, List.set_cons_succ]; done) | (simp only [putAll, Act.put, List.setIfInBounds_toArray, List.set_cons_zero, List.set_cons_succ]; rfl)) (hJ3_7_8_9 (gb237, gb238) _ ⟨hHeld, (by exact BK213.out), (by exact BK214.out), (by exact BK237.out), (by exact BK238.out), GW237.out, GE237.out, NB213_237.out, NB237_213.out, NB214_237.out, NB237_214.out, NB238_237.out, NB237_238.out, GW238.out, GE238.out, NB213_238.out, NB238_213.out, NB214_238.out, NB238_214.out, (by repeat (first | (with_reducible first | exact HB.out | apply below_alloc | apply pw_below_drewN | apply below_drew1 | refine below_set ?_ GE213.out | refine below_set ?_ GE214.out | refine below_set ?_ GE237.out | refine below_set ?_ GE238.out) | exact HB.out))⟩)
     ·skip
      rintro gb238 w55 ⟨hS_, h0_, h1_, h2_, h3_, h4_, h5_, h6_, h7_, h8_, h9_⟩
      have n0_ : Aside0 (w55.heap[gb213]? = some (.cells #[.int .i64 ji8, .int .i64 a0_1, .int .i64 a0_2] 24 (0, 0))) := ⟨h0_⟩
      have n1_ : Aside0 (w55.heap[gb214]? = some (.cells #[.int .i64 t216, .int .i64 t217, .int .i64 t218, .int .i64 t219, .int .i64 t220, .int .i64 t221, .int .i64 t222] 26 (0, 0))) := ⟨h1_⟩
      have n2_ : Aside0 (w55.heap[gb238]? = some (.cells #[.int .i64 0, .int .i64 0, .int .i64 0] 24 (0, 0))) := ⟨h2_⟩
      have n3_ : Aside0 (w.heap.size ≤ gb238) := ⟨h3_⟩
      have n4_ : Aside0 (w.heap.size ≤ gb238) := ⟨h4_⟩
      have n5_ : Aside0 (gb213 ≠ gb238) := ⟨h5_⟩
      have n6_ : Aside0 (gb238 ≠ gb213) := ⟨h6_⟩
      have n7_ : Aside0 (gb214 ≠ gb238) := ⟨h7_⟩
      have n8_ : Aside0 (gb238 ≠ gb214) := ⟨h8_⟩
      have n9_ : Aside0 (Below w.heap.size w w55) := ⟨h9_⟩
      clear BK213
      clear BK214
      clear HB
      clear h0_ h1_ h2_ h3_ h4_ h5_ h6_ h7_ h8_ h9_
      have BK213 := n0_
      have BK214 := n1_
      have BK238 := n2_
      have GW238 := n3_
      have GE238 := n4_
      have NB213_238 := n5_
      have NB238_213 := n6_
      have NB214_238 := n7_
      have NB238_214 := n8_
      have HB := n9_
      clear n0_ n1_ n2_ n3_ n4_ n5_ n6_ n7_ n8_ n9_
      have hHeld : w55.cell? ⟨gb213, 0, none⟩ = some (.int .i64 ji8) ∧ w55.cell? ⟨gb213, 1, none⟩ = some (.int .i64 a0_1) ∧ w55.cell? ⟨gb213, 2, none⟩ = some (.int .i64 a0_2) ∧ w55.cell? ⟨gb214, 0, none⟩ = some (.int .i64 t216) ∧ w55.cell? ⟨gb214, 1, none⟩ = some (.int .i64 t217) ∧ w55.cell? ⟨gb214, 2, none⟩ = some (.int .i64 t218) ∧ w55.cell? ⟨gb214, 3, none⟩ = some (.int .i64 t219) ∧ w55.cell? ⟨gb214, 4, none⟩ = some (.int .i64 t220) ∧ w55.cell? ⟨gb214, 5, none⟩ = some (.int .i64 t221) ∧ w55.cell? ⟨gb214, 6, none⟩ = some (.int .i64 t222) := hS_
      refine norm_ (a' := ?_) ?_ ?_
      rotate_left
      ·simp only [putAll, Act.put, List.setIfInBounds_toArray, List.set_cons_zero, List.set_cons_succ]
       rfl
      refine one_ (i := 8) (N := some 9) #[true, true, true, true, true, true, true, true, true, true, false, false] rfl rfl (one_of HT_.out (by kernel_rfl)) (by decide) (fun K hK => ?_)
      refine box_step ?hg (N := 9) ?hd (cs := #[.int .i64 0, .int .i64 0, .int .i64 0]) (t := 24) ?hr ?_; (case hd => rfl); (case hg => rfl); (case hr => first | (go_simp; done) | (go_simp; rfl))
      intro gb237 hg w56 hbox hb
      have n0_ := Aside0.mk (blk_below (by exact BK213.out) hb)
      have n1_ := Aside0.mk (blk_below (by exact BK214.out) hb)
      have n2_ := Aside0.mk (blk_below (by exact BK238.out) hb)
      have n3_ := Aside0.mk (below_step (by repeat (first | (with_reducible first | exact HB.out | apply below_alloc | apply pw_below_drewN | apply below_drew1 | refine below_set ?_ GE213.out | refine below_set ?_ GE214.out | refine below_set ?_ GE238.out) | exact HB.out)) hb)
      have n4_ := Aside0.mk (hbox)
      have n5_ := Aside0.mk ((by rw [hg]; exact (below_size (by repeat (first | (with_reducible first | exact HB.out | apply below_alloc | apply pw_below_drewN | apply below_drew1 | refine below_set ?_ GE213.out | refine below_set ?_ GE214.out | refine below_set ?_ GE238.out) | exact HB.out))) : w.heap.size ≤ gb237))
      have n6_ := Aside0.mk ((by rw [hg]; exact (below_size (by repeat (first | (with_reducible first | exact HB.out | apply below_alloc | apply pw_below_drewN | apply below_drew1 | refine below_set ?_ GE213.out | refine below_set ?_ GE214.out | refine below_set ?_ GE238.out) | exact HB.out))) : w.heap.size ≤ gb237))
      have n7_ := Aside0.mk ((by rw [hg]; exact Nat.ne_of_lt (blk_lt (by exact BK213.out)) : gb213 ≠ gb237))
      have n8_ := Aside0.mk ((by rw [hg]; exact Nat.ne_of_gt (blk_lt (by exact BK213.out)) : gb237 ≠ gb213))
      have n9_ := Aside0.mk ((by rw [hg]; exact Nat.ne_of_lt (blk_lt (by exact BK214.out)) : gb214 ≠ gb237))
      have n10_ := Aside0.mk ((by rw [hg]; exact Nat.ne_of_gt (blk_lt (by exact BK214.out)) : gb237 ≠ gb214))
      have n11_ := Aside0.mk ((by rw [hg]; exact Nat.ne_of_lt (blk_lt (by exact BK238.out)) : gb238 ≠ gb237))
      have n12_ := Aside0.mk ((by rw [hg]; exact Nat.ne_of_gt (blk_lt (by exact BK238.out)) : gb237 ≠ gb238))
      clear BK213
      clear BK214
      clear BK238
      clear HB
      have BK213 := n0_
      have BK214 := n1_
      have BK238 := n2_
      have HB := n3_
      have BK237 := n4_
      have GW237 := n5_
      have GE237 := n6_
      have NB213_237 := n7_
      have NB237_213 := n8_
      have NB214_237 := n9_
      have NB237_214 := n10_
      have NB238_237 := n11_
      have NB237_238 := n12_
      clear n0_ n1_ n2_ n3_ n4_ n5_ n6_ n7_ n8_ n9_ n10_ n11_ n12_
      clear hb hbox hg
      refine hK.out _ _ ⟨(blk_cell BK213.out 0).trans rfl, (blk_cell BK213.out 1).trans rfl, (blk_cell BK213.out 2).trans rfl, (blk_cell BK214.out 0).trans rfl, (blk_cell BK214.out 1).trans rfl, (blk_cell BK214.out 2).trans rfl, (blk_cell BK214.out 3).trans rfl, (blk_cell BK214.out 4).trans rfl, (blk_cell BK214.out 5).trans rfl, (blk_cell BK214.out 6).trans rfl⟩ (fun hHeld => ?_)
      clear hK K
      refine norm_ (a' := ?_) ?_ ?_
      rotate_left
      ·show Act.put _ (some 9) _ = _
       simp only [Act.put, List.setIfInBounds_toArray, List.set_cons_zero, List.set_cons_succ, i64_w, i32_w]
       rfl
      exact norm_ (by first | (simp only [putAll, Act.put, List.setIfInBounds_toArray, List.set_cons_zero, List.set_cons_succ]; done) | (simp only [putAll, Act.put, List.setIfInBounds_toArray, List.set_cons_zero, List.set_cons_succ]; rfl)) (hJ3_7_8_9 (gb237, gb238) _ ⟨hHeld, (by exact BK213.out), (by exact BK214.out), (by exact BK237.out), (by exact BK238.out), GW237.out, GE237.out, NB213_237.out, NB237_213.out, NB214_237.out, NB237_214.out, NB238_237.out, NB237_238.out, GW238.out, GE238.out, NB213_238.out, NB238_213.out, NB214_238.out, NB238_214.out, (by repeat (first | (with_reducible first | exact HB.out | apply below_alloc | apply pw_below_drewN | apply below_drew1 | refine below_set ?_ GE213.out | refine below_set ?_ GE214.out | refine below_set ?_ GE238.out | refine below_set ?_ GE237.out) | exact HB.out))⟩)
    ·skip
     rintro gb237 w55 ⟨hS_, h0_, h1_, h2_, h3_, h4_, h5_, h6_, h7_, h8_, h9_⟩
     have n0_ : Aside0 (w55.heap[gb213]? = some (.cells #[.int .i64 ji8, .int .i64 a0_1, .int .i64 a0_2] 24 (0, 0))) := ⟨h0_⟩
     have n1_ : Aside0 (w55.heap[gb214]? = some (.cells #[.int .i64 t216, .int .i64 t217, .int .i64 t218, .int .i64 t219, .int .i64 t220, .int .i64 t221, .int .i64 t222] 26 (0, 0))) := ⟨h1_⟩
     have n2_ : Aside0 (w55.heap[gb237]? = some (.cells #[.int .i64 0, .int .i64 0, .int .i64 0] 24 (0, 0))) := ⟨h2_⟩
     have n3_ : Aside0 (w.heap.size ≤ gb237) := ⟨h3_⟩
     have n4_ : Aside0 (w.heap.size ≤ gb237) := ⟨h4_⟩
     have n5_ : Aside0 (gb213 ≠ gb237) := ⟨h5_⟩
     have n6_ : Aside0 (gb237 ≠ gb213) := ⟨h6_⟩
     have n7_ : Aside0 (gb214 ≠ gb237) := ⟨h7_⟩
     have n8_ : Aside0 (gb237 ≠ gb214) := ⟨h8_⟩
     have n9_ : Aside0 (Below w.heap.size w w55) := ⟨h9_⟩
     clear BK213
     clear BK214
     clear HB
     clear h0_ h1_ h2_ h3_ h4_ h5_ h6_ h7_ h8_ h9_
     have BK213 := n0_
     have BK214 := n1_
     have BK237 := n2_
     have GW237 := n3_
     have GE237 := n4_
     have NB213_237 := n5_
     have NB237_213 := n6_
     have NB214_237 := n7_
     have NB237_214 := n8_
     have HB := n9_
     clear n0_ n1_ n2_ n3_ n4_ n5_ n6_ n7_ n8_ n9_
     have hHeld : w55.cell? ⟨gb213, 0, none⟩ = some (.int .i64 ji8) ∧ w55.cell? ⟨gb213, 1, none⟩ = some (.int .i64 a0_1) ∧ w55.cell? ⟨gb213, 2, none⟩ = some (.int .i64 a0_2) ∧ w55.cell? ⟨gb214, 0, none⟩ = some (.int .i64 t216) ∧ w55.cell? ⟨gb214, 1, none⟩ = some (.int .i64 t217) ∧ w55.cell? ⟨gb214, 2, none⟩ = some (.int .i64 t218) ∧ w55.cell? ⟨gb214, 3, none⟩ = some (.int .i64 t219) ∧ w55.cell? ⟨gb214, 4, none⟩ = some (.int .i64 t220) ∧ w55.cell? ⟨gb214, 5, none⟩ = some (.int .i64 t221) ∧ w55.cell? ⟨gb214, 6, none⟩ = some (.int .i64 t222) := hS_
     refine norm_ (a' := ?_) ?_ ?_
     rotate_left
     ·simp only [putAll, Act.put, List.setIfInBounds_toArray, List.set_cons_zero, List.set_cons_succ]
      rfl
     refine one_ (i := 9) (N := some 10) #[true, true, true, true, true, true, true, true, true, true, false, false] rfl rfl (one_of HT_.out (by kernel_rfl)) (by decide) (fun K hK => ?_)
     refine box_step ?hg (N := 10) ?hd (cs := #[.int .i64 0, .int .i64 0, .int .i64 0]) (t := 24) ?hr ?_; (case hd => rfl); (case hg => rfl); (case hr => first | (go_simp; done) | (go_simp; rfl))
     intro gb238 hg w56 hbox hb
     have n0_ := Aside0.mk (blk_below (by exact BK213.out) hb)
     have n1_ := Aside0.mk (blk_below (by exact BK214.out) hb)
     have n2_ := Aside0.mk (blk_below (by exact BK237.out) hb)
     have n3_ := Aside0.mk (below_step (by repeat (first | (with_reducible first | exact HB.out | apply below_alloc | apply pw_below_drewN | apply below_drew1 | refine below_set ?_ GE213.out | refine below_set ?_ GE214.out | refine below_set ?_ GE237.out) | exact HB.out)) hb)
     have n4_ := Aside0.mk (hbox)
     have n5_ := Aside0.mk ((by rw [hg]; exact (below_size (by repeat (first | (with_reducible first | exact HB.out | apply below_alloc | apply pw_below_drewN | apply below_drew1 | refine below_set ?_ GE213.out | refine below_set ?_ GE214.out | refine below_set ?_ GE237.out) | exact HB.out))) : w.heap.size ≤ gb238))
     have n6_ := Aside0.mk ((by rw [hg]; exact (below_size (by repeat (first | (with_reducible first | exact HB.out | apply below_alloc | apply pw_below_drewN | apply below_drew1 | refine below_set ?_ GE213.out | refine below_set ?_ GE214.out | refine below_set ?_ GE237.out) | exact HB.out))) : w.heap.size ≤ gb238))
     have n7_ := Aside0.mk ((by rw [hg]; exact Nat.ne_of_lt (blk_lt (by exact BK213.out)) : gb213 ≠ gb238))
     have n8_ := Aside0.mk ((by rw [hg]; exact Nat.ne_of_gt (blk_lt (by exact BK213.out)) : gb238 ≠ gb213))
     have n9_ := Aside0.mk ((by rw [hg]; exact Nat.ne_of_lt (blk_lt (by exact BK214.out)) : gb214 ≠ gb238))
     have n10_ := Aside0.mk ((by rw [hg]; exact Nat.ne_of_gt (blk_lt (by exact BK214.out)) : gb238 ≠ gb214))
     have n11_ := Aside0.mk ((by rw [hg]; exact Nat.ne_of_lt (blk_lt (by exact BK237.out)) : gb237 ≠ gb238))
     have n12_ := Aside0.mk ((by rw [hg]; exact Nat.ne_of_gt (blk_lt (by exact BK237.out)) : gb238 ≠ gb237))
     clear BK213
     clear BK214
     clear BK237
     clear HB
     have BK213 := n0_
     have BK214 := n1_
     have BK237 := n2_
     have HB := n3_
     have BK238 := n4_
     have GW238 := n5_
     have GE238 := n6_
     have NB213_238 := n7_
     have NB238_213 := n8_
     have NB214_238 := n9_
     have NB238_214 := n10_
     have NB237_238 := n11_
     have NB238_237 := n12_
     clear n0_ n1_ n2_ n3_ n4_ n5_ n6_ n7_ n8_ n9_ n10_ n11_ n12_
     clear hb hbox hg
     refine hK.out _ _ ⟨(blk_cell BK213.out 0).trans rfl, (blk_cell BK213.out 1).trans rfl, (blk_cell BK213.out 2).trans rfl, (blk_cell BK214.out 0).trans rfl, (blk_cell BK214.out 1).trans rfl, (blk_cell BK214.out 2).trans rfl, (blk_cell BK214.out 3).trans rfl, (blk_cell BK214.out 4).trans rfl, (blk_cell BK214.out 5).trans rfl, (blk_cell BK214.out 6).trans rfl⟩ (fun hHeld => ?_)
     clear hK K
     refine norm_ (a' := ?_) ?_ ?_
     rotate_left
     ·show Act.put _ (some 10) _ = _
      simp only [Act.put, List.setIfInBounds_toArray, List.set_cons_zero, List.set_cons_succ, i64_w, i32_w]
      rfl
     exact norm_ (by first | (simp only [putAll, Act.put, List.setIfInBounds_toArray, List.set_cons_zero, List.set_cons_succ]; done) | (simp only [putAll, Act.put, List.setIfInBounds_toArray, List.set_cons_zero, List.set_cons_succ]; rfl)) (hJ3_7_8_9 (gb237, gb238) _ ⟨hHeld, (by exact BK213.out), (by exact BK214.out), (by exact BK237.out), (by exact BK238.out), GW237.out, GE237.out, NB213_237.out, NB237_213.out, NB214_237.out, NB237_214.out, NB238_237.out, NB237_238.out, GW238.out, GE238.out, NB213_238.out, NB238_213.out, NB214_238.out, NB238_214.out, (by repeat (first | (with_reducible first | exact HB.out | apply below_alloc | apply pw_below_drewN | apply below_drew1 | refine below_set ?_ GE213.out | refine below_set ?_ GE214.out | refine below_set ?_ GE237.out | refine below_set ?_ GE238.out) | exact HB.out))⟩)
   rintro ⟨gb237, gb238⟩ w56 ⟨hS_, h0_, h1_, h2_, h3_, h4_, h5_, h6_, h7_, h8_, h9_, h10_, h11_, h12_, h13_, h14_, h15_, h16_, h17_, h18_⟩
   have n0_ : Aside0 (w56.heap[gb213]? = some (.cells #[.int .i64 ji8, .int .i64 a0_1, .int .i64 a0_2] 24 (0, 0))) := ⟨h0_⟩
   have n1_ : Aside0 (w56.heap[gb214]? = some (.cells #[.int .i64 t216, .int .i64 t217, .int .i64 t218, .int .i64 t219, .int .i64 t220, .int .i64 t221, .int .i64 t222] 26 (0, 0))) := ⟨h1_⟩
   have n2_ : Aside0 (w56.heap[gb237]? = some (.cells #[.int .i64 0, .int .i64 0, .int .i64 0] 24 (0, 0))) := ⟨h2_⟩
   have n3_ : Aside0 (w56.heap[gb238]? = some (.cells #[.int .i64 0, .int .i64 0, .int .i64 0] 24 (0, 0))) := ⟨h3_⟩
   have n4_ : Aside0 (w.heap.size ≤ gb237) := ⟨h4_⟩
   have n5_ : Aside0 (w.heap.size ≤ gb237) := ⟨h5_⟩
   have n6_ : Aside0 (gb213 ≠ gb237) := ⟨h6_⟩
   have n7_ : Aside0 (gb237 ≠ gb213) := ⟨h7_⟩
   have n8_ : Aside0 (gb214 ≠ gb237) := ⟨h8_⟩
   have n9_ : Aside0 (gb237 ≠ gb214) := ⟨h9_⟩
   have n10_ : Aside0 (gb238 ≠ gb237) := ⟨h10_⟩
   have n11_ : Aside0 (gb237 ≠ gb238) := ⟨h11_⟩
   have n12_ : Aside0 (w.heap.size ≤ gb238) := ⟨h12_⟩
   have n13_ : Aside0 (w.heap.size ≤ gb238) := ⟨h13_⟩
   have n14_ : Aside0 (gb213 ≠ gb238) := ⟨h14_⟩
   have n15_ : Aside0 (gb238 ≠ gb213) := ⟨h15_⟩
   have n16_ : Aside0 (gb214 ≠ gb238) := ⟨h16_⟩
   have n17_ : Aside0 (gb238 ≠ gb214) := ⟨h17_⟩
   have n18_ : Aside0 (Below w.heap.size w w56) := ⟨h18_⟩
   clear BK213
   clear BK214
   clear HB
   clear h0_ h1_ h2_ h3_ h4_ h5_ h6_ h7_ h8_ h9_ h10_ h11_ h12_ h13_ h14_ h15_ h16_ h17_ h18_
   have BK213 := n0_
   have BK214 := n1_
   have BK237 := n2_
   have BK238 := n3_
   have GW237 := n4_
   have GE237 := n5_
   have NB213_237 := n6_
   have NB237_213 := n7_
   have NB214_237 := n8_
   have NB237_214 := n9_
   have NB238_237 := n10_
   have NB237_238 := n11_
   have GW238 := n12_
   have GE238 := n13_
   have NB213_238 := n14_
   have NB238_213 := n15_
   have NB214_238 := n16_
   have NB238_214 := n17_
   have HB := n18_
   clear n0_ n1_ n2_ n3_ n4_ n5_ n6_ n7_ n8_ n9_ n10_ n11_ n12_ n13_ n14_ n15_ n16_ n17_ n18_
   have hHeld : w56.cell? ⟨gb213, 0, none⟩ = some (.int .i64 ji8) ∧ w56.cell? ⟨gb213, 1, none⟩ = some (.int .i64 a0_1) ∧ w56.cell? ⟨gb213, 2, none⟩ = some (.int .i64 a0_2) ∧ w56.cell? ⟨gb214, 0, none⟩ = some (.int .i64 t216) ∧ w56.cell? ⟨gb214, 1, none⟩ = some (.int .i64 t217) ∧ w56.cell? ⟨gb214, 2, none⟩ = some (.int .i64 t218) ∧ w56.cell? ⟨gb214, 3, none⟩ = some (.int .i64 t219) ∧ w56.cell? ⟨gb214, 4, none⟩ = some (.int .i64 t220) ∧ w56.cell? ⟨gb214, 5, none⟩ = some (.int .i64 t221) ∧ w56.cell? ⟨gb214, 6, none⟩ = some (.int .i64 t222) := hS_
   refine norm_ (a' := ?_) ?_ ?_
   rotate_left
   ·simp only [putAll, Act.put, List.setIfInBounds_toArray, List.set_cons_zero, List.set_cons_succ]
    rfl
   refine one_ (i := 10) (N := none) #[true, true, true, true, true, true, true, true, true, true, true, false] rfl rfl (one_of HT_.out (by kernel_rfl)) (by decide) (fun K hK => ?_)
   have hs57 : w56.cell? ⟨gb237, 0, none⟩ = some (.int .i64 0) := (blk_cell BK237.out 0).trans rfl
   have hfs57 := blk_frozen BK237.out 0
   have hns57_0 := NB213_237.out
   have hns57_1 := NB214_237.out
   have hns57_3 := NB238_237.out
   have hms57_0 := NB237_213.out
   have hms57_1 := NB237_214.out
   have hms57_3 := NB237_238.out
   have hs58 : w56.cell? ⟨gb237, 1, none⟩ = some (.int .i64 0) := (blk_cell BK237.out 1).trans rfl
   have hfs58 := blk_frozen BK237.out 1
   have hns58_0 := NB213_237.out
   have hns58_1 := NB214_237.out
   have hns58_3 := NB238_237.out
   have hms58_0 := NB237_213.out
   have hms58_1 := NB237_214.out
   have hms58_3 := NB237_238.out
   have hs59 : w56.cell? ⟨gb237, 2, none⟩ = some (.int .i64 0) := (blk_cell BK237.out 2).trans rfl
   have hfs59 := blk_frozen BK237.out 2
   have hns59_0 := NB213_237.out
   have hns59_1 := NB214_237.out
   have hns59_3 := NB238_237.out
   have hms59_0 := NB237_213.out
   have hms59_1 := NB237_214.out
   have hms59_3 := NB237_238.out
   refine skip_ (w1 := ?_) (by rfl) rfl ?_ ?_
   rotate_left
   ·go_simp
    rfl
   refine hK.out _ _ ⟨((cell_far (p := ⟨gb237, _, none⟩) NB213_237.out _).trans (((cell_far (p := ⟨gb237, _, none⟩) NB213_237.out _).trans (((cell_far (p := ⟨gb237, _, none⟩) NB213_237.out _).trans (hHeld.1)))))), ((cell_far (p := ⟨gb237, _, none⟩) NB213_237.out _).trans (((cell_far (p := ⟨gb237, _, none⟩) NB213_237.out _).trans (((cell_far (p := ⟨gb237, _, none⟩) NB213_237.out _).trans (hHeld.2.1)))))), ((cell_far (p := ⟨gb237, _, none⟩) NB213_237.out _).trans (((cell_far (p := ⟨gb237, _, none⟩) NB213_237.out _).trans (((cell_far (p := ⟨gb237, _, none⟩) NB213_237.out _).trans (hHeld.2.2.1)))))), ((cell_far (p := ⟨gb237, _, none⟩) NB214_237.out _).trans (((cell_far (p := ⟨gb237, _, none⟩) NB214_237.out _).trans (((cell_far (p := ⟨gb237, _, none⟩) NB214_237.out _).trans (hHeld.2.2.2.1)))))), ((cell_far (p := ⟨gb237, _, none⟩) NB214_237.out _).trans (((cell_far (p := ⟨gb237, _, none⟩) NB214_237.out _).trans (((cell_far (p := ⟨gb237, _, none⟩) NB214_237.out _).trans (hHeld.2.2.2.2.1)))))), ((cell_far (p := ⟨gb237, _, none⟩) NB214_237.out _).trans (((cell_far (p := ⟨gb237, _, none⟩) NB214_237.out _).trans (((cell_far (p := ⟨gb237, _, none⟩) NB214_237.out _).trans (hHeld.2.2.2.2.2.1)))))), ((cell_far (p := ⟨gb237, _, none⟩) NB214_237.out _).trans (((cell_far (p := ⟨gb237, _, none⟩) NB214_237.out _).trans (((cell_far (p := ⟨gb237, _, none⟩) NB214_237.out _).trans (hHeld.2.2.2.2.2.2.1)))))), ((cell_far (p := ⟨gb237, _, none⟩) NB214_237.out _).trans (((cell_far (p := ⟨gb237, _, none⟩) NB214_237.out _).trans (((cell_far (p := ⟨gb237, _, none⟩) NB214_237.out _).trans (hHeld.2.2.2.2.2.2.2.1)))))), ((cell_far (p := ⟨gb237, _, none⟩) NB214_237.out _).trans (((cell_far (p := ⟨gb237, _, none⟩) NB214_237.out _).trans (((cell_far (p := ⟨gb237, _, none⟩) NB214_237.out _).trans (hHeld.2.2.2.2.2.2.2.2.1)))))), ((cell_far (p := ⟨gb237, _, none⟩) NB214_237.out _).trans (((cell_far (p := ⟨gb237, _, none⟩) NB214_237.out _).trans (((cell_far (p := ⟨gb237, _, none⟩) NB214_237.out _).trans (hHeld.2.2.2.2.2.2.2.2.2))))))⟩ (fun hHeld => ?_)
   clear hK K
   refine one_ (i := 11) (N := none) #[true, true, true, true, true, true, true, true, true, true, true, true] rfl rfl (one_of HT_.out (by kernel_rfl)) (by decide) (fun K hK => ?_)
   have hs60 : w56.cell? ⟨gb238, 0, none⟩ = some (.int .i64 0) := (blk_cell BK238.out 0).trans rfl
   have hfs60 := blk_frozen BK238.out 0
   have hns60_0 := NB213_238.out
   have hns60_1 := NB214_238.out
   have hns60_2 := NB237_238.out
   have hms60_0 := NB238_213.out
   have hms60_1 := NB238_214.out
   have hms60_2 := NB238_237.out
   have hs61 : w56.cell? ⟨gb238, 1, none⟩ = some (.int .i64 0) := (blk_cell BK238.out 1).trans rfl
   have hfs61 := blk_frozen BK238.out 1
   have hns61_0 := NB213_238.out
   have hns61_1 := NB214_238.out
   have hns61_2 := NB237_238.out
   have hms61_0 := NB238_213.out
   have hms61_1 := NB238_214.out
   have hms61_2 := NB238_237.out
   have hs62 : w56.cell? ⟨gb238, 2, none⟩ = some (.int .i64 0) := (blk_cell BK238.out 2).trans rfl
   have hfs62 := blk_frozen BK238.out 2
   have hns62_0 := NB213_238.out
   have hns62_1 := NB214_238.out
   have hns62_2 := NB237_238.out
   have hms62_0 := NB238_213.out
   have hms62_1 := NB238_214.out
   have hms62_2 := NB238_237.out
   refine skip_ (w1 := ?_) (by rfl) rfl ?_ ?_
   rotate_left
   ·go_simp
    rfl
   refine hK.out _ _ ⟨((cell_far (p := ⟨gb238, _, none⟩) NB213_238.out _).trans (((cell_far (p := ⟨gb238, _, none⟩) NB213_238.out _).trans (((cell_far (p := ⟨gb238, _, none⟩) NB213_238.out _).trans (hHeld.1)))))), ((cell_far (p := ⟨gb238, _, none⟩) NB213_238.out _).trans (((cell_far (p := ⟨gb238, _, none⟩) NB213_238.out _).trans (((cell_far (p := ⟨gb238, _, none⟩) NB213_238.out _).trans (hHeld.2.1)))))), ((cell_far (p := ⟨gb238, _, none⟩) NB213_238.out _).trans (((cell_far (p := ⟨gb238, _, none⟩) NB213_238.out _).trans (((cell_far (p := ⟨gb238, _, none⟩) NB213_238.out _).trans (hHeld.2.2.1)))))), ((cell_far (p := ⟨gb238, _, none⟩) NB214_238.out _).trans (((cell_far (p := ⟨gb238, _, none⟩) NB214_238.out _).trans (((cell_far (p := ⟨gb238, _, none⟩) NB214_238.out _).trans (hHeld.2.2.2.1)))))), ((cell_far (p := ⟨gb238, _, none⟩) NB214_238.out _).trans (((cell_far (p := ⟨gb238, _, none⟩) NB214_238.out _).trans (((cell_far (p := ⟨gb238, _, none⟩) NB214_238.out _).trans (hHeld.2.2.2.2.1)))))), ((cell_far (p := ⟨gb238, _, none⟩) NB214_238.out _).trans (((cell_far (p := ⟨gb238, _, none⟩) NB214_238.out _).trans (((cell_far (p := ⟨gb238, _, none⟩) NB214_238.out _).trans (hHeld.2.2.2.2.2.1)))))), ((cell_far (p := ⟨gb238, _, none⟩) NB214_238.out _).trans (((cell_far (p := ⟨gb238, _, none⟩) NB214_238.out _).trans (((cell_far (p := ⟨gb238, _, none⟩) NB214_238.out _).trans (hHeld.2.2.2.2.2.2.1)))))), ((cell_far (p := ⟨gb238, _, none⟩) NB214_238.out _).trans (((cell_far (p := ⟨gb238, _, none⟩) NB214_238.out _).trans (((cell_far (p := ⟨gb238, _, none⟩) NB214_238.out _).trans (hHeld.2.2.2.2.2.2.2.1)))))), ((cell_far (p := ⟨gb238, _, none⟩) NB214_238.out _).trans (((cell_far (p := ⟨gb238, _, none⟩) NB214_238.out _).trans (((cell_far (p := ⟨gb238, _, none⟩) NB214_238.out _).trans (hHeld.2.2.2.2.2.2.2.2.1)))))), ((cell_far (p := ⟨gb238, _, none⟩) NB214_238.out _).trans (((cell_far (p := ⟨gb238, _, none⟩) NB214_238.out _).trans (((cell_far (p := ⟨gb238, _, none⟩) NB214_238.out _).trans (hHeld.2.2.2.2.2.2.2.2.2))))))⟩ (fun hHeld => ?_)
   clear hK K
   refine done_ (done_of HT_.out (by kernel_rfl)) ?_
   have hnb63 := NB237_213.out
   have hnc63 := NB213_237.out
   have hnb64 := NB237_214.out
   have hnc64 := NB214_237.out
   have hnb65 := NB237_238.out
   have hnc65 := NB238_237.out
   have hcz66_0 : w56.cell? ⟨gb237, 0, none⟩ = some (.int .i64 0) := (blk_cell BK237.out 0).trans rfl
   have hcz66_1 : w56.cell? ⟨gb237, 1, none⟩ = some (.int .i64 0) := (blk_cell BK237.out 1).trans rfl
   have hcz66_2 : w56.cell? ⟨gb237, 2, none⟩ = some (.int .i64 0) := (blk_cell BK237.out 2).trans rfl
   have hfz66_0 := blk_frozen BK237.out 0
   have hfz66_1 := blk_frozen BK237.out 1
   have hfz66_2 := blk_frozen BK237.out 2
   have hnb67 := NB238_213.out
   have hnc67 := NB213_238.out
   have hnb68 := NB238_214.out
   have hnc68 := NB214_238.out
   have hcz69_0 : w56.cell? ⟨gb238, 0, none⟩ = some (.int .i64 0) := (blk_cell BK238.out 0).trans rfl
   have hcz69_1 : w56.cell? ⟨gb238, 1, none⟩ = some (.int .i64 0) := (blk_cell BK238.out 1).trans rfl
   have hcz69_2 : w56.cell? ⟨gb238, 2, none⟩ = some (.int .i64 0) := (blk_cell BK238.out 2).trans rfl
   have hfz69_0 := blk_frozen BK238.out 0
   have hfz69_1 := blk_frozen BK238.out 1
   have hfz69_2 := blk_frozen BK238.out 2
   try go_wp2
   go_ret
   exact ⟨by first | rfl | (simp [errW_none, errW_some] <;> rfl) | (simp only [← hji8]; first | rfl | (simp [errW_none, errW_some] <;> rfl)) | (simp [*, errW_none, errW_some] <;> rfl), by repeat (first | (with_reducible first | exact HB.out | apply below_alloc | apply pw_below_drewN | apply below_drew1 | refine below_set ?_ GE213.out | refine below_set ?_ GE214.out | refine below_set ?_ GE237.out | refine below_set ?_ GE238.out) | exact HB.out)⟩
 ·replace c6 := Bool.eq_false_iff.mpr c6
  subst c6
  have H1 : (none) = some r := by rw [if_neg (show ¬ (false = true) by decide)] at H; exact H
  clear H
  have H := H1
  clear H1
  exact absurd H (by simp)

end Go.Proofs.Ythmapfhemiamhaa.P

-- Laid by a program of this claim's session (wip/tools/myprint.py) over the kit's printer.
import Derived.Test.YthmapfhemiamhaaPx0
import Derived.Test.YthmapfhemiamhaaPx2
import Derived.Test.YthmapfhemiamhaaPx5
import Derived.Test.YthmapfhemiamhaaPx6
namespace Go.Proofs.Ythmapfhemiamhaa.P
open Go.RowKit Go.Proofs.YthmapfhemiamhaaW.PrintWords Go.Proofs.YthmapfhemiamhaaW.PrintLast Go.Proofs.YthmapfhemiamhaaW.PrintMore
attribute [local go_sem] max2_int min2_int max_two min_two max_three min_three max_four min_four   -- for this text's walks alone
set_option linter.unusedVariables false
set_option linter.unusedSimpArgs false

/-! ### overfalllaw11_PidFalls: function 5 -/
mutual
def overfalllaw11_PidFalls.l0 : Nat → List Int → Int → Int → Int → Int → Int → Int → Int → Int → Int → Int → Int → Int → Int → Option (Bool)
 | 0, _, _, _, _, _, _, _, _, _, _, _, _, _, _ => none
 | k + 1, x2, x7, x26, x27, x199000, x199001, x199002, x200000, x200001, x200002, x200003, x200004, x200005, x200006 => if x27 < x26 then (if (x2.length : Int) > 0 then (if (x2.length : Int) = 0 then (none) else (if 0 ≤ (Int.tmod x27 (x2.length : Int)) then (if (Int.tmod x27 (x2.length : Int)) < (x2.length : Int) then ((fix_Q_Less.f x200000 (wrap64 (rd x2 (Int.tmod x27 (x2.length : Int))))).bind fun t209 => (overfalllaw11_PidFalls.j1 k x2 x7 x27 t209 x26 x27 x199000 x199001 x199002 x200000 x200001 x200002 x200003 x200004 x200005 x200006)) else (none)) else (none))) else (overfalllaw11_PidFalls.j1 k x2 x7 x27 x200000 x26 x27 x199000 x199001 x199002 x200000 x200001 x200002 x200003 x200004 x200005 x200006)) else (some (x199002 == 0))
def overfalllaw11_PidFalls.j1 : Nat → List Int → Int → Int → Int → Int → Int → Int → Int → Int → Int → Int → Int → Int → Int → Int → Int → Option (Bool)
 | 0, _, _, _, _, _, _, _, _, _, _, _, _, _, _, _, _ => none
 | k + 1, x2, x7, x8, x9, x26, x27, x199000, x199001, x199002, x200000, x200001, x200002, x200003, x200004, x200005, x200006 => (pid_State_Sample.f k x199000 x199001 x199002 x200000 x200001 x200002 x200003 x200004 x200005 x200006 x9).bind fun bt210 => (if x8 = 0 then (overfalllaw11_PidFalls.j2 k x2 x7 x8 x26 x27 (decide (bt210.2.2 > (mx x7 0))) bt210.1 bt210.2.1 bt210.2.2 x200000 x200001 x200002 x200003 x200004 x200005 x200006) else (overfalllaw11_PidFalls.j2 k x2 x7 x8 x26 x27 false bt210.1 bt210.2.1 bt210.2.2 x200000 x200001 x200002 x200003 x200004 x200005 x200006))
def overfalllaw11_PidFalls.j2 : Nat → List Int → Int → Int → Int → Int → Bool → Int → Int → Int → Int → Int → Int → Int → Int → Int → Int → Option (Bool)
 | 0, _, _, _, _, _, _, _, _, _, _, _, _, _, _, _, _ => none
 | k + 1, x2, x7, x8, x26, x27, x57, x199000, x199001, x199002, x200000, x200001, x200002, x200003, x200004, x200005, x200006 => if x57 = true then (none) else (if x8 > 0 then (if x199002 = (mx (wrap64 (x7 - 1)) 0) then (overfalllaw11_PidFalls.l0 k x2 x199002 x26 (wrap64 (x27 + 1)) x199000 x199001 x199002 x200000 x200001 x200002 x200003 x200004 x200005 x200006) else (none)) else (overfalllaw11_PidFalls.l0 k x2 x199002 x26 (wrap64 (x27 + 1)) x199000 x199001 x199002 x200000 x200001 x200002 x200003 x200004 x200005 x200006))
end
def overfalllaw11_PidFalls.f (k : Nat) (a0_0 : Int) (a0_1 : Int) (a0_2 : Int) (a1_0 : Int) (a1_1 : Int) (a1_2 : Int) (a1_3 : Int) (a1_4 : Int) (a1_5 : Int) (a1_6 : Int) (l2 : List Int) : Option (Bool) := (overfalllaw11_awake.f k).bind fun t200 => (if t200 = true then ((overfalllaw11_right.f a1_0 a1_1 a1_2 a1_3 a1_4 a1_5 a1_6).bind fun bt201 => (overfalllaw11_PidFalls.l0 k l2 (mn (mx a0_2 0) (Int.tmod bt201.2.2.2.2.2.2 300)) (wrap64 ((Int.tmod bt201.2.2.2.2.2.2 300) + 3)) 0 a0_0 a0_1 a0_2 bt201.1 bt201.2.1 bt201.2.2.1 bt201.2.2.2.1 bt201.2.2.2.2.1 bt201.2.2.2.2.2.1 (Int.tmod bt201.2.2.2.2.2.2 300))) else (none))
theorem overfalllaw11_PidFalls.mono_l : ∀ k, (∀ y0 y1 y2 y3 y4 y5 y6 y7 y8 y9 y10 y11 y12 y13, LeO (overfalllaw11_PidFalls.l0 k y0 y1 y2 y3 y4 y5 y6 y7 y8 y9 y10 y11 y12 y13) (overfalllaw11_PidFalls.l0 (k + 1) y0 y1 y2 y3 y4 y5 y6 y7 y8 y9 y10 y11 y12 y13)) ∧ (∀ y0 y1 y2 y3 y4 y5 y6 y7 y8 y9 y10 y11 y12 y13 y14 y15, LeO (overfalllaw11_PidFalls.j1 k y0 y1 y2 y3 y4 y5 y6 y7 y8 y9 y10 y11 y12 y13 y14 y15) (overfalllaw11_PidFalls.j1 (k + 1) y0 y1 y2 y3 y4 y5 y6 y7 y8 y9 y10 y11 y12 y13 y14 y15)) ∧ (∀ y0 y1 y2 y3 y4 y5 y6 y7 y8 y9 y10 y11 y12 y13 y14 y15, LeO (overfalllaw11_PidFalls.j2 k y0 y1 y2 y3 y4 y5 y6 y7 y8 y9 y10 y11 y12 y13 y14 y15) (overfalllaw11_PidFalls.j2 (k + 1) y0 y1 y2 y3 y4 y5 y6 y7 y8 y9 y10 y11 y12 y13 y14 y15))
 | 0 => ⟨fun _ _ _ _ _ _ _ _ _ _ _ _ _ _ r h => by simp [overfalllaw11_PidFalls.l0] at h, fun _ _ _ _ _ _ _ _ _ _ _ _ _ _ _ _ r h => by simp [overfalllaw11_PidFalls.j1] at h, fun _ _ _ _ _ _ _ _ _ _ _ _ _ _ _ _ r h => by simp [overfalllaw11_PidFalls.j2] at h⟩
 | k + 1 => by
  obtain ⟨ih0, ih1, ih2⟩ := overfalllaw11_PidFalls.mono_l k
  refine ⟨?_, ?_, ?_⟩
  ·intro y0 y1 y2 y3 y4 y5 y6 y7 y8 y9 y10 y11 y12 y13
   unfold overfalllaw11_PidFalls.l0
   repeat' first
   | (with_reducible exact ih0 _ _ _ _ _ _ _ _ _ _ _ _ _ _)
   | (with_reducible exact ih1 _ _ _ _ _ _ _ _ _ _ _ _ _ _ _ _)
   | (with_reducible exact ih2 _ _ _ _ _ _ _ _ _ _ _ _ _ _ _ _)
   | (with_reducible exact overfalllaw11_awake.mono _)
   | (with_reducible exact pid_State_Sample.mono _ _ _ _ _ _ _ _ _ _ _ _)
   | (with_reducible exact LeO.refl _)
   | (with_reducible exact LeO.none _)
   | (with_reducible refine LeO.ite ?_ ?_)
   | (with_reducible refine LeO.bind ?_ (fun _ => ?_))
   | exact ih0 _ _ _ _ _ _ _ _ _ _ _ _ _ _
   | exact ih1 _ _ _ _ _ _ _ _ _ _ _ _ _ _ _ _
   | exact ih2 _ _ _ _ _ _ _ _ _ _ _ _ _ _ _ _
   | exact overfalllaw11_awake.mono _
   | exact pid_State_Sample.mono _ _ _ _ _ _ _ _ _ _ _ _
   | exact LeO.none _
   | refine LeO.ite ?_ ?_
   | refine LeO.bind ?_ (fun _ => ?_)
  ·intro y0 y1 y2 y3 y4 y5 y6 y7 y8 y9 y10 y11 y12 y13 y14 y15
   unfold overfalllaw11_PidFalls.j1
   repeat' first
   | (with_reducible exact ih0 _ _ _ _ _ _ _ _ _ _ _ _ _ _)
   | (with_reducible exact ih1 _ _ _ _ _ _ _ _ _ _ _ _ _ _ _ _)
   | (with_reducible exact ih2 _ _ _ _ _ _ _ _ _ _ _ _ _ _ _ _)
   | (with_reducible exact overfalllaw11_awake.mono _)
   | (with_reducible exact pid_State_Sample.mono _ _ _ _ _ _ _ _ _ _ _ _)
   | (with_reducible exact LeO.refl _)
   | (with_reducible exact LeO.none _)
   | (with_reducible refine LeO.ite ?_ ?_)
   | (with_reducible refine LeO.bind ?_ (fun _ => ?_))
   | exact ih0 _ _ _ _ _ _ _ _ _ _ _ _ _ _
   | exact ih1 _ _ _ _ _ _ _ _ _ _ _ _ _ _ _ _
   | exact ih2 _ _ _ _ _ _ _ _ _ _ _ _ _ _ _ _
   | exact overfalllaw11_awake.mono _
   | exact pid_State_Sample.mono _ _ _ _ _ _ _ _ _ _ _ _
   | exact LeO.none _
   | refine LeO.ite ?_ ?_
   | refine LeO.bind ?_ (fun _ => ?_)
  ·intro y0 y1 y2 y3 y4 y5 y6 y7 y8 y9 y10 y11 y12 y13 y14 y15
   unfold overfalllaw11_PidFalls.j2
   repeat' first
   | (with_reducible exact ih0 _ _ _ _ _ _ _ _ _ _ _ _ _ _)
   | (with_reducible exact ih1 _ _ _ _ _ _ _ _ _ _ _ _ _ _ _ _)
   | (with_reducible exact ih2 _ _ _ _ _ _ _ _ _ _ _ _ _ _ _ _)
   | (with_reducible exact overfalllaw11_awake.mono _)
   | (with_reducible exact pid_State_Sample.mono _ _ _ _ _ _ _ _ _ _ _ _)
   | (with_reducible exact LeO.refl _)
   | (with_reducible exact LeO.none _)
   | (with_reducible refine LeO.ite ?_ ?_)
   | (with_reducible refine LeO.bind ?_ (fun _ => ?_))
   | exact ih0 _ _ _ _ _ _ _ _ _ _ _ _ _ _
   | exact ih1 _ _ _ _ _ _ _ _ _ _ _ _ _ _ _ _
   | exact ih2 _ _ _ _ _ _ _ _ _ _ _ _ _ _ _ _
   | exact overfalllaw11_awake.mono _
   | exact pid_State_Sample.mono _ _ _ _ _ _ _ _ _ _ _ _
   | exact LeO.none _
   | refine LeO.ite ?_ ?_
   | refine LeO.bind ?_ (fun _ => ?_)
theorem overfalllaw11_PidFalls.mono : ∀ a0 a1 a2 a3 a4 a5 a6 a7 a8 a9 a10 k, LeO (overfalllaw11_PidFalls.f k a0 a1 a2 a3 a4 a5 a6 a7 a8 a9 a10) (overfalllaw11_PidFalls.f (k + 1) a0 a1 a2 a3 a4 a5 a6 a7 a8 a9 a10) := by
 intro a0 a1 a2 a3 a4 a5 a6 a7 a8 a9 a10 k
 obtain ⟨ih0, ih1, ih2⟩ := overfalllaw11_PidFalls.mono_l k
 unfold overfalllaw11_PidFalls.f
 repeat' first
   | (with_reducible exact ih0 _ _ _ _ _ _ _ _ _ _ _ _ _ _)
   | (with_reducible exact ih1 _ _ _ _ _ _ _ _ _ _ _ _ _ _ _ _)
   | (with_reducible exact ih2 _ _ _ _ _ _ _ _ _ _ _ _ _ _ _ _)
   | (with_reducible exact overfalllaw11_awake.mono _)
   | (with_reducible exact pid_State_Sample.mono _ _ _ _ _ _ _ _ _ _ _ _)
   | (with_reducible exact LeO.refl _)
   | (with_reducible exact LeO.none _)
   | (with_reducible refine LeO.ite ?_ ?_)
   | (with_reducible refine LeO.bind ?_ (fun _ => ?_))
   | exact ih0 _ _ _ _ _ _ _ _ _ _ _ _ _ _
   | exact ih1 _ _ _ _ _ _ _ _ _ _ _ _ _ _ _ _
   | exact ih2 _ _ _ _ _ _ _ _ _ _ _ _ _ _ _ _
   | exact overfalllaw11_awake.mono _
   | exact pid_State_Sample.mono _ _ _ _ _ _ _ _ _ _ _ _
   | exact LeO.none _
   | refine LeO.ite ?_ ?_
   | refine LeO.bind ?_ (fun _ => ?_)
set_option maxHeartbeats 8000000 in
set_option maxRecDepth 100000 in
theorem overfalllaw11_PidFalls.calls (k : Nat) (a0_0 : Int) (a0_1 : Int) (a0_2 : Int) (a1_0 : Int) (a1_1 : Int) (a1_2 : Int) (a1_3 : Int) (a1_4 : Int) (a1_5 : Int) (a1_6 : Int) (A2 : Option Addr) (c2 : Nat) (l2 : List Int) (r : Bool) (w : World) (hr2 : Kd.C (Kd.int .u32) w A2 l2.length l2) (hc2 : l2.length ≤ c2) (h : overfalllaw11_PidFalls.f k a0_0 a0_1 a0_2 a1_0 a1_1 a1_2 a1_3 a1_4 a1_5 a1_6 l2 = some r) :
  Calls Try.prog 5 #[.agg #[.int .i64 a0_0, .int .i64 a0_1, .int .i64 a0_2], .agg #[.int .i64 a1_0, .int .i64 a1_1, .int .i64 a1_2, .int .i64 a1_3, .int .i64 a1_4, .int .i64 a1_5, .int .i64 a1_6], .slice A2 l2.length c2] w fun e w' => e = .returned (.bool r) ∧ Below w.heap.size w w' := by
 have hu24 := Try.underlying24
 have hu26 := Try.underlying26
 have HR2 := Aside0.mk hr2
 have HC2 := Aside0.mk hc2
 clear hr2 hc2
 have HB := Aside0.mk (Below.refl w.heap.size w)
 have H : ((overfalllaw11_awake.f k).bind fun t200 => (if t200 = true then ((overfalllaw11_right.f a1_0 a1_1 a1_2 a1_3 a1_4 a1_5 a1_6).bind fun bt201 => (overfalllaw11_PidFalls.l0 k l2 (mn (mx a0_2 0) (Int.tmod bt201.2.2.2.2.2.2 300)) (wrap64 ((Int.tmod bt201.2.2.2.2.2.2 300) + 3)) 0 a0_0 a0_1 a0_2 bt201.1 bt201.2.1 bt201.2.2.1 bt201.2.2.2.1 bt201.2.2.2.2.1 bt201.2.2.2.2.2.1 (Int.tmod bt201.2.2.2.2.2.2 300))) else (none))) = some r := h
 clear h
 replace H := Option.bind_eq_some_iff.mp H
 obtain ⟨t200, A40, H⟩ := H
 replace H : (if t200 = true then ((overfalllaw11_right.f a1_0 a1_1 a1_2 a1_3 a1_4 a1_5 a1_6).bind fun bt201 => (overfalllaw11_PidFalls.l0 k l2 (mn (mx a0_2 0) (Int.tmod bt201.2.2.2.2.2.2 300)) (wrap64 ((Int.tmod bt201.2.2.2.2.2.2 300) + 3)) 0 a0_0 a0_1 a0_2 bt201.1 bt201.2.1 bt201.2.2.1 bt201.2.2.2.1 bt201.2.2.2.2.1 bt201.2.2.2.2.2.1 (Int.tmod bt201.2.2.2.2.2.2 300))) else (none)) = some r := H
 have A4 := Aside0.mk A40
 clear A40
 by_cases c5 : t200 = true
 ·subst c5
  have H1 : ((overfalllaw11_right.f a1_0 a1_1 a1_2 a1_3 a1_4 a1_5 a1_6).bind fun bt201 => (overfalllaw11_PidFalls.l0 k l2 (mn (mx a0_2 0) (Int.tmod bt201.2.2.2.2.2.2 300)) (wrap64 ((Int.tmod bt201.2.2.2.2.2.2 300) + 3)) 0 a0_0 a0_1 a0_2 bt201.1 bt201.2.1 bt201.2.2.1 bt201.2.2.2.1 bt201.2.2.2.2.1 bt201.2.2.2.2.2.1 (Int.tmod bt201.2.2.2.2.2.2 300))) = some r := by rw [if_pos rfl] at H; exact H
  clear H
  have H := H1
  clear H1
  replace H := Option.bind_eq_some_iff.mp H
  obtain ⟨⟨t201, t202, t203, t204, t205, t206, t207⟩, A60, H⟩ := H
  replace H : (overfalllaw11_PidFalls.l0 k l2 (mn (mx a0_2 0) (Int.tmod t207 300)) (wrap64 ((Int.tmod t207 300) + 3)) 0 a0_0 a0_1 a0_2 t201 t202 t203 t204 t205 t206 (Int.tmod t207 300)) = some r := H
  have A6 := Aside0.mk A60
  clear A60
  obtain ⟨ji7, hji7⟩ : ∃ j_ : Int, (mx a0_2 0) = j_ := ⟨_, rfl⟩
  replace H : (overfalllaw11_PidFalls.l0 k l2 (mn (ji7) (Int.tmod t207 300)) (wrap64 ((Int.tmod t207 300) + 3)) 0 a0_0 a0_1 a0_2 t201 t202 t203 t204 t205 t206 (Int.tmod t207 300)) = some r := by first | (rw [hji7] at H; exact H) | (simp only [hji7] at H ⊢; exact H)
  (try rw [hji7] at A4)
  (try rw [hji7] at A6)
  (try (have hji7l : 0 ≤ ji7 := by (rw [← hji7]; unfold mx; (repeat' split) <;> omega)))
  (try (have hji7m : 0 ≤ ji7 := by omega))
  have hji7_ : (if a0_2 < 0 then 0 else a0_2) = ji7 := hji7
  obtain ⟨ji8, hji8⟩ : ∃ j_ : Int, (mn (ji7) (Int.tmod t207 300)) = j_ := ⟨_, rfl⟩
  replace H : (overfalllaw11_PidFalls.l0 k l2 ji8 (wrap64 ((Int.tmod t207 300) + 3)) 0 a0_0 a0_1 a0_2 t201 t202 t203 t204 t205 t206 (Int.tmod t207 300)) = some r := by first | (rw [hji8] at H; exact H) | (simp only [hji8] at H ⊢; exact H)
  (try rw [hji8] at A4)
  (try rw [hji8] at A6)
  have hji8_ : (if (Int.tmod t207 300) < (ji7) then (Int.tmod t207 300) else (ji7)) = ji8 := hji8
  have H' := Aside0.mk H
  clear H
  go_enter Try.func5, Try.ntmps5
  have mk_ : True := trivial
  go_wp2_with (first | ((with_reducible refine gate_dst (N := 14) rfl ?_); clear mk_; generalize hq_ : World.setCell (World.setCell (World.setCell (World.setCell (World.setCell (World.setCell (World.setCell (w14) _ _) _ _) _ _) _ _) _ _) _ _) _ _ = wq; have n0_ : Aside0 (wq.heap[gb198]? = some (.cells #[.int .i64 a0_0, .int .i64 a0_1, .int .i64 a0_2] 24 (0, 0))) := ⟨by rw [← hq_]; refine blk_far ?_ NB198_199.out _; refine blk_far ?_ NB198_199.out _; refine blk_far ?_ NB198_199.out _; refine blk_far ?_ NB198_199.out _; refine blk_far ?_ NB198_199.out _; refine blk_far ?_ NB198_199.out _; refine blk_far ?_ NB198_199.out _; exact BK198.out⟩; have n1_ : Aside0 (wq.heap[gb199]? = some (.cells #[.int .i64 t201, .int .i64 t202, .int .i64 t203, .int .i64 t204, .int .i64 t205, .int .i64 t206, .int .i64 t207] 26 (0, 0))) := ⟨by rw [← hq_]; refine blk_put (cs := #[.int .i64 t201, .int .i64 t202, .int .i64 t203, .int .i64 t204, .int .i64 t205, .int .i64 t206, .int .i64 a1_6]) ?_ 6 _ rfl; refine blk_put (cs := #[.int .i64 t201, .int .i64 t202, .int .i64 t203, .int .i64 t204, .int .i64 t205, .int .i64 a1_5, .int .i64 a1_6]) ?_ 5 _ rfl; refine blk_put (cs := #[.int .i64 t201, .int .i64 t202, .int .i64 t203, .int .i64 t204, .int .i64 a1_4, .int .i64 a1_5, .int .i64 a1_6]) ?_ 4 _ rfl; refine blk_put (cs := #[.int .i64 t201, .int .i64 t202, .int .i64 t203, .int .i64 a1_3, .int .i64 a1_4, .int .i64 a1_5, .int .i64 a1_6]) ?_ 3 _ rfl; refine blk_put (cs := #[.int .i64 t201, .int .i64 t202, .int .i64 a1_2, .int .i64 a1_3, .int .i64 a1_4, .int .i64 a1_5, .int .i64 a1_6]) ?_ 2 _ rfl; refine blk_put (cs := #[.int .i64 t201, .int .i64 a1_1, .int .i64 a1_2, .int .i64 a1_3, .int .i64 a1_4, .int .i64 a1_5, .int .i64 a1_6]) ?_ 1 _ rfl; refine blk_put (cs := #[.int .i64 a1_0, .int .i64 a1_1, .int .i64 a1_2, .int .i64 a1_3, .int .i64 a1_4, .int .i64 a1_5, .int .i64 a1_6]) ?_ 0 _ rfl; exact BK199.out⟩; have n2_ : Aside0 (Below w.heap.size w wq) := ⟨by rw [← hq_]; repeat (first | (with_reducible first | exact HB.out | refine below_set ?_ GE198.out | refine below_set ?_ GE199.out) | exact HB.out)⟩; clear BK198 BK199 HB hq_; have BK198 := n0_; have BK199 := n1_; have HB := n2_; clear n0_ n1_ n2_; have hcq199_0 : wq.cell? ⟨gb199, 0, none⟩ = some (.int .i64 t201) := (blk_cell BK199.out 0).trans rfl; have hfq199_0 := blk_frozen BK199.out 0; have hcq199_1 : wq.cell? ⟨gb199, 1, none⟩ = some (.int .i64 t202) := (blk_cell BK199.out 1).trans rfl; have hfq199_1 := blk_frozen BK199.out 1; have hcq199_2 : wq.cell? ⟨gb199, 2, none⟩ = some (.int .i64 t203) := (blk_cell BK199.out 2).trans rfl; have hfq199_2 := blk_frozen BK199.out 2; have hcq199_3 : wq.cell? ⟨gb199, 3, none⟩ = some (.int .i64 t204) := (blk_cell BK199.out 3).trans rfl; have hfq199_3 := blk_frozen BK199.out 3; have hcq199_4 : wq.cell? ⟨gb199, 4, none⟩ = some (.int .i64 t205) := (blk_cell BK199.out 4).trans rfl; have hfq199_4 := blk_frozen BK199.out 4; have hcq199_5 : wq.cell? ⟨gb199, 5, none⟩ = some (.int .i64 t206) := (blk_cell BK199.out 5).trans rfl; have hfq199_5 := blk_frozen BK199.out 5; have hcq199_6 : wq.cell? ⟨gb199, 6, none⟩ = some (.int .i64 t207) := (blk_cell BK199.out 6).trans rfl; have hfq199_6 := blk_frozen BK199.out 6; have hcq198_0 : wq.cell? ⟨gb198, 0, none⟩ = some (.int .i64 a0_0) := (blk_cell BK198.out 0).trans rfl; have hfq198_0 := blk_frozen BK198.out 0; have hcq198_1 : wq.cell? ⟨gb198, 1, none⟩ = some (.int .i64 a0_1) := (blk_cell BK198.out 1).trans rfl; have hfq198_1 := blk_frozen BK198.out 1; have hcq198_2 : wq.cell? ⟨gb198, 2, none⟩ = some (.int .i64 a0_2) := (blk_cell BK198.out 2).trans rfl; have hfq198_2 := blk_frozen BK198.out 2) | ((with_reducible refine gate_dst (N := 3) rfl ?_); (try (refine gate_guard (by rfl) ?_; dsimp only)); refine box_event ?hg (N := 3) ?hd (cs := #[.int .i64 a0_0, .int .i64 a0_1, .int .i64 a0_2]) (t := 24) ?hr ?_; (case hd => rfl); (case hg => rfl); (case hr => first | (go_simp; done) | (go_simp; rfl)); intro gb198 hg w9 hbox hb; have n0_ := Aside0.mk (below_step (by repeat (first | (with_reducible first | exact HB.out | apply below_alloc | apply pw_below_drewN | apply below_drew1) | exact HB.out)) hb); have n1_ := Aside0.mk (hbox); have n2_ := Aside0.mk ((by rw [hg]; exact (below_size (by repeat (first | (with_reducible first | exact HB.out | apply below_alloc | apply pw_below_drewN | apply below_drew1) | exact HB.out))) : w.heap.size ≤ gb198)); have n3_ := Aside0.mk ((by rw [hg]; exact (below_size (by repeat (first | (with_reducible first | exact HB.out | apply below_alloc | apply pw_below_drewN | apply below_drew1) | exact HB.out))) : w.heap.size ≤ gb198)); clear HB; have HB := n0_; have BK198 := n1_; have GW198 := n2_; have GE198 := n3_; clear n0_ n1_ n2_ n3_; clear hb hbox hg) | ((with_reducible refine gate_dst (N := 4) rfl ?_); (try (refine gate_guard (by rfl) ?_; dsimp only)); refine box_event ?hg (N := 4) ?hd (cs := #[.int .i64 a1_0, .int .i64 a1_1, .int .i64 a1_2, .int .i64 a1_3, .int .i64 a1_4, .int .i64 a1_5, .int .i64 a1_6]) (t := 26) ?hr ?_; (case hd => rfl); (case hg => rfl); (case hr => first | (go_simp; done) | (go_simp; rfl)); intro gb199 hg w10 hbox hb; have n0_ := Aside0.mk (blk_below (by exact BK198.out) hb); have n1_ := Aside0.mk (below_step (by repeat (first | (with_reducible first | exact HB.out | apply below_alloc | apply pw_below_drewN | apply below_drew1 | refine below_set ?_ GE198.out) | exact HB.out)) hb); have n2_ := Aside0.mk (hbox); have n3_ := Aside0.mk ((by rw [hg]; exact (below_size (by repeat (first | (with_reducible first | exact HB.out | apply below_alloc | apply pw_below_drewN | apply below_drew1 | refine below_set ?_ GE198.out) | exact HB.out))) : w.heap.size ≤ gb199)); have n4_ := Aside0.mk ((by rw [hg]; exact (below_size (by repeat (first | (with_reducible first | exact HB.out | apply below_alloc | apply pw_below_drewN | apply below_drew1 | refine below_set ?_ GE198.out) | exact HB.out))) : w.heap.size ≤ gb199)); have n5_ := Aside0.mk ((by rw [hg]; exact Nat.ne_of_lt (blk_lt (by exact BK198.out)) : gb198 ≠ gb199)); have n6_ := Aside0.mk ((by rw [hg]; exact Nat.ne_of_gt (blk_lt (by exact BK198.out)) : gb199 ≠ gb198)); clear BK198; clear HB; have BK198 := n0_; have HB := n1_; have BK199 := n2_; have GW199 := n3_; have GE199 := n4_; have NB198_199 := n5_; have NB199_198 := n6_; clear n0_ n1_ n2_ n3_ n4_ n5_ n6_; clear hb hbox hg) | ((with_reducible refine gate_callee (f := 8) rfl ?_); refine goesL_ (some 10) rfl rfl Try.func8 (by kernel_rfl) rfl #[] rfl (by (try simp only [List.map_toArray, List.map_cons, List.map_nil]); first | done | rfl | (simp only [List.length_drop, List.length_take]; rfl)) ?_; (with_reducible refine (overfalllaw11_awake.calls k  true _ A4.out).mono ?_); rintro e w11 ⟨rfl, hb⟩; refine ⟨_, rfl, ?_⟩; have n0_ := Aside0.mk (blk_below (by exact BK198.out) hb); have n1_ := Aside0.mk (blk_below (by exact BK199.out) hb); have n2_ := Aside0.mk (below_step (by repeat (first | (with_reducible first | exact HB.out | apply below_alloc | apply pw_below_drewN | apply below_drew1 | refine below_set ?_ GE198.out | refine below_set ?_ GE199.out) | exact HB.out)) hb); clear BK198; clear BK199; clear HB; have BK198 := n0_; have BK199 := n1_; have HB := n2_; clear n0_ n1_ n2_; (try clear hb); (try clear hb2); (try clear hk); (try clear hi); have hnb12 := NB199_198.out; have hnc12 := NB198_199.out; have hcz13_0 : w11.cell? ⟨gb199, 0, none⟩ = some (.int .i64 a1_0) := (blk_cell BK199.out 0).trans rfl; have hcz13_1 : w11.cell? ⟨gb199, 1, none⟩ = some (.int .i64 a1_1) := (blk_cell BK199.out 1).trans rfl; have hcz13_2 : w11.cell? ⟨gb199, 2, none⟩ = some (.int .i64 a1_2) := (blk_cell BK199.out 2).trans rfl; have hcz13_3 : w11.cell? ⟨gb199, 3, none⟩ = some (.int .i64 a1_3) := (blk_cell BK199.out 3).trans rfl; have hcz13_4 : w11.cell? ⟨gb199, 4, none⟩ = some (.int .i64 a1_4) := (blk_cell BK199.out 4).trans rfl; have hcz13_5 : w11.cell? ⟨gb199, 5, none⟩ = some (.int .i64 a1_5) := (blk_cell BK199.out 5).trans rfl; have hcz13_6 : w11.cell? ⟨gb199, 6, none⟩ = some (.int .i64 a1_6) := (blk_cell BK199.out 6).trans rfl; have hfz13_0 := blk_frozen BK199.out 0; have hfz13_1 := blk_frozen BK199.out 1; have hfz13_2 := blk_frozen BK199.out 2; have hfz13_3 := blk_frozen BK199.out 3; have hfz13_4 := blk_frozen BK199.out 4; have hfz13_5 := blk_frozen BK199.out 5; have hfz13_6 := blk_frozen BK199.out 6) | ((with_reducible refine gate_callee (f := 16) rfl ?_); refine goesL_ (some 13) rfl rfl Try.func16 (by kernel_rfl) rfl #[.agg #[.int .i64 a1_0, .int .i64 a1_1, .int .i64 a1_2, .int .i64 a1_3, .int .i64 a1_4, .int .i64 a1_5, .int .i64 a1_6]] rfl (by (try simp only [List.map_toArray, List.map_cons, List.map_nil]); first | done | rfl | (simp only [List.length_drop, List.length_take]; rfl)) ?_; (with_reducible refine (overfalllaw11_right.calls a1_0 a1_1 a1_2 a1_3 a1_4 a1_5 a1_6 t201 t202 t203 t204 t205 t206 t207 _ A6.out).mono ?_); rintro e w14 ⟨rfl, hb⟩; refine ⟨_, rfl, ?_⟩; have n0_ := Aside0.mk (blk_below (by exact BK198.out) hb); have n1_ := Aside0.mk (blk_below (by exact BK199.out) hb); have n2_ := Aside0.mk (below_step (by repeat (first | (with_reducible first | exact HB.out | apply below_alloc | apply pw_below_drewN | apply below_drew1 | refine below_set ?_ GE198.out | refine below_set ?_ GE199.out) | exact HB.out)) hb); clear BK198; clear BK199; clear HB; have BK198 := n0_; have BK199 := n1_; have HB := n2_; clear n0_ n1_ n2_; (try clear hb); (try clear hb2); (try clear hk); (try clear hi); have hcz15_0 : w14.cell? ⟨gb199, 0, none⟩ = some (.int .i64 a1_0) := (blk_cell BK199.out 0).trans rfl; have hcz15_1 : w14.cell? ⟨gb199, 1, none⟩ = some (.int .i64 a1_1) := (blk_cell BK199.out 1).trans rfl; have hcz15_2 : w14.cell? ⟨gb199, 2, none⟩ = some (.int .i64 a1_2) := (blk_cell BK199.out 2).trans rfl; have hcz15_3 : w14.cell? ⟨gb199, 3, none⟩ = some (.int .i64 a1_3) := (blk_cell BK199.out 3).trans rfl; have hcz15_4 : w14.cell? ⟨gb199, 4, none⟩ = some (.int .i64 a1_4) := (blk_cell BK199.out 4).trans rfl; have hcz15_5 : w14.cell? ⟨gb199, 5, none⟩ = some (.int .i64 a1_5) := (blk_cell BK199.out 5).trans rfl; have hcz15_6 : w14.cell? ⟨gb199, 6, none⟩ = some (.int .i64 a1_6) := (blk_cell BK199.out 6).trans rfl; have hfz15_0 := blk_frozen BK199.out 0; have hfz15_1 := blk_frozen BK199.out 1; have hfz15_2 := blk_frozen BK199.out 2; have hfz15_3 := blk_frozen BK199.out 3; have hfz15_4 := blk_frozen BK199.out 4; have hfz15_5 := blk_frozen BK199.out 5; have hfz15_6 := blk_frozen BK199.out 6; have hcz16_0 : w14.cell? ⟨gb198, 0, none⟩ = some (.int .i64 a0_0) := (blk_cell BK198.out 0).trans rfl; have hcz16_1 : w14.cell? ⟨gb198, 1, none⟩ = some (.int .i64 a0_1) := (blk_cell BK198.out 1).trans rfl; have hcz16_2 : w14.cell? ⟨gb198, 2, none⟩ = some (.int .i64 a0_2) := (blk_cell BK198.out 2).trans rfl; have hfz16_0 := blk_frozen BK198.out 0; have hfz16_1 := blk_frozen BK198.out 1; have hfz16_2 := blk_frozen BK198.out 2))
  go_loopg [7, 27] k (fun kq v7 v27 w' => ∃ (x7_1 : Int) (x27_1 : Int) (x199000_1 : Int) (x199001_1 : Int) (x199002_1 : Int), v7 = .int .i64 x7_1 ∧ v27 = .int .i64 x27_1 ∧ Aside0 (overfalllaw11_PidFalls.l0 kq l2 x7_1 (wrap64 ((Int.tmod t207 300) + 3)) x27_1 x199000_1 x199001_1 x199002_1 t201 t202 t203 t204 t205 t206 (Int.tmod t207 300) = some r) ∧ Aside0 (kq ≤ k) ∧ Aside0 (w'.heap[gb198]? = some (.cells #[.int .i64 x199000_1, .int .i64 x199001_1, .int .i64 x199002_1] 24 (0, 0))) ∧ Aside0 (w'.heap[gb199]? = some (.cells #[.int .i64 t201, .int .i64 t202, .int .i64 t203, .int .i64 t204, .int .i64 t205, .int .i64 t206, .int .i64 (Int.tmod t207 300)] 26 (0, 0))) ∧ Aside0 (Below w.heap.size w w'))
  case atStart => exact ⟨(ji8), (0), (a0_0), (a0_1), (a0_2), (by first | rfl | (simp; done) | (simp only [← hji8] <;> (first | rfl | simp)) | (simp [*]; done)), (by first | rfl | (simp; done) | (simp [*]; done)), H', ⟨Nat.le_refl _⟩, ⟨by refine blk_far ?_ NB198_199.out _; exact BK198.out⟩, ⟨by refine blk_put (cs := #[.int .i64 t201, .int .i64 t202, .int .i64 t203, .int .i64 t204, .int .i64 t205, .int .i64 t206, .int .i64 t207]) ?_ 6 _ rfl; exact BK199.out⟩, ⟨by repeat (first | (with_reducible first | exact HB.out | apply below_alloc | apply pw_below_drewN | apply below_drew1 | refine below_set ?_ GE198.out | refine below_set ?_ GE199.out) | exact HB.out)⟩⟩
  case round =>
   clear H'
   try clear c1
   try clear c2
   try clear p2
   try clear c5
   try clear p6
   try clear c8
   try clear c12
   try clear c16
   try clear hcz13_0
   try clear hcz13_1
   try clear hcz13_2
   try clear hcz13_3
   try clear hcz13_4
   try clear hcz13_5
   try clear hcz13_6
   try clear hcz15_0
   try clear hcz15_1
   try clear hcz15_2
   try clear hcz15_3
   try clear hcz15_4
   try clear hcz15_5
   try clear hcz15_6
   try clear hcz16_0
   try clear hcz16_1
   try clear hcz16_2
   try clear hfz13_0
   try clear hfz13_1
   try clear hfz13_2
   try clear hfz13_3
   try clear hfz13_4
   try clear hfz13_5
   try clear hfz13_6
   try clear hfz15_0
   try clear hfz15_1
   try clear hfz15_2
   try clear hfz15_3
   try clear hfz15_4
   try clear hfz15_5
   try clear hfz15_6
   try clear hfz16_0
   try clear hfz16_1
   try clear hfz16_2
   obtain ⟨x7_1, x27_1, x199000_1, x199001_1, x199002_1, rfl, rfl, HA, HK1, BK198, BK199, HB⟩ := hrel
   cases gk with
   | zero => exact absurd HA.out (by simp [overfalllaw11_PidFalls.l0])
   | succ k1 =>
    have H := HA.out
    clear HA
    simp only [overfalllaw11_PidFalls.l0] at H
    by_cases c17 : x27_1 < (wrap64 ((Int.tmod t207 300) + 3))
    ·rw [if_pos c17] at H
     have c17b0 : decide (x27_1 < (wrap64 ((Int.tmod t207 300) + 3))) = true := decide_eq_true c17
     clear c17
     have HC18 := Aside0.mk H
     clear H
     have hnb19 := NB199_198.out
     have hnc19 := NB198_199.out
     have hcz20_0 : wr.cell? ⟨gb199, 0, none⟩ = some (.int .i64 t201) := (blk_cell BK199.out 0).trans rfl
     have hcz20_1 : wr.cell? ⟨gb199, 1, none⟩ = some (.int .i64 t202) := (blk_cell BK199.out 1).trans rfl
     have hcz20_2 : wr.cell? ⟨gb199, 2, none⟩ = some (.int .i64 t203) := (blk_cell BK199.out 2).trans rfl
     have hcz20_3 : wr.cell? ⟨gb199, 3, none⟩ = some (.int .i64 t204) := (blk_cell BK199.out 3).trans rfl
     have hcz20_4 : wr.cell? ⟨gb199, 4, none⟩ = some (.int .i64 t205) := (blk_cell BK199.out 4).trans rfl
     have hcz20_5 : wr.cell? ⟨gb199, 5, none⟩ = some (.int .i64 t206) := (blk_cell BK199.out 5).trans rfl
     have hcz20_6 : wr.cell? ⟨gb199, 6, none⟩ = some (.int .i64 (Int.tmod t207 300)) := (blk_cell BK199.out 6).trans rfl
     have hfz20_0 := blk_frozen BK199.out 0
     have hfz20_1 := blk_frozen BK199.out 1
     have hfz20_2 := blk_frozen BK199.out 2
     have hfz20_3 := blk_frozen BK199.out 3
     have hfz20_4 := blk_frozen BK199.out 4
     have hfz20_5 := blk_frozen BK199.out 5
     have hfz20_6 := blk_frozen BK199.out 6
     go_upto_if 34 with (fail)
     go_cut [9] (fun v9 wc => ∃ (kq : Nat) (x9_17 : Int), v9 = .int .i64 x9_17 ∧ Aside0 (overfalllaw11_PidFalls.j1 kq l2 x7_1 x27_1 x9_17 (wrap64 ((Int.tmod t207 300) + 3)) x27_1 x199000_1 x199001_1 x199002_1 t201 t202 t203 t204 t205 t206 (Int.tmod t207 300) = some r) ∧ Aside0 (kq ≤ k1) ∧ Aside0 (wc.heap[gb198]? = some (.cells #[.int .i64 x199000_1, .int .i64 x199001_1, .int .i64 x199002_1] 24 (0, 0))) ∧ Aside0 (wc.heap[gb199]? = some (.cells #[.int .i64 t201, .int .i64 t202, .int .i64 t203, .int .i64 t204, .int .i64 t205, .int .i64 t206, .int .i64 (Int.tmod t207 300)] 26 (0, 0))) ∧ Aside0 (Below w.heap.size w wc))
     case first =>
      have H := HC18.out
      clear HC18
      by_cases c21 : (l2.length : Int) > 0
      ·rw [if_pos c21] at H
       have c21b0 : decide (0 < (l2.length : Int)) = true := decide_eq_true c21
       have c21b1 : decide (0 < l2.length) = true := decide_eq_true (by omega)
       clear c21
       (first | rw [c21b0] | (simp only [i64_w, i32_w]; rw [c21b0]) | skip)
       by_cases c22 : (l2.length : Int) = 0
       ·rw [if_pos c22] at H
        exact absurd H (by simp)
       ·rw [if_neg c22] at H
        have c22b0 : ((l2.length : Int) == 0) = false := beq_eq_false_iff_ne.mpr c22
        have c22b1 : ((l2.length : Int) != 0) = true := bne_iff_ne.mpr c22
        have c22b2 : ¬ (l2 = []) := fun h_ => c22 (by rw [h_]; rfl)
        obtain ⟨ji23, hji23⟩ : ∃ j_ : Int, (Int.tmod x27_1 (l2.length : Int)) = j_ := ⟨_, rfl⟩
        replace H : (if 0 ≤ (ji23) then (if (ji23) < (l2.length : Int) then ((fix_Q_Less.f t201 (wrap64 (rd l2 (ji23)))).bind fun t209 => (overfalllaw11_PidFalls.j1 k1 l2 x7_1 x27_1 t209 (wrap64 ((Int.tmod t207 300) + 3)) x27_1 x199000_1 x199001_1 x199002_1 t201 t202 t203 t204 t205 t206 (Int.tmod t207 300))) else (none)) else (none)) = some r := by first | (rw [hji23] at H; exact H) | (simp only [hji23] at H ⊢; exact H)
        by_cases c24 : 0 ≤ (ji23)
        ·rw [if_pos c24] at H
         have c24b0 : decide (0 ≤ (ji23)) = true := decide_eq_true c24
         clear c24
         by_cases c25 : (ji23) < (l2.length : Int)
         ·rw [if_pos c25] at H
          have c25b0 : decide ((ji23) < (l2.length : Int)) = true := decide_eq_true c25
          clear c25
          replace H := Option.bind_eq_some_iff.mp H
          obtain ⟨t209, A260, H⟩ := H
          replace H : (overfalllaw11_PidFalls.j1 k1 l2 x7_1 x27_1 t209 (wrap64 ((Int.tmod t207 300) + 3)) x27_1 x199000_1 x199001_1 x199002_1 t201 t202 t203 t204 t205 t206 (Int.tmod t207 300)) = some r := H
          have A26 := Aside0.mk A260
          clear A260
          have H' := Aside0.mk H
          clear H
          have p208 : 0 ≤ ((ji23) : Int) := of_decide_eq_true (by first | (with_reducible assumption) | assumption)
          have q208 : (ji23) < (l2.length : Int) := of_decide_eq_true (by first | (with_reducible assumption) | assumption)
          obtain ⟨ad208, e208, hx208_0⟩ := Kd.at_int HR2.out (ji23) p208 q208
          cases e208
          replace hx208_0 := (HB.out.cell (World.block_lt_of_cell? w _ hx208_0)).trans hx208_0
          replace p208 := eq_true p208
          replace q208 := eq_true q208
          go_wp2_with (first | ((with_reducible refine gate_callee (f := 18) rfl ?_); refine goesL_ (some 44) rfl rfl Try.func18 (by kernel_rfl) rfl #[.int .i64 t201, .int .i64 (wrap64 (rd l2 (ji23)))] rfl (by (try simp only [List.map_toArray, List.map_cons, List.map_nil]); first | done | (simp only [hji23]; rfl) | rfl | (simp only [List.length_drop, List.length_take]; rfl)) ?_; (with_reducible refine (fix_Q_Less.calls t201 (wrap64 (rd l2 (ji23))) t209 _ A26.out).mono ?_); rintro e w' ⟨rfl, ⟨nd, rfl⟩⟩; refine ⟨_, rfl, ?_⟩))
          go_meet
          case rel => exact ⟨_, (t209), (by first | rfl | (simp; done) | (simp [*]; done)), H', ⟨by have := HK1.out; first | omega | exact Nat.le_refl _⟩, ⟨by exact BK198.out⟩, ⟨by exact BK199.out⟩, ⟨by repeat (first | (with_reducible first | exact HB.out | apply below_alloc | apply pw_below_drewN | apply below_drew1 | refine below_set ?_ GE198.out | refine below_set ?_ GE199.out) | exact HB.out)⟩⟩
         ·rw [if_neg c25] at H
          exact absurd H (by simp)
        ·rw [if_neg c24] at H
         exact absurd H (by simp)
      ·rw [if_neg c21] at H
       have c21b0 : decide (0 < (l2.length : Int)) = false := decide_eq_false c21
       have c21b1 : decide (0 < l2.length) = false := decide_eq_false (by omega)
       have c21a := Aside0.mk c21
       clear c21
       (first | rw [c21b0] | (simp only [i64_w, i32_w]; rw [c21b0]) | skip)
       have H' := Aside0.mk H
       clear H
       go_wp2
       any_goals (exfalso; have z_ := c21a.out; omega)
       go_meet
       case rel => exact ⟨_, (t201), (by first | rfl | (simp; done) | (simp [*]; done)), H', ⟨by have := HK1.out; first | omega | exact Nat.le_refl _⟩, ⟨by exact BK198.out⟩, ⟨by exact BK199.out⟩, ⟨by repeat (first | (with_reducible first | exact HB.out | apply below_alloc | apply pw_below_drewN | apply below_drew1 | refine below_set ?_ GE198.out | refine below_set ?_ GE199.out) | exact HB.out)⟩⟩
     case rest =>
      clear HC18
      try clear c1
      try clear c2
      try clear p2
      try clear q2
      try clear hx2
      try clear c5
      try clear p6
      try clear c8
      try clear c12
      try clear c16
      try clear c17
      try clear c17b0
      try clear c18
      try clear c19
      try clear p20
      try clear q20
      try clear hx20
      try clear c21
      try clear c21b0
      try clear c21b1
      try clear c22
      try clear c22b0
      try clear c22b1
      try clear c22b2
      try clear c24
      try clear c24b0
      try clear c25
      try clear c25b0
      try clear hcz13_0
      try clear hcz13_1
      try clear hcz13_2
      try clear hcz13_3
      try clear hcz13_4
      try clear hcz13_5
      try clear hcz13_6
      try clear hcz15_0
      try clear hcz15_1
      try clear hcz15_2
      try clear hcz15_3
      try clear hcz15_4
      try clear hcz15_5
      try clear hcz15_6
      try clear hcz16_0
      try clear hcz16_1
      try clear hcz16_2
      try clear hcz20_0
      try clear hcz20_1
      try clear hcz20_2
      try clear hcz20_3
      try clear hcz20_4
      try clear hcz20_5
      try clear hcz20_6
      try clear hfz13_0
      try clear hfz13_1
      try clear hfz13_2
      try clear hfz13_3
      try clear hfz13_4
      try clear hfz13_5
      try clear hfz13_6
      try clear hfz15_0
      try clear hfz15_1
      try clear hfz15_2
      try clear hfz15_3
      try clear hfz15_4
      try clear hfz15_5
      try clear hfz15_6
      try clear hfz16_0
      try clear hfz16_1
      try clear hfz16_2
      try clear hfz20_0
      try clear hfz20_1
      try clear hfz20_2
      try clear hfz20_3
      try clear hfz20_4
      try clear hfz20_5
      try clear hfz20_6
      try clear hx208_0
      try clear p2
      try clear p208
      try clear p6
      try clear q208
      (try clear BK198); (try clear BK199); (try clear HB)
      obtain ⟨kq, x9_17, rfl, HA, HJ17, BK198, BK199, HB⟩ := hcut
      cases kq with
      | zero => exact absurd HA.out (by simp [overfalllaw11_PidFalls.j1])
      | succ kj17 =>
       have H := HA.out
       clear HA
       simp only [overfalllaw11_PidFalls.j1] at H
       replace H := Option.bind_eq_some_iff.mp H
       obtain ⟨⟨t210, t211, t212⟩, A270, H⟩ := H
       replace H : (if x27_1 = 0 then (overfalllaw11_PidFalls.j2 kj17 l2 x7_1 x27_1 (wrap64 ((Int.tmod t207 300) + 3)) x27_1 (decide (t212 > (mx x7_1 0))) t210 t211 t212 t201 t202 t203 t204 t205 t206 (Int.tmod t207 300)) else (overfalllaw11_PidFalls.j2 kj17 l2 x7_1 x27_1 (wrap64 ((Int.tmod t207 300) + 3)) x27_1 false t210 t211 t212 t201 t202 t203 t204 t205 t206 (Int.tmod t207 300))) = some r := H
       have A27 := Aside0.mk A270
       clear A270
       have HC28 := Aside0.mk H
       clear H
       have hnb29 := NB198_199.out
       have hnc29 := NB199_198.out
       have hcz30_0 : wc.cell? ⟨gb198, 0, none⟩ = some (.int .i64 x199000_1) := (blk_cell BK198.out 0).trans rfl
       have hcz30_1 : wc.cell? ⟨gb198, 1, none⟩ = some (.int .i64 x199001_1) := (blk_cell BK198.out 1).trans rfl
       have hcz30_2 : wc.cell? ⟨gb198, 2, none⟩ = some (.int .i64 x199002_1) := (blk_cell BK198.out 2).trans rfl
       have hfz30_0 := blk_frozen BK198.out 0
       have hfz30_1 := blk_frozen BK198.out 1
       have hfz30_2 := blk_frozen BK198.out 2
       have hcz31_0 : wc.cell? ⟨gb199, 0, none⟩ = some (.int .i64 t201) := (blk_cell BK199.out 0).trans rfl
       have hcz31_1 : wc.cell? ⟨gb199, 1, none⟩ = some (.int .i64 t202) := (blk_cell BK199.out 1).trans rfl
       have hcz31_2 : wc.cell? ⟨gb199, 2, none⟩ = some (.int .i64 t203) := (blk_cell BK199.out 2).trans rfl
       have hcz31_3 : wc.cell? ⟨gb199, 3, none⟩ = some (.int .i64 t204) := (blk_cell BK199.out 3).trans rfl
       have hcz31_4 : wc.cell? ⟨gb199, 4, none⟩ = some (.int .i64 t205) := (blk_cell BK199.out 4).trans rfl
       have hcz31_5 : wc.cell? ⟨gb199, 5, none⟩ = some (.int .i64 t206) := (blk_cell BK199.out 5).trans rfl
       have hcz31_6 : wc.cell? ⟨gb199, 6, none⟩ = some (.int .i64 (Int.tmod t207 300)) := (blk_cell BK199.out 6).trans rfl
       have hfz31_0 := blk_frozen BK199.out 0
       have hfz31_1 := blk_frozen BK199.out 1
       have hfz31_2 := blk_frozen BK199.out 2
       have hfz31_3 := blk_frozen BK199.out 3
       have hfz31_4 := blk_frozen BK199.out 4
       have hfz31_5 := blk_frozen BK199.out 5
       have hfz31_6 := blk_frozen BK199.out 6
       go_upto_region 13 with (first | ((with_reducible refine gate_callee (f := 11) rfl ?_); refine goesL_ (some 48) rfl rfl Try.func11 (by kernel_rfl) rfl #[.agg #[.int .i64 x199000_1, .int .i64 x199001_1, .int .i64 x199002_1], .agg #[.int .i64 t201, .int .i64 t202, .int .i64 t203, .int .i64 t204, .int .i64 t205, .int .i64 t206, .int .i64 (Int.tmod t207 300)], .int .i64 x9_17] rfl (by (try simp only [List.map_toArray, List.map_cons, List.map_nil]); first | done | rfl | (simp only [List.length_drop, List.length_take]; rfl)) ?_; (with_reducible refine (pid_State_Sample.calls kj17 x199000_1 x199001_1 x199002_1 t201 t202 t203 t204 t205 t206 (Int.tmod t207 300) x9_17 t210 t211 t212 _ A27.out).mono ?_); rintro e w32 ⟨rfl, hb⟩; refine ⟨_, rfl, ?_⟩; have n0_ := Aside0.mk (blk_below (by exact BK198.out) hb); have n1_ := Aside0.mk (blk_below (by exact BK199.out) hb); have n2_ := Aside0.mk (below_step (by repeat (first | (with_reducible first | exact HB.out | apply below_alloc | apply pw_below_drewN | apply below_drew1 | refine below_set ?_ GE198.out | refine below_set ?_ GE199.out) | exact HB.out)) hb); clear BK198; clear BK199; clear HB; have BK198 := n0_; have BK199 := n1_; have HB := n2_; clear n0_ n1_ n2_; (try clear hb); (try clear hb2); (try clear hk); (try clear hi); have hcz33_0 : w32.cell? ⟨gb198, 0, none⟩ = some (.int .i64 x199000_1) := (blk_cell BK198.out 0).trans rfl; have hcz33_1 : w32.cell? ⟨gb198, 1, none⟩ = some (.int .i64 x199001_1) := (blk_cell BK198.out 1).trans rfl; have hcz33_2 : w32.cell? ⟨gb198, 2, none⟩ = some (.int .i64 x199002_1) := (blk_cell BK198.out 2).trans rfl; have hfz33_0 := blk_frozen BK198.out 0; have hfz33_1 := blk_frozen BK198.out 1; have hfz33_2 := blk_frozen BK198.out 2))
       (try simp only [Act.put, List.setIfInBounds_toArray, List.set_cons_zero, List.set_cons_succ])
       go_cut [57] (fun v57 wc => ∃ (kq : Nat) (x57_27 : Bool), v57 = .bool x57_27 ∧ Aside0 (overfalllaw11_PidFalls.j2 kq l2 x7_1 x27_1 (wrap64 ((Int.tmod t207 300) + 3)) x27_1 x57_27 t210 t211 t212 t201 t202 t203 t204 t205 t206 (Int.tmod t207 300) = some r) ∧ Aside0 (kq ≤ kj17) ∧ Aside0 (wc.heap[gb198]? = some (.cells #[.int .i64 t210, .int .i64 t211, .int .i64 t212] 24 (0, 0))) ∧ Aside0 (wc.heap[gb199]? = some (.cells #[.int .i64 t201, .int .i64 t202, .int .i64 t203, .int .i64 t204, .int .i64 t205, .int .i64 t206, .int .i64 (Int.tmod t207 300)] 26 (0, 0))) ∧ Aside0 (Below w.heap.size w wc))
       case first =>
        have H := HC28.out
        clear HC28
        by_cases c34 : x27_1 = 0
        ·rw [if_pos c34] at H
         have c34b0 : (x27_1 == 0) = true := beq_iff_eq.mpr c34
         have c34b1 : (x27_1 != 0) = false := bne_eq_false_iff_eq.mpr c34
         clear c34
         (first | rw [c34b0] | (simp only [i64_w, i32_w]; rw [c34b0]) | skip)
         obtain ⟨ji35, hji35⟩ : ∃ j_ : Int, (mx x7_1 0) = j_ := ⟨_, rfl⟩
         replace H : (overfalllaw11_PidFalls.j2 kj17 l2 x7_1 x27_1 (wrap64 ((Int.tmod t207 300) + 3)) x27_1 (decide (t212 > (ji35))) t210 t211 t212 t201 t202 t203 t204 t205 t206 (Int.tmod t207 300)) = some r := by first | (rw [hji35] at H; exact H) | (simp only [hji35] at H ⊢; exact H)
         have hji35_ : (if x7_1 < 0 then 0 else x7_1) = ji35 := hji35
         have H' := Aside0.mk H
         clear H
         have hnb36 := NB198_199.out
         have hnc36 := NB199_198.out
         have hcz37_0 : w32.cell? ⟨gb198, 0, none⟩ = some (.int .i64 x199000_1) := (blk_cell BK198.out 0).trans rfl
         have hcz37_1 : w32.cell? ⟨gb198, 1, none⟩ = some (.int .i64 x199001_1) := (blk_cell BK198.out 1).trans rfl
         have hcz37_2 : w32.cell? ⟨gb198, 2, none⟩ = some (.int .i64 x199002_1) := (blk_cell BK198.out 2).trans rfl
         have hfz37_0 := blk_frozen BK198.out 0
         have hfz37_1 := blk_frozen BK198.out 1
         have hfz37_2 := blk_frozen BK198.out 2
         go_wp2
         go_meet
         case rel => exact ⟨_, (decide (t212 > (ji35))), (by first | rfl | (simp; done) | (simp only [← hji35] <;> (first | rfl | simp)) | (simp [*]; done)), H', ⟨by have := HK1.out; have := HJ17.out; first | omega | exact Nat.le_refl _⟩, ⟨by refine blk_put (cs := #[.int .i64 t210, .int .i64 t211, .int .i64 x199002_1]) ?_ 2 _ rfl; refine blk_put (cs := #[.int .i64 t210, .int .i64 x199001_1, .int .i64 x199002_1]) ?_ 1 _ rfl; refine blk_put (cs := #[.int .i64 x199000_1, .int .i64 x199001_1, .int .i64 x199002_1]) ?_ 0 _ rfl; exact BK198.out⟩, ⟨by refine blk_far ?_ NB199_198.out _; refine blk_far ?_ NB199_198.out _; refine blk_far ?_ NB199_198.out _; exact BK199.out⟩, ⟨by repeat (first | (with_reducible first | exact HB.out | apply below_alloc | apply pw_below_drewN | apply below_drew1 | refine below_set ?_ GE198.out | refine below_set ?_ GE199.out) | exact HB.out)⟩⟩
        ·rw [if_neg c34] at H
         have c34b0 : (x27_1 == 0) = false := beq_eq_false_iff_ne.mpr c34
         have c34b1 : (x27_1 != 0) = true := bne_iff_ne.mpr c34
         (first | rw [c34b0] | (simp only [i64_w, i32_w]; rw [c34b0]) | skip)
         have H' := Aside0.mk H
         clear H
         go_wp2
         go_meet
         case rel => exact ⟨_, (false), (by first | rfl | (simp; done) | (simp [*]; done)), H', ⟨by have := HK1.out; have := HJ17.out; first | omega | exact Nat.le_refl _⟩, ⟨by refine blk_put (cs := #[.int .i64 t210, .int .i64 t211, .int .i64 x199002_1]) ?_ 2 _ rfl; refine blk_put (cs := #[.int .i64 t210, .int .i64 x199001_1, .int .i64 x199002_1]) ?_ 1 _ rfl; refine blk_put (cs := #[.int .i64 x199000_1, .int .i64 x199001_1, .int .i64 x199002_1]) ?_ 0 _ rfl; exact BK198.out⟩, ⟨by refine blk_far ?_ NB199_198.out _; refine blk_far ?_ NB199_198.out _; refine blk_far ?_ NB199_198.out _; exact BK199.out⟩, ⟨by repeat (first | (with_reducible first | exact HB.out | apply below_alloc | apply pw_below_drewN | apply below_drew1 | refine below_set ?_ GE198.out | refine below_set ?_ GE199.out) | exact HB.out)⟩⟩
       case rest =>
        clear HC28
        try clear c1
        try clear c2
        try clear p2
        try clear q2
        try clear hx2
        try clear c3
        try clear c5
        try clear p6
        try clear c8
        try clear c11
        try clear c12
        try clear c16
        try clear c17
        try clear c17b0
        try clear c18
        try clear c19
        try clear p20
        try clear q20
        try clear hx20
        try clear c21
        try clear c21b0
        try clear c21b1
        try clear c22
        try clear c22b0
        try clear c22b1
        try clear c22b2
        try clear c24
        try clear c24b0
        try clear c25
        try clear c25b0
        try clear c29
        try clear c34
        try clear c34b0
        try clear c34b1
        try clear c36
        try clear hcz13_0
        try clear hcz13_1
        try clear hcz13_2
        try clear hcz13_3
        try clear hcz13_4
        try clear hcz13_5
        try clear hcz13_6
        try clear hcz15_0
        try clear hcz15_1
        try clear hcz15_2
        try clear hcz15_3
        try clear hcz15_4
        try clear hcz15_5
        try clear hcz15_6
        try clear hcz16_0
        try clear hcz16_1
        try clear hcz16_2
        try clear hcz20_0
        try clear hcz20_1
        try clear hcz20_2
        try clear hcz20_3
        try clear hcz20_4
        try clear hcz20_5
        try clear hcz20_6
        try clear hcz30_0
        try clear hcz30_1
        try clear hcz30_2
        try clear hcz31_0
        try clear hcz31_1
        try clear hcz31_2
        try clear hcz31_3
        try clear hcz31_4
        try clear hcz31_5
        try clear hcz31_6
        try clear hcz33_0
        try clear hcz33_1
        try clear hcz33_2
        try clear hcz37_0
        try clear hcz37_1
        try clear hcz37_2
        try clear hfz13_0
        try clear hfz13_1
        try clear hfz13_2
        try clear hfz13_3
        try clear hfz13_4
        try clear hfz13_5
        try clear hfz13_6
        try clear hfz15_0
        try clear hfz15_1
        try clear hfz15_2
        try clear hfz15_3
        try clear hfz15_4
        try clear hfz15_5
        try clear hfz15_6
        try clear hfz16_0
        try clear hfz16_1
        try clear hfz16_2
        try clear hfz20_0
        try clear hfz20_1
        try clear hfz20_2
        try clear hfz20_3
        try clear hfz20_4
        try clear hfz20_5
        try clear hfz20_6
        try clear hfz30_0
        try clear hfz30_1
        try clear hfz30_2
        try clear hfz31_0
        try clear hfz31_1
        try clear hfz31_2
        try clear hfz31_3
        try clear hfz31_4
        try clear hfz31_5
        try clear hfz31_6
        try clear hfz33_0
        try clear hfz33_1
        try clear hfz33_2
        try clear hfz37_0
        try clear hfz37_1
        try clear hfz37_2
        try clear hx208_0
        try clear p2
        try clear p20
        try clear p208
        try clear p6
        try clear q2
        try clear q20
        try clear q208
        (try clear BK198); (try clear BK199); (try clear HB)
        obtain ⟨kq, x57_27, rfl, HA, HJ27, BK198, BK199, HB⟩ := hcut
        cases kq with
        | zero => exact absurd HA.out (by simp [overfalllaw11_PidFalls.j2])
        | succ kj27 =>
         have H := HA.out
         clear HA
         simp only [overfalllaw11_PidFalls.j2] at H
         by_cases c38 : x57_27 = true
         ·subst c38
          have H1 : (none) = some r := by rw [if_pos rfl] at H; exact H
          clear H
          have H := H1
          clear H1
          exact absurd H (by simp)
         ·replace c38 := Bool.eq_false_iff.mpr c38
          subst c38
          have H1 : (if x27_1 > 0 then (if t212 = (mx (wrap64 (x7_1 - 1)) 0) then (overfalllaw11_PidFalls.l0 kj27 l2 t212 (wrap64 ((Int.tmod t207 300) + 3)) (wrap64 (x27_1 + 1)) t210 t211 t212 t201 t202 t203 t204 t205 t206 (Int.tmod t207 300)) else (none)) else (overfalllaw11_PidFalls.l0 kj27 l2 t212 (wrap64 ((Int.tmod t207 300) + 3)) (wrap64 (x27_1 + 1)) t210 t211 t212 t201 t202 t203 t204 t205 t206 (Int.tmod t207 300))) = some r := by rw [if_neg (show ¬ (false = true) by decide)] at H; exact H
          clear H
          have H := H1
          clear H1
          by_cases c39 : x27_1 > 0
          ·rw [if_pos c39] at H
           have c39b0 : decide (0 < x27_1) = true := decide_eq_true c39
           clear c39
           obtain ⟨ji40, hji40⟩ : ∃ j_ : Int, (mx (wrap64 (x7_1 - 1)) 0) = j_ := ⟨_, rfl⟩
           replace H : (if t212 = (ji40) then (overfalllaw11_PidFalls.l0 kj27 l2 t212 (wrap64 ((Int.tmod t207 300) + 3)) (wrap64 (x27_1 + 1)) t210 t211 t212 t201 t202 t203 t204 t205 t206 (Int.tmod t207 300)) else (none)) = some r := by first | (rw [hji40] at H; exact H) | (simp only [hji40] at H ⊢; exact H)
           have hji40_ : (if (wrap64 (x7_1 - 1)) < 0 then 0 else (wrap64 (x7_1 - 1))) = ji40 := hji40
           by_cases c41 : t212 = (ji40)
           ·rw [if_pos c41] at H
            have c41b0 : (t212 == (ji40)) = true := beq_iff_eq.mpr c41
            have c41b1 : (t212 != (ji40)) = false := bne_eq_false_iff_eq.mpr c41
            clear c41
            have H' := Aside0.mk H
            clear H
            have hnb42 := NB198_199.out
            have hnc42 := NB199_198.out
            have hcz43_0 : wc.cell? ⟨gb198, 0, none⟩ = some (.int .i64 t210) := (blk_cell BK198.out 0).trans rfl
            have hcz43_1 : wc.cell? ⟨gb198, 1, none⟩ = some (.int .i64 t211) := (blk_cell BK198.out 1).trans rfl
            have hcz43_2 : wc.cell? ⟨gb198, 2, none⟩ = some (.int .i64 t212) := (blk_cell BK198.out 2).trans rfl
            have hfz43_0 := blk_frozen BK198.out 0
            have hfz43_1 := blk_frozen BK198.out 1
            have hfz43_2 := blk_frozen BK198.out 2
            go_wp2
            go_roundg kj27
            case measure => have := HK1.out; have := HJ17.out; have := HJ27.out; omega
            case rel => exact ⟨(t212), (wrap64 (x27_1 + 1)), (t210), (t211), (t212), (by first | rfl | (simp; done) | (simp [*]; done)), (by first | rfl | (simp; done) | (simp [*]; done)), H', ⟨by have := HK1.out; have := HJ17.out; have := HJ27.out; omega⟩, ⟨by exact BK198.out⟩, ⟨by exact BK199.out⟩, ⟨by repeat (first | (with_reducible first | exact HB.out | apply below_alloc | apply pw_below_drewN | apply below_drew1 | refine below_set ?_ GE198.out | refine below_set ?_ GE199.out) | exact HB.out)⟩⟩
           ·rw [if_neg c41] at H
            exact absurd H (by simp)
          ·rw [if_neg c39] at H
           have c39b0 : decide (0 < x27_1) = false := decide_eq_false c39
           clear c39
           have H' := Aside0.mk H
           clear H
           have hnb44 := NB198_199.out
           have hnc44 := NB199_198.out
           have hcz45_0 : wc.cell? ⟨gb198, 0, none⟩ = some (.int .i64 t210) := (blk_cell BK198.out 0).trans rfl
           have hcz45_1 : wc.cell? ⟨gb198, 1, none⟩ = some (.int .i64 t211) := (blk_cell BK198.out 1).trans rfl
           have hcz45_2 : wc.cell? ⟨gb198, 2, none⟩ = some (.int .i64 t212) := (blk_cell BK198.out 2).trans rfl
           have hfz45_0 := blk_frozen BK198.out 0
           have hfz45_1 := blk_frozen BK198.out 1
           have hfz45_2 := blk_frozen BK198.out 2
           go_wp2
           go_roundg kj27
           case measure => have := HK1.out; have := HJ17.out; have := HJ27.out; omega
           case rel => exact ⟨(t212), (wrap64 (x27_1 + 1)), (t210), (t211), (t212), (by first | rfl | (simp; done) | (simp [*]; done)), (by first | rfl | (simp; done) | (simp [*]; done)), H', ⟨by have := HK1.out; have := HJ17.out; have := HJ27.out; omega⟩, ⟨by exact BK198.out⟩, ⟨by exact BK199.out⟩, ⟨by repeat (first | (with_reducible first | exact HB.out | apply below_alloc | apply pw_below_drewN | apply below_drew1 | refine below_set ?_ GE198.out | refine below_set ?_ GE199.out) | exact HB.out)⟩⟩
    ·rw [if_neg c17] at H
     have c17b0 : decide (x27_1 < (wrap64 ((Int.tmod t207 300) + 3))) = false := decide_eq_false c17
     clear c17
     obtain rfl := Option.some.inj H
     have hnb46 := NB198_199.out
     have hnc46 := NB199_198.out
     have hcz47_0 : wr.cell? ⟨gb198, 0, none⟩ = some (.int .i64 x199000_1) := (blk_cell BK198.out 0).trans rfl
     have hcz47_1 : wr.cell? ⟨gb198, 1, none⟩ = some (.int .i64 x199001_1) := (blk_cell BK198.out 1).trans rfl
     have hcz47_2 : wr.cell? ⟨gb198, 2, none⟩ = some (.int .i64 x199002_1) := (blk_cell BK198.out 2).trans rfl
     have hfz47_0 := blk_frozen BK198.out 0
     have hfz47_1 := blk_frozen BK198.out 1
     have hfz47_2 := blk_frozen BK198.out 2
     go_wp2
     go_ret
     exact ⟨by first | rfl | (simp [errW_none, errW_some] <;> rfl) | (simp only [← hji7, ← hji8]; first | rfl | (simp [errW_none, errW_some] <;> rfl)) | (simp [*, errW_none, errW_some] <;> rfl), by repeat (first | (with_reducible first | exact HB.out | apply below_alloc | apply pw_below_drewN | apply below_drew1 | refine below_set ?_ GE198.out | refine below_set ?_ GE199.out) | exact HB.out)⟩
 ·replace c5 := Bool.eq_false_iff.mpr c5
  subst c5
  have H1 : (none) = some r := by rw [if_neg (show ¬ (false = true) by decide)] at H; exact H
  clear H
  have H := H1
  clear H1
  exact absurd H (by simp)

end Go.Proofs.Ythmapfhemiamhaa.P

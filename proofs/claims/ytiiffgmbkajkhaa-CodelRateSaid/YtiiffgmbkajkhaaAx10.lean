-- Laid by a program of this claim's session (wip/tools/myprint.py) over the kit's printer.
import Derived.Test.YtiiffgmbkajkhaaAx0
import Derived.Test.YtiiffgmbkajkhaaAx5
import Derived.Test.YtiiffgmbkajkhaaAx6
import Derived.Test.YtiiffgmbkajkhaaAx9
namespace Go.Proofs.Ytiiffgmbkajkhaa.A
open Go.RowKit Go.Proofs.YtiiffgmbkajkhaaW.PrintWords Go.Proofs.YtiiffgmbkajkhaaW.PrintLast Go.Proofs.YtiiffgmbkajkhaaW.PrintMore
attribute [local go_sem] max2_int min2_int max_two min_two max_three min_three max_four min_four   -- for this text's walks alone
set_option linter.unusedVariables false
set_option linter.unusedSimpArgs false

/-! ### overfalllaw08_CodelRate: function 7 -/
mutual
def overfalllaw08_CodelRate.l0 : Nat → Int → Int → Int → Int → Int → Int → Bool → Int → Bool → Int → Int → Int → Option (Bool)
 | 0, _, _, _, _, _, _, _, _, _, _, _, _ => none
 | k + 1, x6, x9, x10, x11, x306000, x306001, x314000, x314001, x314002, x314003, x314004, x314005 => if x6 < (wrap64 (x9 + (wrap64 (6 * x306001)))) then ((codel_State_Look.f k x314000 x314001 x314002 x314003 x314004 x314005 x306000 x306001 (wrap64 (x6 + 1)) 1 2).bind fun bt314 => (if bt314.2.2.2.2.2.2 = 1 then ((codel_State_More.f k bt314.1 bt314.2.1 bt314.2.2.1 bt314.2.2.2.1 bt314.2.2.2.2.1 bt314.2.2.2.2.2.1 x306000 x306001 (wrap64 (x6 + 1)) 1 2).bind fun bt321 => (overfalllaw08_CodelRate.l1 k (wrap64 (x6 + 1)) bt314.2.2.2.2.2.2 x9 x10 x11 bt321.2.2.2.2.2.2 0 x306000 x306001 bt321.1 bt321.2.1 bt321.2.2.1 bt321.2.2.2.1 bt321.2.2.2.2.1 bt321.2.2.2.2.2.1)) else (overfalllaw08_CodelRate.j3 k (wrap64 (x6 + 1)) bt314.2.2.2.2.2.2 x9 x10 x11 x306000 x306001 bt314.1 bt314.2.1 bt314.2.2.1 bt314.2.2.2.1 bt314.2.2.2.2.1 bt314.2.2.2.2.2.1))) else (some (decide (x11 ≥ 6)))
def overfalllaw08_CodelRate.j3 : Nat → Int → Int → Int → Int → Int → Int → Int → Bool → Int → Bool → Int → Int → Int → Option (Bool)
 | 0, _, _, _, _, _, _, _, _, _, _, _, _, _ => none
 | k + 1, x6, x8, x9, x10, x11, x306000, x306001, x314000, x314001, x314002, x314003, x314004, x314005 => if ((x8 != 0) != (decide (x6 ≥ x10))) = true then (none) else (if x8 = 0 then ((overfallref03_Law.f k x306001 x11).bind fun t336 => (if t336 < 2 then (some true) else (overfalllaw08_CodelRate.l0 k x6 x9 x10 x11 x306000 x306001 x314000 x314001 x314002 x314003 x314004 x314005))) else ((overfallref03_Law.f k x306001 (IntKind.u64.wrap (x11 + 1))).bind fun t337 => ((overfallref03_Law.f k x306001 (IntKind.u64.wrap (x11 + 1))).bind fun t338 => (if t338 < 2 then (some true) else (overfalllaw08_CodelRate.l0 k x6 x9 (wrap64 (x10 + t337)) (IntKind.u64.wrap (x11 + 1)) x306000 x306001 x314000 x314001 x314002 x314003 x314004 x314005)))))
def overfalllaw08_CodelRate.l1 : Nat → Int → Int → Int → Int → Int → Int → Int → Int → Int → Bool → Int → Bool → Int → Int → Int → Option (Bool)
 | 0, _, _, _, _, _, _, _, _, _, _, _, _, _, _, _ => none
 | k + 1, x6, x8, x9, x10, x11, x12, x13, x306000, x306001, x314000, x314001, x314002, x314003, x314004, x314005 => if x12 = 1 then (overfalllaw08_CodelRate.j2 k x6 x8 x9 x10 x11 x13 (decide (x13 < 900)) x306000 x306001 x314000 x314001 x314002 x314003 x314004 x314005) else (overfalllaw08_CodelRate.j2 k x6 x8 x9 x10 x11 x13 false x306000 x306001 x314000 x314001 x314002 x314003 x314004 x314005)
def overfalllaw08_CodelRate.j2 : Nat → Int → Int → Int → Int → Int → Int → Bool → Int → Int → Bool → Int → Bool → Int → Int → Int → Option (Bool)
 | 0, _, _, _, _, _, _, _, _, _, _, _, _, _, _, _ => none
 | k + 1, x6, x8, x9, x10, x11, x13, x67, x306000, x306001, x314000, x314001, x314002, x314003, x314004, x314005 => if x67 = true then ((overfallref03_Law.f k x306001 (IntKind.u64.wrap (x11 + 1))).bind fun t328 => ((codel_State_More.f k x314000 x314001 x314002 x314003 x314004 x314005 x306000 x306001 x6 1 2).bind fun bt329 => (overfalllaw08_CodelRate.l1 k x6 x8 x9 (wrap64 (x10 + t328)) (IntKind.u64.wrap (x11 + 1)) bt329.2.2.2.2.2.2 (wrap64 (x13 + 1)) x306000 x306001 bt329.1 bt329.2.1 bt329.2.2.1 bt329.2.2.2.1 bt329.2.2.2.2.1 bt329.2.2.2.2.2.1))) else (overfalllaw08_CodelRate.j3 k x6 x8 x9 x10 x11 x306000 x306001 x314000 x314001 x314002 x314003 x314004 x314005)
end
def overfalllaw08_CodelRate.f (k : Nat) (a0 : Int) (a1 : Int) : Option (Bool) := (overfalllaw08_awake.f k).bind fun t304 => (if t304 = true then ((codel_State_Look.f k false 0 false 0 0 0 1 (wrap64 (1 + (wrap64 (Int.tmod a0 60)))) (Int.tmod a1 1099511627776) 1 2).bind fun bt306 => (if bt306.2.2.2.2.2.2 = 0 then (overfalllaw08_CodelRate.l0 k (Int.tmod a1 1099511627776) (wrap64 ((Int.tmod a1 1099511627776) + (wrap64 (1 + (wrap64 (Int.tmod a0 60)))))) (wrap64 ((Int.tmod a1 1099511627776) + (wrap64 (1 + (wrap64 (Int.tmod a0 60)))))) 0 1 (wrap64 (1 + (wrap64 (Int.tmod a0 60)))) bt306.1 bt306.2.1 bt306.2.2.1 bt306.2.2.2.1 bt306.2.2.2.2.1 bt306.2.2.2.2.2.1) else (none))) else (none))
theorem overfalllaw08_CodelRate.mono_l : ∀ k, (∀ y0 y1 y2 y3 y4 y5 y6 y7 y8 y9 y10 y11, LeO (overfalllaw08_CodelRate.l0 k y0 y1 y2 y3 y4 y5 y6 y7 y8 y9 y10 y11) (overfalllaw08_CodelRate.l0 (k + 1) y0 y1 y2 y3 y4 y5 y6 y7 y8 y9 y10 y11)) ∧ (∀ y0 y1 y2 y3 y4 y5 y6 y7 y8 y9 y10 y11 y12, LeO (overfalllaw08_CodelRate.j3 k y0 y1 y2 y3 y4 y5 y6 y7 y8 y9 y10 y11 y12) (overfalllaw08_CodelRate.j3 (k + 1) y0 y1 y2 y3 y4 y5 y6 y7 y8 y9 y10 y11 y12)) ∧ (∀ y0 y1 y2 y3 y4 y5 y6 y7 y8 y9 y10 y11 y12 y13 y14, LeO (overfalllaw08_CodelRate.l1 k y0 y1 y2 y3 y4 y5 y6 y7 y8 y9 y10 y11 y12 y13 y14) (overfalllaw08_CodelRate.l1 (k + 1) y0 y1 y2 y3 y4 y5 y6 y7 y8 y9 y10 y11 y12 y13 y14)) ∧ (∀ y0 y1 y2 y3 y4 y5 y6 y7 y8 y9 y10 y11 y12 y13 y14, LeO (overfalllaw08_CodelRate.j2 k y0 y1 y2 y3 y4 y5 y6 y7 y8 y9 y10 y11 y12 y13 y14) (overfalllaw08_CodelRate.j2 (k + 1) y0 y1 y2 y3 y4 y5 y6 y7 y8 y9 y10 y11 y12 y13 y14))
 | 0 => ⟨fun _ _ _ _ _ _ _ _ _ _ _ _ r h => by simp [overfalllaw08_CodelRate.l0] at h, fun _ _ _ _ _ _ _ _ _ _ _ _ _ r h => by simp [overfalllaw08_CodelRate.j3] at h, fun _ _ _ _ _ _ _ _ _ _ _ _ _ _ _ r h => by simp [overfalllaw08_CodelRate.l1] at h, fun _ _ _ _ _ _ _ _ _ _ _ _ _ _ _ r h => by simp [overfalllaw08_CodelRate.j2] at h⟩
 | k + 1 => by
  obtain ⟨ih0, ih1, ih2, ih3⟩ := overfalllaw08_CodelRate.mono_l k
  refine ⟨?_, ?_, ?_, ?_⟩
  ·intro y0 y1 y2 y3 y4 y5 y6 y7 y8 y9 y10 y11
   unfold overfalllaw08_CodelRate.l0
   repeat' first
   | (with_reducible exact ih0 _ _ _ _ _ _ _ _ _ _ _ _)
   | (with_reducible exact ih1 _ _ _ _ _ _ _ _ _ _ _ _ _)
   | (with_reducible exact ih2 _ _ _ _ _ _ _ _ _ _ _ _ _ _ _)
   | (with_reducible exact ih3 _ _ _ _ _ _ _ _ _ _ _ _ _ _ _)
   | (with_reducible exact codel_State_Look.mono _ _ _ _ _ _ _ _ _ _ _ _)
   | (with_reducible exact codel_State_More.mono _ _ _ _ _ _ _ _ _ _ _ _)
   | (with_reducible exact overfalllaw08_awake.mono _)
   | (with_reducible exact overfallref03_Law.mono _ _ _)
   | (with_reducible exact LeO.refl _)
   | (with_reducible exact LeO.none _)
   | (with_reducible refine LeO.ite ?_ ?_)
   | (with_reducible refine LeO.bind ?_ (fun _ => ?_))
   | exact ih0 _ _ _ _ _ _ _ _ _ _ _ _
   | exact ih1 _ _ _ _ _ _ _ _ _ _ _ _ _
   | exact ih2 _ _ _ _ _ _ _ _ _ _ _ _ _ _ _
   | exact ih3 _ _ _ _ _ _ _ _ _ _ _ _ _ _ _
   | exact codel_State_Look.mono _ _ _ _ _ _ _ _ _ _ _ _
   | exact codel_State_More.mono _ _ _ _ _ _ _ _ _ _ _ _
   | exact overfalllaw08_awake.mono _
   | exact overfallref03_Law.mono _ _ _
   | exact LeO.none _
   | refine LeO.ite ?_ ?_
   | refine LeO.bind ?_ (fun _ => ?_)
  ·intro y0 y1 y2 y3 y4 y5 y6 y7 y8 y9 y10 y11 y12
   unfold overfalllaw08_CodelRate.j3
   repeat' first
   | (with_reducible exact ih0 _ _ _ _ _ _ _ _ _ _ _ _)
   | (with_reducible exact ih1 _ _ _ _ _ _ _ _ _ _ _ _ _)
   | (with_reducible exact ih2 _ _ _ _ _ _ _ _ _ _ _ _ _ _ _)
   | (with_reducible exact ih3 _ _ _ _ _ _ _ _ _ _ _ _ _ _ _)
   | (with_reducible exact codel_State_Look.mono _ _ _ _ _ _ _ _ _ _ _ _)
   | (with_reducible exact codel_State_More.mono _ _ _ _ _ _ _ _ _ _ _ _)
   | (with_reducible exact overfalllaw08_awake.mono _)
   | (with_reducible exact overfallref03_Law.mono _ _ _)
   | (with_reducible exact LeO.refl _)
   | (with_reducible exact LeO.none _)
   | (with_reducible refine LeO.ite ?_ ?_)
   | (with_reducible refine LeO.bind ?_ (fun _ => ?_))
   | exact ih0 _ _ _ _ _ _ _ _ _ _ _ _
   | exact ih1 _ _ _ _ _ _ _ _ _ _ _ _ _
   | exact ih2 _ _ _ _ _ _ _ _ _ _ _ _ _ _ _
   | exact ih3 _ _ _ _ _ _ _ _ _ _ _ _ _ _ _
   | exact codel_State_Look.mono _ _ _ _ _ _ _ _ _ _ _ _
   | exact codel_State_More.mono _ _ _ _ _ _ _ _ _ _ _ _
   | exact overfalllaw08_awake.mono _
   | exact overfallref03_Law.mono _ _ _
   | exact LeO.none _
   | refine LeO.ite ?_ ?_
   | refine LeO.bind ?_ (fun _ => ?_)
  ·intro y0 y1 y2 y3 y4 y5 y6 y7 y8 y9 y10 y11 y12 y13 y14
   unfold overfalllaw08_CodelRate.l1
   repeat' first
   | (with_reducible exact ih0 _ _ _ _ _ _ _ _ _ _ _ _)
   | (with_reducible exact ih1 _ _ _ _ _ _ _ _ _ _ _ _ _)
   | (with_reducible exact ih2 _ _ _ _ _ _ _ _ _ _ _ _ _ _ _)
   | (with_reducible exact ih3 _ _ _ _ _ _ _ _ _ _ _ _ _ _ _)
   | (with_reducible exact codel_State_Look.mono _ _ _ _ _ _ _ _ _ _ _ _)
   | (with_reducible exact codel_State_More.mono _ _ _ _ _ _ _ _ _ _ _ _)
   | (with_reducible exact overfalllaw08_awake.mono _)
   | (with_reducible exact overfallref03_Law.mono _ _ _)
   | (with_reducible exact LeO.refl _)
   | (with_reducible exact LeO.none _)
   | (with_reducible refine LeO.ite ?_ ?_)
   | (with_reducible refine LeO.bind ?_ (fun _ => ?_))
   | exact ih0 _ _ _ _ _ _ _ _ _ _ _ _
   | exact ih1 _ _ _ _ _ _ _ _ _ _ _ _ _
   | exact ih2 _ _ _ _ _ _ _ _ _ _ _ _ _ _ _
   | exact ih3 _ _ _ _ _ _ _ _ _ _ _ _ _ _ _
   | exact codel_State_Look.mono _ _ _ _ _ _ _ _ _ _ _ _
   | exact codel_State_More.mono _ _ _ _ _ _ _ _ _ _ _ _
   | exact overfalllaw08_awake.mono _
   | exact overfallref03_Law.mono _ _ _
   | exact LeO.none _
   | refine LeO.ite ?_ ?_
   | refine LeO.bind ?_ (fun _ => ?_)
  ·intro y0 y1 y2 y3 y4 y5 y6 y7 y8 y9 y10 y11 y12 y13 y14
   unfold overfalllaw08_CodelRate.j2
   repeat' first
   | (with_reducible exact ih0 _ _ _ _ _ _ _ _ _ _ _ _)
   | (with_reducible exact ih1 _ _ _ _ _ _ _ _ _ _ _ _ _)
   | (with_reducible exact ih2 _ _ _ _ _ _ _ _ _ _ _ _ _ _ _)
   | (with_reducible exact ih3 _ _ _ _ _ _ _ _ _ _ _ _ _ _ _)
   | (with_reducible exact codel_State_Look.mono _ _ _ _ _ _ _ _ _ _ _ _)
   | (with_reducible exact codel_State_More.mono _ _ _ _ _ _ _ _ _ _ _ _)
   | (with_reducible exact overfalllaw08_awake.mono _)
   | (with_reducible exact overfallref03_Law.mono _ _ _)
   | (with_reducible exact LeO.refl _)
   | (with_reducible exact LeO.none _)
   | (with_reducible refine LeO.ite ?_ ?_)
   | (with_reducible refine LeO.bind ?_ (fun _ => ?_))
   | exact ih0 _ _ _ _ _ _ _ _ _ _ _ _
   | exact ih1 _ _ _ _ _ _ _ _ _ _ _ _ _
   | exact ih2 _ _ _ _ _ _ _ _ _ _ _ _ _ _ _
   | exact ih3 _ _ _ _ _ _ _ _ _ _ _ _ _ _ _
   | exact codel_State_Look.mono _ _ _ _ _ _ _ _ _ _ _ _
   | exact codel_State_More.mono _ _ _ _ _ _ _ _ _ _ _ _
   | exact overfalllaw08_awake.mono _
   | exact overfallref03_Law.mono _ _ _
   | exact LeO.none _
   | refine LeO.ite ?_ ?_
   | refine LeO.bind ?_ (fun _ => ?_)
theorem overfalllaw08_CodelRate.mono : ∀ a0 a1 k, LeO (overfalllaw08_CodelRate.f k a0 a1) (overfalllaw08_CodelRate.f (k + 1) a0 a1) := by
 intro a0 a1 k
 obtain ⟨ih0, ih1, ih2, ih3⟩ := overfalllaw08_CodelRate.mono_l k
 unfold overfalllaw08_CodelRate.f
 repeat' first
   | (with_reducible exact ih0 _ _ _ _ _ _ _ _ _ _ _ _)
   | (with_reducible exact ih1 _ _ _ _ _ _ _ _ _ _ _ _ _)
   | (with_reducible exact ih2 _ _ _ _ _ _ _ _ _ _ _ _ _ _ _)
   | (with_reducible exact ih3 _ _ _ _ _ _ _ _ _ _ _ _ _ _ _)
   | (with_reducible exact codel_State_Look.mono _ _ _ _ _ _ _ _ _ _ _ _)
   | (with_reducible exact codel_State_More.mono _ _ _ _ _ _ _ _ _ _ _ _)
   | (with_reducible exact overfalllaw08_awake.mono _)
   | (with_reducible exact overfallref03_Law.mono _ _ _)
   | (with_reducible exact LeO.refl _)
   | (with_reducible exact LeO.none _)
   | (with_reducible refine LeO.ite ?_ ?_)
   | (with_reducible refine LeO.bind ?_ (fun _ => ?_))
   | exact ih0 _ _ _ _ _ _ _ _ _ _ _ _
   | exact ih1 _ _ _ _ _ _ _ _ _ _ _ _ _
   | exact ih2 _ _ _ _ _ _ _ _ _ _ _ _ _ _ _
   | exact ih3 _ _ _ _ _ _ _ _ _ _ _ _ _ _ _
   | exact codel_State_Look.mono _ _ _ _ _ _ _ _ _ _ _ _
   | exact codel_State_More.mono _ _ _ _ _ _ _ _ _ _ _ _
   | exact overfalllaw08_awake.mono _
   | exact overfallref03_Law.mono _ _ _
   | exact LeO.none _
   | refine LeO.ite ?_ ?_
   | refine LeO.bind ?_ (fun _ => ?_)
set_option maxHeartbeats 8000000 in
set_option maxRecDepth 100000 in
theorem overfalllaw08_CodelRate.calls (k : Nat) (a0 : Int) (a1 : Int) (r : Bool) (w : World) (h : overfalllaw08_CodelRate.f k a0 a1 = some r) :
  Calls Try.prog 7 #[.int .u16 a0, .int .i64 a1] w fun e w' => e = .returned (.bool r) ∧ Below w.heap.size w w' := by
 have hu26 := Try.underlying26
 have hu24 := Try.underlying24
 have HB := Aside0.mk (Below.refl w.heap.size w)
 have H : ((overfalllaw08_awake.f k).bind fun t304 => (if t304 = true then ((codel_State_Look.f k false 0 false 0 0 0 1 (wrap64 (1 + (wrap64 (Int.tmod a0 60)))) (Int.tmod a1 1099511627776) 1 2).bind fun bt306 => (if bt306.2.2.2.2.2.2 = 0 then (overfalllaw08_CodelRate.l0 k (Int.tmod a1 1099511627776) (wrap64 ((Int.tmod a1 1099511627776) + (wrap64 (1 + (wrap64 (Int.tmod a0 60)))))) (wrap64 ((Int.tmod a1 1099511627776) + (wrap64 (1 + (wrap64 (Int.tmod a0 60)))))) 0 1 (wrap64 (1 + (wrap64 (Int.tmod a0 60)))) bt306.1 bt306.2.1 bt306.2.2.1 bt306.2.2.2.1 bt306.2.2.2.2.1 bt306.2.2.2.2.2.1) else (none))) else (none))) = some r := h
 clear h
 replace H := Option.bind_eq_some_iff.mp H
 obtain ⟨t304, A30, H⟩ := H
 replace H : (if t304 = true then ((codel_State_Look.f k false 0 false 0 0 0 1 (wrap64 (1 + (wrap64 (Int.tmod a0 60)))) (Int.tmod a1 1099511627776) 1 2).bind fun bt306 => (if bt306.2.2.2.2.2.2 = 0 then (overfalllaw08_CodelRate.l0 k (Int.tmod a1 1099511627776) (wrap64 ((Int.tmod a1 1099511627776) + (wrap64 (1 + (wrap64 (Int.tmod a0 60)))))) (wrap64 ((Int.tmod a1 1099511627776) + (wrap64 (1 + (wrap64 (Int.tmod a0 60)))))) 0 1 (wrap64 (1 + (wrap64 (Int.tmod a0 60)))) bt306.1 bt306.2.1 bt306.2.2.1 bt306.2.2.2.1 bt306.2.2.2.2.1 bt306.2.2.2.2.2.1) else (none))) else (none)) = some r := H
 have A3 := Aside0.mk A30
 clear A30
 by_cases c4 : t304 = true
 ·subst c4
  have H1 : ((codel_State_Look.f k false 0 false 0 0 0 1 (wrap64 (1 + (wrap64 (Int.tmod a0 60)))) (Int.tmod a1 1099511627776) 1 2).bind fun bt306 => (if bt306.2.2.2.2.2.2 = 0 then (overfalllaw08_CodelRate.l0 k (Int.tmod a1 1099511627776) (wrap64 ((Int.tmod a1 1099511627776) + (wrap64 (1 + (wrap64 (Int.tmod a0 60)))))) (wrap64 ((Int.tmod a1 1099511627776) + (wrap64 (1 + (wrap64 (Int.tmod a0 60)))))) 0 1 (wrap64 (1 + (wrap64 (Int.tmod a0 60)))) bt306.1 bt306.2.1 bt306.2.2.1 bt306.2.2.2.1 bt306.2.2.2.2.1 bt306.2.2.2.2.2.1) else (none))) = some r := by rw [if_pos rfl] at H; exact H
  clear H
  have H := H1
  clear H1
  replace H := Option.bind_eq_some_iff.mp H
  obtain ⟨⟨t306, t307, t308, t309, t310, t311, t312⟩, A50, H⟩ := H
  replace H : (if t312 = 0 then (overfalllaw08_CodelRate.l0 k (Int.tmod a1 1099511627776) (wrap64 ((Int.tmod a1 1099511627776) + (wrap64 (1 + (wrap64 (Int.tmod a0 60)))))) (wrap64 ((Int.tmod a1 1099511627776) + (wrap64 (1 + (wrap64 (Int.tmod a0 60)))))) 0 1 (wrap64 (1 + (wrap64 (Int.tmod a0 60)))) t306 t307 t308 t309 t310 t311) else (none)) = some r := H
  have A5 := Aside0.mk A50
  clear A50
  by_cases c6 : t312 = 0
  ·rw [if_pos c6] at H
   have c6b0 : (t312 == 0) = true := beq_iff_eq.mpr c6
   have c6b1 : (t312 != 0) = false := bne_eq_false_iff_eq.mpr c6
   clear c6
   have H' := Aside0.mk H
   clear H
   go_enter Try.func7, Try.ntmps7
   go_wp2_with (first | ((with_reducible refine gate_callee (f := 9) rfl ?_); refine goesL_ (some 14) rfl rfl Try.func9 (by kernel_rfl) rfl #[] rfl (by (try simp only [List.map_toArray, List.map_cons, List.map_nil]); first | done | rfl | (simp only [List.length_drop, List.length_take]; rfl)) ?_; (with_reducible refine (overfalllaw08_awake.calls k  true _ A3.out).mono ?_); rintro e w7 ⟨rfl, hb⟩; refine ⟨_, rfl, ?_⟩; have n0_ := Aside0.mk (below_step (by repeat (first | (with_reducible first | exact HB.out | apply below_alloc | apply pw_below_drewN | apply below_drew1) | exact HB.out)) hb); clear HB; have HB := n0_; clear n0_; (try clear hb); (try clear hb2); (try clear hk); (try clear hi)) | ((with_reducible refine gate_dst (N := 5) rfl ?_); refine box_event ?hg (N := 5) ?hd (cs := #[.int .i64 0, .int .i64 0]) (t := 26) ?hr ?_; (case hd => rfl); (case hg => rfl); (case hr => first | (go_simp; done) | (go_simp; rfl)); intro gb305 hg w8 hbox hb; have n0_ := Aside0.mk (below_step (by repeat (first | (with_reducible first | exact HB.out | apply below_alloc | apply pw_below_drewN | apply below_drew1) | exact HB.out)) hb); have n1_ := Aside0.mk (hbox); have n2_ := Aside0.mk ((by rw [hg]; exact (below_size (by repeat (first | (with_reducible first | exact HB.out | apply below_alloc | apply pw_below_drewN | apply below_drew1) | exact HB.out))) : w.heap.size ≤ gb305)); have n3_ := Aside0.mk ((by rw [hg]; exact (below_size (by repeat (first | (with_reducible first | exact HB.out | apply below_alloc | apply pw_below_drewN | apply below_drew1) | exact HB.out))) : w.heap.size ≤ gb305)); clear HB; have HB := n0_; have BK305 := n1_; have GW305 := n2_; have GE305 := n3_; clear n0_ n1_ n2_ n3_; clear hb hbox hg; have hcz9_0 : w8.cell? ⟨gb305, 0, none⟩ = some (.int .i64 0) := (blk_cell BK305.out 0).trans rfl; have hcz9_1 : w8.cell? ⟨gb305, 1, none⟩ = some (.int .i64 0) := (blk_cell BK305.out 1).trans rfl; have hfz9_0 := blk_frozen BK305.out 0; have hfz9_1 := blk_frozen BK305.out 1) | ((with_reducible refine gate_callee (f := 11) rfl ?_); refine goesL_ (some 27) rfl rfl Try.func11 (by kernel_rfl) rfl #[.agg #[.bool false, .int .i64 0, .bool false, .int .i64 0, .int .u64 0, .int .u64 0], .agg #[.int .i64 1, .int .i64 (wrap64 (1 + (wrap64 (Int.tmod a0 60))))], .int .i64 (Int.tmod a1 1099511627776), .int .i64 1, .int .i64 2] rfl (by (try simp only [List.map_toArray, List.map_cons, List.map_nil]); first | done | rfl | (simp only [List.length_drop, List.length_take]; rfl)) ?_; (with_reducible refine (codel_State_Look.calls k false 0 false 0 0 0 1 (wrap64 (1 + (wrap64 (Int.tmod a0 60)))) (Int.tmod a1 1099511627776) 1 2 t306 t307 t308 t309 t310 t311 t312 _ A5.out).mono ?_); rintro e w10 ⟨rfl, hb⟩; refine ⟨_, rfl, ?_⟩; have n0_ := Aside0.mk (blk_below (g := gb305) (o := .cells #[.int .i64 1, .int .i64 (wrap64 (1 + (wrap64 (Int.tmod a0 60))))] 26 (0, 0)) (by refine blk_put (cs := #[.int .i64 1, .int .i64 0]) ?_ 1 _ rfl; refine blk_put (cs := #[.int .i64 0, .int .i64 0]) ?_ 0 _ rfl; exact BK305.out) hb); have n1_ := Aside0.mk (below_step (by repeat (first | (with_reducible first | exact HB.out | apply below_alloc | apply pw_below_drewN | apply below_drew1 | refine below_set ?_ GE305.out) | exact HB.out)) hb); clear BK305; clear HB; have BK305 := n0_; have HB := n1_; clear n0_ n1_; (try clear hb); (try clear hb2); (try clear hk); (try clear hi)) | ((with_reducible refine gate_dst (N := 7) rfl ?_); refine box_event ?hg (N := 7) ?hd (cs := #[.bool false, .int .i64 0, .bool false, .int .i64 0, .int .u64 0, .int .u64 0]) (t := 24) ?hr ?_; (case hd => rfl); (case hg => rfl); (case hr => first | (go_simp; done) | (go_simp; rfl)); intro gb313 hg w11 hbox hb; have n0_ := Aside0.mk (blk_below (by exact BK305.out) hb); have n1_ := Aside0.mk (below_step (by repeat (first | (with_reducible first | exact HB.out | apply below_alloc | apply pw_below_drewN | apply below_drew1 | refine below_set ?_ GE305.out) | exact HB.out)) hb); have n2_ := Aside0.mk (hbox); have n3_ := Aside0.mk ((by rw [hg]; exact (below_size (by repeat (first | (with_reducible first | exact HB.out | apply below_alloc | apply pw_below_drewN | apply below_drew1 | refine below_set ?_ GE305.out) | exact HB.out))) : w.heap.size ≤ gb313)); have n4_ := Aside0.mk ((by rw [hg]; exact (below_size (by repeat (first | (with_reducible first | exact HB.out | apply below_alloc | apply pw_below_drewN | apply below_drew1 | refine below_set ?_ GE305.out) | exact HB.out))) : w.heap.size ≤ gb313)); have n5_ := Aside0.mk ((by rw [hg]; exact Nat.ne_of_lt (blk_lt (by exact BK305.out)) : gb305 ≠ gb313)); have n6_ := Aside0.mk ((by rw [hg]; exact Nat.ne_of_gt (blk_lt (by exact BK305.out)) : gb313 ≠ gb305)); clear BK305; clear HB; have BK305 := n0_; have HB := n1_; have BK313 := n2_; have GW313 := n3_; have GE313 := n4_; have NB305_313 := n5_; have NB313_305 := n6_; clear n0_ n1_ n2_ n3_ n4_ n5_ n6_; clear hb hbox hg; have hnb12 := NB313_305.out; have hnc12 := NB305_313.out; have hcz13_0 : w11.cell? ⟨gb313, 0, none⟩ = some (.bool false) := (blk_cell BK313.out 0).trans rfl; have hcz13_1 : w11.cell? ⟨gb313, 1, none⟩ = some (.int .i64 0) := (blk_cell BK313.out 1).trans rfl; have hcz13_2 : w11.cell? ⟨gb313, 2, none⟩ = some (.bool false) := (blk_cell BK313.out 2).trans rfl; have hcz13_3 : w11.cell? ⟨gb313, 3, none⟩ = some (.int .i64 0) := (blk_cell BK313.out 3).trans rfl; have hcz13_4 : w11.cell? ⟨gb313, 4, none⟩ = some (.int .u64 0) := (blk_cell BK313.out 4).trans rfl; have hcz13_5 : w11.cell? ⟨gb313, 5, none⟩ = some (.int .u64 0) := (blk_cell BK313.out 5).trans rfl; have hfz13_0 := blk_frozen BK313.out 0; have hfz13_1 := blk_frozen BK313.out 1; have hfz13_2 := blk_frozen BK313.out 2; have hfz13_3 := blk_frozen BK313.out 3; have hfz13_4 := blk_frozen BK313.out 4; have hfz13_5 := blk_frozen BK313.out 5; have hcz14_0 : w11.cell? ⟨gb305, 0, none⟩ = some (.int .i64 1) := (blk_cell BK305.out 0).trans rfl; have hcz14_1 : w11.cell? ⟨gb305, 1, none⟩ = some (.int .i64 (wrap64 (1 + (wrap64 (Int.tmod a0 60))))) := (blk_cell BK305.out 1).trans rfl; have hfz14_0 := blk_frozen BK305.out 0; have hfz14_1 := blk_frozen BK305.out 1))
   go_loopg [6, 10, 11] k (fun kq v6 v10 v11 w' => ∃ (x6_1 : Int) (x10_1 : Int) (x11_1 : Int) (x314000_1 : Bool) (x314001_1 : Int) (x314002_1 : Bool) (x314003_1 : Int) (x314004_1 : Int) (x314005_1 : Int), v6 = .int .i64 x6_1 ∧ v10 = .int .i64 x10_1 ∧ v11 = .int .u64 x11_1 ∧ Aside0 (overfalllaw08_CodelRate.l0 kq x6_1 (wrap64 ((Int.tmod a1 1099511627776) + (wrap64 (1 + (wrap64 (Int.tmod a0 60)))))) x10_1 x11_1 1 (wrap64 (1 + (wrap64 (Int.tmod a0 60)))) x314000_1 x314001_1 x314002_1 x314003_1 x314004_1 x314005_1 = some r) ∧ Aside0 (kq ≤ k) ∧ Aside0 (w'.heap[gb305]? = some (.cells #[.int .i64 1, .int .i64 (wrap64 (1 + (wrap64 (Int.tmod a0 60))))] 26 (0, 0))) ∧ Aside0 (w'.heap[gb313]? = some (.cells #[.bool x314000_1, .int .i64 x314001_1, .bool x314002_1, .int .i64 x314003_1, .int .u64 x314004_1, .int .u64 x314005_1] 24 (0, 0))) ∧ Aside0 (Below w.heap.size w w'))
   case atStart => exact ⟨(Int.tmod a1 1099511627776), (wrap64 ((Int.tmod a1 1099511627776) + (wrap64 (1 + (wrap64 (Int.tmod a0 60)))))), (0), (t306), (t307), (t308), (t309), (t310), (t311), (by first | rfl | (simp; done) | (simp [*]; done)), (by first | rfl | (simp; done) | (simp [*]; done)), (by first | rfl | (simp; done) | (simp [*]; done)), H', ⟨Nat.le_refl _⟩, ⟨by refine blk_far ?_ NB305_313.out _; refine blk_far ?_ NB305_313.out _; refine blk_far ?_ NB305_313.out _; refine blk_far ?_ NB305_313.out _; refine blk_far ?_ NB305_313.out _; refine blk_far ?_ NB305_313.out _; exact BK305.out⟩, ⟨by refine blk_put (cs := #[.bool t306, .int .i64 t307, .bool t308, .int .i64 t309, .int .u64 t310, .int .u64 0]) ?_ 5 _ rfl; refine blk_put (cs := #[.bool t306, .int .i64 t307, .bool t308, .int .i64 t309, .int .u64 0, .int .u64 0]) ?_ 4 _ rfl; refine blk_put (cs := #[.bool t306, .int .i64 t307, .bool t308, .int .i64 0, .int .u64 0, .int .u64 0]) ?_ 3 _ rfl; refine blk_put (cs := #[.bool t306, .int .i64 t307, .bool false, .int .i64 0, .int .u64 0, .int .u64 0]) ?_ 2 _ rfl; refine blk_put (cs := #[.bool t306, .int .i64 0, .bool false, .int .i64 0, .int .u64 0, .int .u64 0]) ?_ 1 _ rfl; refine blk_put (cs := #[.bool false, .int .i64 0, .bool false, .int .i64 0, .int .u64 0, .int .u64 0]) ?_ 0 _ rfl; exact BK313.out⟩, ⟨by repeat (first | (with_reducible first | exact HB.out | apply below_alloc | apply pw_below_drewN | apply below_drew1 | refine below_set ?_ GE305.out | refine below_set ?_ GE313.out) | exact HB.out)⟩⟩
   case round =>
    clear H'
    try clear c1
    try clear p2
    try clear c4
    try clear c6
    try clear c6b0
    try clear c6b1
    try clear p6
    try clear c7
    try clear c9
    try clear c11
    try clear c12
    try clear hcz13_0
    try clear hcz13_1
    try clear hcz13_2
    try clear hcz13_3
    try clear hcz13_4
    try clear hcz13_5
    try clear hcz14_0
    try clear hcz14_1
    try clear hcz9_0
    try clear hcz9_1
    try clear hfz13_0
    try clear hfz13_1
    try clear hfz13_2
    try clear hfz13_3
    try clear hfz13_4
    try clear hfz13_5
    try clear hfz14_0
    try clear hfz14_1
    try clear hfz9_0
    try clear hfz9_1
    obtain ⟨x6_1, x10_1, x11_1, x314000_1, x314001_1, x314002_1, x314003_1, x314004_1, x314005_1, rfl, rfl, rfl, HA, HK1, BK305, BK313, HB⟩ := hrel
    cases gk with
    | zero => exact absurd HA.out (by simp [overfalllaw08_CodelRate.l0])
    | succ k1 =>
     have H := HA.out
     clear HA
     simp only [overfalllaw08_CodelRate.l0] at H
     by_cases c15 : x6_1 < (wrap64 ((wrap64 ((Int.tmod a1 1099511627776) + (wrap64 (1 + (wrap64 (Int.tmod a0 60)))))) + (wrap64 (6 * (wrap64 (1 + (wrap64 (Int.tmod a0 60))))))))
     ·rw [if_pos c15] at H
      have c15b0 : decide (x6_1 < (wrap64 ((wrap64 ((Int.tmod a1 1099511627776) + (wrap64 (1 + (wrap64 (Int.tmod a0 60)))))) + (wrap64 (6 * (wrap64 (1 + (wrap64 (Int.tmod a0 60))))))))) = true := decide_eq_true c15
      clear c15
      replace H := Option.bind_eq_some_iff.mp H
      obtain ⟨⟨t314, t315, t316, t317, t318, t319, t320⟩, A160, H⟩ := H
      replace H : (if t320 = 1 then ((codel_State_More.f k1 t314 t315 t316 t317 t318 t319 1 (wrap64 (1 + (wrap64 (Int.tmod a0 60)))) (wrap64 (x6_1 + 1)) 1 2).bind fun bt321 => (overfalllaw08_CodelRate.l1 k1 (wrap64 (x6_1 + 1)) t320 (wrap64 ((Int.tmod a1 1099511627776) + (wrap64 (1 + (wrap64 (Int.tmod a0 60)))))) x10_1 x11_1 bt321.2.2.2.2.2.2 0 1 (wrap64 (1 + (wrap64 (Int.tmod a0 60)))) bt321.1 bt321.2.1 bt321.2.2.1 bt321.2.2.2.1 bt321.2.2.2.2.1 bt321.2.2.2.2.2.1)) else (overfalllaw08_CodelRate.j3 k1 (wrap64 (x6_1 + 1)) t320 (wrap64 ((Int.tmod a1 1099511627776) + (wrap64 (1 + (wrap64 (Int.tmod a0 60)))))) x10_1 x11_1 1 (wrap64 (1 + (wrap64 (Int.tmod a0 60)))) t314 t315 t316 t317 t318 t319)) = some r := H
      have A16 := Aside0.mk A160
      clear A160
      have HC17 := Aside0.mk H
      clear H
      have hnb18 := NB305_313.out
      have hnc18 := NB313_305.out
      have hcz19_0 : wr.cell? ⟨gb305, 0, none⟩ = some (.int .i64 1) := (blk_cell BK305.out 0).trans rfl
      have hcz19_1 : wr.cell? ⟨gb305, 1, none⟩ = some (.int .i64 (wrap64 (1 + (wrap64 (Int.tmod a0 60))))) := (blk_cell BK305.out 1).trans rfl
      have hfz19_0 := blk_frozen BK305.out 0
      have hfz19_1 := blk_frozen BK305.out 1
      have hcz20_0 : wr.cell? ⟨gb313, 0, none⟩ = some (.bool x314000_1) := (blk_cell BK313.out 0).trans rfl
      have hcz20_1 : wr.cell? ⟨gb313, 1, none⟩ = some (.int .i64 x314001_1) := (blk_cell BK313.out 1).trans rfl
      have hcz20_2 : wr.cell? ⟨gb313, 2, none⟩ = some (.bool x314002_1) := (blk_cell BK313.out 2).trans rfl
      have hcz20_3 : wr.cell? ⟨gb313, 3, none⟩ = some (.int .i64 x314003_1) := (blk_cell BK313.out 3).trans rfl
      have hcz20_4 : wr.cell? ⟨gb313, 4, none⟩ = some (.int .u64 x314004_1) := (blk_cell BK313.out 4).trans rfl
      have hcz20_5 : wr.cell? ⟨gb313, 5, none⟩ = some (.int .u64 x314005_1) := (blk_cell BK313.out 5).trans rfl
      have hfz20_0 := blk_frozen BK313.out 0
      have hfz20_1 := blk_frozen BK313.out 1
      have hfz20_2 := blk_frozen BK313.out 2
      have hfz20_3 := blk_frozen BK313.out 3
      have hfz20_4 := blk_frozen BK313.out 4
      have hfz20_5 := blk_frozen BK313.out 5
      go_upto_if 54 with (first | ((with_reducible refine gate_callee (f := 11) rfl ?_); refine goesL_ (some 50) rfl rfl Try.func11 (by kernel_rfl) rfl #[.agg #[.bool x314000_1, .int .i64 x314001_1, .bool x314002_1, .int .i64 x314003_1, .int .u64 x314004_1, .int .u64 x314005_1], .agg #[.int .i64 1, .int .i64 (wrap64 (1 + (wrap64 (Int.tmod a0 60))))], .int .i64 (wrap64 (x6_1 + 1)), .int .i64 1, .int .i64 2] rfl (by (try simp only [List.map_toArray, List.map_cons, List.map_nil]); first | done | rfl | (simp only [List.length_drop, List.length_take]; rfl)) ?_; (with_reducible refine (codel_State_Look.calls k1 x314000_1 x314001_1 x314002_1 x314003_1 x314004_1 x314005_1 1 (wrap64 (1 + (wrap64 (Int.tmod a0 60)))) (wrap64 (x6_1 + 1)) 1 2 t314 t315 t316 t317 t318 t319 t320 _ A16.out).mono ?_); rintro e w21 ⟨rfl, hb⟩; refine ⟨_, rfl, ?_⟩; have n0_ := Aside0.mk (blk_below (by exact BK305.out) hb); have n1_ := Aside0.mk (blk_below (by exact BK313.out) hb); have n2_ := Aside0.mk (below_step (by repeat (first | (with_reducible first | exact HB.out | apply below_alloc | apply pw_below_drewN | apply below_drew1 | refine below_set ?_ GE305.out | refine below_set ?_ GE313.out) | exact HB.out)) hb); clear BK305; clear BK313; clear HB; have BK305 := n0_; have BK313 := n1_; have HB := n2_; clear n0_ n1_ n2_; (try clear hb); (try clear hb2); (try clear hk); (try clear hi); have hcz22_0 : w21.cell? ⟨gb313, 0, none⟩ = some (.bool x314000_1) := (blk_cell BK313.out 0).trans rfl; have hcz22_1 : w21.cell? ⟨gb313, 1, none⟩ = some (.int .i64 x314001_1) := (blk_cell BK313.out 1).trans rfl; have hcz22_2 : w21.cell? ⟨gb313, 2, none⟩ = some (.bool x314002_1) := (blk_cell BK313.out 2).trans rfl; have hcz22_3 : w21.cell? ⟨gb313, 3, none⟩ = some (.int .i64 x314003_1) := (blk_cell BK313.out 3).trans rfl; have hcz22_4 : w21.cell? ⟨gb313, 4, none⟩ = some (.int .u64 x314004_1) := (blk_cell BK313.out 4).trans rfl; have hcz22_5 : w21.cell? ⟨gb313, 5, none⟩ = some (.int .u64 x314005_1) := (blk_cell BK313.out 5).trans rfl; have hfz22_0 := blk_frozen BK313.out 0; have hfz22_1 := blk_frozen BK313.out 1; have hfz22_2 := blk_frozen BK313.out 2; have hfz22_3 := blk_frozen BK313.out 3; have hfz22_4 := blk_frozen BK313.out 4; have hfz22_5 := blk_frozen BK313.out 5))
      (try simp only [Act.put, List.setIfInBounds_toArray, List.set_cons_zero, List.set_cons_succ])
      go_cut [10, 11] (fun v10 v11 wc => ∃ (kq : Nat) (x10_16 : Int) (x11_16 : Int) (x314000_16 : Bool) (x314001_16 : Int) (x314002_16 : Bool) (x314003_16 : Int) (x314004_16 : Int) (x314005_16 : Int), v10 = .int .i64 x10_16 ∧ v11 = .int .u64 x11_16 ∧ Aside0 (overfalllaw08_CodelRate.j3 kq (wrap64 (x6_1 + 1)) t320 (wrap64 ((Int.tmod a1 1099511627776) + (wrap64 (1 + (wrap64 (Int.tmod a0 60)))))) x10_16 x11_16 1 (wrap64 (1 + (wrap64 (Int.tmod a0 60)))) x314000_16 x314001_16 x314002_16 x314003_16 x314004_16 x314005_16 = some r) ∧ Aside0 (kq ≤ k1) ∧ Aside0 (wc.heap[gb305]? = some (.cells #[.int .i64 1, .int .i64 (wrap64 (1 + (wrap64 (Int.tmod a0 60))))] 26 (0, 0))) ∧ Aside0 (wc.heap[gb313]? = some (.cells #[.bool x314000_16, .int .i64 x314001_16, .bool x314002_16, .int .i64 x314003_16, .int .u64 x314004_16, .int .u64 x314005_16] 24 (0, 0))) ∧ Aside0 (Below w.heap.size w wc))
      case first =>
       have H := HC17.out
       clear HC17
       by_cases c23 : t320 = 1
       ·rw [if_pos c23] at H
        have c23b0 : (t320 == 1) = true := beq_iff_eq.mpr c23
        have c23b1 : (t320 != 1) = false := bne_eq_false_iff_eq.mpr c23
        clear c23
        (first | rw [c23b0] | (simp only [i64_w, i32_w]; rw [c23b0]) | skip)
        replace H := Option.bind_eq_some_iff.mp H
        obtain ⟨⟨t321, t322, t323, t324, t325, t326, t327⟩, A240, H⟩ := H
        replace H : (overfalllaw08_CodelRate.l1 k1 (wrap64 (x6_1 + 1)) t320 (wrap64 ((Int.tmod a1 1099511627776) + (wrap64 (1 + (wrap64 (Int.tmod a0 60)))))) x10_1 x11_1 t327 0 1 (wrap64 (1 + (wrap64 (Int.tmod a0 60)))) t321 t322 t323 t324 t325 t326) = some r := H
        have A24 := Aside0.mk A240
        clear A240
        have H' := Aside0.mk H
        clear H
        have hnb25 := NB313_305.out
        have hnc25 := NB305_313.out
        have hcz26_0 : w21.cell? ⟨gb313, 0, none⟩ = some (.bool x314000_1) := (blk_cell BK313.out 0).trans rfl
        have hcz26_1 : w21.cell? ⟨gb313, 1, none⟩ = some (.int .i64 x314001_1) := (blk_cell BK313.out 1).trans rfl
        have hcz26_2 : w21.cell? ⟨gb313, 2, none⟩ = some (.bool x314002_1) := (blk_cell BK313.out 2).trans rfl
        have hcz26_3 : w21.cell? ⟨gb313, 3, none⟩ = some (.int .i64 x314003_1) := (blk_cell BK313.out 3).trans rfl
        have hcz26_4 : w21.cell? ⟨gb313, 4, none⟩ = some (.int .u64 x314004_1) := (blk_cell BK313.out 4).trans rfl
        have hcz26_5 : w21.cell? ⟨gb313, 5, none⟩ = some (.int .u64 x314005_1) := (blk_cell BK313.out 5).trans rfl
        have hfz26_0 := blk_frozen BK313.out 0
        have hfz26_1 := blk_frozen BK313.out 1
        have hfz26_2 := blk_frozen BK313.out 2
        have hfz26_3 := blk_frozen BK313.out 3
        have hfz26_4 := blk_frozen BK313.out 4
        have hfz26_5 := blk_frozen BK313.out 5
        have hcz27_0 : w21.cell? ⟨gb305, 0, none⟩ = some (.int .i64 1) := (blk_cell BK305.out 0).trans rfl
        have hcz27_1 : w21.cell? ⟨gb305, 1, none⟩ = some (.int .i64 (wrap64 (1 + (wrap64 (Int.tmod a0 60))))) := (blk_cell BK305.out 1).trans rfl
        have hfz27_0 := blk_frozen BK305.out 0
        have hfz27_1 := blk_frozen BK305.out 1
        go_wp2_with (first | ((with_reducible refine gate_callee (f := 16) rfl ?_); refine goesL_ (some 59) rfl rfl Try.func16 (by kernel_rfl) rfl #[.agg #[.bool t314, .int .i64 t315, .bool t316, .int .i64 t317, .int .u64 t318, .int .u64 t319], .agg #[.int .i64 1, .int .i64 (wrap64 (1 + (wrap64 (Int.tmod a0 60))))], .int .i64 (wrap64 (x6_1 + 1)), .int .i64 1, .int .i64 2] rfl (by (try simp only [List.map_toArray, List.map_cons, List.map_nil]); first | done | rfl | (simp only [List.length_drop, List.length_take]; rfl)) ?_; (with_reducible refine (codel_State_More.calls k1 t314 t315 t316 t317 t318 t319 1 (wrap64 (1 + (wrap64 (Int.tmod a0 60)))) (wrap64 (x6_1 + 1)) 1 2 t321 t322 t323 t324 t325 t326 t327 _ A24.out).mono ?_); rintro e w28 ⟨rfl, hb⟩; refine ⟨_, rfl, ?_⟩; have n0_ := Aside0.mk (blk_below (g := gb305) (o := .cells #[.int .i64 1, .int .i64 (wrap64 (1 + (wrap64 (Int.tmod a0 60))))] 26 (0, 0)) (by refine blk_far ?_ NB305_313.out _; refine blk_far ?_ NB305_313.out _; refine blk_far ?_ NB305_313.out _; refine blk_far ?_ NB305_313.out _; refine blk_far ?_ NB305_313.out _; refine blk_far ?_ NB305_313.out _; exact BK305.out) hb); have n1_ := Aside0.mk (blk_below (g := gb313) (o := .cells #[.bool t314, .int .i64 t315, .bool t316, .int .i64 t317, .int .u64 t318, .int .u64 t319] 24 (0, 0)) (by refine blk_put (cs := #[.bool t314, .int .i64 t315, .bool t316, .int .i64 t317, .int .u64 t318, .int .u64 x314005_1]) ?_ 5 _ rfl; refine blk_put (cs := #[.bool t314, .int .i64 t315, .bool t316, .int .i64 t317, .int .u64 x314004_1, .int .u64 x314005_1]) ?_ 4 _ rfl; refine blk_put (cs := #[.bool t314, .int .i64 t315, .bool t316, .int .i64 x314003_1, .int .u64 x314004_1, .int .u64 x314005_1]) ?_ 3 _ rfl; refine blk_put (cs := #[.bool t314, .int .i64 t315, .bool x314002_1, .int .i64 x314003_1, .int .u64 x314004_1, .int .u64 x314005_1]) ?_ 2 _ rfl; refine blk_put (cs := #[.bool t314, .int .i64 x314001_1, .bool x314002_1, .int .i64 x314003_1, .int .u64 x314004_1, .int .u64 x314005_1]) ?_ 1 _ rfl; refine blk_put (cs := #[.bool x314000_1, .int .i64 x314001_1, .bool x314002_1, .int .i64 x314003_1, .int .u64 x314004_1, .int .u64 x314005_1]) ?_ 0 _ rfl; exact BK313.out) hb); have n2_ := Aside0.mk (below_step (by repeat (first | (with_reducible first | exact HB.out | apply below_alloc | apply pw_below_drewN | apply below_drew1 | refine below_set ?_ GE305.out | refine below_set ?_ GE313.out) | exact HB.out)) hb); clear BK305; clear BK313; clear HB; have BK305 := n0_; have BK313 := n1_; have HB := n2_; clear n0_ n1_ n2_; (try clear hb); (try clear hb2); (try clear hk); (try clear hi); have hcz29_0 : w28.cell? ⟨gb313, 0, none⟩ = some (.bool t314) := (blk_cell BK313.out 0).trans rfl; have hcz29_1 : w28.cell? ⟨gb313, 1, none⟩ = some (.int .i64 t315) := (blk_cell BK313.out 1).trans rfl; have hcz29_2 : w28.cell? ⟨gb313, 2, none⟩ = some (.bool t316) := (blk_cell BK313.out 2).trans rfl; have hcz29_3 : w28.cell? ⟨gb313, 3, none⟩ = some (.int .i64 t317) := (blk_cell BK313.out 3).trans rfl; have hcz29_4 : w28.cell? ⟨gb313, 4, none⟩ = some (.int .u64 t318) := (blk_cell BK313.out 4).trans rfl; have hcz29_5 : w28.cell? ⟨gb313, 5, none⟩ = some (.int .u64 t319) := (blk_cell BK313.out 5).trans rfl; have hfz29_0 := blk_frozen BK313.out 0; have hfz29_1 := blk_frozen BK313.out 1; have hfz29_2 := blk_frozen BK313.out 2; have hfz29_3 := blk_frozen BK313.out 3; have hfz29_4 := blk_frozen BK313.out 4; have hfz29_5 := blk_frozen BK313.out 5))
        go_loopg [10, 11, 12, 13] k1 (fun kq v10 v11 v12 v13 w' => ∃ (x10_2 : Int) (x11_2 : Int) (x12_2 : Int) (x13_2 : Int) (x314000_2 : Bool) (x314001_2 : Int) (x314002_2 : Bool) (x314003_2 : Int) (x314004_2 : Int) (x314005_2 : Int), v10 = .int .i64 x10_2 ∧ v11 = .int .u64 x11_2 ∧ v12 = .int .i64 x12_2 ∧ v13 = .int .i64 x13_2 ∧ Aside0 (overfalllaw08_CodelRate.l1 kq (wrap64 (x6_1 + 1)) t320 (wrap64 ((Int.tmod a1 1099511627776) + (wrap64 (1 + (wrap64 (Int.tmod a0 60)))))) x10_2 x11_2 x12_2 x13_2 1 (wrap64 (1 + (wrap64 (Int.tmod a0 60)))) x314000_2 x314001_2 x314002_2 x314003_2 x314004_2 x314005_2 = some r) ∧ Aside0 (kq ≤ k1) ∧ Aside0 (w'.heap[gb305]? = some (.cells #[.int .i64 1, .int .i64 (wrap64 (1 + (wrap64 (Int.tmod a0 60))))] 26 (0, 0))) ∧ Aside0 (w'.heap[gb313]? = some (.cells #[.bool x314000_2, .int .i64 x314001_2, .bool x314002_2, .int .i64 x314003_2, .int .u64 x314004_2, .int .u64 x314005_2] 24 (0, 0))) ∧ Aside0 (Below w.heap.size w w'))
        case atStart => exact ⟨(x10_1), (x11_1), (t327), (0), (t321), (t322), (t323), (t324), (t325), (t326), (by first | rfl | (simp; done) | (simp [*]; done)), (by first | rfl | (simp; done) | (simp [*]; done)), (by first | rfl | (simp; done) | (simp [*]; done)), (by first | rfl | (simp; done) | (simp [*]; done)), H', ⟨Nat.le_refl _⟩, ⟨by refine blk_far ?_ NB305_313.out _; refine blk_far ?_ NB305_313.out _; refine blk_far ?_ NB305_313.out _; refine blk_far ?_ NB305_313.out _; refine blk_far ?_ NB305_313.out _; refine blk_far ?_ NB305_313.out _; exact BK305.out⟩, ⟨by refine blk_put (cs := #[.bool t321, .int .i64 t322, .bool t323, .int .i64 t324, .int .u64 t325, .int .u64 t319]) ?_ 5 _ rfl; refine blk_put (cs := #[.bool t321, .int .i64 t322, .bool t323, .int .i64 t324, .int .u64 t318, .int .u64 t319]) ?_ 4 _ rfl; refine blk_put (cs := #[.bool t321, .int .i64 t322, .bool t323, .int .i64 t317, .int .u64 t318, .int .u64 t319]) ?_ 3 _ rfl; refine blk_put (cs := #[.bool t321, .int .i64 t322, .bool t316, .int .i64 t317, .int .u64 t318, .int .u64 t319]) ?_ 2 _ rfl; refine blk_put (cs := #[.bool t321, .int .i64 t315, .bool t316, .int .i64 t317, .int .u64 t318, .int .u64 t319]) ?_ 1 _ rfl; refine blk_put (cs := #[.bool t314, .int .i64 t315, .bool t316, .int .i64 t317, .int .u64 t318, .int .u64 t319]) ?_ 0 _ rfl; exact BK313.out⟩, ⟨by repeat (first | (with_reducible first | exact HB.out | apply below_alloc | apply pw_below_drewN | apply below_drew1 | refine below_set ?_ GE305.out | refine below_set ?_ GE313.out) | exact HB.out)⟩⟩
        case round =>
         clear H'
         try clear c1
         try clear c2
         try clear p2
         try clear c4
         try clear c6
         try clear c6b0
         try clear c6b1
         try clear p6
         try clear c7
         try clear c9
         try clear c11
         try clear c12
         try clear c15
         try clear c15b0
         try clear c16
         try clear c18
         try clear c23
         try clear c23b0
         try clear c23b1
         try clear c25
         try clear hcz13_0
         try clear hcz13_1
         try clear hcz13_2
         try clear hcz13_3
         try clear hcz13_4
         try clear hcz13_5
         try clear hcz14_0
         try clear hcz14_1
         try clear hcz19_0
         try clear hcz19_1
         try clear hcz20_0
         try clear hcz20_1
         try clear hcz20_2
         try clear hcz20_3
         try clear hcz20_4
         try clear hcz20_5
         try clear hcz22_0
         try clear hcz22_1
         try clear hcz22_2
         try clear hcz22_3
         try clear hcz22_4
         try clear hcz22_5
         try clear hcz26_0
         try clear hcz26_1
         try clear hcz26_2
         try clear hcz26_3
         try clear hcz26_4
         try clear hcz26_5
         try clear hcz27_0
         try clear hcz27_1
         try clear hcz29_0
         try clear hcz29_1
         try clear hcz29_2
         try clear hcz29_3
         try clear hcz29_4
         try clear hcz29_5
         try clear hcz9_0
         try clear hcz9_1
         try clear hfz13_0
         try clear hfz13_1
         try clear hfz13_2
         try clear hfz13_3
         try clear hfz13_4
         try clear hfz13_5
         try clear hfz14_0
         try clear hfz14_1
         try clear hfz19_0
         try clear hfz19_1
         try clear hfz20_0
         try clear hfz20_1
         try clear hfz20_2
         try clear hfz20_3
         try clear hfz20_4
         try clear hfz20_5
         try clear hfz22_0
         try clear hfz22_1
         try clear hfz22_2
         try clear hfz22_3
         try clear hfz22_4
         try clear hfz22_5
         try clear hfz26_0
         try clear hfz26_1
         try clear hfz26_2
         try clear hfz26_3
         try clear hfz26_4
         try clear hfz26_5
         try clear hfz27_0
         try clear hfz27_1
         try clear hfz29_0
         try clear hfz29_1
         try clear hfz29_2
         try clear hfz29_3
         try clear hfz29_4
         try clear hfz29_5
         try clear hfz9_0
         try clear hfz9_1
         try clear p2
         try clear p6
         obtain ⟨x10_2, x11_2, x12_2, x13_2, x314000_2, x314001_2, x314002_2, x314003_2, x314004_2, x314005_2, rfl, rfl, rfl, rfl, HA, HK2, BK305, BK313, HB⟩ := hrel
         cases gk with
         | zero => exact absurd HA.out (by simp [overfalllaw08_CodelRate.l1])
         | succ k2 =>
          have H := HA.out
          clear HA
          simp only [overfalllaw08_CodelRate.l1] at H
          have HC30 := Aside0.mk H
          clear H
          go_upto_region 17 with (fail)
          go_cut [67] (fun v67 wc => ∃ (kq : Nat) (x67_29 : Bool), v67 = .bool x67_29 ∧ Aside0 (overfalllaw08_CodelRate.j2 kq (wrap64 (x6_1 + 1)) t320 (wrap64 ((Int.tmod a1 1099511627776) + (wrap64 (1 + (wrap64 (Int.tmod a0 60)))))) x10_2 x11_2 x13_2 x67_29 1 (wrap64 (1 + (wrap64 (Int.tmod a0 60)))) x314000_2 x314001_2 x314002_2 x314003_2 x314004_2 x314005_2 = some r) ∧ Aside0 (kq ≤ k2) ∧ Aside0 (wc.heap[gb305]? = some (.cells #[.int .i64 1, .int .i64 (wrap64 (1 + (wrap64 (Int.tmod a0 60))))] 26 (0, 0))) ∧ Aside0 (wc.heap[gb313]? = some (.cells #[.bool x314000_2, .int .i64 x314001_2, .bool x314002_2, .int .i64 x314003_2, .int .u64 x314004_2, .int .u64 x314005_2] 24 (0, 0))) ∧ Aside0 (Below w.heap.size w wc))
          case first =>
           have H := HC30.out
           clear HC30
           by_cases c31 : x12_2 = 1
           ·rw [if_pos c31] at H
            have c31b0 : (x12_2 == 1) = true := beq_iff_eq.mpr c31
            have c31b1 : (x12_2 != 1) = false := bne_eq_false_iff_eq.mpr c31
            clear c31
            (first | rw [c31b0] | (simp only [i64_w, i32_w]; rw [c31b0]) | skip)
            have H' := Aside0.mk H
            clear H
            go_wp2
            go_meet
            case rel => exact ⟨_, (decide (x13_2 < 900)), (by first | rfl | (simp; done) | (simp [*]; done)), H', ⟨by have := HK1.out; have := HK2.out; first | omega | exact Nat.le_refl _⟩, ⟨by exact BK305.out⟩, ⟨by exact BK313.out⟩, ⟨by repeat (first | (with_reducible first | exact HB.out | apply below_alloc | apply pw_below_drewN | apply below_drew1 | refine below_set ?_ GE305.out | refine below_set ?_ GE313.out) | exact HB.out)⟩⟩
           ·rw [if_neg c31] at H
            have c31b0 : (x12_2 == 1) = false := beq_eq_false_iff_ne.mpr c31
            have c31b1 : (x12_2 != 1) = true := bne_iff_ne.mpr c31
            (first | rw [c31b0] | (simp only [i64_w, i32_w]; rw [c31b0]) | skip)
            have H' := Aside0.mk H
            clear H
            go_wp2
            go_meet
            case rel => exact ⟨_, (false), (by first | rfl | (simp; done) | (simp [*]; done)), H', ⟨by have := HK1.out; have := HK2.out; first | omega | exact Nat.le_refl _⟩, ⟨by exact BK305.out⟩, ⟨by exact BK313.out⟩, ⟨by repeat (first | (with_reducible first | exact HB.out | apply below_alloc | apply pw_below_drewN | apply below_drew1 | refine below_set ?_ GE305.out | refine below_set ?_ GE313.out) | exact HB.out)⟩⟩
          case rest =>
           clear HC30
           try clear c1
           try clear c2
           try clear p2
           try clear c3
           try clear c4
           try clear c6
           try clear c6b0
           try clear c6b1
           try clear p6
           try clear c7
           try clear c9
           try clear c11
           try clear c12
           try clear c15
           try clear c15b0
           try clear c16
           try clear c18
           try clear c23
           try clear c23b0
           try clear c23b1
           try clear c25
           try clear c31
           try clear c31b0
           try clear c31b1
           try clear hcz13_0
           try clear hcz13_1
           try clear hcz13_2
           try clear hcz13_3
           try clear hcz13_4
           try clear hcz13_5
           try clear hcz14_0
           try clear hcz14_1
           try clear hcz19_0
           try clear hcz19_1
           try clear hcz20_0
           try clear hcz20_1
           try clear hcz20_2
           try clear hcz20_3
           try clear hcz20_4
           try clear hcz20_5
           try clear hcz22_0
           try clear hcz22_1
           try clear hcz22_2
           try clear hcz22_3
           try clear hcz22_4
           try clear hcz22_5
           try clear hcz26_0
           try clear hcz26_1
           try clear hcz26_2
           try clear hcz26_3
           try clear hcz26_4
           try clear hcz26_5
           try clear hcz27_0
           try clear hcz27_1
           try clear hcz29_0
           try clear hcz29_1
           try clear hcz29_2
           try clear hcz29_3
           try clear hcz29_4
           try clear hcz29_5
           try clear hcz9_0
           try clear hcz9_1
           try clear hfz13_0
           try clear hfz13_1
           try clear hfz13_2
           try clear hfz13_3
           try clear hfz13_4
           try clear hfz13_5
           try clear hfz14_0
           try clear hfz14_1
           try clear hfz19_0
           try clear hfz19_1
           try clear hfz20_0
           try clear hfz20_1
           try clear hfz20_2
           try clear hfz20_3
           try clear hfz20_4
           try clear hfz20_5
           try clear hfz22_0
           try clear hfz22_1
           try clear hfz22_2
           try clear hfz22_3
           try clear hfz22_4
           try clear hfz22_5
           try clear hfz26_0
           try clear hfz26_1
           try clear hfz26_2
           try clear hfz26_3
           try clear hfz26_4
           try clear hfz26_5
           try clear hfz27_0
           try clear hfz27_1
           try clear hfz29_0
           try clear hfz29_1
           try clear hfz29_2
           try clear hfz29_3
           try clear hfz29_4
           try clear hfz29_5
           try clear hfz9_0
           try clear hfz9_1
           try clear p2
           try clear p6
           (try clear BK305); (try clear BK313); (try clear HB)
           obtain ⟨kq, x67_29, rfl, HA, HJ29, BK305, BK313, HB⟩ := hcut
           cases kq with
           | zero => exact absurd HA.out (by simp [overfalllaw08_CodelRate.j2])
           | succ kj29 =>
            have H := HA.out
            clear HA
            simp only [overfalllaw08_CodelRate.j2] at H
            by_cases c32 : x67_29 = true
            ·subst c32
             have H1 : ((overfallref03_Law.f kj29 (wrap64 (1 + (wrap64 (Int.tmod a0 60)))) (IntKind.u64.wrap (x11_2 + 1))).bind fun t328 => ((codel_State_More.f kj29 x314000_2 x314001_2 x314002_2 x314003_2 x314004_2 x314005_2 1 (wrap64 (1 + (wrap64 (Int.tmod a0 60)))) (wrap64 (x6_1 + 1)) 1 2).bind fun bt329 => (overfalllaw08_CodelRate.l1 kj29 (wrap64 (x6_1 + 1)) t320 (wrap64 ((Int.tmod a1 1099511627776) + (wrap64 (1 + (wrap64 (Int.tmod a0 60)))))) (wrap64 (x10_2 + t328)) (IntKind.u64.wrap (x11_2 + 1)) bt329.2.2.2.2.2.2 (wrap64 (x13_2 + 1)) 1 (wrap64 (1 + (wrap64 (Int.tmod a0 60)))) bt329.1 bt329.2.1 bt329.2.2.1 bt329.2.2.2.1 bt329.2.2.2.2.1 bt329.2.2.2.2.2.1))) = some r := by rw [if_pos rfl] at H; exact H
             clear H
             have H := H1
             clear H1
             replace H := Option.bind_eq_some_iff.mp H
             obtain ⟨t328, A330, H⟩ := H
             replace H : ((codel_State_More.f kj29 x314000_2 x314001_2 x314002_2 x314003_2 x314004_2 x314005_2 1 (wrap64 (1 + (wrap64 (Int.tmod a0 60)))) (wrap64 (x6_1 + 1)) 1 2).bind fun bt329 => (overfalllaw08_CodelRate.l1 kj29 (wrap64 (x6_1 + 1)) t320 (wrap64 ((Int.tmod a1 1099511627776) + (wrap64 (1 + (wrap64 (Int.tmod a0 60)))))) (wrap64 (x10_2 + t328)) (IntKind.u64.wrap (x11_2 + 1)) bt329.2.2.2.2.2.2 (wrap64 (x13_2 + 1)) 1 (wrap64 (1 + (wrap64 (Int.tmod a0 60)))) bt329.1 bt329.2.1 bt329.2.2.1 bt329.2.2.2.1 bt329.2.2.2.2.1 bt329.2.2.2.2.2.1)) = some r := H
             have A33 := Aside0.mk A330
             clear A330
             replace H := Option.bind_eq_some_iff.mp H
             obtain ⟨⟨t329, t330, t331, t332, t333, t334, t335⟩, A340, H⟩ := H
             replace H : (overfalllaw08_CodelRate.l1 kj29 (wrap64 (x6_1 + 1)) t320 (wrap64 ((Int.tmod a1 1099511627776) + (wrap64 (1 + (wrap64 (Int.tmod a0 60)))))) (wrap64 (x10_2 + t328)) (IntKind.u64.wrap (x11_2 + 1)) t335 (wrap64 (x13_2 + 1)) 1 (wrap64 (1 + (wrap64 (Int.tmod a0 60)))) t329 t330 t331 t332 t333 t334) = some r := H
             have A34 := Aside0.mk A340
             clear A340
             have H' := Aside0.mk H
             clear H
             have hnb35 := NB305_313.out
             have hnc35 := NB313_305.out
             have hcz36_0 : wc.cell? ⟨gb305, 0, none⟩ = some (.int .i64 1) := (blk_cell BK305.out 0).trans rfl
             have hcz36_1 : wc.cell? ⟨gb305, 1, none⟩ = some (.int .i64 (wrap64 (1 + (wrap64 (Int.tmod a0 60))))) := (blk_cell BK305.out 1).trans rfl
             have hfz36_0 := blk_frozen BK305.out 0
             have hfz36_1 := blk_frozen BK305.out 1
             go_wp2_with (first | ((with_reducible refine gate_callee (f := 14) rfl ?_); refine goesL_ (some 76) rfl rfl Try.func14 (by kernel_rfl) rfl #[.int .i64 (wrap64 (1 + (wrap64 (Int.tmod a0 60)))), .int .u64 (IntKind.u64.wrap (x11_2 + 1))] rfl (by (try simp only [List.map_toArray, List.map_cons, List.map_nil]); first | done | rfl | (simp only [List.length_drop, List.length_take]; rfl)) ?_; (with_reducible refine (overfallref03_Law.calls kj29 (wrap64 (1 + (wrap64 (Int.tmod a0 60)))) (IntKind.u64.wrap (x11_2 + 1)) t328 _ A33.out).mono ?_); rintro e w37 ⟨rfl, hb⟩; refine ⟨_, rfl, ?_⟩; have n0_ := Aside0.mk (blk_below (by exact BK305.out) hb); have n1_ := Aside0.mk (blk_below (by exact BK313.out) hb); have n2_ := Aside0.mk (below_step (by repeat (first | (with_reducible first | exact HB.out | apply below_alloc | apply pw_below_drewN | apply below_drew1 | refine below_set ?_ GE305.out | refine below_set ?_ GE313.out) | exact HB.out)) hb); clear BK305; clear BK313; clear HB; have BK305 := n0_; have BK313 := n1_; have HB := n2_; clear n0_ n1_ n2_; (try clear hb); (try clear hb2); (try clear hk); (try clear hi); have hcz38_0 : w37.cell? ⟨gb313, 0, none⟩ = some (.bool x314000_2) := (blk_cell BK313.out 0).trans rfl; have hcz38_1 : w37.cell? ⟨gb313, 1, none⟩ = some (.int .i64 x314001_2) := (blk_cell BK313.out 1).trans rfl; have hcz38_2 : w37.cell? ⟨gb313, 2, none⟩ = some (.bool x314002_2) := (blk_cell BK313.out 2).trans rfl; have hcz38_3 : w37.cell? ⟨gb313, 3, none⟩ = some (.int .i64 x314003_2) := (blk_cell BK313.out 3).trans rfl; have hcz38_4 : w37.cell? ⟨gb313, 4, none⟩ = some (.int .u64 x314004_2) := (blk_cell BK313.out 4).trans rfl; have hcz38_5 : w37.cell? ⟨gb313, 5, none⟩ = some (.int .u64 x314005_2) := (blk_cell BK313.out 5).trans rfl; have hfz38_0 := blk_frozen BK313.out 0; have hfz38_1 := blk_frozen BK313.out 1; have hfz38_2 := blk_frozen BK313.out 2; have hfz38_3 := blk_frozen BK313.out 3; have hfz38_4 := blk_frozen BK313.out 4; have hfz38_5 := blk_frozen BK313.out 5; have hcz39_0 : w37.cell? ⟨gb305, 0, none⟩ = some (.int .i64 1) := (blk_cell BK305.out 0).trans rfl; have hcz39_1 : w37.cell? ⟨gb305, 1, none⟩ = some (.int .i64 (wrap64 (1 + (wrap64 (Int.tmod a0 60))))) := (blk_cell BK305.out 1).trans rfl; have hfz39_0 := blk_frozen BK305.out 0; have hfz39_1 := blk_frozen BK305.out 1) | ((with_reducible refine gate_callee (f := 16) rfl ?_); refine goesL_ (some 82) rfl rfl Try.func16 (by kernel_rfl) rfl #[.agg #[.bool x314000_2, .int .i64 x314001_2, .bool x314002_2, .int .i64 x314003_2, .int .u64 x314004_2, .int .u64 x314005_2], .agg #[.int .i64 1, .int .i64 (wrap64 (1 + (wrap64 (Int.tmod a0 60))))], .int .i64 (wrap64 (x6_1 + 1)), .int .i64 1, .int .i64 2] rfl (by (try simp only [List.map_toArray, List.map_cons, List.map_nil]); first | done | rfl | (simp only [List.length_drop, List.length_take]; rfl)) ?_; (with_reducible refine (codel_State_More.calls kj29 x314000_2 x314001_2 x314002_2 x314003_2 x314004_2 x314005_2 1 (wrap64 (1 + (wrap64 (Int.tmod a0 60)))) (wrap64 (x6_1 + 1)) 1 2 t329 t330 t331 t332 t333 t334 t335 _ A34.out).mono ?_); rintro e w40 ⟨rfl, hb⟩; refine ⟨_, rfl, ?_⟩; have n0_ := Aside0.mk (blk_below (by exact BK305.out) hb); have n1_ := Aside0.mk (blk_below (by exact BK313.out) hb); have n2_ := Aside0.mk (below_step (by repeat (first | (with_reducible first | exact HB.out | apply below_alloc | apply pw_below_drewN | apply below_drew1 | refine below_set ?_ GE305.out | refine below_set ?_ GE313.out) | exact HB.out)) hb); clear BK305; clear BK313; clear HB; have BK305 := n0_; have BK313 := n1_; have HB := n2_; clear n0_ n1_ n2_; (try clear hb); (try clear hb2); (try clear hk); (try clear hi); have hcz41_0 : w40.cell? ⟨gb313, 0, none⟩ = some (.bool x314000_2) := (blk_cell BK313.out 0).trans rfl; have hcz41_1 : w40.cell? ⟨gb313, 1, none⟩ = some (.int .i64 x314001_2) := (blk_cell BK313.out 1).trans rfl; have hcz41_2 : w40.cell? ⟨gb313, 2, none⟩ = some (.bool x314002_2) := (blk_cell BK313.out 2).trans rfl; have hcz41_3 : w40.cell? ⟨gb313, 3, none⟩ = some (.int .i64 x314003_2) := (blk_cell BK313.out 3).trans rfl; have hcz41_4 : w40.cell? ⟨gb313, 4, none⟩ = some (.int .u64 x314004_2) := (blk_cell BK313.out 4).trans rfl; have hcz41_5 : w40.cell? ⟨gb313, 5, none⟩ = some (.int .u64 x314005_2) := (blk_cell BK313.out 5).trans rfl; have hfz41_0 := blk_frozen BK313.out 0; have hfz41_1 := blk_frozen BK313.out 1; have hfz41_2 := blk_frozen BK313.out 2; have hfz41_3 := blk_frozen BK313.out 3; have hfz41_4 := blk_frozen BK313.out 4; have hfz41_5 := blk_frozen BK313.out 5))
             go_roundg kj29
             case measure => have := HK1.out; have := HK2.out; have := HJ29.out; omega
             case rel => exact ⟨(wrap64 (x10_2 + t328)), (IntKind.u64.wrap (x11_2 + 1)), (t335), (wrap64 (x13_2 + 1)), (t329), (t330), (t331), (t332), (t333), (t334), (by first | rfl | (simp; done) | (simp [*]; done)), (by first | rfl | (simp; done) | (simp [*]; done)), (by first | rfl | (simp; done) | (simp [*]; done)), (by first | rfl | (simp; done) | (simp [*]; done)), H', ⟨by have := HK1.out; have := HK2.out; have := HJ29.out; omega⟩, ⟨by refine blk_far ?_ NB305_313.out _; refine blk_far ?_ NB305_313.out _; refine blk_far ?_ NB305_313.out _; refine blk_far ?_ NB305_313.out _; refine blk_far ?_ NB305_313.out _; refine blk_far ?_ NB305_313.out _; exact BK305.out⟩, ⟨by refine blk_put (cs := #[.bool t329, .int .i64 t330, .bool t331, .int .i64 t332, .int .u64 t333, .int .u64 x314005_2]) ?_ 5 _ rfl; refine blk_put (cs := #[.bool t329, .int .i64 t330, .bool t331, .int .i64 t332, .int .u64 x314004_2, .int .u64 x314005_2]) ?_ 4 _ rfl; refine blk_put (cs := #[.bool t329, .int .i64 t330, .bool t331, .int .i64 x314003_2, .int .u64 x314004_2, .int .u64 x314005_2]) ?_ 3 _ rfl; refine blk_put (cs := #[.bool t329, .int .i64 t330, .bool x314002_2, .int .i64 x314003_2, .int .u64 x314004_2, .int .u64 x314005_2]) ?_ 2 _ rfl; refine blk_put (cs := #[.bool t329, .int .i64 x314001_2, .bool x314002_2, .int .i64 x314003_2, .int .u64 x314004_2, .int .u64 x314005_2]) ?_ 1 _ rfl; refine blk_put (cs := #[.bool x314000_2, .int .i64 x314001_2, .bool x314002_2, .int .i64 x314003_2, .int .u64 x314004_2, .int .u64 x314005_2]) ?_ 0 _ rfl; exact BK313.out⟩, ⟨by repeat (first | (with_reducible first | exact HB.out | apply below_alloc | apply pw_below_drewN | apply below_drew1 | refine below_set ?_ GE305.out | refine below_set ?_ GE313.out) | exact HB.out)⟩⟩
            ·replace c32 := Bool.eq_false_iff.mpr c32
             subst c32
             have H1 : (overfalllaw08_CodelRate.j3 kj29 (wrap64 (x6_1 + 1)) t320 (wrap64 ((Int.tmod a1 1099511627776) + (wrap64 (1 + (wrap64 (Int.tmod a0 60)))))) x10_2 x11_2 1 (wrap64 (1 + (wrap64 (Int.tmod a0 60)))) x314000_2 x314001_2 x314002_2 x314003_2 x314004_2 x314005_2) = some r := by rw [if_neg (show ¬ (false = true) by decide)] at H; exact H
             clear H
             have H := H1
             clear H1
             have H' := Aside0.mk H
             clear H
             go_wp2
             go_meet
             case rel => exact ⟨_, (x10_2), (x11_2), (x314000_2), (x314001_2), (x314002_2), (x314003_2), (x314004_2), (x314005_2), (by first | rfl | (simp; done) | (simp [*]; done)), (by first | rfl | (simp; done) | (simp [*]; done)), H', ⟨by have := HK1.out; have := HK2.out; have := HJ29.out; first | omega | exact Nat.le_refl _⟩, ⟨by exact BK305.out⟩, ⟨by exact BK313.out⟩, ⟨by repeat (first | (with_reducible first | exact HB.out | apply below_alloc | apply pw_below_drewN | apply below_drew1 | refine below_set ?_ GE305.out | refine below_set ?_ GE313.out) | exact HB.out)⟩⟩
       ·rw [if_neg c23] at H
        have c23b0 : (t320 == 1) = false := beq_eq_false_iff_ne.mpr c23
        have c23b1 : (t320 != 1) = true := bne_iff_ne.mpr c23
        (first | rw [c23b0] | (simp only [i64_w, i32_w]; rw [c23b0]) | skip)
        have H' := Aside0.mk H
        clear H
        go_wp2
        go_meet
        case rel => exact ⟨_, (x10_1), (x11_1), (t314), (t315), (t316), (t317), (t318), (t319), (by first | rfl | (simp; done) | (simp [*]; done)), (by first | rfl | (simp; done) | (simp [*]; done)), H', ⟨by have := HK1.out; first | omega | exact Nat.le_refl _⟩, ⟨by refine blk_far ?_ NB305_313.out _; refine blk_far ?_ NB305_313.out _; refine blk_far ?_ NB305_313.out _; refine blk_far ?_ NB305_313.out _; refine blk_far ?_ NB305_313.out _; refine blk_far ?_ NB305_313.out _; exact BK305.out⟩, ⟨by refine blk_put (cs := #[.bool t314, .int .i64 t315, .bool t316, .int .i64 t317, .int .u64 t318, .int .u64 x314005_1]) ?_ 5 _ rfl; refine blk_put (cs := #[.bool t314, .int .i64 t315, .bool t316, .int .i64 t317, .int .u64 x314004_1, .int .u64 x314005_1]) ?_ 4 _ rfl; refine blk_put (cs := #[.bool t314, .int .i64 t315, .bool t316, .int .i64 x314003_1, .int .u64 x314004_1, .int .u64 x314005_1]) ?_ 3 _ rfl; refine blk_put (cs := #[.bool t314, .int .i64 t315, .bool x314002_1, .int .i64 x314003_1, .int .u64 x314004_1, .int .u64 x314005_1]) ?_ 2 _ rfl; refine blk_put (cs := #[.bool t314, .int .i64 x314001_1, .bool x314002_1, .int .i64 x314003_1, .int .u64 x314004_1, .int .u64 x314005_1]) ?_ 1 _ rfl; refine blk_put (cs := #[.bool x314000_1, .int .i64 x314001_1, .bool x314002_1, .int .i64 x314003_1, .int .u64 x314004_1, .int .u64 x314005_1]) ?_ 0 _ rfl; exact BK313.out⟩, ⟨by repeat (first | (with_reducible first | exact HB.out | apply below_alloc | apply pw_below_drewN | apply below_drew1 | refine below_set ?_ GE305.out | refine below_set ?_ GE313.out) | exact HB.out)⟩⟩
      case rest =>
       clear HC17
       try clear c1
       try clear c2
       try clear p2
       try clear c3
       try clear c4
       try clear c6
       try clear c6b0
       try clear c6b1
       try clear p6
       try clear c7
       try clear c9
       try clear c11
       try clear c12
       try clear c14
       try clear c15
       try clear c15b0
       try clear c16
       try clear c18
       try clear c23
       try clear c23b0
       try clear c23b1
       try clear c25
       try clear c31
       try clear c31b0
       try clear c31b1
       try clear c32
       try clear c35
       try clear hcz13_0
       try clear hcz13_1
       try clear hcz13_2
       try clear hcz13_3
       try clear hcz13_4
       try clear hcz13_5
       try clear hcz14_0
       try clear hcz14_1
       try clear hcz19_0
       try clear hcz19_1
       try clear hcz20_0
       try clear hcz20_1
       try clear hcz20_2
       try clear hcz20_3
       try clear hcz20_4
       try clear hcz20_5
       try clear hcz22_0
       try clear hcz22_1
       try clear hcz22_2
       try clear hcz22_3
       try clear hcz22_4
       try clear hcz22_5
       try clear hcz26_0
       try clear hcz26_1
       try clear hcz26_2
       try clear hcz26_3
       try clear hcz26_4
       try clear hcz26_5
       try clear hcz27_0
       try clear hcz27_1
       try clear hcz29_0
       try clear hcz29_1
       try clear hcz29_2
       try clear hcz29_3
       try clear hcz29_4
       try clear hcz29_5
       try clear hcz36_0
       try clear hcz36_1
       try clear hcz38_0
       try clear hcz38_1
       try clear hcz38_2
       try clear hcz38_3
       try clear hcz38_4
       try clear hcz38_5
       try clear hcz39_0
       try clear hcz39_1
       try clear hcz41_0
       try clear hcz41_1
       try clear hcz41_2
       try clear hcz41_3
       try clear hcz41_4
       try clear hcz41_5
       try clear hcz9_0
       try clear hcz9_1
       try clear hfz13_0
       try clear hfz13_1
       try clear hfz13_2
       try clear hfz13_3
       try clear hfz13_4
       try clear hfz13_5
       try clear hfz14_0
       try clear hfz14_1
       try clear hfz19_0
       try clear hfz19_1
       try clear hfz20_0
       try clear hfz20_1
       try clear hfz20_2
       try clear hfz20_3
       try clear hfz20_4
       try clear hfz20_5
       try clear hfz22_0
       try clear hfz22_1
       try clear hfz22_2
       try clear hfz22_3
       try clear hfz22_4
       try clear hfz22_5
       try clear hfz26_0
       try clear hfz26_1
       try clear hfz26_2
       try clear hfz26_3
       try clear hfz26_4
       try clear hfz26_5
       try clear hfz27_0
       try clear hfz27_1
       try clear hfz29_0
       try clear hfz29_1
       try clear hfz29_2
       try clear hfz29_3
       try clear hfz29_4
       try clear hfz29_5
       try clear hfz36_0
       try clear hfz36_1
       try clear hfz38_0
       try clear hfz38_1
       try clear hfz38_2
       try clear hfz38_3
       try clear hfz38_4
       try clear hfz38_5
       try clear hfz39_0
       try clear hfz39_1
       try clear hfz41_0
       try clear hfz41_1
       try clear hfz41_2
       try clear hfz41_3
       try clear hfz41_4
       try clear hfz41_5
       try clear hfz9_0
       try clear hfz9_1
       try clear p2
       try clear p6
       (try clear BK305); (try clear BK313); (try clear HB)
       obtain ⟨kq, x10_16, x11_16, x314000_16, x314001_16, x314002_16, x314003_16, x314004_16, x314005_16, rfl, rfl, HA, HJ16, BK305, BK313, HB⟩ := hcut
       cases kq with
       | zero => exact absurd HA.out (by simp [overfalllaw08_CodelRate.j3])
       | succ kj16 =>
        have H := HA.out
        clear HA
        simp only [overfalllaw08_CodelRate.j3] at H
        by_cases c42 : ((t320 != 0) != (decide ((wrap64 (x6_1 + 1)) ≥ x10_16))) = true
        ·rw [if_pos c42] at H
         exact absurd H (by simp)
        ·rw [if_neg c42] at H
         have c42b0 : ((t320 != 0) != (decide ((wrap64 (x6_1 + 1)) ≥ x10_16))) = false := by simpa using c42
         (try (have c42b1 : decide ((t320 != 0) = (decide ((wrap64 (x6_1 + 1)) ≥ x10_16))) = true := by simpa using c42))
         (try (have c42b2 : ((t320 != 0) == (decide ((wrap64 (x6_1 + 1)) ≥ x10_16))) = true := by simpa using c42))
         clear c42
         by_cases c43 : t320 = 0
         ·rw [if_pos c43] at H
          have c43b0 : (t320 == 0) = true := beq_iff_eq.mpr c43
          have c43b1 : (t320 != 0) = false := bne_eq_false_iff_eq.mpr c43
          clear c43
          replace H := Option.bind_eq_some_iff.mp H
          obtain ⟨t336, A440, H⟩ := H
          replace H : (if t336 < 2 then (some true) else (overfalllaw08_CodelRate.l0 kj16 (wrap64 (x6_1 + 1)) (wrap64 ((Int.tmod a1 1099511627776) + (wrap64 (1 + (wrap64 (Int.tmod a0 60)))))) x10_16 x11_16 1 (wrap64 (1 + (wrap64 (Int.tmod a0 60)))) x314000_16 x314001_16 x314002_16 x314003_16 x314004_16 x314005_16)) = some r := H
          have A44 := Aside0.mk A440
          clear A440
          by_cases c45 : t336 < 2
          ·rw [if_pos c45] at H
           have c45b0 : decide (t336 < 2) = true := decide_eq_true c45
           clear c45
           obtain rfl := Option.some.inj H
           have hnb46 := NB305_313.out
           have hnc46 := NB313_305.out
           have hcz47_0 : wc.cell? ⟨gb305, 0, none⟩ = some (.int .i64 1) := (blk_cell BK305.out 0).trans rfl
           have hcz47_1 : wc.cell? ⟨gb305, 1, none⟩ = some (.int .i64 (wrap64 (1 + (wrap64 (Int.tmod a0 60))))) := (blk_cell BK305.out 1).trans rfl
           have hfz47_0 := blk_frozen BK305.out 0
           have hfz47_1 := blk_frozen BK305.out 1
           go_wp2_with (first | ((with_reducible refine gate_callee (f := 14) rfl ?_); refine goesL_ (some 104) rfl rfl Try.func14 (by kernel_rfl) rfl #[.int .i64 (wrap64 (1 + (wrap64 (Int.tmod a0 60)))), .int .u64 x11_16] rfl (by (try simp only [List.map_toArray, List.map_cons, List.map_nil]); first | done | rfl | (simp only [List.length_drop, List.length_take]; rfl)) ?_; (with_reducible refine (overfallref03_Law.calls kj16 (wrap64 (1 + (wrap64 (Int.tmod a0 60)))) x11_16 t336 _ A44.out).mono ?_); rintro e w48 ⟨rfl, hb⟩; refine ⟨_, rfl, ?_⟩; have n0_ := Aside0.mk (blk_below (by exact BK305.out) hb); have n1_ := Aside0.mk (blk_below (by exact BK313.out) hb); have n2_ := Aside0.mk (below_step (by repeat (first | (with_reducible first | exact HB.out | apply below_alloc | apply pw_below_drewN | apply below_drew1 | refine below_set ?_ GE305.out | refine below_set ?_ GE313.out) | exact HB.out)) hb); clear BK305; clear BK313; clear HB; have BK305 := n0_; have BK313 := n1_; have HB := n2_; clear n0_ n1_ n2_; (try clear hb); (try clear hb2); (try clear hk); (try clear hi)))
           try any_goals (exfalso; rw [c43b1] at c42b0; simp at c42b0; first | omega | (rename_i hz_; simp at hz_; omega))
           go_ret
           exact ⟨by first | rfl | (simp [errW_none, errW_some] <;> rfl) | (simp [*, errW_none, errW_some] <;> rfl), by repeat (first | (with_reducible first | exact HB.out | apply below_alloc | apply pw_below_drewN | apply below_drew1 | refine below_set ?_ GE305.out | refine below_set ?_ GE313.out) | exact HB.out)⟩
          ·rw [if_neg c45] at H
           have c45b0 : decide (t336 < 2) = false := decide_eq_false c45
           clear c45
           have H' := Aside0.mk H
           clear H
           have hnb49 := NB305_313.out
           have hnc49 := NB313_305.out
           have hcz50_0 : wc.cell? ⟨gb305, 0, none⟩ = some (.int .i64 1) := (blk_cell BK305.out 0).trans rfl
           have hcz50_1 : wc.cell? ⟨gb305, 1, none⟩ = some (.int .i64 (wrap64 (1 + (wrap64 (Int.tmod a0 60))))) := (blk_cell BK305.out 1).trans rfl
           have hfz50_0 := blk_frozen BK305.out 0
           have hfz50_1 := blk_frozen BK305.out 1
           go_wp2_with (first | ((with_reducible refine gate_callee (f := 14) rfl ?_); refine goesL_ (some 104) rfl rfl Try.func14 (by kernel_rfl) rfl #[.int .i64 (wrap64 (1 + (wrap64 (Int.tmod a0 60)))), .int .u64 x11_16] rfl (by (try simp only [List.map_toArray, List.map_cons, List.map_nil]); first | done | rfl | (simp only [List.length_drop, List.length_take]; rfl)) ?_; (with_reducible refine (overfallref03_Law.calls kj16 (wrap64 (1 + (wrap64 (Int.tmod a0 60)))) x11_16 t336 _ A44.out).mono ?_); rintro e w51 ⟨rfl, hb⟩; refine ⟨_, rfl, ?_⟩; have n0_ := Aside0.mk (blk_below (by exact BK305.out) hb); have n1_ := Aside0.mk (blk_below (by exact BK313.out) hb); have n2_ := Aside0.mk (below_step (by repeat (first | (with_reducible first | exact HB.out | apply below_alloc | apply pw_below_drewN | apply below_drew1 | refine below_set ?_ GE305.out | refine below_set ?_ GE313.out) | exact HB.out)) hb); clear BK305; clear BK313; clear HB; have BK305 := n0_; have BK313 := n1_; have HB := n2_; clear n0_ n1_ n2_; (try clear hb); (try clear hb2); (try clear hk); (try clear hi)))
           try any_goals (exfalso; rw [c43b1] at c42b0; simp at c42b0; first | omega | (rename_i hz_; simp at hz_; omega))
           go_roundg kj16
           case measure => have := HK1.out; have := HJ16.out; omega
           case rel => exact ⟨((wrap64 (x6_1 + 1))), (x10_16), (x11_16), (x314000_16), (x314001_16), (x314002_16), (x314003_16), (x314004_16), (x314005_16), (by first | rfl | (simp; done) | (simp [*]; done)), (by first | rfl | (simp; done) | (simp [*]; done)), (by first | rfl | (simp; done) | (simp [*]; done)), H', ⟨by have := HK1.out; have := HJ16.out; omega⟩, ⟨by exact BK305.out⟩, ⟨by exact BK313.out⟩, ⟨by repeat (first | (with_reducible first | exact HB.out | apply below_alloc | apply pw_below_drewN | apply below_drew1 | refine below_set ?_ GE305.out | refine below_set ?_ GE313.out) | exact HB.out)⟩⟩
         ·rw [if_neg c43] at H
          have c43b0 : (t320 == 0) = false := beq_eq_false_iff_ne.mpr c43
          have c43b1 : (t320 != 0) = true := bne_iff_ne.mpr c43
          replace H := Option.bind_eq_some_iff.mp H
          obtain ⟨t337, A520, H⟩ := H
          replace H : ((overfallref03_Law.f kj16 (wrap64 (1 + (wrap64 (Int.tmod a0 60)))) (IntKind.u64.wrap (x11_16 + 1))).bind fun t338 => (if t338 < 2 then (some true) else (overfalllaw08_CodelRate.l0 kj16 (wrap64 (x6_1 + 1)) (wrap64 ((Int.tmod a1 1099511627776) + (wrap64 (1 + (wrap64 (Int.tmod a0 60)))))) (wrap64 (x10_16 + t337)) (IntKind.u64.wrap (x11_16 + 1)) 1 (wrap64 (1 + (wrap64 (Int.tmod a0 60)))) x314000_16 x314001_16 x314002_16 x314003_16 x314004_16 x314005_16))) = some r := H
          have A52 := Aside0.mk A520
          clear A520
          replace H := Option.bind_eq_some_iff.mp H
          obtain ⟨t338, A530, H⟩ := H
          replace H : (if t338 < 2 then (some true) else (overfalllaw08_CodelRate.l0 kj16 (wrap64 (x6_1 + 1)) (wrap64 ((Int.tmod a1 1099511627776) + (wrap64 (1 + (wrap64 (Int.tmod a0 60)))))) (wrap64 (x10_16 + t337)) (IntKind.u64.wrap (x11_16 + 1)) 1 (wrap64 (1 + (wrap64 (Int.tmod a0 60)))) x314000_16 x314001_16 x314002_16 x314003_16 x314004_16 x314005_16)) = some r := H
          have A53 := Aside0.mk A530
          clear A530
          by_cases c54 : t338 < 2
          ·rw [if_pos c54] at H
           have c54b0 : decide (t338 < 2) = true := decide_eq_true c54
           clear c54
           obtain rfl := Option.some.inj H
           have hnb55 := NB305_313.out
           have hnc55 := NB313_305.out
           have hcz56_0 : wc.cell? ⟨gb305, 0, none⟩ = some (.int .i64 1) := (blk_cell BK305.out 0).trans rfl
           have hcz56_1 : wc.cell? ⟨gb305, 1, none⟩ = some (.int .i64 (wrap64 (1 + (wrap64 (Int.tmod a0 60))))) := (blk_cell BK305.out 1).trans rfl
           have hfz56_0 := blk_frozen BK305.out 0
           have hfz56_1 := blk_frozen BK305.out 1
           go_wp2_with (first | ((with_reducible refine gate_callee (f := 14) rfl ?_); refine goesL_ (some 99) rfl rfl Try.func14 (by kernel_rfl) rfl #[.int .i64 (wrap64 (1 + (wrap64 (Int.tmod a0 60)))), .int .u64 (IntKind.u64.wrap (x11_16 + 1))] rfl (by (try simp only [List.map_toArray, List.map_cons, List.map_nil]); first | done | rfl | (simp only [List.length_drop, List.length_take]; rfl)) ?_; (with_reducible refine (overfallref03_Law.calls kj16 (wrap64 (1 + (wrap64 (Int.tmod a0 60)))) (IntKind.u64.wrap (x11_16 + 1)) t337 _ A52.out).mono ?_); rintro e w57 ⟨rfl, hb⟩; refine ⟨_, rfl, ?_⟩; have n0_ := Aside0.mk (blk_below (by exact BK305.out) hb); have n1_ := Aside0.mk (blk_below (by exact BK313.out) hb); have n2_ := Aside0.mk (below_step (by repeat (first | (with_reducible first | exact HB.out | apply below_alloc | apply pw_below_drewN | apply below_drew1 | refine below_set ?_ GE305.out | refine below_set ?_ GE313.out) | exact HB.out)) hb); clear BK305; clear BK313; clear HB; have BK305 := n0_; have BK313 := n1_; have HB := n2_; clear n0_ n1_ n2_; (try clear hb); (try clear hb2); (try clear hk); (try clear hi); have hcz58_0 : w57.cell? ⟨gb305, 0, none⟩ = some (.int .i64 1) := (blk_cell BK305.out 0).trans rfl; have hcz58_1 : w57.cell? ⟨gb305, 1, none⟩ = some (.int .i64 (wrap64 (1 + (wrap64 (Int.tmod a0 60))))) := (blk_cell BK305.out 1).trans rfl; have hfz58_0 := blk_frozen BK305.out 0; have hfz58_1 := blk_frozen BK305.out 1) | ((with_reducible refine gate_callee (f := 14) rfl ?_); refine goesL_ (some 104) rfl rfl Try.func14 (by kernel_rfl) rfl #[.int .i64 (wrap64 (1 + (wrap64 (Int.tmod a0 60)))), .int .u64 (IntKind.u64.wrap (x11_16 + 1))] rfl (by (try simp only [List.map_toArray, List.map_cons, List.map_nil]); first | done | rfl | (simp only [List.length_drop, List.length_take]; rfl)) ?_; (with_reducible refine (overfallref03_Law.calls kj16 (wrap64 (1 + (wrap64 (Int.tmod a0 60)))) (IntKind.u64.wrap (x11_16 + 1)) t338 _ A53.out).mono ?_); rintro e w59 ⟨rfl, hb⟩; refine ⟨_, rfl, ?_⟩; have n0_ := Aside0.mk (blk_below (by exact BK305.out) hb); have n1_ := Aside0.mk (blk_below (by exact BK313.out) hb); have n2_ := Aside0.mk (below_step (by repeat (first | (with_reducible first | exact HB.out | apply below_alloc | apply pw_below_drewN | apply below_drew1 | refine below_set ?_ GE305.out | refine below_set ?_ GE313.out) | exact HB.out)) hb); clear BK305; clear BK313; clear HB; have BK305 := n0_; have BK313 := n1_; have HB := n2_; clear n0_ n1_ n2_; (try clear hb); (try clear hb2); (try clear hk); (try clear hi)))
           try any_goals (exfalso; rw [c43b1] at c42b0; simp at c42b0; first | omega | (rename_i hz_; simp at hz_; omega))
           go_ret
           exact ⟨by first | rfl | (simp [errW_none, errW_some] <;> rfl) | (simp [*, errW_none, errW_some] <;> rfl), by repeat (first | (with_reducible first | exact HB.out | apply below_alloc | apply pw_below_drewN | apply below_drew1 | refine below_set ?_ GE305.out | refine below_set ?_ GE313.out) | exact HB.out)⟩
          ·rw [if_neg c54] at H
           have c54b0 : decide (t338 < 2) = false := decide_eq_false c54
           clear c54
           have H' := Aside0.mk H
           clear H
           have hnb60 := NB305_313.out
           have hnc60 := NB313_305.out
           have hcz61_0 : wc.cell? ⟨gb305, 0, none⟩ = some (.int .i64 1) := (blk_cell BK305.out 0).trans rfl
           have hcz61_1 : wc.cell? ⟨gb305, 1, none⟩ = some (.int .i64 (wrap64 (1 + (wrap64 (Int.tmod a0 60))))) := (blk_cell BK305.out 1).trans rfl
           have hfz61_0 := blk_frozen BK305.out 0
           have hfz61_1 := blk_frozen BK305.out 1
           go_wp2_with (first | ((with_reducible refine gate_callee (f := 14) rfl ?_); refine goesL_ (some 99) rfl rfl Try.func14 (by kernel_rfl) rfl #[.int .i64 (wrap64 (1 + (wrap64 (Int.tmod a0 60)))), .int .u64 (IntKind.u64.wrap (x11_16 + 1))] rfl (by (try simp only [List.map_toArray, List.map_cons, List.map_nil]); first | done | rfl | (simp only [List.length_drop, List.length_take]; rfl)) ?_; (with_reducible refine (overfallref03_Law.calls kj16 (wrap64 (1 + (wrap64 (Int.tmod a0 60)))) (IntKind.u64.wrap (x11_16 + 1)) t337 _ A52.out).mono ?_); rintro e w62 ⟨rfl, hb⟩; refine ⟨_, rfl, ?_⟩; have n0_ := Aside0.mk (blk_below (by exact BK305.out) hb); have n1_ := Aside0.mk (blk_below (by exact BK313.out) hb); have n2_ := Aside0.mk (below_step (by repeat (first | (with_reducible first | exact HB.out | apply below_alloc | apply pw_below_drewN | apply below_drew1 | refine below_set ?_ GE305.out | refine below_set ?_ GE313.out) | exact HB.out)) hb); clear BK305; clear BK313; clear HB; have BK305 := n0_; have BK313 := n1_; have HB := n2_; clear n0_ n1_ n2_; (try clear hb); (try clear hb2); (try clear hk); (try clear hi); have hcz63_0 : w62.cell? ⟨gb305, 0, none⟩ = some (.int .i64 1) := (blk_cell BK305.out 0).trans rfl; have hcz63_1 : w62.cell? ⟨gb305, 1, none⟩ = some (.int .i64 (wrap64 (1 + (wrap64 (Int.tmod a0 60))))) := (blk_cell BK305.out 1).trans rfl; have hfz63_0 := blk_frozen BK305.out 0; have hfz63_1 := blk_frozen BK305.out 1) | ((with_reducible refine gate_callee (f := 14) rfl ?_); refine goesL_ (some 104) rfl rfl Try.func14 (by kernel_rfl) rfl #[.int .i64 (wrap64 (1 + (wrap64 (Int.tmod a0 60)))), .int .u64 (IntKind.u64.wrap (x11_16 + 1))] rfl (by (try simp only [List.map_toArray, List.map_cons, List.map_nil]); first | done | rfl | (simp only [List.length_drop, List.length_take]; rfl)) ?_; (with_reducible refine (overfallref03_Law.calls kj16 (wrap64 (1 + (wrap64 (Int.tmod a0 60)))) (IntKind.u64.wrap (x11_16 + 1)) t338 _ A53.out).mono ?_); rintro e w64 ⟨rfl, hb⟩; refine ⟨_, rfl, ?_⟩; have n0_ := Aside0.mk (blk_below (by exact BK305.out) hb); have n1_ := Aside0.mk (blk_below (by exact BK313.out) hb); have n2_ := Aside0.mk (below_step (by repeat (first | (with_reducible first | exact HB.out | apply below_alloc | apply pw_below_drewN | apply below_drew1 | refine below_set ?_ GE305.out | refine below_set ?_ GE313.out) | exact HB.out)) hb); clear BK305; clear BK313; clear HB; have BK305 := n0_; have BK313 := n1_; have HB := n2_; clear n0_ n1_ n2_; (try clear hb); (try clear hb2); (try clear hk); (try clear hi)))
           try any_goals (exfalso; rw [c43b1] at c42b0; simp at c42b0; first | omega | (rename_i hz_; simp at hz_; omega))
           go_roundg kj16
           case measure => have := HK1.out; have := HJ16.out; omega
           case rel => exact ⟨((wrap64 (x6_1 + 1))), (wrap64 (x10_16 + t337)), (IntKind.u64.wrap (x11_16 + 1)), (x314000_16), (x314001_16), (x314002_16), (x314003_16), (x314004_16), (x314005_16), (by first | rfl | (simp; done) | (simp [*]; done)), (by first | rfl | (simp; done) | (simp [*]; done)), (by first | rfl | (simp; done) | (simp [*]; done)), H', ⟨by have := HK1.out; have := HJ16.out; omega⟩, ⟨by exact BK305.out⟩, ⟨by exact BK313.out⟩, ⟨by repeat (first | (with_reducible first | exact HB.out | apply below_alloc | apply pw_below_drewN | apply below_drew1 | refine below_set ?_ GE305.out | refine below_set ?_ GE313.out) | exact HB.out)⟩⟩
     ·rw [if_neg c15] at H
      have c15b0 : decide (x6_1 < (wrap64 ((wrap64 ((Int.tmod a1 1099511627776) + (wrap64 (1 + (wrap64 (Int.tmod a0 60)))))) + (wrap64 (6 * (wrap64 (1 + (wrap64 (Int.tmod a0 60))))))))) = false := decide_eq_false c15
      clear c15
      obtain rfl := Option.some.inj H
      have hnb65 := NB305_313.out
      have hnc65 := NB313_305.out
      have hcz66_0 : wr.cell? ⟨gb305, 0, none⟩ = some (.int .i64 1) := (blk_cell BK305.out 0).trans rfl
      have hcz66_1 : wr.cell? ⟨gb305, 1, none⟩ = some (.int .i64 (wrap64 (1 + (wrap64 (Int.tmod a0 60))))) := (blk_cell BK305.out 1).trans rfl
      have hfz66_0 := blk_frozen BK305.out 0
      have hfz66_1 := blk_frozen BK305.out 1
      go_wp2
      go_ret
      exact ⟨by first | rfl | (simp [errW_none, errW_some] <;> rfl) | (simp [*, errW_none, errW_some] <;> rfl), by repeat (first | (with_reducible first | exact HB.out | apply below_alloc | apply pw_below_drewN | apply below_drew1 | refine below_set ?_ GE305.out | refine below_set ?_ GE313.out) | exact HB.out)⟩
  ·rw [if_neg c6] at H
   exact absurd H (by simp)
 ·replace c4 := Bool.eq_false_iff.mpr c4
  subst c4
  have H1 : (none) = some r := by rw [if_neg (show ¬ (false = true) by decide)] at H; exact H
  clear H
  have H := H1
  clear H1
  exact absurd H (by simp)

/-- THE ONE PURE STATEMENT of overfalllaw08_CodelRate: yours. -/
def overfalllaw08_CodelRate.Pure : Prop := ∀ (a0 : Int) (a1 : Int), (Lit.int .u16 a0).wf = true → (Lit.int .i64 a1).wf = true → ∃ k, overfalllaw08_CodelRate.f k a0 a1 = some true
theorem overfalllaw08_CodelRate.walk (P : overfalllaw08_CodelRate.Pure) (a0 : Int) (a1 : Int) (w : World) (w0 : (Lit.int .u16 a0).wf = true) (w1 : (Lit.int .i64 a1).wf = true) :
  Calls Try.prog 7 #[.int .u16 a0, .int .i64 a1] w fun e w' => e = .returned (.bool true) ∧ Below w.heap.size w w' := by
 obtain ⟨k, h⟩ := P a0 a1 w0 w1
 refine (overfalllaw08_CodelRate.calls k a0 a1 true w h).mono ?_
 rintro e w' ⟨rfl, hd⟩
 exact ⟨rfl, hd⟩

end Go.Proofs.Ytiiffgmbkajkhaa.A

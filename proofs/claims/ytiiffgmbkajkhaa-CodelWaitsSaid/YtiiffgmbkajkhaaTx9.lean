-- Laid by a program of this claim's session (wip/tools/myprint.py) over the kit's printer.
import Derived.Test.YtiiffgmbkajkhaaTx0
import Derived.Test.YtiiffgmbkajkhaaTx5
import Derived.Test.YtiiffgmbkajkhaaTx6
import Derived.Test.YtiiffgmbkajkhaaTx8
namespace Go.Proofs.Ytiiffgmbkajkhaa.T
open Go.RowKit Go.Proofs.YtiiffgmbkajkhaaW.PrintWords Go.Proofs.YtiiffgmbkajkhaaW.PrintLast Go.Proofs.YtiiffgmbkajkhaaW.PrintMore
attribute [local go_sem] max2_int min2_int max_two min_two max_three min_three max_four min_four   -- for this text's walks alone
set_option linter.unusedVariables false
set_option linter.unusedSimpArgs false

/-! ### overfalllaw08_CodelWaits: function 5 -/
mutual
def overfalllaw08_CodelWaits.l0 : Nat → Int → Int → Bool → List (S30) → Int → Int → Bool → Int → Bool → Int → Int → Int → Int → Int → Option (Bool)
 | 0, _, _, _, _, _, _, _, _, _, _, _, _, _, _ => none
 | k + 1, x2, x9, x10, x19, x20, x21, x287000, x287001, x287002, x287003, x287004, x287005, x288000, x288001 => if x21 < x20 then (if 0 ≤ x21 then (if x21 < (x19.length : Int) then (if x21 ≥ 40 then (some true) else ((overfallref02_Add.f k x2 (mx ((rd_T30 x19 x21).f0) 0)).bind fun t297 => (if ((rd_T30 x19 x21).f1) ≥ x288000 then (overfalllaw08_CodelWaits.j1 k t297 x9 x10 (decide (((rd_T30 x19 x21).f2) > 1)) x19 x20 x21 x287000 x287001 x287002 x287003 x287004 x287005 x288000 x288001 ((rd_T30 x19 x21).f0) ((rd_T30 x19 x21).f1) ((rd_T30 x19 x21).f2)) else (overfalllaw08_CodelWaits.j1 k t297 x9 x10 false x19 x20 x21 x287000 x287001 x287002 x287003 x287004 x287005 x288000 x288001 ((rd_T30 x19 x21).f0) ((rd_T30 x19 x21).f1) ((rd_T30 x19 x21).f2))))) else (none)) else (none)) else (some true)
def overfalllaw08_CodelWaits.j1 : Nat → Int → Int → Bool → Bool → List (S30) → Int → Int → Bool → Int → Bool → Int → Int → Int → Int → Int → Int → Int → Int → Option (Bool)
 | 0, _, _, _, _, _, _, _, _, _, _, _, _, _, _, _, _, _, _ => none
 | k + 1, x2, x9, x10, x13, x19, x20, x21, x287000, x287001, x287002, x287003, x287004, x287005, x288000, x288001, x297000, x297001, x297002 => if x13 = true then (overfalllaw08_CodelWaits.j2 k x2 x9 x10 x13 x19 x20 x21 (!x10) x287000 x287001 x287002 x287003 x287004 x287005 x288000 x288001 x297000 x297001 x297002) else (overfalllaw08_CodelWaits.j2 k x2 x9 x10 x13 x19 x20 x21 false x287000 x287001 x287002 x287003 x287004 x287005 x288000 x288001 x297000 x297001 x297002)
def overfalllaw08_CodelWaits.j2 : Nat → Int → Int → Bool → Bool → List (S30) → Int → Int → Bool → Bool → Int → Bool → Int → Int → Int → Int → Int → Int → Int → Int → Option (Bool)
 | 0, _, _, _, _, _, _, _, _, _, _, _, _, _, _, _, _, _, _, _ => none
 | k + 1, x2, x9, x10, x13, x19, x20, x21, x47, x287000, x287001, x287002, x287003, x287004, x287005, x288000, x288001, x297000, x297001, x297002 => if x47 = true then (overfalllaw08_CodelWaits.j3 k x2 x2 x10 x13 x19 x20 x21 x287000 x287001 x287002 x287003 x287004 x287005 x288000 x288001 x297000 x297001 x297002) else (overfalllaw08_CodelWaits.j3 k x2 x9 x10 x13 x19 x20 x21 x287000 x287001 x287002 x287003 x287004 x287005 x288000 x288001 x297000 x297001 x297002)
def overfalllaw08_CodelWaits.j3 : Nat → Int → Int → Bool → Bool → List (S30) → Int → Int → Bool → Int → Bool → Int → Int → Int → Int → Int → Int → Int → Int → Option (Bool)
 | 0, _, _, _, _, _, _, _, _, _, _, _, _, _, _, _, _, _, _ => none
 | k + 1, x2, x9, x10, x13, x19, x20, x21, x287000, x287001, x287002, x287003, x287004, x287005, x288000, x288001, x297000, x297001, x297002 => (codel_State_Look.f k x287000 x287001 x287002 x287003 x287004 x287005 x288000 x288001 x2 x297001 x297002).bind fun bt298 => (if bt298.2.2.2.2.2.2 = 0 then (overfalllaw08_CodelWaits.l0 k x2 x9 x13 x19 x20 (wrap64 (x21 + 1)) bt298.1 bt298.2.1 bt298.2.2.1 bt298.2.2.2.1 bt298.2.2.2.2.1 bt298.2.2.2.2.2.1 x288000 x288001) else (if x13 = true then (if x10 = true then ((overfallref02_Add.f k x9 x288001).bind fun t305 => (if x2 < t305 then (none) else (overfalllaw08_CodelWaits.l0 k x2 x9 x13 x19 x20 (wrap64 (x21 + 1)) bt298.1 bt298.2.1 bt298.2.2.1 bt298.2.2.2.1 bt298.2.2.2.2.1 bt298.2.2.2.2.2.1 x288000 x288001))) else (none)) else (none)))
end
def overfalllaw08_CodelWaits.f (k : Nat) (a0_0 : Bool) (a0_1 : Int) (a0_2 : Bool) (a0_3 : Int) (a0_4 : Int) (a0_5 : Int) (a1_0 : Int) (a1_1 : Int) (a2 : Int) (l3 : List (S30)) : Option (Bool) := (overfalllaw08_awake.f k).bind fun t288 => (if t288 = true then ((codel_State_Empty.f a0_0 a0_1 a0_2 a0_3 a0_4 a0_5).bind fun bt289 => (overfalllaw08_CodelWaits.l0 k a2 0 false l3 (l3.length : Int) 0 bt289.1 bt289.2.1 bt289.2.2.1 bt289.2.2.2.1 bt289.2.2.2.2.1 bt289.2.2.2.2.2 a1_0 a1_1)) else (none))
theorem overfalllaw08_CodelWaits.mono_l : ∀ k, (∀ y0 y1 y2 y3 y4 y5 y6 y7 y8 y9 y10 y11 y12 y13, LeO (overfalllaw08_CodelWaits.l0 k y0 y1 y2 y3 y4 y5 y6 y7 y8 y9 y10 y11 y12 y13) (overfalllaw08_CodelWaits.l0 (k + 1) y0 y1 y2 y3 y4 y5 y6 y7 y8 y9 y10 y11 y12 y13)) ∧ (∀ y0 y1 y2 y3 y4 y5 y6 y7 y8 y9 y10 y11 y12 y13 y14 y15 y16 y17, LeO (overfalllaw08_CodelWaits.j1 k y0 y1 y2 y3 y4 y5 y6 y7 y8 y9 y10 y11 y12 y13 y14 y15 y16 y17) (overfalllaw08_CodelWaits.j1 (k + 1) y0 y1 y2 y3 y4 y5 y6 y7 y8 y9 y10 y11 y12 y13 y14 y15 y16 y17)) ∧ (∀ y0 y1 y2 y3 y4 y5 y6 y7 y8 y9 y10 y11 y12 y13 y14 y15 y16 y17 y18, LeO (overfalllaw08_CodelWaits.j2 k y0 y1 y2 y3 y4 y5 y6 y7 y8 y9 y10 y11 y12 y13 y14 y15 y16 y17 y18) (overfalllaw08_CodelWaits.j2 (k + 1) y0 y1 y2 y3 y4 y5 y6 y7 y8 y9 y10 y11 y12 y13 y14 y15 y16 y17 y18)) ∧ (∀ y0 y1 y2 y3 y4 y5 y6 y7 y8 y9 y10 y11 y12 y13 y14 y15 y16 y17, LeO (overfalllaw08_CodelWaits.j3 k y0 y1 y2 y3 y4 y5 y6 y7 y8 y9 y10 y11 y12 y13 y14 y15 y16 y17) (overfalllaw08_CodelWaits.j3 (k + 1) y0 y1 y2 y3 y4 y5 y6 y7 y8 y9 y10 y11 y12 y13 y14 y15 y16 y17))
 | 0 => ⟨fun _ _ _ _ _ _ _ _ _ _ _ _ _ _ r h => by simp [overfalllaw08_CodelWaits.l0] at h, fun _ _ _ _ _ _ _ _ _ _ _ _ _ _ _ _ _ _ r h => by simp [overfalllaw08_CodelWaits.j1] at h, fun _ _ _ _ _ _ _ _ _ _ _ _ _ _ _ _ _ _ _ r h => by simp [overfalllaw08_CodelWaits.j2] at h, fun _ _ _ _ _ _ _ _ _ _ _ _ _ _ _ _ _ _ r h => by simp [overfalllaw08_CodelWaits.j3] at h⟩
 | k + 1 => by
  obtain ⟨ih0, ih1, ih2, ih3⟩ := overfalllaw08_CodelWaits.mono_l k
  refine ⟨?_, ?_, ?_, ?_⟩
  ·intro y0 y1 y2 y3 y4 y5 y6 y7 y8 y9 y10 y11 y12 y13
   unfold overfalllaw08_CodelWaits.l0
   repeat' first
   | (with_reducible exact ih0 _ _ _ _ _ _ _ _ _ _ _ _ _ _)
   | (with_reducible exact ih1 _ _ _ _ _ _ _ _ _ _ _ _ _ _ _ _ _ _)
   | (with_reducible exact ih2 _ _ _ _ _ _ _ _ _ _ _ _ _ _ _ _ _ _ _)
   | (with_reducible exact ih3 _ _ _ _ _ _ _ _ _ _ _ _ _ _ _ _ _ _)
   | (with_reducible exact codel_State_Look.mono _ _ _ _ _ _ _ _ _ _ _ _)
   | (with_reducible exact overfalllaw08_awake.mono _)
   | (with_reducible exact overfallref02_Add.mono _ _ _)
   | (with_reducible exact LeO.refl _)
   | (with_reducible exact LeO.none _)
   | (with_reducible refine LeO.ite ?_ ?_)
   | (with_reducible refine LeO.bind ?_ (fun _ => ?_))
   | exact ih0 _ _ _ _ _ _ _ _ _ _ _ _ _ _
   | exact ih1 _ _ _ _ _ _ _ _ _ _ _ _ _ _ _ _ _ _
   | exact ih2 _ _ _ _ _ _ _ _ _ _ _ _ _ _ _ _ _ _ _
   | exact ih3 _ _ _ _ _ _ _ _ _ _ _ _ _ _ _ _ _ _
   | exact codel_State_Look.mono _ _ _ _ _ _ _ _ _ _ _ _
   | exact overfalllaw08_awake.mono _
   | exact overfallref02_Add.mono _ _ _
   | exact LeO.none _
   | refine LeO.ite ?_ ?_
   | refine LeO.bind ?_ (fun _ => ?_)
  ·intro y0 y1 y2 y3 y4 y5 y6 y7 y8 y9 y10 y11 y12 y13 y14 y15 y16 y17
   unfold overfalllaw08_CodelWaits.j1
   repeat' first
   | (with_reducible exact ih0 _ _ _ _ _ _ _ _ _ _ _ _ _ _)
   | (with_reducible exact ih1 _ _ _ _ _ _ _ _ _ _ _ _ _ _ _ _ _ _)
   | (with_reducible exact ih2 _ _ _ _ _ _ _ _ _ _ _ _ _ _ _ _ _ _ _)
   | (with_reducible exact ih3 _ _ _ _ _ _ _ _ _ _ _ _ _ _ _ _ _ _)
   | (with_reducible exact codel_State_Look.mono _ _ _ _ _ _ _ _ _ _ _ _)
   | (with_reducible exact overfalllaw08_awake.mono _)
   | (with_reducible exact overfallref02_Add.mono _ _ _)
   | (with_reducible exact LeO.refl _)
   | (with_reducible exact LeO.none _)
   | (with_reducible refine LeO.ite ?_ ?_)
   | (with_reducible refine LeO.bind ?_ (fun _ => ?_))
   | exact ih0 _ _ _ _ _ _ _ _ _ _ _ _ _ _
   | exact ih1 _ _ _ _ _ _ _ _ _ _ _ _ _ _ _ _ _ _
   | exact ih2 _ _ _ _ _ _ _ _ _ _ _ _ _ _ _ _ _ _ _
   | exact ih3 _ _ _ _ _ _ _ _ _ _ _ _ _ _ _ _ _ _
   | exact codel_State_Look.mono _ _ _ _ _ _ _ _ _ _ _ _
   | exact overfalllaw08_awake.mono _
   | exact overfallref02_Add.mono _ _ _
   | exact LeO.none _
   | refine LeO.ite ?_ ?_
   | refine LeO.bind ?_ (fun _ => ?_)
  ·intro y0 y1 y2 y3 y4 y5 y6 y7 y8 y9 y10 y11 y12 y13 y14 y15 y16 y17 y18
   unfold overfalllaw08_CodelWaits.j2
   repeat' first
   | (with_reducible exact ih0 _ _ _ _ _ _ _ _ _ _ _ _ _ _)
   | (with_reducible exact ih1 _ _ _ _ _ _ _ _ _ _ _ _ _ _ _ _ _ _)
   | (with_reducible exact ih2 _ _ _ _ _ _ _ _ _ _ _ _ _ _ _ _ _ _ _)
   | (with_reducible exact ih3 _ _ _ _ _ _ _ _ _ _ _ _ _ _ _ _ _ _)
   | (with_reducible exact codel_State_Look.mono _ _ _ _ _ _ _ _ _ _ _ _)
   | (with_reducible exact overfalllaw08_awake.mono _)
   | (with_reducible exact overfallref02_Add.mono _ _ _)
   | (with_reducible exact LeO.refl _)
   | (with_reducible exact LeO.none _)
   | (with_reducible refine LeO.ite ?_ ?_)
   | (with_reducible refine LeO.bind ?_ (fun _ => ?_))
   | exact ih0 _ _ _ _ _ _ _ _ _ _ _ _ _ _
   | exact ih1 _ _ _ _ _ _ _ _ _ _ _ _ _ _ _ _ _ _
   | exact ih2 _ _ _ _ _ _ _ _ _ _ _ _ _ _ _ _ _ _ _
   | exact ih3 _ _ _ _ _ _ _ _ _ _ _ _ _ _ _ _ _ _
   | exact codel_State_Look.mono _ _ _ _ _ _ _ _ _ _ _ _
   | exact overfalllaw08_awake.mono _
   | exact overfallref02_Add.mono _ _ _
   | exact LeO.none _
   | refine LeO.ite ?_ ?_
   | refine LeO.bind ?_ (fun _ => ?_)
  ·intro y0 y1 y2 y3 y4 y5 y6 y7 y8 y9 y10 y11 y12 y13 y14 y15 y16 y17
   unfold overfalllaw08_CodelWaits.j3
   repeat' first
   | (with_reducible exact ih0 _ _ _ _ _ _ _ _ _ _ _ _ _ _)
   | (with_reducible exact ih1 _ _ _ _ _ _ _ _ _ _ _ _ _ _ _ _ _ _)
   | (with_reducible exact ih2 _ _ _ _ _ _ _ _ _ _ _ _ _ _ _ _ _ _ _)
   | (with_reducible exact ih3 _ _ _ _ _ _ _ _ _ _ _ _ _ _ _ _ _ _)
   | (with_reducible exact codel_State_Look.mono _ _ _ _ _ _ _ _ _ _ _ _)
   | (with_reducible exact overfalllaw08_awake.mono _)
   | (with_reducible exact overfallref02_Add.mono _ _ _)
   | (with_reducible exact LeO.refl _)
   | (with_reducible exact LeO.none _)
   | (with_reducible refine LeO.ite ?_ ?_)
   | (with_reducible refine LeO.bind ?_ (fun _ => ?_))
   | exact ih0 _ _ _ _ _ _ _ _ _ _ _ _ _ _
   | exact ih1 _ _ _ _ _ _ _ _ _ _ _ _ _ _ _ _ _ _
   | exact ih2 _ _ _ _ _ _ _ _ _ _ _ _ _ _ _ _ _ _ _
   | exact ih3 _ _ _ _ _ _ _ _ _ _ _ _ _ _ _ _ _ _
   | exact codel_State_Look.mono _ _ _ _ _ _ _ _ _ _ _ _
   | exact overfalllaw08_awake.mono _
   | exact overfallref02_Add.mono _ _ _
   | exact LeO.none _
   | refine LeO.ite ?_ ?_
   | refine LeO.bind ?_ (fun _ => ?_)
theorem overfalllaw08_CodelWaits.mono : ∀ a0 a1 a2 a3 a4 a5 a6 a7 a8 a9 k, LeO (overfalllaw08_CodelWaits.f k a0 a1 a2 a3 a4 a5 a6 a7 a8 a9) (overfalllaw08_CodelWaits.f (k + 1) a0 a1 a2 a3 a4 a5 a6 a7 a8 a9) := by
 intro a0 a1 a2 a3 a4 a5 a6 a7 a8 a9 k
 obtain ⟨ih0, ih1, ih2, ih3⟩ := overfalllaw08_CodelWaits.mono_l k
 unfold overfalllaw08_CodelWaits.f
 repeat' first
   | (with_reducible exact ih0 _ _ _ _ _ _ _ _ _ _ _ _ _ _)
   | (with_reducible exact ih1 _ _ _ _ _ _ _ _ _ _ _ _ _ _ _ _ _ _)
   | (with_reducible exact ih2 _ _ _ _ _ _ _ _ _ _ _ _ _ _ _ _ _ _ _)
   | (with_reducible exact ih3 _ _ _ _ _ _ _ _ _ _ _ _ _ _ _ _ _ _)
   | (with_reducible exact codel_State_Look.mono _ _ _ _ _ _ _ _ _ _ _ _)
   | (with_reducible exact overfalllaw08_awake.mono _)
   | (with_reducible exact overfallref02_Add.mono _ _ _)
   | (with_reducible exact LeO.refl _)
   | (with_reducible exact LeO.none _)
   | (with_reducible refine LeO.ite ?_ ?_)
   | (with_reducible refine LeO.bind ?_ (fun _ => ?_))
   | exact ih0 _ _ _ _ _ _ _ _ _ _ _ _ _ _
   | exact ih1 _ _ _ _ _ _ _ _ _ _ _ _ _ _ _ _ _ _
   | exact ih2 _ _ _ _ _ _ _ _ _ _ _ _ _ _ _ _ _ _ _
   | exact ih3 _ _ _ _ _ _ _ _ _ _ _ _ _ _ _ _ _ _
   | exact codel_State_Look.mono _ _ _ _ _ _ _ _ _ _ _ _
   | exact overfalllaw08_awake.mono _
   | exact overfallref02_Add.mono _ _ _
   | exact LeO.none _
   | refine LeO.ite ?_ ?_
   | refine LeO.bind ?_ (fun _ => ?_)
set_option maxHeartbeats 8000000 in
set_option maxRecDepth 100000 in
theorem overfalllaw08_CodelWaits.calls (k : Nat) (a0_0 : Bool) (a0_1 : Int) (a0_2 : Bool) (a0_3 : Int) (a0_4 : Int) (a0_5 : Int) (a1_0 : Int) (a1_1 : Int) (a2 : Int) (A3 : Option Addr) (c3 : Nat) (l3 : List (S30)) (r : Bool) (w : World) (hr3 : Kd.C k30 w A3 l3.length l3) (hc3 : l3.length ≤ c3) (h : overfalllaw08_CodelWaits.f k a0_0 a0_1 a0_2 a0_3 a0_4 a0_5 a1_0 a1_1 a2 l3 = some r) :
  Calls Try.prog 5 #[.agg #[.bool a0_0, .int .i64 a0_1, .bool a0_2, .int .i64 a0_3, .int .u64 a0_4, .int .u64 a0_5], .agg #[.int .i64 a1_0, .int .i64 a1_1], .int .i64 a2, .slice A3 l3.length c3] w fun e w' => e = .returned (.bool r) ∧ Below w.heap.size w w' := by
 have hu24 := Try.underlying24
 have hu26 := Try.underlying26
 have hu30 := Try.underlying30
 have HR3 := Aside0.mk hr3
 have HC3 := Aside0.mk hc3
 clear hr3 hc3
 have HB := Aside0.mk (Below.refl w.heap.size w)
 have H : ((overfalllaw08_awake.f k).bind fun t288 => (if t288 = true then ((codel_State_Empty.f a0_0 a0_1 a0_2 a0_3 a0_4 a0_5).bind fun bt289 => (overfalllaw08_CodelWaits.l0 k a2 0 false l3 (l3.length : Int) 0 bt289.1 bt289.2.1 bt289.2.2.1 bt289.2.2.2.1 bt289.2.2.2.2.1 bt289.2.2.2.2.2 a1_0 a1_1)) else (none))) = some r := h
 clear h
 replace H := Option.bind_eq_some_iff.mp H
 obtain ⟨t288, A50, H⟩ := H
 replace H : (if t288 = true then ((codel_State_Empty.f a0_0 a0_1 a0_2 a0_3 a0_4 a0_5).bind fun bt289 => (overfalllaw08_CodelWaits.l0 k a2 0 false l3 (l3.length : Int) 0 bt289.1 bt289.2.1 bt289.2.2.1 bt289.2.2.2.1 bt289.2.2.2.2.1 bt289.2.2.2.2.2 a1_0 a1_1)) else (none)) = some r := H
 have A5 := Aside0.mk A50
 clear A50
 by_cases c6 : t288 = true
 ·subst c6
  have H1 : ((codel_State_Empty.f a0_0 a0_1 a0_2 a0_3 a0_4 a0_5).bind fun bt289 => (overfalllaw08_CodelWaits.l0 k a2 0 false l3 (l3.length : Int) 0 bt289.1 bt289.2.1 bt289.2.2.1 bt289.2.2.2.1 bt289.2.2.2.2.1 bt289.2.2.2.2.2 a1_0 a1_1)) = some r := by rw [if_pos rfl] at H; exact H
  clear H
  have H := H1
  clear H1
  replace H := Option.bind_eq_some_iff.mp H
  obtain ⟨⟨t289, t290, t291, t292, t293, t294⟩, A70, H⟩ := H
  replace H : (overfalllaw08_CodelWaits.l0 k a2 0 false l3 (l3.length : Int) 0 t289 t290 t291 t292 t293 t294 a1_0 a1_1) = some r := H
  have A7 := Aside0.mk A70
  clear A70
  have H' := Aside0.mk H
  clear H
  go_enter Try.func5, Try.ntmps5
  go_wp2_with (first | ((with_reducible refine gate_dst (N := 4) rfl ?_); refine box_event ?hg (N := 4) ?hd (cs := #[.bool a0_0, .int .i64 a0_1, .bool a0_2, .int .i64 a0_3, .int .u64 a0_4, .int .u64 a0_5]) (t := 24) ?hr ?_; (case hd => rfl); (case hg => rfl); (case hr => first | (go_simp; done) | (go_simp; rfl)); intro gb286 hg w8 hbox hb; have n0_ := Aside0.mk (below_step (by repeat (first | (with_reducible first | exact HB.out | apply below_alloc | apply pw_below_drewN | apply below_drew1) | exact HB.out)) hb); have n1_ := Aside0.mk (hbox); have n2_ := Aside0.mk ((by rw [hg]; exact (below_size (by repeat (first | (with_reducible first | exact HB.out | apply below_alloc | apply pw_below_drewN | apply below_drew1) | exact HB.out))) : w.heap.size ≤ gb286)); have n3_ := Aside0.mk ((by rw [hg]; exact (below_size (by repeat (first | (with_reducible first | exact HB.out | apply below_alloc | apply pw_below_drewN | apply below_drew1) | exact HB.out))) : w.heap.size ≤ gb286)); clear HB; have HB := n0_; have BK286 := n1_; have GW286 := n2_; have GE286 := n3_; clear n0_ n1_ n2_ n3_; clear hb hbox hg) | ((with_reducible refine gate_dst (N := 5) rfl ?_); refine box_event ?hg (N := 5) ?hd (cs := #[.int .i64 a1_0, .int .i64 a1_1]) (t := 26) ?hr ?_; (case hd => rfl); (case hg => rfl); (case hr => first | (go_simp; done) | (go_simp; rfl)); intro gb287 hg w9 hbox hb; have n0_ := Aside0.mk (blk_below (by exact BK286.out) hb); have n1_ := Aside0.mk (below_step (by repeat (first | (with_reducible first | exact HB.out | apply below_alloc | apply pw_below_drewN | apply below_drew1 | refine below_set ?_ GE286.out) | exact HB.out)) hb); have n2_ := Aside0.mk (hbox); have n3_ := Aside0.mk ((by rw [hg]; exact (below_size (by repeat (first | (with_reducible first | exact HB.out | apply below_alloc | apply pw_below_drewN | apply below_drew1 | refine below_set ?_ GE286.out) | exact HB.out))) : w.heap.size ≤ gb287)); have n4_ := Aside0.mk ((by rw [hg]; exact (below_size (by repeat (first | (with_reducible first | exact HB.out | apply below_alloc | apply pw_below_drewN | apply below_drew1 | refine below_set ?_ GE286.out) | exact HB.out))) : w.heap.size ≤ gb287)); have n5_ := Aside0.mk ((by rw [hg]; exact Nat.ne_of_lt (blk_lt (by exact BK286.out)) : gb286 ≠ gb287)); have n6_ := Aside0.mk ((by rw [hg]; exact Nat.ne_of_gt (blk_lt (by exact BK286.out)) : gb287 ≠ gb286)); clear BK286; clear HB; have BK286 := n0_; have HB := n1_; have BK287 := n2_; have GW287 := n3_; have GE287 := n4_; have NB286_287 := n5_; have NB287_286 := n6_; clear n0_ n1_ n2_ n3_ n4_ n5_ n6_; clear hb hbox hg) | ((with_reducible refine gate_callee (f := 9) rfl ?_); refine goesL_ (some 15) rfl rfl Try.func9 (by kernel_rfl) rfl #[] rfl (by (try simp only [List.map_toArray, List.map_cons, List.map_nil]); first | done | rfl | (simp only [List.length_drop, List.length_take]; rfl)) ?_; (with_reducible refine (overfalllaw08_awake.calls k  true _ A5.out).mono ?_); rintro e w10 ⟨rfl, hb⟩; refine ⟨_, rfl, ?_⟩; have n0_ := Aside0.mk (blk_below (by exact BK286.out) hb); have n1_ := Aside0.mk (blk_below (by exact BK287.out) hb); have n2_ := Aside0.mk (below_step (by repeat (first | (with_reducible first | exact HB.out | apply below_alloc | apply pw_below_drewN | apply below_drew1 | refine below_set ?_ GE286.out | refine below_set ?_ GE287.out) | exact HB.out)) hb); clear BK286; clear BK287; clear HB; have BK286 := n0_; have BK287 := n1_; have HB := n2_; clear n0_ n1_ n2_; (try clear hb); (try clear hb2); (try clear hk); (try clear hi); have hnb11 := NB286_287.out; have hnc11 := NB287_286.out; have hcz12_0 : w10.cell? ⟨gb286, 0, none⟩ = some (.bool a0_0) := (blk_cell BK286.out 0).trans rfl; have hcz12_1 : w10.cell? ⟨gb286, 1, none⟩ = some (.int .i64 a0_1) := (blk_cell BK286.out 1).trans rfl; have hcz12_2 : w10.cell? ⟨gb286, 2, none⟩ = some (.bool a0_2) := (blk_cell BK286.out 2).trans rfl; have hcz12_3 : w10.cell? ⟨gb286, 3, none⟩ = some (.int .i64 a0_3) := (blk_cell BK286.out 3).trans rfl; have hcz12_4 : w10.cell? ⟨gb286, 4, none⟩ = some (.int .u64 a0_4) := (blk_cell BK286.out 4).trans rfl; have hcz12_5 : w10.cell? ⟨gb286, 5, none⟩ = some (.int .u64 a0_5) := (blk_cell BK286.out 5).trans rfl; have hfz12_0 := blk_frozen BK286.out 0; have hfz12_1 := blk_frozen BK286.out 1; have hfz12_2 := blk_frozen BK286.out 2; have hfz12_3 := blk_frozen BK286.out 3; have hfz12_4 := blk_frozen BK286.out 4; have hfz12_5 := blk_frozen BK286.out 5) | ((with_reducible refine gate_callee (f := 15) rfl ?_); refine goesL_ (some 18) rfl rfl Try.func15 (by kernel_rfl) rfl #[.agg #[.bool a0_0, .int .i64 a0_1, .bool a0_2, .int .i64 a0_3, .int .u64 a0_4, .int .u64 a0_5]] rfl (by (try simp only [List.map_toArray, List.map_cons, List.map_nil]); first | done | rfl | (simp only [List.length_drop, List.length_take]; rfl)) ?_; (with_reducible refine (codel_State_Empty.calls a0_0 a0_1 a0_2 a0_3 a0_4 a0_5 t289 t290 t291 t292 t293 t294 _ A7.out).mono ?_); rintro e w13 ⟨rfl, hb⟩; refine ⟨_, rfl, ?_⟩; have n0_ := Aside0.mk (blk_below (by exact BK286.out) hb); have n1_ := Aside0.mk (blk_below (by exact BK287.out) hb); have n2_ := Aside0.mk (below_step (by repeat (first | (with_reducible first | exact HB.out | apply below_alloc | apply pw_below_drewN | apply below_drew1 | refine below_set ?_ GE286.out | refine below_set ?_ GE287.out) | exact HB.out)) hb); clear BK286; clear BK287; clear HB; have BK286 := n0_; have BK287 := n1_; have HB := n2_; clear n0_ n1_ n2_; (try clear hb); (try clear hb2); (try clear hk); (try clear hi); have hcz14_0 : w13.cell? ⟨gb286, 0, none⟩ = some (.bool a0_0) := (blk_cell BK286.out 0).trans rfl; have hcz14_1 : w13.cell? ⟨gb286, 1, none⟩ = some (.int .i64 a0_1) := (blk_cell BK286.out 1).trans rfl; have hcz14_2 : w13.cell? ⟨gb286, 2, none⟩ = some (.bool a0_2) := (blk_cell BK286.out 2).trans rfl; have hcz14_3 : w13.cell? ⟨gb286, 3, none⟩ = some (.int .i64 a0_3) := (blk_cell BK286.out 3).trans rfl; have hcz14_4 : w13.cell? ⟨gb286, 4, none⟩ = some (.int .u64 a0_4) := (blk_cell BK286.out 4).trans rfl; have hcz14_5 : w13.cell? ⟨gb286, 5, none⟩ = some (.int .u64 a0_5) := (blk_cell BK286.out 5).trans rfl; have hfz14_0 := blk_frozen BK286.out 0; have hfz14_1 := blk_frozen BK286.out 1; have hfz14_2 := blk_frozen BK286.out 2; have hfz14_3 := blk_frozen BK286.out 3; have hfz14_4 := blk_frozen BK286.out 4; have hfz14_5 := blk_frozen BK286.out 5))
  go_loopg [2, 9, 10, 21] k (fun kq v2 v9 v10 v21 w' => ∃ (x2_1 : Int) (x9_1 : Int) (x10_1 : Bool) (x21_1 : Int) (x287000_1 : Bool) (x287001_1 : Int) (x287002_1 : Bool) (x287003_1 : Int) (x287004_1 : Int) (x287005_1 : Int), v2 = .int .i64 x2_1 ∧ v9 = .int .i64 x9_1 ∧ v10 = .bool x10_1 ∧ v21 = .int .i64 x21_1 ∧ Aside0 (overfalllaw08_CodelWaits.l0 kq x2_1 x9_1 x10_1 l3 (l3.length : Int) x21_1 x287000_1 x287001_1 x287002_1 x287003_1 x287004_1 x287005_1 a1_0 a1_1 = some r) ∧ Aside0 (kq ≤ k) ∧ Aside0 (w'.heap[gb286]? = some (.cells #[.bool x287000_1, .int .i64 x287001_1, .bool x287002_1, .int .i64 x287003_1, .int .u64 x287004_1, .int .u64 x287005_1] 24 (0, 0))) ∧ Aside0 (w'.heap[gb287]? = some (.cells #[.int .i64 a1_0, .int .i64 a1_1] 26 (0, 0))) ∧ Aside0 (Below w.heap.size w w'))
  case atStart => exact ⟨(a2), (0), (false), (0), (t289), (t290), (t291), (t292), (t293), (t294), (by first | rfl | (simp; done) | (simp [*]; done)), (by first | rfl | (simp; done) | (simp [*]; done)), (by first | rfl | (simp; done) | (simp [*]; done)), (by first | rfl | (simp; done) | (simp [*]; done)), H', ⟨Nat.le_refl _⟩, ⟨by refine blk_put (cs := #[.bool t289, .int .i64 t290, .bool t291, .int .i64 t292, .int .u64 t293, .int .u64 a0_5]) ?_ 5 _ rfl; refine blk_put (cs := #[.bool t289, .int .i64 t290, .bool t291, .int .i64 t292, .int .u64 a0_4, .int .u64 a0_5]) ?_ 4 _ rfl; refine blk_put (cs := #[.bool t289, .int .i64 t290, .bool t291, .int .i64 a0_3, .int .u64 a0_4, .int .u64 a0_5]) ?_ 3 _ rfl; refine blk_put (cs := #[.bool t289, .int .i64 t290, .bool a0_2, .int .i64 a0_3, .int .u64 a0_4, .int .u64 a0_5]) ?_ 2 _ rfl; refine blk_put (cs := #[.bool t289, .int .i64 a0_1, .bool a0_2, .int .i64 a0_3, .int .u64 a0_4, .int .u64 a0_5]) ?_ 1 _ rfl; refine blk_put (cs := #[.bool a0_0, .int .i64 a0_1, .bool a0_2, .int .i64 a0_3, .int .u64 a0_4, .int .u64 a0_5]) ?_ 0 _ rfl; exact BK286.out⟩, ⟨by refine blk_far ?_ NB287_286.out _; refine blk_far ?_ NB287_286.out _; refine blk_far ?_ NB287_286.out _; refine blk_far ?_ NB287_286.out _; refine blk_far ?_ NB287_286.out _; refine blk_far ?_ NB287_286.out _; exact BK287.out⟩, ⟨by repeat (first | (with_reducible first | exact HB.out | apply below_alloc | apply pw_below_drewN | apply below_drew1 | refine below_set ?_ GE286.out | refine below_set ?_ GE287.out) | exact HB.out)⟩⟩
  case round =>
   clear H'
   try clear c1
   try clear p2
   try clear c3
   try clear c5
   try clear c6
   try clear c9
   try clear c11
   try clear hcz12_0
   try clear hcz12_1
   try clear hcz12_2
   try clear hcz12_3
   try clear hcz12_4
   try clear hcz12_5
   try clear hcz14_0
   try clear hcz14_1
   try clear hcz14_2
   try clear hcz14_3
   try clear hcz14_4
   try clear hcz14_5
   try clear hfz12_0
   try clear hfz12_1
   try clear hfz12_2
   try clear hfz12_3
   try clear hfz12_4
   try clear hfz12_5
   try clear hfz14_0
   try clear hfz14_1
   try clear hfz14_2
   try clear hfz14_3
   try clear hfz14_4
   try clear hfz14_5
   obtain ⟨x2_1, x9_1, x10_1, x21_1, x287000_1, x287001_1, x287002_1, x287003_1, x287004_1, x287005_1, rfl, rfl, rfl, rfl, HA, HK1, BK286, BK287, HB⟩ := hrel
   cases gk with
   | zero => exact absurd HA.out (by simp [overfalllaw08_CodelWaits.l0])
   | succ k1 =>
    have H := HA.out
    clear HA
    simp only [overfalllaw08_CodelWaits.l0] at H
    by_cases c15 : x21_1 < (l3.length : Int)
    ·rw [if_pos c15] at H
     have c15b0 : decide (x21_1 < (l3.length : Int)) = true := decide_eq_true c15
     clear c15
     by_cases c16 : 0 ≤ x21_1
     ·rw [if_pos c16] at H
      have c16b0 : decide (0 ≤ x21_1) = true := decide_eq_true c16
      clear c16
      by_cases c17 : x21_1 < (l3.length : Int)
      ·rw [if_pos c17] at H
       have c17b0 : decide (x21_1 < (l3.length : Int)) = true := decide_eq_true c17
       clear c17
       by_cases c18 : x21_1 ≥ 40
       ·rw [if_pos c18] at H
        have c18b0 : decide (40 ≤ x21_1) = true := decide_eq_true c18
        clear c18
        obtain rfl := Option.some.inj H
        have p295 : 0 ≤ (x21_1 : Int) := of_decide_eq_true (by first | (with_reducible assumption) | assumption)
        have q295 : x21_1 < (l3.length : Int) := of_decide_eq_true (by first | (with_reducible assumption) | assumption)
        obtain ⟨ad295, e295, hx295_0, hx295_1, hx295_2⟩ := at_T30 HR3.out x21_1 p295 q295
        cases e295
        replace hx295_0 := (HB.out.cell (World.block_lt_of_cell? w _ hx295_0)).trans hx295_0
        replace hx295_1 := (HB.out.cell (World.block_lt_of_cell? w _ hx295_1)).trans hx295_1
        replace hx295_2 := (HB.out.cell (World.block_lt_of_cell? w _ hx295_2)).trans hx295_2
        replace p295 := eq_true p295
        replace q295 := eq_true q295
        go_wp2_with (first | ((with_reducible refine gate_dst (N := 12) rfl ?_); refine box_event ?hg (N := 12) ?hd (cs := #[.int .i64 0, .int .i64 0, .int .i64 0]) (t := 30) ?hr ?_; (case hd => rfl); (case hg => rfl); (case hr => first | (go_simp; done) | (go_simp; rfl)); intro gb296 hg w19 hbox hb; have n0_ := Aside0.mk (blk_below (by exact BK286.out) hb); have n1_ := Aside0.mk (blk_below (by exact BK287.out) hb); have n2_ := Aside0.mk (below_step (by repeat (first | (with_reducible first | exact HB.out | apply below_alloc | apply pw_below_drewN | apply below_drew1 | refine below_set ?_ GE286.out | refine below_set ?_ GE287.out) | exact HB.out)) hb); have n3_ := Aside0.mk (hbox); have n4_ := Aside0.mk ((by rw [hg]; exact (below_size (by repeat (first | (with_reducible first | exact HB.out | apply below_alloc | apply pw_below_drewN | apply below_drew1 | refine below_set ?_ GE286.out | refine below_set ?_ GE287.out) | exact HB.out))) : w.heap.size ≤ gb296)); have n5_ := Aside0.mk ((by rw [hg]; exact (below_size (by repeat (first | (with_reducible first | exact HB.out | apply below_alloc | apply pw_below_drewN | apply below_drew1 | refine below_set ?_ GE286.out | refine below_set ?_ GE287.out) | exact HB.out))) : w.heap.size ≤ gb296)); have n6_ := Aside0.mk ((by rw [hg]; exact Nat.ne_of_lt (blk_lt (by exact BK286.out)) : gb286 ≠ gb296)); have n7_ := Aside0.mk ((by rw [hg]; exact Nat.ne_of_gt (blk_lt (by exact BK286.out)) : gb296 ≠ gb286)); have n8_ := Aside0.mk ((by rw [hg]; exact Nat.ne_of_lt (blk_lt (by exact BK287.out)) : gb287 ≠ gb296)); have n9_ := Aside0.mk ((by rw [hg]; exact Nat.ne_of_gt (blk_lt (by exact BK287.out)) : gb296 ≠ gb287)); clear BK286; clear BK287; clear HB; have BK286 := n0_; have BK287 := n1_; have HB := n2_; have BK296 := n3_; have GW296 := n4_; have GE296 := n5_; have NB286_296 := n6_; have NB296_286 := n7_; have NB287_296 := n8_; have NB296_287 := n9_; clear n0_ n1_ n2_ n3_ n4_ n5_ n6_ n7_ n8_ n9_; clear hb hbox hg; have hnb20 := NB296_286.out; have hnc20 := NB286_296.out; have hnb21 := NB296_287.out; have hnc21 := NB287_296.out; have hcz22_0 : w19.cell? ⟨gb296, 0, none⟩ = some (.int .i64 0) := (blk_cell BK296.out 0).trans rfl; have hcz22_1 : w19.cell? ⟨gb296, 1, none⟩ = some (.int .i64 0) := (blk_cell BK296.out 1).trans rfl; have hcz22_2 : w19.cell? ⟨gb296, 2, none⟩ = some (.int .i64 0) := (blk_cell BK296.out 2).trans rfl; have hfz22_0 := blk_frozen BK296.out 0; have hfz22_1 := blk_frozen BK296.out 1; have hfz22_2 := blk_frozen BK296.out 2))
        go_ret
        exact ⟨by first | rfl | (simp [errW_none, errW_some] <;> rfl) | (simp [*, errW_none, errW_some] <;> rfl), by repeat (first | (with_reducible first | exact HB.out | apply below_alloc | apply pw_below_drewN | apply below_drew1 | refine below_set ?_ GE286.out | refine below_set ?_ GE287.out | refine below_set ?_ GE296.out) | exact HB.out)⟩
       ·rw [if_neg c18] at H
        have c18b0 : decide (40 ≤ x21_1) = false := decide_eq_false c18
        clear c18
        obtain ⟨ji23, hji23⟩ : ∃ j_ : Int, (mx ((rd_T30 l3 x21_1).f0) 0) = j_ := ⟨_, rfl⟩
        replace H : ((overfallref02_Add.f k1 x2_1 (ji23)).bind fun t297 => (if ((rd_T30 l3 x21_1).f1) ≥ a1_0 then (overfalllaw08_CodelWaits.j1 k1 t297 x9_1 x10_1 (decide (((rd_T30 l3 x21_1).f2) > 1)) l3 (l3.length : Int) x21_1 x287000_1 x287001_1 x287002_1 x287003_1 x287004_1 x287005_1 a1_0 a1_1 ((rd_T30 l3 x21_1).f0) ((rd_T30 l3 x21_1).f1) ((rd_T30 l3 x21_1).f2)) else (overfalllaw08_CodelWaits.j1 k1 t297 x9_1 x10_1 false l3 (l3.length : Int) x21_1 x287000_1 x287001_1 x287002_1 x287003_1 x287004_1 x287005_1 a1_0 a1_1 ((rd_T30 l3 x21_1).f0) ((rd_T30 l3 x21_1).f1) ((rd_T30 l3 x21_1).f2)))) = some r := by first | (rw [hji23] at H; exact H) | (simp only [hji23] at H ⊢; exact H)
        have hji23_ : (if ((rd_T30 l3 x21_1).f0) < 0 then 0 else ((rd_T30 l3 x21_1).f0)) = ji23 := hji23
        replace H := Option.bind_eq_some_iff.mp H
        obtain ⟨t297, A240, H⟩ := H
        replace H : (if ((rd_T30 l3 x21_1).f1) ≥ a1_0 then (overfalllaw08_CodelWaits.j1 k1 t297 x9_1 x10_1 (decide (((rd_T30 l3 x21_1).f2) > 1)) l3 (l3.length : Int) x21_1 x287000_1 x287001_1 x287002_1 x287003_1 x287004_1 x287005_1 a1_0 a1_1 ((rd_T30 l3 x21_1).f0) ((rd_T30 l3 x21_1).f1) ((rd_T30 l3 x21_1).f2)) else (overfalllaw08_CodelWaits.j1 k1 t297 x9_1 x10_1 false l3 (l3.length : Int) x21_1 x287000_1 x287001_1 x287002_1 x287003_1 x287004_1 x287005_1 a1_0 a1_1 ((rd_T30 l3 x21_1).f0) ((rd_T30 l3 x21_1).f1) ((rd_T30 l3 x21_1).f2))) = some r := H
        have A24 := Aside0.mk A240
        clear A240
        have HC25 := Aside0.mk H
        clear H
        have p295 : 0 ≤ (x21_1 : Int) := of_decide_eq_true (by first | (with_reducible assumption) | assumption)
        have q295 : x21_1 < (l3.length : Int) := of_decide_eq_true (by first | (with_reducible assumption) | assumption)
        obtain ⟨ad295, e295, hx295_0, hx295_1, hx295_2⟩ := at_T30 HR3.out x21_1 p295 q295
        cases e295
        replace hx295_0 := (HB.out.cell (World.block_lt_of_cell? w _ hx295_0)).trans hx295_0
        replace hx295_1 := (HB.out.cell (World.block_lt_of_cell? w _ hx295_1)).trans hx295_1
        replace hx295_2 := (HB.out.cell (World.block_lt_of_cell? w _ hx295_2)).trans hx295_2
        replace p295 := eq_true p295
        replace q295 := eq_true q295
        go_upto_region 10 with (first | ((with_reducible refine gate_dst (N := 12) rfl ?_); refine box_event ?hg (N := 12) ?hd (cs := #[.int .i64 0, .int .i64 0, .int .i64 0]) (t := 30) ?hr ?_; (case hd => rfl); (case hg => rfl); (case hr => first | (go_simp; done) | (go_simp; rfl)); intro gb296 hg w26 hbox hb; have n0_ := Aside0.mk (blk_below (by exact BK286.out) hb); have n1_ := Aside0.mk (blk_below (by exact BK287.out) hb); have n2_ := Aside0.mk (below_step (by repeat (first | (with_reducible first | exact HB.out | apply below_alloc | apply pw_below_drewN | apply below_drew1 | refine below_set ?_ GE286.out | refine below_set ?_ GE287.out) | exact HB.out)) hb); have n3_ := Aside0.mk (hbox); have n4_ := Aside0.mk ((by rw [hg]; exact (below_size (by repeat (first | (with_reducible first | exact HB.out | apply below_alloc | apply pw_below_drewN | apply below_drew1 | refine below_set ?_ GE286.out | refine below_set ?_ GE287.out) | exact HB.out))) : w.heap.size ≤ gb296)); have n5_ := Aside0.mk ((by rw [hg]; exact (below_size (by repeat (first | (with_reducible first | exact HB.out | apply below_alloc | apply pw_below_drewN | apply below_drew1 | refine below_set ?_ GE286.out | refine below_set ?_ GE287.out) | exact HB.out))) : w.heap.size ≤ gb296)); have n6_ := Aside0.mk ((by rw [hg]; exact Nat.ne_of_lt (blk_lt (by exact BK286.out)) : gb286 ≠ gb296)); have n7_ := Aside0.mk ((by rw [hg]; exact Nat.ne_of_gt (blk_lt (by exact BK286.out)) : gb296 ≠ gb286)); have n8_ := Aside0.mk ((by rw [hg]; exact Nat.ne_of_lt (blk_lt (by exact BK287.out)) : gb287 ≠ gb296)); have n9_ := Aside0.mk ((by rw [hg]; exact Nat.ne_of_gt (blk_lt (by exact BK287.out)) : gb296 ≠ gb287)); clear BK286; clear BK287; clear HB; have BK286 := n0_; have BK287 := n1_; have HB := n2_; have BK296 := n3_; have GW296 := n4_; have GE296 := n5_; have NB286_296 := n6_; have NB296_286 := n7_; have NB287_296 := n8_; have NB296_287 := n9_; clear n0_ n1_ n2_ n3_ n4_ n5_ n6_ n7_ n8_ n9_; clear hb hbox hg; have hnb27 := NB296_286.out; have hnc27 := NB286_296.out; have hnb28 := NB296_287.out; have hnc28 := NB287_296.out; have hcz29_0 : w26.cell? ⟨gb296, 0, none⟩ = some (.int .i64 0) := (blk_cell BK296.out 0).trans rfl; have hcz29_1 : w26.cell? ⟨gb296, 1, none⟩ = some (.int .i64 0) := (blk_cell BK296.out 1).trans rfl; have hcz29_2 : w26.cell? ⟨gb296, 2, none⟩ = some (.int .i64 0) := (blk_cell BK296.out 2).trans rfl; have hfz29_0 := blk_frozen BK296.out 0; have hfz29_1 := blk_frozen BK296.out 1; have hfz29_2 := blk_frozen BK296.out 2) | ((with_reducible refine gate_callee (f := 10) rfl ?_); refine goesL_ (some 32) rfl rfl Try.func10 (by kernel_rfl) rfl #[.int .i64 x2_1, .int .i64 ji23] rfl (by (try simp only [List.map_toArray, List.map_cons, List.map_nil]); first | done | (simp only [hji23]; rfl) | rfl | (simp only [List.length_drop, List.length_take]; rfl)) ?_; (with_reducible refine (overfallref02_Add.calls k1 x2_1 ji23 t297 _ A24.out).mono ?_); rintro e w30 ⟨rfl, hb⟩; refine ⟨_, rfl, ?_⟩; have n0_ := Aside0.mk (blk_below (g := gb286) (o := .cells #[.bool x287000_1, .int .i64 x287001_1, .bool x287002_1, .int .i64 x287003_1, .int .u64 x287004_1, .int .u64 x287005_1] 24 (0, 0)) (by refine blk_far ?_ NB286_296.out _; refine blk_far ?_ NB286_296.out _; refine blk_far ?_ NB286_296.out _; exact BK286.out) hb); have n1_ := Aside0.mk (blk_below (g := gb287) (o := .cells #[.int .i64 a1_0, .int .i64 a1_1] 26 (0, 0)) (by refine blk_far ?_ NB287_296.out _; refine blk_far ?_ NB287_296.out _; refine blk_far ?_ NB287_296.out _; exact BK287.out) hb); have n2_ := Aside0.mk (blk_below (g := gb296) (o := .cells #[.int .i64 ((rd_T30 l3 x21_1).f0), .int .i64 ((rd_T30 l3 x21_1).f1), .int .i64 ((rd_T30 l3 x21_1).f2)] 30 (0, 0)) (by refine blk_put (cs := #[.int .i64 ((rd_T30 l3 x21_1).f0), .int .i64 ((rd_T30 l3 x21_1).f1), .int .i64 0]) ?_ 2 _ rfl; refine blk_put (cs := #[.int .i64 ((rd_T30 l3 x21_1).f0), .int .i64 0, .int .i64 0]) ?_ 1 _ rfl; refine blk_put (cs := #[.int .i64 0, .int .i64 0, .int .i64 0]) ?_ 0 _ rfl; exact BK296.out) hb); have n3_ := Aside0.mk (below_step (by repeat (first | (with_reducible first | exact HB.out | apply below_alloc | apply pw_below_drewN | apply below_drew1 | refine below_set ?_ GE286.out | refine below_set ?_ GE287.out | refine below_set ?_ GE296.out) | exact HB.out)) hb); clear BK286; clear BK287; clear BK296; clear HB; have BK286 := n0_; have BK287 := n1_; have BK296 := n2_; have HB := n3_; clear n0_ n1_ n2_ n3_; (try clear hb); (try clear hb2); (try clear hk); (try clear hi)))
        (try simp only [Act.put, List.setIfInBounds_toArray, List.set_cons_zero, List.set_cons_succ])
        go_cut [13] (fun v13 wc => ∃ (kq : Nat) (x13_24 : Bool), v13 = .bool x13_24 ∧ Aside0 (overfalllaw08_CodelWaits.j1 kq t297 x9_1 x10_1 x13_24 l3 (l3.length : Int) x21_1 x287000_1 x287001_1 x287002_1 x287003_1 x287004_1 x287005_1 a1_0 a1_1 ((rd_T30 l3 x21_1).f0) ((rd_T30 l3 x21_1).f1) ((rd_T30 l3 x21_1).f2) = some r) ∧ Aside0 (kq ≤ k1) ∧ Aside0 (wc.heap[gb286]? = some (.cells #[.bool x287000_1, .int .i64 x287001_1, .bool x287002_1, .int .i64 x287003_1, .int .u64 x287004_1, .int .u64 x287005_1] 24 (0, 0))) ∧ Aside0 (wc.heap[gb287]? = some (.cells #[.int .i64 a1_0, .int .i64 a1_1] 26 (0, 0))) ∧ Aside0 (wc.heap[gb296]? = some (.cells #[.int .i64 ((rd_T30 l3 x21_1).f0), .int .i64 ((rd_T30 l3 x21_1).f1), .int .i64 ((rd_T30 l3 x21_1).f2)] 30 (0, 0))) ∧ Aside0 (Below w.heap.size w wc))
        case first =>
         have H := HC25.out
         clear HC25
         by_cases c31 : ((rd_T30 l3 x21_1).f1) ≥ a1_0
         ·rw [if_pos c31] at H
          have c31b0 : decide (a1_0 ≤ ((rd_T30 l3 x21_1).f1)) = true := decide_eq_true c31
          clear c31
          (first | rw [c31b0] | (simp only [i64_w, i32_w]; rw [c31b0]) | skip)
          have H' := Aside0.mk H
          clear H
          have hnb32 := NB296_286.out
          have hnc32 := NB286_296.out
          have hnb33 := NB296_287.out
          have hnc33 := NB287_296.out
          have hcz34_0 : w30.cell? ⟨gb296, 0, none⟩ = some (.int .i64 ((rd_T30 l3 x21_1).f0)) := (blk_cell BK296.out 0).trans rfl
          have hcz34_1 : w30.cell? ⟨gb296, 1, none⟩ = some (.int .i64 ((rd_T30 l3 x21_1).f1)) := (blk_cell BK296.out 1).trans rfl
          have hcz34_2 : w30.cell? ⟨gb296, 2, none⟩ = some (.int .i64 ((rd_T30 l3 x21_1).f2)) := (blk_cell BK296.out 2).trans rfl
          have hfz34_0 := blk_frozen BK296.out 0
          have hfz34_1 := blk_frozen BK296.out 1
          have hfz34_2 := blk_frozen BK296.out 2
          have hnb35 := NB287_286.out
          have hnc35 := NB286_287.out
          have hcz36_0 : w30.cell? ⟨gb287, 0, none⟩ = some (.int .i64 a1_0) := (blk_cell BK287.out 0).trans rfl
          have hcz36_1 : w30.cell? ⟨gb287, 1, none⟩ = some (.int .i64 a1_1) := (blk_cell BK287.out 1).trans rfl
          have hfz36_0 := blk_frozen BK287.out 0
          have hfz36_1 := blk_frozen BK287.out 1
          go_wp2
          go_meet
          case rel => exact ⟨_, (decide (((rd_T30 l3 x21_1).f2) > 1)), (by first | rfl | (simp; done) | (simp [*]; done)), H', ⟨by have := HK1.out; first | omega | exact Nat.le_refl _⟩, ⟨by exact BK286.out⟩, ⟨by exact BK287.out⟩, ⟨by exact BK296.out⟩, ⟨by repeat (first | (with_reducible first | exact HB.out | apply below_alloc | apply pw_below_drewN | apply below_drew1 | refine below_set ?_ GE286.out | refine below_set ?_ GE287.out | refine below_set ?_ GE296.out) | exact HB.out)⟩⟩
         ·rw [if_neg c31] at H
          have c31b0 : decide (a1_0 ≤ ((rd_T30 l3 x21_1).f1)) = false := decide_eq_false c31
          clear c31
          (first | rw [c31b0] | (simp only [i64_w, i32_w]; rw [c31b0]) | skip)
          have H' := Aside0.mk H
          clear H
          have hnb37 := NB296_286.out
          have hnc37 := NB286_296.out
          have hnb38 := NB296_287.out
          have hnc38 := NB287_296.out
          have hcz39_0 : w30.cell? ⟨gb296, 0, none⟩ = some (.int .i64 ((rd_T30 l3 x21_1).f0)) := (blk_cell BK296.out 0).trans rfl
          have hcz39_1 : w30.cell? ⟨gb296, 1, none⟩ = some (.int .i64 ((rd_T30 l3 x21_1).f1)) := (blk_cell BK296.out 1).trans rfl
          have hcz39_2 : w30.cell? ⟨gb296, 2, none⟩ = some (.int .i64 ((rd_T30 l3 x21_1).f2)) := (blk_cell BK296.out 2).trans rfl
          have hfz39_0 := blk_frozen BK296.out 0
          have hfz39_1 := blk_frozen BK296.out 1
          have hfz39_2 := blk_frozen BK296.out 2
          have hnb40 := NB287_286.out
          have hnc40 := NB286_287.out
          have hcz41_0 : w30.cell? ⟨gb287, 0, none⟩ = some (.int .i64 a1_0) := (blk_cell BK287.out 0).trans rfl
          have hcz41_1 : w30.cell? ⟨gb287, 1, none⟩ = some (.int .i64 a1_1) := (blk_cell BK287.out 1).trans rfl
          have hfz41_0 := blk_frozen BK287.out 0
          have hfz41_1 := blk_frozen BK287.out 1
          go_wp2
          go_meet
          case rel => exact ⟨_, (false), (by first | rfl | (simp; done) | (simp [*]; done)), H', ⟨by have := HK1.out; first | omega | exact Nat.le_refl _⟩, ⟨by exact BK286.out⟩, ⟨by exact BK287.out⟩, ⟨by exact BK296.out⟩, ⟨by repeat (first | (with_reducible first | exact HB.out | apply below_alloc | apply pw_below_drewN | apply below_drew1 | refine below_set ?_ GE286.out | refine below_set ?_ GE287.out | refine below_set ?_ GE296.out) | exact HB.out)⟩⟩
        case rest =>
         clear HC25
         try clear c1
         try clear c2
         try clear p2
         try clear q2
         try clear hx2
         try clear c3
         try clear c4
         try clear c5
         try clear c6
         try clear c9
         try clear c10
         try clear c11
         try clear c15
         try clear c15b0
         try clear c16
         try clear c16b0
         try clear c17
         try clear c17b0
         try clear c18
         try clear c18b0
         try clear c20
         try clear c21
         try clear c27
         try clear c28
         try clear p29
         try clear q29
         try clear hx29
         try clear c31
         try clear c31b0
         try clear c32
         try clear c33
         try clear c35
         try clear c37
         try clear c38
         try clear c40
         try clear hcz12_0
         try clear hcz12_1
         try clear hcz12_2
         try clear hcz12_3
         try clear hcz12_4
         try clear hcz12_5
         try clear hcz14_0
         try clear hcz14_1
         try clear hcz14_2
         try clear hcz14_3
         try clear hcz14_4
         try clear hcz14_5
         try clear hcz22_0
         try clear hcz22_1
         try clear hcz22_2
         try clear hcz29_0
         try clear hcz29_1
         try clear hcz29_2
         try clear hcz34_0
         try clear hcz34_1
         try clear hcz34_2
         try clear hcz36_0
         try clear hcz36_1
         try clear hcz39_0
         try clear hcz39_1
         try clear hcz39_2
         try clear hcz41_0
         try clear hcz41_1
         try clear hfz12_0
         try clear hfz12_1
         try clear hfz12_2
         try clear hfz12_3
         try clear hfz12_4
         try clear hfz12_5
         try clear hfz14_0
         try clear hfz14_1
         try clear hfz14_2
         try clear hfz14_3
         try clear hfz14_4
         try clear hfz14_5
         try clear hfz22_0
         try clear hfz22_1
         try clear hfz22_2
         try clear hfz29_0
         try clear hfz29_1
         try clear hfz29_2
         try clear hfz34_0
         try clear hfz34_1
         try clear hfz34_2
         try clear hfz36_0
         try clear hfz36_1
         try clear hfz39_0
         try clear hfz39_1
         try clear hfz39_2
         try clear hfz41_0
         try clear hfz41_1
         try clear hx295_0
         try clear hx295_1
         try clear hx295_2
         try clear p2
         try clear p295
         try clear q295
         (try clear BK286); (try clear BK287); (try clear BK296); (try clear HB)
         obtain ⟨kq, x13_24, rfl, HA, HJ24, BK286, BK287, BK296, HB⟩ := hcut
         cases kq with
         | zero => exact absurd HA.out (by simp [overfalllaw08_CodelWaits.j1])
         | succ kj24 =>
          have H := HA.out
          clear HA
          simp only [overfalllaw08_CodelWaits.j1] at H
          have HC42 := Aside0.mk H
          clear H
          go_upto_region 11 with (fail)
          go_cut [47] (fun v47 wc => ∃ (kq : Nat) (x47_41 : Bool), v47 = .bool x47_41 ∧ Aside0 (overfalllaw08_CodelWaits.j2 kq t297 x9_1 x10_1 x13_24 l3 (l3.length : Int) x21_1 x47_41 x287000_1 x287001_1 x287002_1 x287003_1 x287004_1 x287005_1 a1_0 a1_1 ((rd_T30 l3 x21_1).f0) ((rd_T30 l3 x21_1).f1) ((rd_T30 l3 x21_1).f2) = some r) ∧ Aside0 (kq ≤ kj24) ∧ Aside0 (wc.heap[gb286]? = some (.cells #[.bool x287000_1, .int .i64 x287001_1, .bool x287002_1, .int .i64 x287003_1, .int .u64 x287004_1, .int .u64 x287005_1] 24 (0, 0))) ∧ Aside0 (wc.heap[gb287]? = some (.cells #[.int .i64 a1_0, .int .i64 a1_1] 26 (0, 0))) ∧ Aside0 (wc.heap[gb296]? = some (.cells #[.int .i64 ((rd_T30 l3 x21_1).f0), .int .i64 ((rd_T30 l3 x21_1).f1), .int .i64 ((rd_T30 l3 x21_1).f2)] 30 (0, 0))) ∧ Aside0 (Below w.heap.size w wc))
          case first =>
           have H := HC42.out
           clear HC42
           by_cases c43 : x13_24 = true
           ·subst c43
            have H1 : (overfalllaw08_CodelWaits.j2 kj24 t297 x9_1 x10_1 true l3 (l3.length : Int) x21_1 (!x10_1) x287000_1 x287001_1 x287002_1 x287003_1 x287004_1 x287005_1 a1_0 a1_1 ((rd_T30 l3 x21_1).f0) ((rd_T30 l3 x21_1).f1) ((rd_T30 l3 x21_1).f2)) = some r := by rw [if_pos rfl] at H; exact H
            clear H
            have H := H1
            clear H1
            have H' := Aside0.mk H
            clear H
            go_wp2
            go_meet
            case rel => exact ⟨_, (!x10_1), (by first | rfl | (simp; done) | (simp [*]; done)), H', ⟨by have := HK1.out; have := HJ24.out; first | omega | exact Nat.le_refl _⟩, ⟨by exact BK286.out⟩, ⟨by exact BK287.out⟩, ⟨by exact BK296.out⟩, ⟨by repeat (first | (with_reducible first | exact HB.out | apply below_alloc | apply pw_below_drewN | apply below_drew1 | refine below_set ?_ GE286.out | refine below_set ?_ GE287.out | refine below_set ?_ GE296.out) | exact HB.out)⟩⟩
           ·replace c43 := Bool.eq_false_iff.mpr c43
            subst c43
            have H1 : (overfalllaw08_CodelWaits.j2 kj24 t297 x9_1 x10_1 false l3 (l3.length : Int) x21_1 false x287000_1 x287001_1 x287002_1 x287003_1 x287004_1 x287005_1 a1_0 a1_1 ((rd_T30 l3 x21_1).f0) ((rd_T30 l3 x21_1).f1) ((rd_T30 l3 x21_1).f2)) = some r := by rw [if_neg (show ¬ (false = true) by decide)] at H; exact H
            clear H
            have H := H1
            clear H1
            have H' := Aside0.mk H
            clear H
            go_wp2
            go_meet
            case rel => exact ⟨_, (false), (by first | rfl | (simp; done) | (simp [*]; done)), H', ⟨by have := HK1.out; have := HJ24.out; first | omega | exact Nat.le_refl _⟩, ⟨by exact BK286.out⟩, ⟨by exact BK287.out⟩, ⟨by exact BK296.out⟩, ⟨by repeat (first | (with_reducible first | exact HB.out | apply below_alloc | apply pw_below_drewN | apply below_drew1 | refine below_set ?_ GE286.out | refine below_set ?_ GE287.out | refine below_set ?_ GE296.out) | exact HB.out)⟩⟩
          case rest =>
           clear HC42
           try clear c1
           try clear c2
           try clear p2
           try clear q2
           try clear hx2
           try clear c3
           try clear c4
           try clear c5
           try clear c6
           try clear c9
           try clear c10
           try clear c11
           try clear c15
           try clear c15b0
           try clear c16
           try clear c16b0
           try clear c17
           try clear c17b0
           try clear c18
           try clear c18b0
           try clear c20
           try clear c21
           try clear c27
           try clear c28
           try clear p29
           try clear q29
           try clear hx29
           try clear c31
           try clear c31b0
           try clear c32
           try clear c33
           try clear c35
           try clear c37
           try clear c38
           try clear c40
           try clear c43
           try clear hcz12_0
           try clear hcz12_1
           try clear hcz12_2
           try clear hcz12_3
           try clear hcz12_4
           try clear hcz12_5
           try clear hcz14_0
           try clear hcz14_1
           try clear hcz14_2
           try clear hcz14_3
           try clear hcz14_4
           try clear hcz14_5
           try clear hcz22_0
           try clear hcz22_1
           try clear hcz22_2
           try clear hcz29_0
           try clear hcz29_1
           try clear hcz29_2
           try clear hcz34_0
           try clear hcz34_1
           try clear hcz34_2
           try clear hcz36_0
           try clear hcz36_1
           try clear hcz39_0
           try clear hcz39_1
           try clear hcz39_2
           try clear hcz41_0
           try clear hcz41_1
           try clear hfz12_0
           try clear hfz12_1
           try clear hfz12_2
           try clear hfz12_3
           try clear hfz12_4
           try clear hfz12_5
           try clear hfz14_0
           try clear hfz14_1
           try clear hfz14_2
           try clear hfz14_3
           try clear hfz14_4
           try clear hfz14_5
           try clear hfz22_0
           try clear hfz22_1
           try clear hfz22_2
           try clear hfz29_0
           try clear hfz29_1
           try clear hfz29_2
           try clear hfz34_0
           try clear hfz34_1
           try clear hfz34_2
           try clear hfz36_0
           try clear hfz36_1
           try clear hfz39_0
           try clear hfz39_1
           try clear hfz39_2
           try clear hfz41_0
           try clear hfz41_1
           try clear hx295_0
           try clear hx295_1
           try clear hx295_2
           try clear p2
           try clear p29
           try clear p295
           try clear q2
           try clear q29
           try clear q295
           (try clear BK286); (try clear BK287); (try clear BK296); (try clear HB)
           obtain ⟨kq, x47_41, rfl, HA, HJ41, BK286, BK287, BK296, HB⟩ := hcut
           cases kq with
           | zero => exact absurd HA.out (by simp [overfalllaw08_CodelWaits.j2])
           | succ kj41 =>
            have H := HA.out
            clear HA
            simp only [overfalllaw08_CodelWaits.j2] at H
            have HC44 := Aside0.mk H
            clear H
            go_upto_if 47 with (fail)
            go_cut [9] (fun v9 wc => ∃ (kq : Nat) (x9_43 : Int), v9 = .int .i64 x9_43 ∧ Aside0 (overfalllaw08_CodelWaits.j3 kq t297 x9_43 x10_1 x13_24 l3 (l3.length : Int) x21_1 x287000_1 x287001_1 x287002_1 x287003_1 x287004_1 x287005_1 a1_0 a1_1 ((rd_T30 l3 x21_1).f0) ((rd_T30 l3 x21_1).f1) ((rd_T30 l3 x21_1).f2) = some r) ∧ Aside0 (kq ≤ kj41) ∧ Aside0 (wc.heap[gb286]? = some (.cells #[.bool x287000_1, .int .i64 x287001_1, .bool x287002_1, .int .i64 x287003_1, .int .u64 x287004_1, .int .u64 x287005_1] 24 (0, 0))) ∧ Aside0 (wc.heap[gb287]? = some (.cells #[.int .i64 a1_0, .int .i64 a1_1] 26 (0, 0))) ∧ Aside0 (wc.heap[gb296]? = some (.cells #[.int .i64 ((rd_T30 l3 x21_1).f0), .int .i64 ((rd_T30 l3 x21_1).f1), .int .i64 ((rd_T30 l3 x21_1).f2)] 30 (0, 0))) ∧ Aside0 (Below w.heap.size w wc))
            case first =>
             have H := HC44.out
             clear HC44
             by_cases c45 : x47_41 = true
             ·subst c45
              have H1 : (overfalllaw08_CodelWaits.j3 kj41 t297 t297 x10_1 x13_24 l3 (l3.length : Int) x21_1 x287000_1 x287001_1 x287002_1 x287003_1 x287004_1 x287005_1 a1_0 a1_1 ((rd_T30 l3 x21_1).f0) ((rd_T30 l3 x21_1).f1) ((rd_T30 l3 x21_1).f2)) = some r := by rw [if_pos rfl] at H; exact H
              clear H
              have H := H1
              clear H1
              have H' := Aside0.mk H
              clear H
              go_wp2
              go_meet
              case rel => exact ⟨_, (t297), (by first | rfl | (simp; done) | (simp [*]; done)), H', ⟨by have := HK1.out; have := HJ24.out; have := HJ41.out; first | omega | exact Nat.le_refl _⟩, ⟨by exact BK286.out⟩, ⟨by exact BK287.out⟩, ⟨by exact BK296.out⟩, ⟨by repeat (first | (with_reducible first | exact HB.out | apply below_alloc | apply pw_below_drewN | apply below_drew1 | refine below_set ?_ GE286.out | refine below_set ?_ GE287.out | refine below_set ?_ GE296.out) | exact HB.out)⟩⟩
             ·replace c45 := Bool.eq_false_iff.mpr c45
              subst c45
              have H1 : (overfalllaw08_CodelWaits.j3 kj41 t297 x9_1 x10_1 x13_24 l3 (l3.length : Int) x21_1 x287000_1 x287001_1 x287002_1 x287003_1 x287004_1 x287005_1 a1_0 a1_1 ((rd_T30 l3 x21_1).f0) ((rd_T30 l3 x21_1).f1) ((rd_T30 l3 x21_1).f2)) = some r := by rw [if_neg (show ¬ (false = true) by decide)] at H; exact H
              clear H
              have H := H1
              clear H1
              have H' := Aside0.mk H
              clear H
              go_wp2
              go_meet
              case rel => exact ⟨_, (x9_1), (by first | rfl | (simp; done) | (simp [*]; done)), H', ⟨by have := HK1.out; have := HJ24.out; have := HJ41.out; first | omega | exact Nat.le_refl _⟩, ⟨by exact BK286.out⟩, ⟨by exact BK287.out⟩, ⟨by exact BK296.out⟩, ⟨by repeat (first | (with_reducible first | exact HB.out | apply below_alloc | apply pw_below_drewN | apply below_drew1 | refine below_set ?_ GE286.out | refine below_set ?_ GE287.out | refine below_set ?_ GE296.out) | exact HB.out)⟩⟩
            case rest =>
             clear HC44
             try clear c1
             try clear c2
             try clear p2
             try clear q2
             try clear hx2
             try clear c3
             try clear c4
             try clear c5
             try clear c6
             try clear c9
             try clear c10
             try clear c11
             try clear c15
             try clear c15b0
             try clear c16
             try clear c16b0
             try clear c17
             try clear c17b0
             try clear c18
             try clear c18b0
             try clear c20
             try clear c21
             try clear c27
             try clear c28
             try clear p29
             try clear q29
             try clear hx29
             try clear c31
             try clear c31b0
             try clear c32
             try clear c33
             try clear c35
             try clear c37
             try clear c38
             try clear c40
             try clear c43
             try clear c45
             try clear hcz12_0
             try clear hcz12_1
             try clear hcz12_2
             try clear hcz12_3
             try clear hcz12_4
             try clear hcz12_5
             try clear hcz14_0
             try clear hcz14_1
             try clear hcz14_2
             try clear hcz14_3
             try clear hcz14_4
             try clear hcz14_5
             try clear hcz22_0
             try clear hcz22_1
             try clear hcz22_2
             try clear hcz29_0
             try clear hcz29_1
             try clear hcz29_2
             try clear hcz34_0
             try clear hcz34_1
             try clear hcz34_2
             try clear hcz36_0
             try clear hcz36_1
             try clear hcz39_0
             try clear hcz39_1
             try clear hcz39_2
             try clear hcz41_0
             try clear hcz41_1
             try clear hfz12_0
             try clear hfz12_1
             try clear hfz12_2
             try clear hfz12_3
             try clear hfz12_4
             try clear hfz12_5
             try clear hfz14_0
             try clear hfz14_1
             try clear hfz14_2
             try clear hfz14_3
             try clear hfz14_4
             try clear hfz14_5
             try clear hfz22_0
             try clear hfz22_1
             try clear hfz22_2
             try clear hfz29_0
             try clear hfz29_1
             try clear hfz29_2
             try clear hfz34_0
             try clear hfz34_1
             try clear hfz34_2
             try clear hfz36_0
             try clear hfz36_1
             try clear hfz39_0
             try clear hfz39_1
             try clear hfz39_2
             try clear hfz41_0
             try clear hfz41_1
             try clear hx295_0
             try clear hx295_1
             try clear hx295_2
             try clear p2
             try clear p29
             try clear p295
             try clear q2
             try clear q29
             try clear q295
             (try clear BK286); (try clear BK287); (try clear BK296); (try clear HB)
             obtain ⟨kq, x9_43, rfl, HA, HJ43, BK286, BK287, BK296, HB⟩ := hcut
             cases kq with
             | zero => exact absurd HA.out (by simp [overfalllaw08_CodelWaits.j3])
             | succ kj43 =>
              have H := HA.out
              clear HA
              simp only [overfalllaw08_CodelWaits.j3] at H
              replace H := Option.bind_eq_some_iff.mp H
              obtain ⟨⟨t298, t299, t300, t301, t302, t303, t304⟩, A460, H⟩ := H
              replace H : (if t304 = 0 then (overfalllaw08_CodelWaits.l0 kj43 t297 x9_43 x13_24 l3 (l3.length : Int) (wrap64 (x21_1 + 1)) t298 t299 t300 t301 t302 t303 a1_0 a1_1) else (if x13_24 = true then (if x10_1 = true then ((overfallref02_Add.f kj43 x9_43 a1_1).bind fun t305 => (if t297 < t305 then (none) else (overfalllaw08_CodelWaits.l0 kj43 t297 x9_43 x13_24 l3 (l3.length : Int) (wrap64 (x21_1 + 1)) t298 t299 t300 t301 t302 t303 a1_0 a1_1))) else (none)) else (none))) = some r := H
              have A46 := Aside0.mk A460
              clear A460
              by_cases c47 : t304 = 0
              ·rw [if_pos c47] at H
               have c47b0 : (t304 == 0) = true := beq_iff_eq.mpr c47
               have c47b1 : (t304 != 0) = false := bne_eq_false_iff_eq.mpr c47
               clear c47
               have H' := Aside0.mk H
               clear H
               have hnb48 := NB286_287.out
               have hnc48 := NB287_286.out
               have hnb49 := NB286_296.out
               have hnc49 := NB296_286.out
               have hcz50_0 : wc.cell? ⟨gb286, 0, none⟩ = some (.bool x287000_1) := (blk_cell BK286.out 0).trans rfl
               have hcz50_1 : wc.cell? ⟨gb286, 1, none⟩ = some (.int .i64 x287001_1) := (blk_cell BK286.out 1).trans rfl
               have hcz50_2 : wc.cell? ⟨gb286, 2, none⟩ = some (.bool x287002_1) := (blk_cell BK286.out 2).trans rfl
               have hcz50_3 : wc.cell? ⟨gb286, 3, none⟩ = some (.int .i64 x287003_1) := (blk_cell BK286.out 3).trans rfl
               have hcz50_4 : wc.cell? ⟨gb286, 4, none⟩ = some (.int .u64 x287004_1) := (blk_cell BK286.out 4).trans rfl
               have hcz50_5 : wc.cell? ⟨gb286, 5, none⟩ = some (.int .u64 x287005_1) := (blk_cell BK286.out 5).trans rfl
               have hfz50_0 := blk_frozen BK286.out 0
               have hfz50_1 := blk_frozen BK286.out 1
               have hfz50_2 := blk_frozen BK286.out 2
               have hfz50_3 := blk_frozen BK286.out 3
               have hfz50_4 := blk_frozen BK286.out 4
               have hfz50_5 := blk_frozen BK286.out 5
               have hnb51 := NB287_296.out
               have hnc51 := NB296_287.out
               have hcz52_0 : wc.cell? ⟨gb287, 0, none⟩ = some (.int .i64 a1_0) := (blk_cell BK287.out 0).trans rfl
               have hcz52_1 : wc.cell? ⟨gb287, 1, none⟩ = some (.int .i64 a1_1) := (blk_cell BK287.out 1).trans rfl
               have hfz52_0 := blk_frozen BK287.out 0
               have hfz52_1 := blk_frozen BK287.out 1
               have hcz53_0 : wc.cell? ⟨gb296, 0, none⟩ = some (.int .i64 ((rd_T30 l3 x21_1).f0)) := (blk_cell BK296.out 0).trans rfl
               have hcz53_1 : wc.cell? ⟨gb296, 1, none⟩ = some (.int .i64 ((rd_T30 l3 x21_1).f1)) := (blk_cell BK296.out 1).trans rfl
               have hcz53_2 : wc.cell? ⟨gb296, 2, none⟩ = some (.int .i64 ((rd_T30 l3 x21_1).f2)) := (blk_cell BK296.out 2).trans rfl
               have hfz53_0 := blk_frozen BK296.out 0
               have hfz53_1 := blk_frozen BK296.out 1
               have hfz53_2 := blk_frozen BK296.out 2
               go_wp2_with (first | ((with_reducible refine gate_callee (f := 11) rfl ?_); refine goesL_ (some 57) rfl rfl Try.func11 (by kernel_rfl) rfl #[.agg #[.bool x287000_1, .int .i64 x287001_1, .bool x287002_1, .int .i64 x287003_1, .int .u64 x287004_1, .int .u64 x287005_1], .agg #[.int .i64 a1_0, .int .i64 a1_1], .int .i64 t297, .int .i64 ((rd_T30 l3 x21_1).f1), .int .i64 ((rd_T30 l3 x21_1).f2)] rfl (by (try simp only [List.map_toArray, List.map_cons, List.map_nil]); first | done | rfl | (simp only [List.length_drop, List.length_take]; rfl)) ?_; (with_reducible refine (codel_State_Look.calls kj43 x287000_1 x287001_1 x287002_1 x287003_1 x287004_1 x287005_1 a1_0 a1_1 t297 ((rd_T30 l3 x21_1).f1) ((rd_T30 l3 x21_1).f2) t298 t299 t300 t301 t302 t303 t304 _ A46.out).mono ?_); rintro e w54 ⟨rfl, hb⟩; refine ⟨_, rfl, ?_⟩; have n0_ := Aside0.mk (blk_below (by exact BK286.out) hb); have n1_ := Aside0.mk (blk_below (by exact BK287.out) hb); have n2_ := Aside0.mk (blk_below (by exact BK296.out) hb); have n3_ := Aside0.mk (below_step (by repeat (first | (with_reducible first | exact HB.out | apply below_alloc | apply pw_below_drewN | apply below_drew1 | refine below_set ?_ GE286.out | refine below_set ?_ GE287.out | refine below_set ?_ GE296.out) | exact HB.out)) hb); clear BK286; clear BK287; clear BK296; clear HB; have BK286 := n0_; have BK287 := n1_; have BK296 := n2_; have HB := n3_; clear n0_ n1_ n2_ n3_; (try clear hb); (try clear hb2); (try clear hk); (try clear hi); have hcz55_0 : w54.cell? ⟨gb286, 0, none⟩ = some (.bool x287000_1) := (blk_cell BK286.out 0).trans rfl; have hcz55_1 : w54.cell? ⟨gb286, 1, none⟩ = some (.int .i64 x287001_1) := (blk_cell BK286.out 1).trans rfl; have hcz55_2 : w54.cell? ⟨gb286, 2, none⟩ = some (.bool x287002_1) := (blk_cell BK286.out 2).trans rfl; have hcz55_3 : w54.cell? ⟨gb286, 3, none⟩ = some (.int .i64 x287003_1) := (blk_cell BK286.out 3).trans rfl; have hcz55_4 : w54.cell? ⟨gb286, 4, none⟩ = some (.int .u64 x287004_1) := (blk_cell BK286.out 4).trans rfl; have hcz55_5 : w54.cell? ⟨gb286, 5, none⟩ = some (.int .u64 x287005_1) := (blk_cell BK286.out 5).trans rfl; have hfz55_0 := blk_frozen BK286.out 0; have hfz55_1 := blk_frozen BK286.out 1; have hfz55_2 := blk_frozen BK286.out 2; have hfz55_3 := blk_frozen BK286.out 3; have hfz55_4 := blk_frozen BK286.out 4; have hfz55_5 := blk_frozen BK286.out 5))
               go_roundg kj43
               case measure => have := HK1.out; have := HJ24.out; have := HJ41.out; have := HJ43.out; omega
               case rel => exact ⟨(t297), (x9_43), (x13_24), (wrap64 (x21_1 + 1)), (t298), (t299), (t300), (t301), (t302), (t303), (by first | rfl | (simp; done) | (simp [*]; done)), (by first | rfl | (simp; done) | (simp [*]; done)), (by first | rfl | (simp; done) | (simp [*]; done)), (by first | rfl | (simp; done) | (simp [*]; done)), H', ⟨by have := HK1.out; have := HJ24.out; have := HJ41.out; have := HJ43.out; omega⟩, ⟨by refine blk_put (cs := #[.bool t298, .int .i64 t299, .bool t300, .int .i64 t301, .int .u64 t302, .int .u64 x287005_1]) ?_ 5 _ rfl; refine blk_put (cs := #[.bool t298, .int .i64 t299, .bool t300, .int .i64 t301, .int .u64 x287004_1, .int .u64 x287005_1]) ?_ 4 _ rfl; refine blk_put (cs := #[.bool t298, .int .i64 t299, .bool t300, .int .i64 x287003_1, .int .u64 x287004_1, .int .u64 x287005_1]) ?_ 3 _ rfl; refine blk_put (cs := #[.bool t298, .int .i64 t299, .bool x287002_1, .int .i64 x287003_1, .int .u64 x287004_1, .int .u64 x287005_1]) ?_ 2 _ rfl; refine blk_put (cs := #[.bool t298, .int .i64 x287001_1, .bool x287002_1, .int .i64 x287003_1, .int .u64 x287004_1, .int .u64 x287005_1]) ?_ 1 _ rfl; refine blk_put (cs := #[.bool x287000_1, .int .i64 x287001_1, .bool x287002_1, .int .i64 x287003_1, .int .u64 x287004_1, .int .u64 x287005_1]) ?_ 0 _ rfl; exact BK286.out⟩, ⟨by refine blk_far ?_ NB287_286.out _; refine blk_far ?_ NB287_286.out _; refine blk_far ?_ NB287_286.out _; refine blk_far ?_ NB287_286.out _; refine blk_far ?_ NB287_286.out _; refine blk_far ?_ NB287_286.out _; exact BK287.out⟩, ⟨by repeat (first | (with_reducible first | exact HB.out | apply below_alloc | apply pw_below_drewN | apply below_drew1 | refine below_set ?_ GE286.out | refine below_set ?_ GE287.out | refine below_set ?_ GE296.out) | exact HB.out)⟩⟩
              ·rw [if_neg c47] at H
               have c47b0 : (t304 == 0) = false := beq_eq_false_iff_ne.mpr c47
               have c47b1 : (t304 != 0) = true := bne_iff_ne.mpr c47
               by_cases c56 : x13_24 = true
               ·subst c56
                have H1 : (if x10_1 = true then ((overfallref02_Add.f kj43 x9_43 a1_1).bind fun t305 => (if t297 < t305 then (none) else (overfalllaw08_CodelWaits.l0 kj43 t297 x9_43 true l3 (l3.length : Int) (wrap64 (x21_1 + 1)) t298 t299 t300 t301 t302 t303 a1_0 a1_1))) else (none)) = some r := by rw [if_pos rfl] at H; exact H
                clear H
                have H := H1
                clear H1
                by_cases c57 : x10_1 = true
                ·subst c57
                 have H1 : ((overfallref02_Add.f kj43 x9_43 a1_1).bind fun t305 => (if t297 < t305 then (none) else (overfalllaw08_CodelWaits.l0 kj43 t297 x9_43 true l3 (l3.length : Int) (wrap64 (x21_1 + 1)) t298 t299 t300 t301 t302 t303 a1_0 a1_1))) = some r := by rw [if_pos rfl] at H; exact H
                 clear H
                 have H := H1
                 clear H1
                 replace H := Option.bind_eq_some_iff.mp H
                 obtain ⟨t305, A580, H⟩ := H
                 replace H : (if t297 < t305 then (none) else (overfalllaw08_CodelWaits.l0 kj43 t297 x9_43 true l3 (l3.length : Int) (wrap64 (x21_1 + 1)) t298 t299 t300 t301 t302 t303 a1_0 a1_1)) = some r := H
                 have A58 := Aside0.mk A580
                 clear A580
                 by_cases c59 : t297 < t305
                 ·rw [if_pos c59] at H
                  exact absurd H (by simp)
                 ·rw [if_neg c59] at H
                  have c59b0 : decide (t297 < t305) = false := decide_eq_false c59
                  clear c59
                  have H' := Aside0.mk H
                  clear H
                  have hnb60 := NB286_287.out
                  have hnc60 := NB287_286.out
                  have hnb61 := NB286_296.out
                  have hnc61 := NB296_286.out
                  have hcz62_0 : wc.cell? ⟨gb286, 0, none⟩ = some (.bool x287000_1) := (blk_cell BK286.out 0).trans rfl
                  have hcz62_1 : wc.cell? ⟨gb286, 1, none⟩ = some (.int .i64 x287001_1) := (blk_cell BK286.out 1).trans rfl
                  have hcz62_2 : wc.cell? ⟨gb286, 2, none⟩ = some (.bool x287002_1) := (blk_cell BK286.out 2).trans rfl
                  have hcz62_3 : wc.cell? ⟨gb286, 3, none⟩ = some (.int .i64 x287003_1) := (blk_cell BK286.out 3).trans rfl
                  have hcz62_4 : wc.cell? ⟨gb286, 4, none⟩ = some (.int .u64 x287004_1) := (blk_cell BK286.out 4).trans rfl
                  have hcz62_5 : wc.cell? ⟨gb286, 5, none⟩ = some (.int .u64 x287005_1) := (blk_cell BK286.out 5).trans rfl
                  have hfz62_0 := blk_frozen BK286.out 0
                  have hfz62_1 := blk_frozen BK286.out 1
                  have hfz62_2 := blk_frozen BK286.out 2
                  have hfz62_3 := blk_frozen BK286.out 3
                  have hfz62_4 := blk_frozen BK286.out 4
                  have hfz62_5 := blk_frozen BK286.out 5
                  have hnb63 := NB287_296.out
                  have hnc63 := NB296_287.out
                  have hcz64_0 : wc.cell? ⟨gb287, 0, none⟩ = some (.int .i64 a1_0) := (blk_cell BK287.out 0).trans rfl
                  have hcz64_1 : wc.cell? ⟨gb287, 1, none⟩ = some (.int .i64 a1_1) := (blk_cell BK287.out 1).trans rfl
                  have hfz64_0 := blk_frozen BK287.out 0
                  have hfz64_1 := blk_frozen BK287.out 1
                  have hcz65_0 : wc.cell? ⟨gb296, 0, none⟩ = some (.int .i64 ((rd_T30 l3 x21_1).f0)) := (blk_cell BK296.out 0).trans rfl
                  have hcz65_1 : wc.cell? ⟨gb296, 1, none⟩ = some (.int .i64 ((rd_T30 l3 x21_1).f1)) := (blk_cell BK296.out 1).trans rfl
                  have hcz65_2 : wc.cell? ⟨gb296, 2, none⟩ = some (.int .i64 ((rd_T30 l3 x21_1).f2)) := (blk_cell BK296.out 2).trans rfl
                  have hfz65_0 := blk_frozen BK296.out 0
                  have hfz65_1 := blk_frozen BK296.out 1
                  have hfz65_2 := blk_frozen BK296.out 2
                  go_wp2_with (first | ((with_reducible refine gate_callee (f := 11) rfl ?_); refine goesL_ (some 57) rfl rfl Try.func11 (by kernel_rfl) rfl #[.agg #[.bool x287000_1, .int .i64 x287001_1, .bool x287002_1, .int .i64 x287003_1, .int .u64 x287004_1, .int .u64 x287005_1], .agg #[.int .i64 a1_0, .int .i64 a1_1], .int .i64 t297, .int .i64 ((rd_T30 l3 x21_1).f1), .int .i64 ((rd_T30 l3 x21_1).f2)] rfl (by (try simp only [List.map_toArray, List.map_cons, List.map_nil]); first | done | rfl | (simp only [List.length_drop, List.length_take]; rfl)) ?_; (with_reducible refine (codel_State_Look.calls kj43 x287000_1 x287001_1 x287002_1 x287003_1 x287004_1 x287005_1 a1_0 a1_1 t297 ((rd_T30 l3 x21_1).f1) ((rd_T30 l3 x21_1).f2) t298 t299 t300 t301 t302 t303 t304 _ A46.out).mono ?_); rintro e w66 ⟨rfl, hb⟩; refine ⟨_, rfl, ?_⟩; have n0_ := Aside0.mk (blk_below (by exact BK286.out) hb); have n1_ := Aside0.mk (blk_below (by exact BK287.out) hb); have n2_ := Aside0.mk (blk_below (by exact BK296.out) hb); have n3_ := Aside0.mk (below_step (by repeat (first | (with_reducible first | exact HB.out | apply below_alloc | apply pw_below_drewN | apply below_drew1 | refine below_set ?_ GE286.out | refine below_set ?_ GE287.out | refine below_set ?_ GE296.out) | exact HB.out)) hb); clear BK286; clear BK287; clear BK296; clear HB; have BK286 := n0_; have BK287 := n1_; have BK296 := n2_; have HB := n3_; clear n0_ n1_ n2_ n3_; (try clear hb); (try clear hb2); (try clear hk); (try clear hi); have hcz67_0 : w66.cell? ⟨gb286, 0, none⟩ = some (.bool x287000_1) := (blk_cell BK286.out 0).trans rfl; have hcz67_1 : w66.cell? ⟨gb286, 1, none⟩ = some (.int .i64 x287001_1) := (blk_cell BK286.out 1).trans rfl; have hcz67_2 : w66.cell? ⟨gb286, 2, none⟩ = some (.bool x287002_1) := (blk_cell BK286.out 2).trans rfl; have hcz67_3 : w66.cell? ⟨gb286, 3, none⟩ = some (.int .i64 x287003_1) := (blk_cell BK286.out 3).trans rfl; have hcz67_4 : w66.cell? ⟨gb286, 4, none⟩ = some (.int .u64 x287004_1) := (blk_cell BK286.out 4).trans rfl; have hcz67_5 : w66.cell? ⟨gb286, 5, none⟩ = some (.int .u64 x287005_1) := (blk_cell BK286.out 5).trans rfl; have hfz67_0 := blk_frozen BK286.out 0; have hfz67_1 := blk_frozen BK286.out 1; have hfz67_2 := blk_frozen BK286.out 2; have hfz67_3 := blk_frozen BK286.out 3; have hfz67_4 := blk_frozen BK286.out 4; have hfz67_5 := blk_frozen BK286.out 5; have hcz68_0 : w66.cell? ⟨gb287, 0, none⟩ = some (.int .i64 a1_0) := (blk_cell BK287.out 0).trans rfl; have hcz68_1 : w66.cell? ⟨gb287, 1, none⟩ = some (.int .i64 a1_1) := (blk_cell BK287.out 1).trans rfl; have hfz68_0 := blk_frozen BK287.out 0; have hfz68_1 := blk_frozen BK287.out 1) | (go_at_call 10; (with_reducible refine (overfallref02_Add.calls kj43 x9_43 a1_1 t305 _ A58.out).mono ?_); rintro e w69 ⟨rfl, hb⟩; have n0_ := Aside0.mk (blk_below (g := gb286) (o := .cells #[.bool t298, .int .i64 t299, .bool t300, .int .i64 t301, .int .u64 t302, .int .u64 t303] 24 (0, 0)) (by refine blk_put (cs := #[.bool t298, .int .i64 t299, .bool t300, .int .i64 t301, .int .u64 t302, .int .u64 x287005_1]) ?_ 5 _ rfl; refine blk_put (cs := #[.bool t298, .int .i64 t299, .bool t300, .int .i64 t301, .int .u64 x287004_1, .int .u64 x287005_1]) ?_ 4 _ rfl; refine blk_put (cs := #[.bool t298, .int .i64 t299, .bool t300, .int .i64 x287003_1, .int .u64 x287004_1, .int .u64 x287005_1]) ?_ 3 _ rfl; refine blk_put (cs := #[.bool t298, .int .i64 t299, .bool x287002_1, .int .i64 x287003_1, .int .u64 x287004_1, .int .u64 x287005_1]) ?_ 2 _ rfl; refine blk_put (cs := #[.bool t298, .int .i64 x287001_1, .bool x287002_1, .int .i64 x287003_1, .int .u64 x287004_1, .int .u64 x287005_1]) ?_ 1 _ rfl; refine blk_put (cs := #[.bool x287000_1, .int .i64 x287001_1, .bool x287002_1, .int .i64 x287003_1, .int .u64 x287004_1, .int .u64 x287005_1]) ?_ 0 _ rfl; exact BK286.out) hb); have n1_ := Aside0.mk (blk_below (g := gb287) (o := .cells #[.int .i64 a1_0, .int .i64 a1_1] 26 (0, 0)) (by refine blk_far ?_ NB287_286.out _; refine blk_far ?_ NB287_286.out _; refine blk_far ?_ NB287_286.out _; refine blk_far ?_ NB287_286.out _; refine blk_far ?_ NB287_286.out _; refine blk_far ?_ NB287_286.out _; exact BK287.out) hb); have n2_ := Aside0.mk (blk_below (g := gb296) (o := .cells #[.int .i64 ((rd_T30 l3 x21_1).f0), .int .i64 ((rd_T30 l3 x21_1).f1), .int .i64 ((rd_T30 l3 x21_1).f2)] 30 (0, 0)) (by refine blk_far ?_ NB296_286.out _; refine blk_far ?_ NB296_286.out _; refine blk_far ?_ NB296_286.out _; refine blk_far ?_ NB296_286.out _; refine blk_far ?_ NB296_286.out _; refine blk_far ?_ NB296_286.out _; exact BK296.out) hb); have n3_ := Aside0.mk (below_step (by repeat (first | (with_reducible first | exact HB.out | apply below_alloc | apply pw_below_drewN | apply below_drew1 | refine below_set ?_ GE286.out | refine below_set ?_ GE287.out | refine below_set ?_ GE296.out) | exact HB.out)) hb); clear BK286; clear BK287; clear BK296; clear HB; have BK286 := n0_; have BK287 := n1_; have BK296 := n2_; have HB := n3_; clear n0_ n1_ n2_ n3_; (try clear hb); (try clear hb2); (try clear hk); (try clear hi)))
                  go_roundg kj43
                  case measure => have := HK1.out; have := HJ24.out; have := HJ41.out; have := HJ43.out; omega
                  case rel => exact ⟨(t297), (x9_43), (true), (wrap64 (x21_1 + 1)), (t298), (t299), (t300), (t301), (t302), (t303), (by first | rfl | (simp; done) | (simp [*]; done)), (by first | rfl | (simp; done) | (simp [*]; done)), (by first | rfl | (simp; done) | (simp [*]; done)), (by first | rfl | (simp; done) | (simp [*]; done)), H', ⟨by have := HK1.out; have := HJ24.out; have := HJ41.out; have := HJ43.out; omega⟩, ⟨by exact BK286.out⟩, ⟨by exact BK287.out⟩, ⟨by repeat (first | (with_reducible first | exact HB.out | apply below_alloc | apply pw_below_drewN | apply below_drew1 | refine below_set ?_ GE286.out | refine below_set ?_ GE287.out | refine below_set ?_ GE296.out) | exact HB.out)⟩⟩
                ·replace c57 := Bool.eq_false_iff.mpr c57
                 subst c57
                 have H1 : (none) = some r := by rw [if_neg (show ¬ (false = true) by decide)] at H; exact H
                 clear H
                 have H := H1
                 clear H1
                 exact absurd H (by simp)
               ·replace c56 := Bool.eq_false_iff.mpr c56
                subst c56
                have H1 : (none) = some r := by rw [if_neg (show ¬ (false = true) by decide)] at H; exact H
                clear H
                have H := H1
                clear H1
                exact absurd H (by simp)
      ·rw [if_neg c17] at H
       exact absurd H (by simp)
     ·rw [if_neg c16] at H
      exact absurd H (by simp)
    ·rw [if_neg c15] at H
     have c15b0 : decide (x21_1 < (l3.length : Int)) = false := decide_eq_false c15
     clear c15
     obtain rfl := Option.some.inj H
     go_wp2
     go_ret
     exact ⟨by first | rfl | (simp [errW_none, errW_some] <;> rfl) | (simp [*, errW_none, errW_some] <;> rfl), by repeat (first | (with_reducible first | exact HB.out | apply below_alloc | apply pw_below_drewN | apply below_drew1 | refine below_set ?_ GE286.out | refine below_set ?_ GE287.out) | exact HB.out)⟩
 ·replace c6 := Bool.eq_false_iff.mpr c6
  subst c6
  have H1 : (none) = some r := by rw [if_neg (show ¬ (false = true) by decide)] at H; exact H
  clear H
  have H := H1
  clear H1
  exact absurd H (by simp)

end Go.Proofs.Ytiiffgmbkajkhaa.T

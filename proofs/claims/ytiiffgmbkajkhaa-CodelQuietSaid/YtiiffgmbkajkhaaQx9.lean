-- Laid by a program of this claim's session (wip/tools/myprint.py) over the kit's printer.
import Derived.Test.YtiiffgmbkajkhaaQx0
import Derived.Test.YtiiffgmbkajkhaaQx5
import Derived.Test.YtiiffgmbkajkhaaQx6
import Derived.Test.YtiiffgmbkajkhaaQx8
namespace Go.Proofs.Ytiiffgmbkajkhaa.Q
open Go.RowKit Go.Proofs.YtiiffgmbkajkhaaW.PrintWords Go.Proofs.YtiiffgmbkajkhaaW.PrintLast Go.Proofs.YtiiffgmbkajkhaaW.PrintMore
attribute [local go_sem] max2_int min2_int max_two min_two max_three min_three max_four min_four   -- for this text's walks alone
set_option linter.unusedVariables false
set_option linter.unusedSimpArgs false

/-! ### overfalllaw08_CodelQuiet: function 3 -/
mutual
def overfalllaw08_CodelQuiet.l0 : Nat → Int → List (S30) → Int → Int → Bool → Int → Bool → Int → Int → Int → Int → Int → Option (Bool)
 | 0, _, _, _, _, _, _, _, _, _, _, _, _ => none
 | k + 1, x2, x14, x15, x16, x285000, x285001, x285002, x285003, x285004, x285005, x286000, x286001 => if x16 < x15 then (if 0 ≤ x16 then (if x16 < (x14.length : Int) then (if x16 ≥ 40 then (some true) else (if ((rd_T30 x14 x16).f1) ≥ x286000 then (overfalllaw08_CodelQuiet.j1 k x2 x14 x15 x16 (decide (((rd_T30 x14 x16).f2) > 1)) x285000 x285001 x285002 x285003 x285004 x285005 x286000 x286001 ((rd_T30 x14 x16).f0) ((rd_T30 x14 x16).f1) ((rd_T30 x14 x16).f2)) else (overfalllaw08_CodelQuiet.j1 k x2 x14 x15 x16 false x285000 x285001 x285002 x285003 x285004 x285005 x286000 x286001 ((rd_T30 x14 x16).f0) ((rd_T30 x14 x16).f1) ((rd_T30 x14 x16).f2)))) else (none)) else (none)) else (some true)
def overfalllaw08_CodelQuiet.j1 : Nat → Int → List (S30) → Int → Int → Bool → Bool → Int → Bool → Int → Int → Int → Int → Int → Int → Int → Int → Option (Bool)
 | 0, _, _, _, _, _, _, _, _, _, _, _, _, _, _, _, _ => none
 | k + 1, x2, x14, x15, x16, x32, x285000, x285001, x285002, x285003, x285004, x285005, x286000, x286001, x289000, x289001, x289002 => if x32 = true then (overfalllaw08_CodelQuiet.j2 k x2 x14 x15 x16 x285000 x285001 x285002 x285003 x285004 x285005 x286000 x286001 x289000 x289001 1) else (overfalllaw08_CodelQuiet.j2 k x2 x14 x15 x16 x285000 x285001 x285002 x285003 x285004 x285005 x286000 x286001 x289000 x289001 x289002)
def overfalllaw08_CodelQuiet.j2 : Nat → Int → List (S30) → Int → Int → Bool → Int → Bool → Int → Int → Int → Int → Int → Int → Int → Int → Option (Bool)
 | 0, _, _, _, _, _, _, _, _, _, _, _, _, _, _, _ => none
 | k + 1, x2, x14, x15, x16, x285000, x285001, x285002, x285003, x285004, x285005, x286000, x286001, x289000, x289001, x289002 => (overfallref02_Add.f k x2 x289000).bind fun t289 => ((codel_State_Look.f k x285000 x285001 x285002 x285003 x285004 x285005 x286000 x286001 t289 x289001 x289002).bind fun bt290 => (if bt290.2.2.2.2.2.2 = 0 then (if bt290.2.2.1 = true then (none) else (if bt290.1 = true then (none) else (overfalllaw08_CodelQuiet.l0 k t289 x14 x15 (wrap64 (x16 + 1)) bt290.1 bt290.2.1 bt290.2.2.1 bt290.2.2.2.1 bt290.2.2.2.2.1 bt290.2.2.2.2.2.1 x286000 x286001))) else (none)))
end
def overfalllaw08_CodelQuiet.f (k : Nat) (a0_0 : Bool) (a0_1 : Int) (a0_2 : Bool) (a0_3 : Int) (a0_4 : Int) (a0_5 : Int) (a1_0 : Int) (a1_1 : Int) (a2 : Int) (l3 : List (S30)) : Option (Bool) := (overfalllaw08_awake.f k).bind fun t286 => (if t286 = true then (overfalllaw08_CodelQuiet.l0 k a2 l3 (l3.length : Int) 0 a0_0 a0_1 a0_2 a0_3 a0_4 a0_5 a1_0 a1_1) else (none))
theorem overfalllaw08_CodelQuiet.mono_l : ∀ k, (∀ y0 y1 y2 y3 y4 y5 y6 y7 y8 y9 y10 y11, LeO (overfalllaw08_CodelQuiet.l0 k y0 y1 y2 y3 y4 y5 y6 y7 y8 y9 y10 y11) (overfalllaw08_CodelQuiet.l0 (k + 1) y0 y1 y2 y3 y4 y5 y6 y7 y8 y9 y10 y11)) ∧ (∀ y0 y1 y2 y3 y4 y5 y6 y7 y8 y9 y10 y11 y12 y13 y14 y15, LeO (overfalllaw08_CodelQuiet.j1 k y0 y1 y2 y3 y4 y5 y6 y7 y8 y9 y10 y11 y12 y13 y14 y15) (overfalllaw08_CodelQuiet.j1 (k + 1) y0 y1 y2 y3 y4 y5 y6 y7 y8 y9 y10 y11 y12 y13 y14 y15)) ∧ (∀ y0 y1 y2 y3 y4 y5 y6 y7 y8 y9 y10 y11 y12 y13 y14, LeO (overfalllaw08_CodelQuiet.j2 k y0 y1 y2 y3 y4 y5 y6 y7 y8 y9 y10 y11 y12 y13 y14) (overfalllaw08_CodelQuiet.j2 (k + 1) y0 y1 y2 y3 y4 y5 y6 y7 y8 y9 y10 y11 y12 y13 y14))
 | 0 => ⟨fun _ _ _ _ _ _ _ _ _ _ _ _ r h => by simp [overfalllaw08_CodelQuiet.l0] at h, fun _ _ _ _ _ _ _ _ _ _ _ _ _ _ _ _ r h => by simp [overfalllaw08_CodelQuiet.j1] at h, fun _ _ _ _ _ _ _ _ _ _ _ _ _ _ _ r h => by simp [overfalllaw08_CodelQuiet.j2] at h⟩
 | k + 1 => by
  obtain ⟨ih0, ih1, ih2⟩ := overfalllaw08_CodelQuiet.mono_l k
  refine ⟨?_, ?_, ?_⟩
  ·intro y0 y1 y2 y3 y4 y5 y6 y7 y8 y9 y10 y11
   unfold overfalllaw08_CodelQuiet.l0
   repeat' first
   | (with_reducible exact ih0 _ _ _ _ _ _ _ _ _ _ _ _)
   | (with_reducible exact ih1 _ _ _ _ _ _ _ _ _ _ _ _ _ _ _ _)
   | (with_reducible exact ih2 _ _ _ _ _ _ _ _ _ _ _ _ _ _ _)
   | (with_reducible exact codel_State_Look.mono _ _ _ _ _ _ _ _ _ _ _ _)
   | (with_reducible exact overfalllaw08_awake.mono _)
   | (with_reducible exact overfallref02_Add.mono _ _ _)
   | (with_reducible exact LeO.refl _)
   | (with_reducible exact LeO.none _)
   | (with_reducible refine LeO.ite ?_ ?_)
   | (with_reducible refine LeO.bind ?_ (fun _ => ?_))
   | exact ih0 _ _ _ _ _ _ _ _ _ _ _ _
   | exact ih1 _ _ _ _ _ _ _ _ _ _ _ _ _ _ _ _
   | exact ih2 _ _ _ _ _ _ _ _ _ _ _ _ _ _ _
   | exact codel_State_Look.mono _ _ _ _ _ _ _ _ _ _ _ _
   | exact overfalllaw08_awake.mono _
   | exact overfallref02_Add.mono _ _ _
   | exact LeO.none _
   | refine LeO.ite ?_ ?_
   | refine LeO.bind ?_ (fun _ => ?_)
  ·intro y0 y1 y2 y3 y4 y5 y6 y7 y8 y9 y10 y11 y12 y13 y14 y15
   unfold overfalllaw08_CodelQuiet.j1
   repeat' first
   | (with_reducible exact ih0 _ _ _ _ _ _ _ _ _ _ _ _)
   | (with_reducible exact ih1 _ _ _ _ _ _ _ _ _ _ _ _ _ _ _ _)
   | (with_reducible exact ih2 _ _ _ _ _ _ _ _ _ _ _ _ _ _ _)
   | (with_reducible exact codel_State_Look.mono _ _ _ _ _ _ _ _ _ _ _ _)
   | (with_reducible exact overfalllaw08_awake.mono _)
   | (with_reducible exact overfallref02_Add.mono _ _ _)
   | (with_reducible exact LeO.refl _)
   | (with_reducible exact LeO.none _)
   | (with_reducible refine LeO.ite ?_ ?_)
   | (with_reducible refine LeO.bind ?_ (fun _ => ?_))
   | exact ih0 _ _ _ _ _ _ _ _ _ _ _ _
   | exact ih1 _ _ _ _ _ _ _ _ _ _ _ _ _ _ _ _
   | exact ih2 _ _ _ _ _ _ _ _ _ _ _ _ _ _ _
   | exact codel_State_Look.mono _ _ _ _ _ _ _ _ _ _ _ _
   | exact overfalllaw08_awake.mono _
   | exact overfallref02_Add.mono _ _ _
   | exact LeO.none _
   | refine LeO.ite ?_ ?_
   | refine LeO.bind ?_ (fun _ => ?_)
  ·intro y0 y1 y2 y3 y4 y5 y6 y7 y8 y9 y10 y11 y12 y13 y14
   unfold overfalllaw08_CodelQuiet.j2
   repeat' first
   | (with_reducible exact ih0 _ _ _ _ _ _ _ _ _ _ _ _)
   | (with_reducible exact ih1 _ _ _ _ _ _ _ _ _ _ _ _ _ _ _ _)
   | (with_reducible exact ih2 _ _ _ _ _ _ _ _ _ _ _ _ _ _ _)
   | (with_reducible exact codel_State_Look.mono _ _ _ _ _ _ _ _ _ _ _ _)
   | (with_reducible exact overfalllaw08_awake.mono _)
   | (with_reducible exact overfallref02_Add.mono _ _ _)
   | (with_reducible exact LeO.refl _)
   | (with_reducible exact LeO.none _)
   | (with_reducible refine LeO.ite ?_ ?_)
   | (with_reducible refine LeO.bind ?_ (fun _ => ?_))
   | exact ih0 _ _ _ _ _ _ _ _ _ _ _ _
   | exact ih1 _ _ _ _ _ _ _ _ _ _ _ _ _ _ _ _
   | exact ih2 _ _ _ _ _ _ _ _ _ _ _ _ _ _ _
   | exact codel_State_Look.mono _ _ _ _ _ _ _ _ _ _ _ _
   | exact overfalllaw08_awake.mono _
   | exact overfallref02_Add.mono _ _ _
   | exact LeO.none _
   | refine LeO.ite ?_ ?_
   | refine LeO.bind ?_ (fun _ => ?_)
theorem overfalllaw08_CodelQuiet.mono : ∀ a0 a1 a2 a3 a4 a5 a6 a7 a8 a9 k, LeO (overfalllaw08_CodelQuiet.f k a0 a1 a2 a3 a4 a5 a6 a7 a8 a9) (overfalllaw08_CodelQuiet.f (k + 1) a0 a1 a2 a3 a4 a5 a6 a7 a8 a9) := by
 intro a0 a1 a2 a3 a4 a5 a6 a7 a8 a9 k
 obtain ⟨ih0, ih1, ih2⟩ := overfalllaw08_CodelQuiet.mono_l k
 unfold overfalllaw08_CodelQuiet.f
 repeat' first
   | (with_reducible exact ih0 _ _ _ _ _ _ _ _ _ _ _ _)
   | (with_reducible exact ih1 _ _ _ _ _ _ _ _ _ _ _ _ _ _ _ _)
   | (with_reducible exact ih2 _ _ _ _ _ _ _ _ _ _ _ _ _ _ _)
   | (with_reducible exact codel_State_Look.mono _ _ _ _ _ _ _ _ _ _ _ _)
   | (with_reducible exact overfalllaw08_awake.mono _)
   | (with_reducible exact overfallref02_Add.mono _ _ _)
   | (with_reducible exact LeO.refl _)
   | (with_reducible exact LeO.none _)
   | (with_reducible refine LeO.ite ?_ ?_)
   | (with_reducible refine LeO.bind ?_ (fun _ => ?_))
   | exact ih0 _ _ _ _ _ _ _ _ _ _ _ _
   | exact ih1 _ _ _ _ _ _ _ _ _ _ _ _ _ _ _ _
   | exact ih2 _ _ _ _ _ _ _ _ _ _ _ _ _ _ _
   | exact codel_State_Look.mono _ _ _ _ _ _ _ _ _ _ _ _
   | exact overfalllaw08_awake.mono _
   | exact overfallref02_Add.mono _ _ _
   | exact LeO.none _
   | refine LeO.ite ?_ ?_
   | refine LeO.bind ?_ (fun _ => ?_)
set_option maxHeartbeats 8000000 in
set_option maxRecDepth 100000 in
theorem overfalllaw08_CodelQuiet.calls (k : Nat) (a0_0 : Bool) (a0_1 : Int) (a0_2 : Bool) (a0_3 : Int) (a0_4 : Int) (a0_5 : Int) (a1_0 : Int) (a1_1 : Int) (a2 : Int) (A3 : Option Addr) (c3 : Nat) (l3 : List (S30)) (r : Bool) (w : World) (hr3 : Kd.C k30 w A3 l3.length l3) (hc3 : l3.length ≤ c3) (h : overfalllaw08_CodelQuiet.f k a0_0 a0_1 a0_2 a0_3 a0_4 a0_5 a1_0 a1_1 a2 l3 = some r) :
  Calls Try.prog 3 #[.agg #[.bool a0_0, .int .i64 a0_1, .bool a0_2, .int .i64 a0_3, .int .u64 a0_4, .int .u64 a0_5], .agg #[.int .i64 a1_0, .int .i64 a1_1], .int .i64 a2, .slice A3 l3.length c3] w fun e w' => e = .returned (.bool r) ∧ Below w.heap.size w w' := by
 have hu24 := Try.underlying24
 have hu26 := Try.underlying26
 have hu30 := Try.underlying30
 have HR3 := Aside0.mk hr3
 have HC3 := Aside0.mk hc3
 clear hr3 hc3
 have HB := Aside0.mk (Below.refl w.heap.size w)
 have H : ((overfalllaw08_awake.f k).bind fun t286 => (if t286 = true then (overfalllaw08_CodelQuiet.l0 k a2 l3 (l3.length : Int) 0 a0_0 a0_1 a0_2 a0_3 a0_4 a0_5 a1_0 a1_1) else (none))) = some r := h
 clear h
 replace H := Option.bind_eq_some_iff.mp H
 obtain ⟨t286, A50, H⟩ := H
 replace H : (if t286 = true then (overfalllaw08_CodelQuiet.l0 k a2 l3 (l3.length : Int) 0 a0_0 a0_1 a0_2 a0_3 a0_4 a0_5 a1_0 a1_1) else (none)) = some r := H
 have A5 := Aside0.mk A50
 clear A50
 by_cases c6 : t286 = true
 ·subst c6
  have H1 : (overfalllaw08_CodelQuiet.l0 k a2 l3 (l3.length : Int) 0 a0_0 a0_1 a0_2 a0_3 a0_4 a0_5 a1_0 a1_1) = some r := by rw [if_pos rfl] at H; exact H
  clear H
  have H := H1
  clear H1
  have H' := Aside0.mk H
  clear H
  go_enter Try.func3, Try.ntmps3
  go_wp2_with (first | ((with_reducible refine gate_dst (N := 4) rfl ?_); refine box_event ?hg (N := 4) ?hd (cs := #[.bool a0_0, .int .i64 a0_1, .bool a0_2, .int .i64 a0_3, .int .u64 a0_4, .int .u64 a0_5]) (t := 24) ?hr ?_; (case hd => rfl); (case hg => rfl); (case hr => first | (go_simp; done) | (go_simp; rfl)); intro gb284 hg w7 hbox hb; have n0_ := Aside0.mk (below_step (by repeat (first | (with_reducible first | exact HB.out | apply below_alloc | apply pw_below_drewN | apply below_drew1) | exact HB.out)) hb); have n1_ := Aside0.mk (hbox); have n2_ := Aside0.mk ((by rw [hg]; exact (below_size (by repeat (first | (with_reducible first | exact HB.out | apply below_alloc | apply pw_below_drewN | apply below_drew1) | exact HB.out))) : w.heap.size ≤ gb284)); have n3_ := Aside0.mk ((by rw [hg]; exact (below_size (by repeat (first | (with_reducible first | exact HB.out | apply below_alloc | apply pw_below_drewN | apply below_drew1) | exact HB.out))) : w.heap.size ≤ gb284)); clear HB; have HB := n0_; have BK284 := n1_; have GW284 := n2_; have GE284 := n3_; clear n0_ n1_ n2_ n3_; clear hb hbox hg) | ((with_reducible refine gate_dst (N := 5) rfl ?_); refine box_event ?hg (N := 5) ?hd (cs := #[.int .i64 a1_0, .int .i64 a1_1]) (t := 26) ?hr ?_; (case hd => rfl); (case hg => rfl); (case hr => first | (go_simp; done) | (go_simp; rfl)); intro gb285 hg w8 hbox hb; have n0_ := Aside0.mk (blk_below (by exact BK284.out) hb); have n1_ := Aside0.mk (below_step (by repeat (first | (with_reducible first | exact HB.out | apply below_alloc | apply pw_below_drewN | apply below_drew1 | refine below_set ?_ GE284.out) | exact HB.out)) hb); have n2_ := Aside0.mk (hbox); have n3_ := Aside0.mk ((by rw [hg]; exact (below_size (by repeat (first | (with_reducible first | exact HB.out | apply below_alloc | apply pw_below_drewN | apply below_drew1 | refine below_set ?_ GE284.out) | exact HB.out))) : w.heap.size ≤ gb285)); have n4_ := Aside0.mk ((by rw [hg]; exact (below_size (by repeat (first | (with_reducible first | exact HB.out | apply below_alloc | apply pw_below_drewN | apply below_drew1 | refine below_set ?_ GE284.out) | exact HB.out))) : w.heap.size ≤ gb285)); have n5_ := Aside0.mk ((by rw [hg]; exact Nat.ne_of_lt (blk_lt (by exact BK284.out)) : gb284 ≠ gb285)); have n6_ := Aside0.mk ((by rw [hg]; exact Nat.ne_of_gt (blk_lt (by exact BK284.out)) : gb285 ≠ gb284)); clear BK284; clear HB; have BK284 := n0_; have HB := n1_; have BK285 := n2_; have GW285 := n3_; have GE285 := n4_; have NB284_285 := n5_; have NB285_284 := n6_; clear n0_ n1_ n2_ n3_ n4_ n5_ n6_; clear hb hbox hg) | ((with_reducible refine gate_callee (f := 9) rfl ?_); refine goesL_ (some 12) rfl rfl Try.func9 (by kernel_rfl) rfl #[] rfl (by (try simp only [List.map_toArray, List.map_cons, List.map_nil]); first | done | rfl | (simp only [List.length_drop, List.length_take]; rfl)) ?_; (with_reducible refine (overfalllaw08_awake.calls k  true _ A5.out).mono ?_); rintro e w9 ⟨rfl, hb⟩; refine ⟨_, rfl, ?_⟩; have n0_ := Aside0.mk (blk_below (by exact BK284.out) hb); have n1_ := Aside0.mk (blk_below (by exact BK285.out) hb); have n2_ := Aside0.mk (below_step (by repeat (first | (with_reducible first | exact HB.out | apply below_alloc | apply pw_below_drewN | apply below_drew1 | refine below_set ?_ GE284.out | refine below_set ?_ GE285.out) | exact HB.out)) hb); clear BK284; clear BK285; clear HB; have BK284 := n0_; have BK285 := n1_; have HB := n2_; clear n0_ n1_ n2_; (try clear hb); (try clear hb2); (try clear hk); (try clear hi)))
  go_loopg [2, 16] k (fun kq v2 v16 w' => ∃ (x2_1 : Int) (x16_1 : Int) (x285000_1 : Bool) (x285001_1 : Int) (x285002_1 : Bool) (x285003_1 : Int) (x285004_1 : Int) (x285005_1 : Int), v2 = .int .i64 x2_1 ∧ v16 = .int .i64 x16_1 ∧ Aside0 (overfalllaw08_CodelQuiet.l0 kq x2_1 l3 (l3.length : Int) x16_1 x285000_1 x285001_1 x285002_1 x285003_1 x285004_1 x285005_1 a1_0 a1_1 = some r) ∧ Aside0 (kq ≤ k) ∧ Aside0 (w'.heap[gb284]? = some (.cells #[.bool x285000_1, .int .i64 x285001_1, .bool x285002_1, .int .i64 x285003_1, .int .u64 x285004_1, .int .u64 x285005_1] 24 (0, 0))) ∧ Aside0 (w'.heap[gb285]? = some (.cells #[.int .i64 a1_0, .int .i64 a1_1] 26 (0, 0))) ∧ Aside0 (Below w.heap.size w w'))
  case atStart => exact ⟨(a2), (0), (a0_0), (a0_1), (a0_2), (a0_3), (a0_4), (a0_5), (by first | rfl | (simp; done) | (simp [*]; done)), (by first | rfl | (simp; done) | (simp [*]; done)), H', ⟨Nat.le_refl _⟩, ⟨by exact BK284.out⟩, ⟨by exact BK285.out⟩, ⟨by repeat (first | (with_reducible first | exact HB.out | apply below_alloc | apply pw_below_drewN | apply below_drew1 | refine below_set ?_ GE284.out | refine below_set ?_ GE285.out) | exact HB.out)⟩⟩
  case round =>
   clear H'
   try clear p2
   try clear c3
   try clear c6
   try clear c9
   obtain ⟨x2_1, x16_1, x285000_1, x285001_1, x285002_1, x285003_1, x285004_1, x285005_1, rfl, rfl, HA, HK1, BK284, BK285, HB⟩ := hrel
   cases gk with
   | zero => exact absurd HA.out (by simp [overfalllaw08_CodelQuiet.l0])
   | succ k1 =>
    have H := HA.out
    clear HA
    simp only [overfalllaw08_CodelQuiet.l0] at H
    by_cases c10 : x16_1 < (l3.length : Int)
    ·rw [if_pos c10] at H
     have c10b0 : decide (x16_1 < (l3.length : Int)) = true := decide_eq_true c10
     clear c10
     by_cases c11 : 0 ≤ x16_1
     ·rw [if_pos c11] at H
      have c11b0 : decide (0 ≤ x16_1) = true := decide_eq_true c11
      clear c11
      by_cases c12 : x16_1 < (l3.length : Int)
      ·rw [if_pos c12] at H
       have c12b0 : decide (x16_1 < (l3.length : Int)) = true := decide_eq_true c12
       clear c12
       by_cases c13 : x16_1 ≥ 40
       ·rw [if_pos c13] at H
        have c13b0 : decide (40 ≤ x16_1) = true := decide_eq_true c13
        clear c13
        obtain rfl := Option.some.inj H
        have p287 : 0 ≤ (x16_1 : Int) := of_decide_eq_true (by first | (with_reducible assumption) | assumption)
        have q287 : x16_1 < (l3.length : Int) := of_decide_eq_true (by first | (with_reducible assumption) | assumption)
        obtain ⟨ad287, e287, hx287_0, hx287_1, hx287_2⟩ := at_T30 HR3.out x16_1 p287 q287
        cases e287
        replace hx287_0 := (HB.out.cell (World.block_lt_of_cell? w _ hx287_0)).trans hx287_0
        replace hx287_1 := (HB.out.cell (World.block_lt_of_cell? w _ hx287_1)).trans hx287_1
        replace hx287_2 := (HB.out.cell (World.block_lt_of_cell? w _ hx287_2)).trans hx287_2
        replace p287 := eq_true p287
        replace q287 := eq_true q287
        go_wp2_with (first | ((with_reducible refine gate_dst (N := 10) rfl ?_); refine box_event ?hg (N := 10) ?hd (cs := #[.int .i64 0, .int .i64 0, .int .i64 0]) (t := 30) ?hr ?_; (case hd => rfl); (case hg => rfl); (case hr => first | (go_simp; done) | (go_simp; rfl)); intro gb288 hg w14 hbox hb; have n0_ := Aside0.mk (blk_below (by exact BK284.out) hb); have n1_ := Aside0.mk (blk_below (by exact BK285.out) hb); have n2_ := Aside0.mk (below_step (by repeat (first | (with_reducible first | exact HB.out | apply below_alloc | apply pw_below_drewN | apply below_drew1 | refine below_set ?_ GE284.out | refine below_set ?_ GE285.out) | exact HB.out)) hb); have n3_ := Aside0.mk (hbox); have n4_ := Aside0.mk ((by rw [hg]; exact (below_size (by repeat (first | (with_reducible first | exact HB.out | apply below_alloc | apply pw_below_drewN | apply below_drew1 | refine below_set ?_ GE284.out | refine below_set ?_ GE285.out) | exact HB.out))) : w.heap.size ≤ gb288)); have n5_ := Aside0.mk ((by rw [hg]; exact (below_size (by repeat (first | (with_reducible first | exact HB.out | apply below_alloc | apply pw_below_drewN | apply below_drew1 | refine below_set ?_ GE284.out | refine below_set ?_ GE285.out) | exact HB.out))) : w.heap.size ≤ gb288)); have n6_ := Aside0.mk ((by rw [hg]; exact Nat.ne_of_lt (blk_lt (by exact BK284.out)) : gb284 ≠ gb288)); have n7_ := Aside0.mk ((by rw [hg]; exact Nat.ne_of_gt (blk_lt (by exact BK284.out)) : gb288 ≠ gb284)); have n8_ := Aside0.mk ((by rw [hg]; exact Nat.ne_of_lt (blk_lt (by exact BK285.out)) : gb285 ≠ gb288)); have n9_ := Aside0.mk ((by rw [hg]; exact Nat.ne_of_gt (blk_lt (by exact BK285.out)) : gb288 ≠ gb285)); clear BK284; clear BK285; clear HB; have BK284 := n0_; have BK285 := n1_; have HB := n2_; have BK288 := n3_; have GW288 := n4_; have GE288 := n5_; have NB284_288 := n6_; have NB288_284 := n7_; have NB285_288 := n8_; have NB288_285 := n9_; clear n0_ n1_ n2_ n3_ n4_ n5_ n6_ n7_ n8_ n9_; clear hb hbox hg; have hnb15 := NB288_284.out; have hnc15 := NB284_288.out; have hnb16 := NB288_285.out; have hnc16 := NB285_288.out; have hcz17_0 : w14.cell? ⟨gb288, 0, none⟩ = some (.int .i64 0) := (blk_cell BK288.out 0).trans rfl; have hcz17_1 : w14.cell? ⟨gb288, 1, none⟩ = some (.int .i64 0) := (blk_cell BK288.out 1).trans rfl; have hcz17_2 : w14.cell? ⟨gb288, 2, none⟩ = some (.int .i64 0) := (blk_cell BK288.out 2).trans rfl; have hfz17_0 := blk_frozen BK288.out 0; have hfz17_1 := blk_frozen BK288.out 1; have hfz17_2 := blk_frozen BK288.out 2))
        go_ret
        exact ⟨by first | rfl | (simp [errW_none, errW_some] <;> rfl) | (simp [*, errW_none, errW_some] <;> rfl), by repeat (first | (with_reducible first | exact HB.out | apply below_alloc | apply pw_below_drewN | apply below_drew1 | refine below_set ?_ GE284.out | refine below_set ?_ GE285.out | refine below_set ?_ GE288.out) | exact HB.out)⟩
       ·rw [if_neg c13] at H
        have c13b0 : decide (40 ≤ x16_1) = false := decide_eq_false c13
        clear c13
        have HC18 := Aside0.mk H
        clear H
        have p287 : 0 ≤ (x16_1 : Int) := of_decide_eq_true (by first | (with_reducible assumption) | assumption)
        have q287 : x16_1 < (l3.length : Int) := of_decide_eq_true (by first | (with_reducible assumption) | assumption)
        obtain ⟨ad287, e287, hx287_0, hx287_1, hx287_2⟩ := at_T30 HR3.out x16_1 p287 q287
        cases e287
        replace hx287_0 := (HB.out.cell (World.block_lt_of_cell? w _ hx287_0)).trans hx287_0
        replace hx287_1 := (HB.out.cell (World.block_lt_of_cell? w _ hx287_1)).trans hx287_1
        replace hx287_2 := (HB.out.cell (World.block_lt_of_cell? w _ hx287_2)).trans hx287_2
        replace p287 := eq_true p287
        replace q287 := eq_true q287
        go_upto_region 7 with (first | ((with_reducible refine gate_dst (N := 10) rfl ?_); refine box_event ?hg (N := 10) ?hd (cs := #[.int .i64 0, .int .i64 0, .int .i64 0]) (t := 30) ?hr ?_; (case hd => rfl); (case hg => rfl); (case hr => first | (go_simp; done) | (go_simp; rfl)); intro gb288 hg w19 hbox hb; have n0_ := Aside0.mk (blk_below (by exact BK284.out) hb); have n1_ := Aside0.mk (blk_below (by exact BK285.out) hb); have n2_ := Aside0.mk (below_step (by repeat (first | (with_reducible first | exact HB.out | apply below_alloc | apply pw_below_drewN | apply below_drew1 | refine below_set ?_ GE284.out | refine below_set ?_ GE285.out) | exact HB.out)) hb); have n3_ := Aside0.mk (hbox); have n4_ := Aside0.mk ((by rw [hg]; exact (below_size (by repeat (first | (with_reducible first | exact HB.out | apply below_alloc | apply pw_below_drewN | apply below_drew1 | refine below_set ?_ GE284.out | refine below_set ?_ GE285.out) | exact HB.out))) : w.heap.size ≤ gb288)); have n5_ := Aside0.mk ((by rw [hg]; exact (below_size (by repeat (first | (with_reducible first | exact HB.out | apply below_alloc | apply pw_below_drewN | apply below_drew1 | refine below_set ?_ GE284.out | refine below_set ?_ GE285.out) | exact HB.out))) : w.heap.size ≤ gb288)); have n6_ := Aside0.mk ((by rw [hg]; exact Nat.ne_of_lt (blk_lt (by exact BK284.out)) : gb284 ≠ gb288)); have n7_ := Aside0.mk ((by rw [hg]; exact Nat.ne_of_gt (blk_lt (by exact BK284.out)) : gb288 ≠ gb284)); have n8_ := Aside0.mk ((by rw [hg]; exact Nat.ne_of_lt (blk_lt (by exact BK285.out)) : gb285 ≠ gb288)); have n9_ := Aside0.mk ((by rw [hg]; exact Nat.ne_of_gt (blk_lt (by exact BK285.out)) : gb288 ≠ gb285)); clear BK284; clear BK285; clear HB; have BK284 := n0_; have BK285 := n1_; have HB := n2_; have BK288 := n3_; have GW288 := n4_; have GE288 := n5_; have NB284_288 := n6_; have NB288_284 := n7_; have NB285_288 := n8_; have NB288_285 := n9_; clear n0_ n1_ n2_ n3_ n4_ n5_ n6_ n7_ n8_ n9_; clear hb hbox hg; have hnb20 := NB288_284.out; have hnc20 := NB284_288.out; have hnb21 := NB288_285.out; have hnc21 := NB285_288.out; have hcz22_0 : w19.cell? ⟨gb288, 0, none⟩ = some (.int .i64 0) := (blk_cell BK288.out 0).trans rfl; have hcz22_1 : w19.cell? ⟨gb288, 1, none⟩ = some (.int .i64 0) := (blk_cell BK288.out 1).trans rfl; have hcz22_2 : w19.cell? ⟨gb288, 2, none⟩ = some (.int .i64 0) := (blk_cell BK288.out 2).trans rfl; have hfz22_0 := blk_frozen BK288.out 0; have hfz22_1 := blk_frozen BK288.out 1; have hfz22_2 := blk_frozen BK288.out 2))
        (try simp only [Act.put, List.setIfInBounds_toArray, List.set_cons_zero, List.set_cons_succ])
        go_cut [32] (fun v32 wc => ∃ (kq : Nat) (x32_17 : Bool), v32 = .bool x32_17 ∧ Aside0 (overfalllaw08_CodelQuiet.j1 kq x2_1 l3 (l3.length : Int) x16_1 x32_17 x285000_1 x285001_1 x285002_1 x285003_1 x285004_1 x285005_1 a1_0 a1_1 ((rd_T30 l3 x16_1).f0) ((rd_T30 l3 x16_1).f1) ((rd_T30 l3 x16_1).f2) = some r) ∧ Aside0 (kq ≤ k1) ∧ Aside0 (wc.heap[gb284]? = some (.cells #[.bool x285000_1, .int .i64 x285001_1, .bool x285002_1, .int .i64 x285003_1, .int .u64 x285004_1, .int .u64 x285005_1] 24 (0, 0))) ∧ Aside0 (wc.heap[gb285]? = some (.cells #[.int .i64 a1_0, .int .i64 a1_1] 26 (0, 0))) ∧ Aside0 (wc.heap[gb288]? = some (.cells #[.int .i64 ((rd_T30 l3 x16_1).f0), .int .i64 ((rd_T30 l3 x16_1).f1), .int .i64 ((rd_T30 l3 x16_1).f2)] 30 (0, 0))) ∧ Aside0 (Below w.heap.size w wc))
        case first =>
         have H := HC18.out
         clear HC18
         by_cases c23 : ((rd_T30 l3 x16_1).f1) ≥ a1_0
         ·rw [if_pos c23] at H
          have c23b0 : decide (a1_0 ≤ ((rd_T30 l3 x16_1).f1)) = true := decide_eq_true c23
          clear c23
          (first | rw [c23b0] | (simp only [i64_w, i32_w]; rw [c23b0]) | skip)
          have H' := Aside0.mk H
          clear H
          have hnb24 := NB288_284.out
          have hnc24 := NB284_288.out
          have hnb25 := NB288_285.out
          have hnc25 := NB285_288.out
          have hcz26_0 : w19.cell? ⟨gb288, 0, none⟩ = some (.int .i64 0) := (blk_cell BK288.out 0).trans rfl
          have hcz26_1 : w19.cell? ⟨gb288, 1, none⟩ = some (.int .i64 0) := (blk_cell BK288.out 1).trans rfl
          have hcz26_2 : w19.cell? ⟨gb288, 2, none⟩ = some (.int .i64 0) := (blk_cell BK288.out 2).trans rfl
          have hfz26_0 := blk_frozen BK288.out 0
          have hfz26_1 := blk_frozen BK288.out 1
          have hfz26_2 := blk_frozen BK288.out 2
          have hnb27 := NB285_284.out
          have hnc27 := NB284_285.out
          have hcz28_0 : w19.cell? ⟨gb285, 0, none⟩ = some (.int .i64 a1_0) := (blk_cell BK285.out 0).trans rfl
          have hcz28_1 : w19.cell? ⟨gb285, 1, none⟩ = some (.int .i64 a1_1) := (blk_cell BK285.out 1).trans rfl
          have hfz28_0 := blk_frozen BK285.out 0
          have hfz28_1 := blk_frozen BK285.out 1
          go_wp2
          go_meet
          case rel => exact ⟨_, (decide (((rd_T30 l3 x16_1).f2) > 1)), (by first | rfl | (simp; done) | (simp [*]; done)), H', ⟨by have := HK1.out; first | omega | exact Nat.le_refl _⟩, ⟨by refine blk_far ?_ NB284_288.out _; refine blk_far ?_ NB284_288.out _; refine blk_far ?_ NB284_288.out _; exact BK284.out⟩, ⟨by refine blk_far ?_ NB285_288.out _; refine blk_far ?_ NB285_288.out _; refine blk_far ?_ NB285_288.out _; exact BK285.out⟩, ⟨by refine blk_put (cs := #[.int .i64 ((rd_T30 l3 x16_1).f0), .int .i64 ((rd_T30 l3 x16_1).f1), .int .i64 0]) ?_ 2 _ rfl; refine blk_put (cs := #[.int .i64 ((rd_T30 l3 x16_1).f0), .int .i64 0, .int .i64 0]) ?_ 1 _ rfl; refine blk_put (cs := #[.int .i64 0, .int .i64 0, .int .i64 0]) ?_ 0 _ rfl; exact BK288.out⟩, ⟨by repeat (first | (with_reducible first | exact HB.out | apply below_alloc | apply pw_below_drewN | apply below_drew1 | refine below_set ?_ GE284.out | refine below_set ?_ GE285.out | refine below_set ?_ GE288.out) | exact HB.out)⟩⟩
         ·rw [if_neg c23] at H
          have c23b0 : decide (a1_0 ≤ ((rd_T30 l3 x16_1).f1)) = false := decide_eq_false c23
          clear c23
          (first | rw [c23b0] | (simp only [i64_w, i32_w]; rw [c23b0]) | skip)
          have H' := Aside0.mk H
          clear H
          have hnb29 := NB288_284.out
          have hnc29 := NB284_288.out
          have hnb30 := NB288_285.out
          have hnc30 := NB285_288.out
          have hcz31_0 : w19.cell? ⟨gb288, 0, none⟩ = some (.int .i64 0) := (blk_cell BK288.out 0).trans rfl
          have hcz31_1 : w19.cell? ⟨gb288, 1, none⟩ = some (.int .i64 0) := (blk_cell BK288.out 1).trans rfl
          have hcz31_2 : w19.cell? ⟨gb288, 2, none⟩ = some (.int .i64 0) := (blk_cell BK288.out 2).trans rfl
          have hfz31_0 := blk_frozen BK288.out 0
          have hfz31_1 := blk_frozen BK288.out 1
          have hfz31_2 := blk_frozen BK288.out 2
          have hnb32 := NB285_284.out
          have hnc32 := NB284_285.out
          have hcz33_0 : w19.cell? ⟨gb285, 0, none⟩ = some (.int .i64 a1_0) := (blk_cell BK285.out 0).trans rfl
          have hcz33_1 : w19.cell? ⟨gb285, 1, none⟩ = some (.int .i64 a1_1) := (blk_cell BK285.out 1).trans rfl
          have hfz33_0 := blk_frozen BK285.out 0
          have hfz33_1 := blk_frozen BK285.out 1
          go_wp2
          go_meet
          case rel => exact ⟨_, (false), (by first | rfl | (simp; done) | (simp [*]; done)), H', ⟨by have := HK1.out; first | omega | exact Nat.le_refl _⟩, ⟨by refine blk_far ?_ NB284_288.out _; refine blk_far ?_ NB284_288.out _; refine blk_far ?_ NB284_288.out _; exact BK284.out⟩, ⟨by refine blk_far ?_ NB285_288.out _; refine blk_far ?_ NB285_288.out _; refine blk_far ?_ NB285_288.out _; exact BK285.out⟩, ⟨by refine blk_put (cs := #[.int .i64 ((rd_T30 l3 x16_1).f0), .int .i64 ((rd_T30 l3 x16_1).f1), .int .i64 0]) ?_ 2 _ rfl; refine blk_put (cs := #[.int .i64 ((rd_T30 l3 x16_1).f0), .int .i64 0, .int .i64 0]) ?_ 1 _ rfl; refine blk_put (cs := #[.int .i64 0, .int .i64 0, .int .i64 0]) ?_ 0 _ rfl; exact BK288.out⟩, ⟨by repeat (first | (with_reducible first | exact HB.out | apply below_alloc | apply pw_below_drewN | apply below_drew1 | refine below_set ?_ GE284.out | refine below_set ?_ GE285.out | refine below_set ?_ GE288.out) | exact HB.out)⟩⟩
        case rest =>
         clear HC18
         try clear c1
         try clear c2
         try clear p2
         try clear q2
         try clear hx2
         try clear c3
         try clear c6
         try clear c9
         try clear c10
         try clear c10b0
         try clear c11
         try clear c11b0
         try clear c12
         try clear c12b0
         try clear c13
         try clear c13b0
         try clear c15
         try clear c16
         try clear c20
         try clear c21
         try clear c23
         try clear c23b0
         try clear c24
         try clear c25
         try clear c27
         try clear p28
         try clear q28
         try clear hx28
         try clear c29
         try clear c30
         try clear c32
         try clear hcz17_0
         try clear hcz17_1
         try clear hcz17_2
         try clear hcz22_0
         try clear hcz22_1
         try clear hcz22_2
         try clear hcz26_0
         try clear hcz26_1
         try clear hcz26_2
         try clear hcz28_0
         try clear hcz28_1
         try clear hcz31_0
         try clear hcz31_1
         try clear hcz31_2
         try clear hcz33_0
         try clear hcz33_1
         try clear hfz17_0
         try clear hfz17_1
         try clear hfz17_2
         try clear hfz22_0
         try clear hfz22_1
         try clear hfz22_2
         try clear hfz26_0
         try clear hfz26_1
         try clear hfz26_2
         try clear hfz28_0
         try clear hfz28_1
         try clear hfz31_0
         try clear hfz31_1
         try clear hfz31_2
         try clear hfz33_0
         try clear hfz33_1
         try clear hx287_0
         try clear hx287_1
         try clear hx287_2
         try clear p2
         try clear p287
         try clear q287
         (try clear BK284); (try clear BK285); (try clear BK288); (try clear HB)
         obtain ⟨kq, x32_17, rfl, HA, HJ17, BK284, BK285, BK288, HB⟩ := hcut
         cases kq with
         | zero => exact absurd HA.out (by simp [overfalllaw08_CodelQuiet.j1])
         | succ kj17 =>
          have H := HA.out
          clear HA
          simp only [overfalllaw08_CodelQuiet.j1] at H
          have HC34 := Aside0.mk H
          clear H
          go_upto_if 32 with (fail)
          go_cut [] (fun wc => ∃ (kq : Nat) (x289002_33 : Int), Aside0 (overfalllaw08_CodelQuiet.j2 kq x2_1 l3 (l3.length : Int) x16_1 x285000_1 x285001_1 x285002_1 x285003_1 x285004_1 x285005_1 a1_0 a1_1 ((rd_T30 l3 x16_1).f0) ((rd_T30 l3 x16_1).f1) x289002_33 = some r) ∧ Aside0 (kq ≤ kj17) ∧ Aside0 (wc.heap[gb284]? = some (.cells #[.bool x285000_1, .int .i64 x285001_1, .bool x285002_1, .int .i64 x285003_1, .int .u64 x285004_1, .int .u64 x285005_1] 24 (0, 0))) ∧ Aside0 (wc.heap[gb285]? = some (.cells #[.int .i64 a1_0, .int .i64 a1_1] 26 (0, 0))) ∧ Aside0 (wc.heap[gb288]? = some (.cells #[.int .i64 ((rd_T30 l3 x16_1).f0), .int .i64 ((rd_T30 l3 x16_1).f1), .int .i64 x289002_33] 30 (0, 0))) ∧ Aside0 (Below w.heap.size w wc))
          case first =>
           have H := HC34.out
           clear HC34
           by_cases c35 : x32_17 = true
           ·subst c35
            have H1 : (overfalllaw08_CodelQuiet.j2 kj17 x2_1 l3 (l3.length : Int) x16_1 x285000_1 x285001_1 x285002_1 x285003_1 x285004_1 x285005_1 a1_0 a1_1 ((rd_T30 l3 x16_1).f0) ((rd_T30 l3 x16_1).f1) 1) = some r := by rw [if_pos rfl] at H; exact H
            clear H
            have H := H1
            clear H1
            have H' := Aside0.mk H
            clear H
            have hnb36 := NB288_284.out
            have hnc36 := NB284_288.out
            have hnb37 := NB288_285.out
            have hnc37 := NB285_288.out
            have hcz38_0 : wc.cell? ⟨gb288, 0, none⟩ = some (.int .i64 ((rd_T30 l3 x16_1).f0)) := (blk_cell BK288.out 0).trans rfl
            have hcz38_1 : wc.cell? ⟨gb288, 1, none⟩ = some (.int .i64 ((rd_T30 l3 x16_1).f1)) := (blk_cell BK288.out 1).trans rfl
            have hcz38_2 : wc.cell? ⟨gb288, 2, none⟩ = some (.int .i64 ((rd_T30 l3 x16_1).f2)) := (blk_cell BK288.out 2).trans rfl
            have hfz38_0 := blk_frozen BK288.out 0
            have hfz38_1 := blk_frozen BK288.out 1
            have hfz38_2 := blk_frozen BK288.out 2
            go_wp2
            go_meet
            case rel => exact ⟨_, (1), H', ⟨by have := HK1.out; have := HJ17.out; first | omega | exact Nat.le_refl _⟩, ⟨by refine blk_far ?_ NB284_288.out _; exact BK284.out⟩, ⟨by refine blk_far ?_ NB285_288.out _; exact BK285.out⟩, ⟨by refine blk_put (cs := #[.int .i64 ((rd_T30 l3 x16_1).f0), .int .i64 ((rd_T30 l3 x16_1).f1), .int .i64 ((rd_T30 l3 x16_1).f2)]) ?_ 2 _ rfl; exact BK288.out⟩, ⟨by repeat (first | (with_reducible first | exact HB.out | apply below_alloc | apply pw_below_drewN | apply below_drew1 | refine below_set ?_ GE284.out | refine below_set ?_ GE285.out | refine below_set ?_ GE288.out) | exact HB.out)⟩⟩
           ·replace c35 := Bool.eq_false_iff.mpr c35
            subst c35
            have H1 : (overfalllaw08_CodelQuiet.j2 kj17 x2_1 l3 (l3.length : Int) x16_1 x285000_1 x285001_1 x285002_1 x285003_1 x285004_1 x285005_1 a1_0 a1_1 ((rd_T30 l3 x16_1).f0) ((rd_T30 l3 x16_1).f1) ((rd_T30 l3 x16_1).f2)) = some r := by rw [if_neg (show ¬ (false = true) by decide)] at H; exact H
            clear H
            have H := H1
            clear H1
            have H' := Aside0.mk H
            clear H
            go_wp2
            go_meet
            case rel => exact ⟨_, (((rd_T30 l3 x16_1).f2)), H', ⟨by have := HK1.out; have := HJ17.out; first | omega | exact Nat.le_refl _⟩, ⟨by exact BK284.out⟩, ⟨by exact BK285.out⟩, ⟨by exact BK288.out⟩, ⟨by repeat (first | (with_reducible first | exact HB.out | apply below_alloc | apply pw_below_drewN | apply below_drew1 | refine below_set ?_ GE284.out | refine below_set ?_ GE285.out | refine below_set ?_ GE288.out) | exact HB.out)⟩⟩
          case rest =>
           clear HC34
           try clear c1
           try clear c2
           try clear p2
           try clear q2
           try clear hx2
           try clear c3
           try clear c6
           try clear c9
           try clear c10
           try clear c10b0
           try clear c11
           try clear c11b0
           try clear c12
           try clear c12b0
           try clear c13
           try clear c13b0
           try clear c15
           try clear c16
           try clear c20
           try clear c21
           try clear c23
           try clear c23b0
           try clear c24
           try clear c25
           try clear c27
           try clear p28
           try clear q28
           try clear hx28
           try clear c29
           try clear c30
           try clear c32
           try clear c35
           try clear c36
           try clear c37
           try clear hcz17_0
           try clear hcz17_1
           try clear hcz17_2
           try clear hcz22_0
           try clear hcz22_1
           try clear hcz22_2
           try clear hcz26_0
           try clear hcz26_1
           try clear hcz26_2
           try clear hcz28_0
           try clear hcz28_1
           try clear hcz31_0
           try clear hcz31_1
           try clear hcz31_2
           try clear hcz33_0
           try clear hcz33_1
           try clear hcz38_0
           try clear hcz38_1
           try clear hcz38_2
           try clear hfz17_0
           try clear hfz17_1
           try clear hfz17_2
           try clear hfz22_0
           try clear hfz22_1
           try clear hfz22_2
           try clear hfz26_0
           try clear hfz26_1
           try clear hfz26_2
           try clear hfz28_0
           try clear hfz28_1
           try clear hfz31_0
           try clear hfz31_1
           try clear hfz31_2
           try clear hfz33_0
           try clear hfz33_1
           try clear hfz38_0
           try clear hfz38_1
           try clear hfz38_2
           try clear hx287_0
           try clear hx287_1
           try clear hx287_2
           try clear p2
           try clear p28
           try clear p287
           try clear q2
           try clear q28
           try clear q287
           (try clear BK284); (try clear BK285); (try clear BK288); (try clear HB)
           obtain ⟨kq, x289002_33, HA, HJ33, BK284, BK285, BK288, HB⟩ := hcut
           cases kq with
           | zero => exact absurd HA.out (by simp [overfalllaw08_CodelQuiet.j2])
           | succ kj33 =>
            have H := HA.out
            clear HA
            simp only [overfalllaw08_CodelQuiet.j2] at H
            replace H := Option.bind_eq_some_iff.mp H
            obtain ⟨t289, A390, H⟩ := H
            replace H : ((codel_State_Look.f kj33 x285000_1 x285001_1 x285002_1 x285003_1 x285004_1 x285005_1 a1_0 a1_1 t289 ((rd_T30 l3 x16_1).f1) x289002_33).bind fun bt290 => (if bt290.2.2.2.2.2.2 = 0 then (if bt290.2.2.1 = true then (none) else (if bt290.1 = true then (none) else (overfalllaw08_CodelQuiet.l0 kj33 t289 l3 (l3.length : Int) (wrap64 (x16_1 + 1)) bt290.1 bt290.2.1 bt290.2.2.1 bt290.2.2.2.1 bt290.2.2.2.2.1 bt290.2.2.2.2.2.1 a1_0 a1_1))) else (none))) = some r := H
            have A39 := Aside0.mk A390
            clear A390
            replace H := Option.bind_eq_some_iff.mp H
            obtain ⟨⟨t290, t291, t292, t293, t294, t295, t296⟩, A400, H⟩ := H
            replace H : (if t296 = 0 then (if t292 = true then (none) else (if t290 = true then (none) else (overfalllaw08_CodelQuiet.l0 kj33 t289 l3 (l3.length : Int) (wrap64 (x16_1 + 1)) t290 t291 t292 t293 t294 t295 a1_0 a1_1))) else (none)) = some r := H
            have A40 := Aside0.mk A400
            clear A400
            by_cases c41 : t296 = 0
            ·rw [if_pos c41] at H
             have c41b0 : (t296 == 0) = true := beq_iff_eq.mpr c41
             have c41b1 : (t296 != 0) = false := bne_eq_false_iff_eq.mpr c41
             clear c41
             by_cases c42 : t292 = true
             ·subst c42
              have H1 : (none) = some r := by rw [if_pos rfl] at H; exact H
              clear H
              have H := H1
              clear H1
              exact absurd H (by simp)
             ·replace c42 := Bool.eq_false_iff.mpr c42
              subst c42
              have H1 : (if t290 = true then (none) else (overfalllaw08_CodelQuiet.l0 kj33 t289 l3 (l3.length : Int) (wrap64 (x16_1 + 1)) t290 t291 false t293 t294 t295 a1_0 a1_1)) = some r := by rw [if_neg (show ¬ (false = true) by decide)] at H; exact H
              clear H
              have H := H1
              clear H1
              by_cases c43 : t290 = true
              ·subst c43
               have H1 : (none) = some r := by rw [if_pos rfl] at H; exact H
               clear H
               have H := H1
               clear H1
               exact absurd H (by simp)
              ·replace c43 := Bool.eq_false_iff.mpr c43
               subst c43
               have H1 : (overfalllaw08_CodelQuiet.l0 kj33 t289 l3 (l3.length : Int) (wrap64 (x16_1 + 1)) false t291 false t293 t294 t295 a1_0 a1_1) = some r := by rw [if_neg (show ¬ (false = true) by decide)] at H; exact H
               clear H
               have H := H1
               clear H1
               have H' := Aside0.mk H
               clear H
               have hnb44 := NB288_284.out
               have hnc44 := NB284_288.out
               have hnb45 := NB288_285.out
               have hnc45 := NB285_288.out
               have hcz46_0 : wc.cell? ⟨gb288, 0, none⟩ = some (.int .i64 ((rd_T30 l3 x16_1).f0)) := (blk_cell BK288.out 0).trans rfl
               have hcz46_1 : wc.cell? ⟨gb288, 1, none⟩ = some (.int .i64 ((rd_T30 l3 x16_1).f1)) := (blk_cell BK288.out 1).trans rfl
               have hcz46_2 : wc.cell? ⟨gb288, 2, none⟩ = some (.int .i64 x289002_33) := (blk_cell BK288.out 2).trans rfl
               have hfz46_0 := blk_frozen BK288.out 0
               have hfz46_1 := blk_frozen BK288.out 1
               have hfz46_2 := blk_frozen BK288.out 2
               go_wp2_with (first | ((with_reducible refine gate_callee (f := 10) rfl ?_); refine goesL_ (some 37) rfl rfl Try.func10 (by kernel_rfl) rfl #[.int .i64 x2_1, .int .i64 ((rd_T30 l3 x16_1).f0)] rfl (by (try simp only [List.map_toArray, List.map_cons, List.map_nil]); first | done | rfl | (simp only [List.length_drop, List.length_take]; rfl)) ?_; (with_reducible refine (overfallref02_Add.calls kj33 x2_1 ((rd_T30 l3 x16_1).f0) t289 _ A39.out).mono ?_); rintro e w47 ⟨rfl, hb⟩; refine ⟨_, rfl, ?_⟩; have n0_ := Aside0.mk (blk_below (by exact BK284.out) hb); have n1_ := Aside0.mk (blk_below (by exact BK285.out) hb); have n2_ := Aside0.mk (blk_below (by exact BK288.out) hb); have n3_ := Aside0.mk (below_step (by repeat (first | (with_reducible first | exact HB.out | apply below_alloc | apply pw_below_drewN | apply below_drew1 | refine below_set ?_ GE284.out | refine below_set ?_ GE285.out | refine below_set ?_ GE288.out) | exact HB.out)) hb); clear BK284; clear BK285; clear BK288; clear HB; have BK284 := n0_; have BK285 := n1_; have BK288 := n2_; have HB := n3_; clear n0_ n1_ n2_ n3_; (try clear hb); (try clear hb2); (try clear hk); (try clear hi); have hnb48 := NB284_285.out; have hnc48 := NB285_284.out; have hcz49_0 : w47.cell? ⟨gb284, 0, none⟩ = some (.bool x285000_1) := (blk_cell BK284.out 0).trans rfl; have hcz49_1 : w47.cell? ⟨gb284, 1, none⟩ = some (.int .i64 x285001_1) := (blk_cell BK284.out 1).trans rfl; have hcz49_2 : w47.cell? ⟨gb284, 2, none⟩ = some (.bool x285002_1) := (blk_cell BK284.out 2).trans rfl; have hcz49_3 : w47.cell? ⟨gb284, 3, none⟩ = some (.int .i64 x285003_1) := (blk_cell BK284.out 3).trans rfl; have hcz49_4 : w47.cell? ⟨gb284, 4, none⟩ = some (.int .u64 x285004_1) := (blk_cell BK284.out 4).trans rfl; have hcz49_5 : w47.cell? ⟨gb284, 5, none⟩ = some (.int .u64 x285005_1) := (blk_cell BK284.out 5).trans rfl; have hfz49_0 := blk_frozen BK284.out 0; have hfz49_1 := blk_frozen BK284.out 1; have hfz49_2 := blk_frozen BK284.out 2; have hfz49_3 := blk_frozen BK284.out 3; have hfz49_4 := blk_frozen BK284.out 4; have hfz49_5 := blk_frozen BK284.out 5; have hcz50_0 : w47.cell? ⟨gb285, 0, none⟩ = some (.int .i64 a1_0) := (blk_cell BK285.out 0).trans rfl; have hcz50_1 : w47.cell? ⟨gb285, 1, none⟩ = some (.int .i64 a1_1) := (blk_cell BK285.out 1).trans rfl; have hfz50_0 := blk_frozen BK285.out 0; have hfz50_1 := blk_frozen BK285.out 1; have hcz51_0 : w47.cell? ⟨gb288, 0, none⟩ = some (.int .i64 ((rd_T30 l3 x16_1).f0)) := (blk_cell BK288.out 0).trans rfl; have hcz51_1 : w47.cell? ⟨gb288, 1, none⟩ = some (.int .i64 ((rd_T30 l3 x16_1).f1)) := (blk_cell BK288.out 1).trans rfl; have hcz51_2 : w47.cell? ⟨gb288, 2, none⟩ = some (.int .i64 x289002_33) := (blk_cell BK288.out 2).trans rfl; have hfz51_0 := blk_frozen BK288.out 0; have hfz51_1 := blk_frozen BK288.out 1; have hfz51_2 := blk_frozen BK288.out 2) | ((with_reducible refine gate_callee (f := 11) rfl ?_); refine goesL_ (some 46) rfl rfl Try.func11 (by kernel_rfl) rfl #[.agg #[.bool x285000_1, .int .i64 x285001_1, .bool x285002_1, .int .i64 x285003_1, .int .u64 x285004_1, .int .u64 x285005_1], .agg #[.int .i64 a1_0, .int .i64 a1_1], .int .i64 t289, .int .i64 ((rd_T30 l3 x16_1).f1), .int .i64 x289002_33] rfl (by (try simp only [List.map_toArray, List.map_cons, List.map_nil]); first | done | rfl | (simp only [List.length_drop, List.length_take]; rfl)) ?_; (with_reducible refine (codel_State_Look.calls kj33 x285000_1 x285001_1 x285002_1 x285003_1 x285004_1 x285005_1 a1_0 a1_1 t289 ((rd_T30 l3 x16_1).f1) x289002_33 false t291 false t293 t294 t295 t296 _ A40.out).mono ?_); rintro e w52 ⟨rfl, hb⟩; refine ⟨_, rfl, ?_⟩; have n0_ := Aside0.mk (blk_below (by exact BK284.out) hb); have n1_ := Aside0.mk (blk_below (by exact BK285.out) hb); have n2_ := Aside0.mk (blk_below (by exact BK288.out) hb); have n3_ := Aside0.mk (below_step (by repeat (first | (with_reducible first | exact HB.out | apply below_alloc | apply pw_below_drewN | apply below_drew1 | refine below_set ?_ GE284.out | refine below_set ?_ GE285.out | refine below_set ?_ GE288.out) | exact HB.out)) hb); clear BK284; clear BK285; clear BK288; clear HB; have BK284 := n0_; have BK285 := n1_; have BK288 := n2_; have HB := n3_; clear n0_ n1_ n2_ n3_; (try clear hb); (try clear hb2); (try clear hk); (try clear hi); have hcz53_0 : w52.cell? ⟨gb284, 0, none⟩ = some (.bool x285000_1) := (blk_cell BK284.out 0).trans rfl; have hcz53_1 : w52.cell? ⟨gb284, 1, none⟩ = some (.int .i64 x285001_1) := (blk_cell BK284.out 1).trans rfl; have hcz53_2 : w52.cell? ⟨gb284, 2, none⟩ = some (.bool x285002_1) := (blk_cell BK284.out 2).trans rfl; have hcz53_3 : w52.cell? ⟨gb284, 3, none⟩ = some (.int .i64 x285003_1) := (blk_cell BK284.out 3).trans rfl; have hcz53_4 : w52.cell? ⟨gb284, 4, none⟩ = some (.int .u64 x285004_1) := (blk_cell BK284.out 4).trans rfl; have hcz53_5 : w52.cell? ⟨gb284, 5, none⟩ = some (.int .u64 x285005_1) := (blk_cell BK284.out 5).trans rfl; have hfz53_0 := blk_frozen BK284.out 0; have hfz53_1 := blk_frozen BK284.out 1; have hfz53_2 := blk_frozen BK284.out 2; have hfz53_3 := blk_frozen BK284.out 3; have hfz53_4 := blk_frozen BK284.out 4; have hfz53_5 := blk_frozen BK284.out 5))
               go_roundg kj33
               case measure => have := HK1.out; have := HJ17.out; have := HJ33.out; omega
               case rel => exact ⟨(t289), (wrap64 (x16_1 + 1)), (false), (t291), (false), (t293), (t294), (t295), (by first | rfl | (simp; done) | (simp [*]; done)), (by first | rfl | (simp; done) | (simp [*]; done)), H', ⟨by have := HK1.out; have := HJ17.out; have := HJ33.out; omega⟩, ⟨by refine blk_put (cs := #[.bool false, .int .i64 t291, .bool false, .int .i64 t293, .int .u64 t294, .int .u64 x285005_1]) ?_ 5 _ rfl; refine blk_put (cs := #[.bool false, .int .i64 t291, .bool false, .int .i64 t293, .int .u64 x285004_1, .int .u64 x285005_1]) ?_ 4 _ rfl; refine blk_put (cs := #[.bool false, .int .i64 t291, .bool false, .int .i64 x285003_1, .int .u64 x285004_1, .int .u64 x285005_1]) ?_ 3 _ rfl; refine blk_put (cs := #[.bool false, .int .i64 t291, .bool x285002_1, .int .i64 x285003_1, .int .u64 x285004_1, .int .u64 x285005_1]) ?_ 2 _ rfl; refine blk_put (cs := #[.bool false, .int .i64 x285001_1, .bool x285002_1, .int .i64 x285003_1, .int .u64 x285004_1, .int .u64 x285005_1]) ?_ 1 _ rfl; refine blk_put (cs := #[.bool x285000_1, .int .i64 x285001_1, .bool x285002_1, .int .i64 x285003_1, .int .u64 x285004_1, .int .u64 x285005_1]) ?_ 0 _ rfl; exact BK284.out⟩, ⟨by refine blk_far ?_ NB285_284.out _; refine blk_far ?_ NB285_284.out _; refine blk_far ?_ NB285_284.out _; refine blk_far ?_ NB285_284.out _; refine blk_far ?_ NB285_284.out _; refine blk_far ?_ NB285_284.out _; exact BK285.out⟩, ⟨by repeat (first | (with_reducible first | exact HB.out | apply below_alloc | apply pw_below_drewN | apply below_drew1 | refine below_set ?_ GE284.out | refine below_set ?_ GE285.out | refine below_set ?_ GE288.out) | exact HB.out)⟩⟩
            ·rw [if_neg c41] at H
             exact absurd H (by simp)
      ·rw [if_neg c12] at H
       exact absurd H (by simp)
     ·rw [if_neg c11] at H
      exact absurd H (by simp)
    ·rw [if_neg c10] at H
     have c10b0 : decide (x16_1 < (l3.length : Int)) = false := decide_eq_false c10
     clear c10
     obtain rfl := Option.some.inj H
     go_wp2
     go_ret
     exact ⟨by first | rfl | (simp [errW_none, errW_some] <;> rfl) | (simp [*, errW_none, errW_some] <;> rfl), by repeat (first | (with_reducible first | exact HB.out | apply below_alloc | apply pw_below_drewN | apply below_drew1 | refine below_set ?_ GE284.out | refine below_set ?_ GE285.out) | exact HB.out)⟩
 ·replace c6 := Bool.eq_false_iff.mpr c6
  subst c6
  have H1 : (none) = some r := by rw [if_neg (show ¬ (false = true) by decide)] at H; exact H
  clear H
  have H := H1
  clear H1
  exact absurd H (by simp)

end Go.Proofs.Ytiiffgmbkajkhaa.Q

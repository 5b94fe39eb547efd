-- Laid by a program of this claim's session (wip/tools/myprint.py) over the kit's printer.
import Derived.Test.YtiiffgmbkajkhaaEx0
import Derived.Test.YtiiffgmbkajkhaaEx6
namespace Go.Proofs.Ytiiffgmbkajkhaa.E
open Go.RowKit Go.Proofs.YtiiffgmbkajkhaaW.PrintWords Go.Proofs.YtiiffgmbkajkhaaW.PrintLast Go.Proofs.YtiiffgmbkajkhaaW.PrintMore
attribute [local go_sem] max2_int min2_int max_two min_two max_three min_three max_four min_four   -- for this text's walks alone
set_option linter.unusedVariables false
set_option linter.unusedSimpArgs false

/-! ### overfallref01_Mul: function 30 -/
mutual
def overfallref01_Mul.l0 : Nat → List Int → List Int → List Int → Int → Option (Int × Int)
 | 0, _, _, _, _ => none
 | k + 1, x5, x6, x7, x8 => if x8 < 4 then (overfallref01_Mul.l1 k x5 x6 x7 x8 0 0) else (if 8 ≤ (x7.length : Int) then ((overfallref01_Value.f k (x7.take 8)).bind fun bt298 => (some (bt298.1, bt298.2))) else (none))
def overfallref01_Mul.l1 : Nat → List Int → List Int → List Int → Int → Int → Int → Option (Int × Int)
 | 0, _, _, _, _, _, _ => none
 | k + 1, x5, x6, x7, x8, x9, x10 => if x10 < 4 then (if 0 ≤ (wrap64 (x8 + x10)) then (if (wrap64 (x8 + x10)) < (x7.length : Int) then (if 0 ≤ x8 then (if x8 < (x5.length : Int) then (if 0 ≤ x10 then (if x10 < (x6.length : Int) then (overfallref01_Mul.l1 k x5 x6 (x7.set ((wrap64 (x8 + x10)) : Int).toNat (Int.tmod (wrap64 ((wrap64 ((rd x7 (wrap64 (x8 + x10))) + (wrap64 ((rd x5 x8) * (rd x6 x10))))) + x9)) 65536)) x8 (wrap64 (Int.tdiv (wrap64 ((wrap64 ((rd x7 (wrap64 (x8 + x10))) + (wrap64 ((rd x5 x8) * (rd x6 x10))))) + x9)) 65536)) (wrap64 (x10 + 1))) else (none)) else (none)) else (none)) else (none)) else (none)) else (none)) else (if 0 ≤ (wrap64 (x8 + 4)) then (if (wrap64 (x8 + 4)) < (x7.length : Int) then (overfallref01_Mul.l0 k x5 x6 (x7.set ((wrap64 (x8 + 4)) : Int).toNat (wrap64 ((rd x7 (wrap64 (x8 + 4))) + x9))) (wrap64 (x8 + 1))) else (none)) else (none))
end
def overfallref01_Mul.f (k : Nat) (a0 : Int) (a1 : Int) : Option (Int × Int) := (overfallref01_Digits.f k 0 a0).bind fun t285 => ((overfallref01_Digits.f k 0 a1).bind fun t288 => (if 9 ≤ 35184372088832 then (overfallref01_Mul.l0 k t285 t288 (List.replicate 9 0) 0) else (none)))
theorem overfallref01_Mul.mono_l : ∀ k, (∀ y0 y1 y2 y3, LeO (overfallref01_Mul.l0 k y0 y1 y2 y3) (overfallref01_Mul.l0 (k + 1) y0 y1 y2 y3)) ∧ (∀ y0 y1 y2 y3 y4 y5, LeO (overfallref01_Mul.l1 k y0 y1 y2 y3 y4 y5) (overfallref01_Mul.l1 (k + 1) y0 y1 y2 y3 y4 y5))
 | 0 => ⟨fun _ _ _ _ r h => by simp [overfallref01_Mul.l0] at h, fun _ _ _ _ _ _ r h => by simp [overfallref01_Mul.l1] at h⟩
 | k + 1 => by
  obtain ⟨ih0, ih1⟩ := overfallref01_Mul.mono_l k
  refine ⟨?_, ?_⟩
  ·intro y0 y1 y2 y3
   unfold overfallref01_Mul.l0
   repeat' first
   | (with_reducible exact ih0 _ _ _ _)
   | (with_reducible exact ih1 _ _ _ _ _ _)
   | (with_reducible exact overfallref01_Digits.mono _ _ _)
   | (with_reducible exact overfallref01_Value.mono _ _)
   | (with_reducible exact LeO.refl _)
   | (with_reducible exact LeO.none _)
   | (with_reducible refine LeO.ite ?_ ?_)
   | (with_reducible refine LeO.bind ?_ (fun _ => ?_))
   | exact ih0 _ _ _ _
   | exact ih1 _ _ _ _ _ _
   | exact overfallref01_Digits.mono _ _ _
   | exact overfallref01_Value.mono _ _
   | exact LeO.none _
   | refine LeO.ite ?_ ?_
   | refine LeO.bind ?_ (fun _ => ?_)
  ·intro y0 y1 y2 y3 y4 y5
   unfold overfallref01_Mul.l1
   repeat' first
   | (with_reducible exact ih0 _ _ _ _)
   | (with_reducible exact ih1 _ _ _ _ _ _)
   | (with_reducible exact overfallref01_Digits.mono _ _ _)
   | (with_reducible exact overfallref01_Value.mono _ _)
   | (with_reducible exact LeO.refl _)
   | (with_reducible exact LeO.none _)
   | (with_reducible refine LeO.ite ?_ ?_)
   | (with_reducible refine LeO.bind ?_ (fun _ => ?_))
   | exact ih0 _ _ _ _
   | exact ih1 _ _ _ _ _ _
   | exact overfallref01_Digits.mono _ _ _
   | exact overfallref01_Value.mono _ _
   | exact LeO.none _
   | refine LeO.ite ?_ ?_
   | refine LeO.bind ?_ (fun _ => ?_)
theorem overfallref01_Mul.mono : ∀ a0 a1 k, LeO (overfallref01_Mul.f k a0 a1) (overfallref01_Mul.f (k + 1) a0 a1) := by
 intro a0 a1 k
 obtain ⟨ih0, ih1⟩ := overfallref01_Mul.mono_l k
 unfold overfallref01_Mul.f
 repeat' first
   | (with_reducible exact ih0 _ _ _ _)
   | (with_reducible exact ih1 _ _ _ _ _ _)
   | (with_reducible exact overfallref01_Digits.mono _ _ _)
   | (with_reducible exact overfallref01_Value.mono _ _)
   | (with_reducible exact LeO.refl _)
   | (with_reducible exact LeO.none _)
   | (with_reducible refine LeO.ite ?_ ?_)
   | (with_reducible refine LeO.bind ?_ (fun _ => ?_))
   | exact ih0 _ _ _ _
   | exact ih1 _ _ _ _ _ _
   | exact overfallref01_Digits.mono _ _ _
   | exact overfallref01_Value.mono _ _
   | exact LeO.none _
   | refine LeO.ite ?_ ?_
   | refine LeO.bind ?_ (fun _ => ?_)
set_option maxHeartbeats 8000000 in
set_option maxRecDepth 100000 in
theorem overfallref01_Mul.calls (k : Nat) (a0 : Int) (a1 : Int) (r1 : Int) (r2 : Int) (w : World) (h : overfallref01_Mul.f k a0 a1 = some (r1, r2)) :
  Calls Try.prog 30 #[.int .u64 a0, .int .u64 a1] w fun e w' => e = .returned (.agg #[.int .u64 r1, .int .u64 r2]) ∧ Below w.heap.size w w' := by
 have hu50 := Try.underlying50
 have HB := Aside0.mk (Below.refl w.heap.size w)
 have H : ((overfallref01_Digits.f k 0 a0).bind fun t285 => ((overfallref01_Digits.f k 0 a1).bind fun t288 => (if 9 ≤ 35184372088832 then (overfallref01_Mul.l0 k t285 t288 (List.replicate 9 0) 0) else (none)))) = some (r1, r2) := h
 clear h
 replace H := Option.bind_eq_some_iff.mp H
 obtain ⟨t285, A30, H⟩ := H
 replace H : ((overfallref01_Digits.f k 0 a1).bind fun t288 => (if 9 ≤ 35184372088832 then (overfallref01_Mul.l0 k t285 t288 (List.replicate 9 0) 0) else (none))) = some (r1, r2) := H
 have A3 := Aside0.mk A30
 clear A30
 replace H := Option.bind_eq_some_iff.mp H
 obtain ⟨t288, A40, H⟩ := H
 replace H : (if 9 ≤ 35184372088832 then (overfallref01_Mul.l0 k t285 t288 (List.replicate 9 0) 0) else (none)) = some (r1, r2) := H
 have A4 := Aside0.mk A40
 clear A40
 by_cases c5 : 9 ≤ 35184372088832
 ·rw [if_pos c5] at H
  have c5b0 := eq_true c5
  have c5b1 : decide (9 ≤ 35184372088832) = true := decide_eq_true c5
  clear c5
  obtain ⟨y291, hy291⟩ : ∃ y_ : List Int, y_ = (List.replicate 9 0) := ⟨_, rfl⟩
  replace H : (overfallref01_Mul.l0 k t285 t288 y291 0) = some (r1, r2) := by first | (rw [hy291]; with_reducible exact H) | (have H2_ := (Option.bind_some _ _).symm.trans H; rw [hy291]; with_reducible exact H2_) | (have H2_ := (Option.bind_some _ _).symm.trans H; with_reducible exact H2_) | with_reducible exact H | (rw [hy291]; exact H) | exact H
  have Ny291 := Aside0.mk hy291
  clear hy291
  have H' := Aside0.mk H
  clear H
  go_enter Try.func30, Try.ntmps30
  go_wp2_with (first | ((with_reducible refine gate_dst (N := 4) rfl ?_); refine box_event ?hg (N := 4) ?hd (cs := #[.int .u64 0, .int .u64 0]) (t := 50) ?hr ?_; (case hd => rfl); (case hg => rfl); (case hr => first | (go_simp; done) | (go_simp; rfl)); intro gb284 hg w6 hbox hb; have n0_ := Aside0.mk (below_step (by repeat (first | (with_reducible first | exact HB.out | apply below_alloc | apply pw_below_drewN | apply below_drew1) | exact HB.out)) hb); have n1_ := Aside0.mk (hbox); have n2_ := Aside0.mk ((by rw [hg]; exact (below_size (by repeat (first | (with_reducible first | exact HB.out | apply below_alloc | apply pw_below_drewN | apply below_drew1) | exact HB.out))) : w.heap.size ≤ gb284)); have n3_ := Aside0.mk ((by rw [hg]; exact (below_size (by repeat (first | (with_reducible first | exact HB.out | apply below_alloc | apply pw_below_drewN | apply below_drew1) | exact HB.out))) : w.heap.size ≤ gb284)); clear HB; have HB := n0_; have BK284 := n1_; have GW284 := n2_; have GE284 := n3_; clear n0_ n1_ n2_ n3_; clear hb hbox hg) | (go_at_call 34; (with_reducible refine (overfallref01_Digits.calls k 0 a0 t285 _ A3.out).mono ?_); rintro e w7 ⟨v286, rfl, ho0, hb⟩; have n0_ := Aside0.mk (Kd.R_lower ho0 (below_size (by repeat (first | (with_reducible first | exact HB.out | apply below_alloc | apply pw_below_drewN | apply below_drew1 | refine below_set ?_ GE284.out) | exact HB.out)))); have n1_ := Aside0.mk (blk_below (by exact BK284.out) hb); have n2_ := Aside0.mk (below_step (by repeat (first | (with_reducible first | exact HB.out | apply below_alloc | apply pw_below_drewN | apply below_drew1 | refine below_set ?_ GE284.out) | exact HB.out)) hb); clear BK284; clear HB; have HO287 := n0_; have BK284 := n1_; have HB := n2_; clear n0_ n1_ n2_; (try clear hb); (try clear hb2); (try clear hk); (try clear hi); (try clear ho0)) | (go_at_call 34; (with_reducible refine (overfallref01_Digits.calls k 0 a1 t288 _ A4.out).mono ?_); rintro e w8 ⟨v289, rfl, ho0, hb⟩; have n0_ := Aside0.mk (Kd.R_elder' (by (with_reducible repeat (first | apply Kd.R_alloc | apply Kd.R_drewN | apply Kd.R_drew)); exact HO287.out) (Kd.R_base ho0) hb); have n1_ := Aside0.mk (Kd.R_lower (Kd.R_new' ho0 (Kd.R_lt (by (with_reducible repeat (first | apply Kd.R_alloc | apply Kd.R_drewN | apply Kd.R_drew)); exact HO287.out))) (below_size (by repeat (first | (with_reducible first | exact HB.out | apply below_alloc | apply pw_below_drewN | apply below_drew1 | refine below_set ?_ GE284.out) | exact HB.out)))); have n2_ := Aside0.mk (blk_below (by exact BK284.out) hb); have n3_ := Aside0.mk (below_step (by repeat (first | (with_reducible first | exact HB.out | apply below_alloc | apply pw_below_drewN | apply below_drew1 | refine below_set ?_ GE284.out) | exact HB.out)) hb); clear HO287; clear BK284; clear HB; have HO287 := n0_; have HO290 := n1_; have BK284 := n2_; have HB := n3_; clear n0_ n1_ n2_ n3_; (try clear hb); (try clear hb2); (try clear hk); (try clear hi); (try clear ho0)) | ((with_reducible refine gate_dst (N := 18) rfl ?_); refine Kd.R_make (Kd.int .i64) _ 3 rfl (N := 18) rfl 64 _ _ rfl 9 rfl rfl Try.underlying64 (.int .i64 0) 8 info3 rfl (by decide) (by omega) 0 (ok := fun _ => True) (okp := fun _ => True) rfl (fun _ hk => hk) trivial (by omega) (by omega) (Below.refl _ _) (Nat.le_refl _) ?_; intro v292 w9 ho10 hb hg_ hnew_; clear hg_ hnew_; (first | rw [← Ny291.out] at ho10 | (simp only [Int.reduceToNat] at ho10; rw [← Ny291.out] at ho10)); have n0_ := Aside0.mk (Kd.R_elder' (by (with_reducible repeat (first | apply Kd.R_alloc | apply Kd.R_drewN | apply Kd.R_drew)); exact HO287.out) (Kd.R_base ho10) hb); have n1_ := Aside0.mk (Kd.R_elder' (by (with_reducible repeat (first | apply Kd.R_alloc | apply Kd.R_drewN | apply Kd.R_drew)); exact HO290.out) (Kd.R_base ho10) hb); have n2_ := Aside0.mk (Kd.R_lower (Kd.R_new' (Kd.R_new' ho10 (Kd.R_lt (by (with_reducible repeat (first | apply Kd.R_alloc | apply Kd.R_drewN | apply Kd.R_drew)); exact HO287.out))) (Kd.R_lt (by (with_reducible repeat (first | apply Kd.R_alloc | apply Kd.R_drewN | apply Kd.R_drew)); exact HO290.out))) (below_size (by repeat (first | (with_reducible first | exact HB.out | apply below_alloc | apply pw_below_drewN | apply below_drew1 | refine below_set ?_ GE284.out) | exact HB.out)))); have n3_ := Aside0.mk (blk_below (by exact BK284.out) hb); have n4_ := Aside0.mk (below_step (by repeat (first | (with_reducible first | exact HB.out | apply below_alloc | apply pw_below_drewN | apply below_drew1 | refine below_set ?_ GE284.out) | exact HB.out)) hb); clear HO287; clear HO290; clear BK284; clear HB; have HO287 := n0_; have HO290 := n1_; have HO293 := n2_; have BK284 := n3_; have HB := n4_; clear n0_ n1_ n2_ n3_ n4_; clear hb ho10))
  repeat (go_quiet (first | ((with_reducible refine gate_dst (N := 4) rfl ?_); refine box_event ?hg (N := 4) ?hd (cs := #[.int .u64 0, .int .u64 0]) (t := 50) ?hr ?_; (case hd => rfl); (case hg => rfl); (case hr => first | (go_simp; done) | (go_simp; rfl)); intro gb284 hg w6 hbox hb; have n0_ := Aside0.mk (below_step (by repeat (first | (with_reducible first | exact HB.out | apply below_alloc | apply pw_below_drewN | apply below_drew1) | exact HB.out)) hb); have n1_ := Aside0.mk (hbox); have n2_ := Aside0.mk ((by rw [hg]; exact (below_size (by repeat (first | (with_reducible first | exact HB.out | apply below_alloc | apply pw_below_drewN | apply below_drew1) | exact HB.out))) : w.heap.size ≤ gb284)); have n3_ := Aside0.mk ((by rw [hg]; exact (below_size (by repeat (first | (with_reducible first | exact HB.out | apply below_alloc | apply pw_below_drewN | apply below_drew1) | exact HB.out))) : w.heap.size ≤ gb284)); clear HB; have HB := n0_; have BK284 := n1_; have GW284 := n2_; have GE284 := n3_; clear n0_ n1_ n2_ n3_; clear hb hbox hg) | (go_at_call 34; (with_reducible refine (overfallref01_Digits.calls k 0 a0 t285 _ A3.out).mono ?_); rintro e w7 ⟨v286, rfl, ho0, hb⟩; have n0_ := Aside0.mk (Kd.R_lower ho0 (below_size (by repeat (first | (with_reducible first | exact HB.out | apply below_alloc | apply pw_below_drewN | apply below_drew1 | refine below_set ?_ GE284.out) | exact HB.out)))); have n1_ := Aside0.mk (blk_below (by exact BK284.out) hb); have n2_ := Aside0.mk (below_step (by repeat (first | (with_reducible first | exact HB.out | apply below_alloc | apply pw_below_drewN | apply below_drew1 | refine below_set ?_ GE284.out) | exact HB.out)) hb); clear BK284; clear HB; have HO287 := n0_; have BK284 := n1_; have HB := n2_; clear n0_ n1_ n2_; (try clear hb); (try clear hb2); (try clear hk); (try clear hi); (try clear ho0)) | (go_at_call 34; (with_reducible refine (overfallref01_Digits.calls k 0 a1 t288 _ A4.out).mono ?_); rintro e w8 ⟨v289, rfl, ho0, hb⟩; have n0_ := Aside0.mk (Kd.R_elder' (by (with_reducible repeat (first | apply Kd.R_alloc | apply Kd.R_drewN | apply Kd.R_drew)); exact HO287.out) (Kd.R_base ho0) hb); have n1_ := Aside0.mk (Kd.R_lower (Kd.R_new' ho0 (Kd.R_lt (by (with_reducible repeat (first | apply Kd.R_alloc | apply Kd.R_drewN | apply Kd.R_drew)); exact HO287.out))) (below_size (by repeat (first | (with_reducible first | exact HB.out | apply below_alloc | apply pw_below_drewN | apply below_drew1 | refine below_set ?_ GE284.out) | exact HB.out)))); have n2_ := Aside0.mk (blk_below (by exact BK284.out) hb); have n3_ := Aside0.mk (below_step (by repeat (first | (with_reducible first | exact HB.out | apply below_alloc | apply pw_below_drewN | apply below_drew1 | refine below_set ?_ GE284.out) | exact HB.out)) hb); clear HO287; clear BK284; clear HB; have HO287 := n0_; have HO290 := n1_; have BK284 := n2_; have HB := n3_; clear n0_ n1_ n2_ n3_; (try clear hb); (try clear hb2); (try clear hk); (try clear hi); (try clear ho0)) | ((with_reducible refine gate_dst (N := 18) rfl ?_); refine Kd.R_make (Kd.int .i64) _ 3 rfl (N := 18) rfl 64 _ _ rfl 9 rfl rfl Try.underlying64 (.int .i64 0) 8 info3 rfl (by decide) (by omega) 0 (ok := fun _ => True) (okp := fun _ => True) rfl (fun _ hk => hk) trivial (by omega) (by omega) (Below.refl _ _) (Nat.le_refl _) ?_; intro v292 w9 ho10 hb hg_ hnew_; clear hg_ hnew_; (first | rw [← Ny291.out] at ho10 | (simp only [Int.reduceToNat] at ho10; rw [← Ny291.out] at ho10)); have n0_ := Aside0.mk (Kd.R_elder' (by (with_reducible repeat (first | apply Kd.R_alloc | apply Kd.R_drewN | apply Kd.R_drew)); exact HO287.out) (Kd.R_base ho10) hb); have n1_ := Aside0.mk (Kd.R_elder' (by (with_reducible repeat (first | apply Kd.R_alloc | apply Kd.R_drewN | apply Kd.R_drew)); exact HO290.out) (Kd.R_base ho10) hb); have n2_ := Aside0.mk (Kd.R_lower (Kd.R_new' (Kd.R_new' ho10 (Kd.R_lt (by (with_reducible repeat (first | apply Kd.R_alloc | apply Kd.R_drewN | apply Kd.R_drew)); exact HO287.out))) (Kd.R_lt (by (with_reducible repeat (first | apply Kd.R_alloc | apply Kd.R_drewN | apply Kd.R_drew)); exact HO290.out))) (below_size (by repeat (first | (with_reducible first | exact HB.out | apply below_alloc | apply pw_below_drewN | apply below_drew1 | refine below_set ?_ GE284.out) | exact HB.out)))); have n3_ := Aside0.mk (blk_below (by exact BK284.out) hb); have n4_ := Aside0.mk (below_step (by repeat (first | (with_reducible first | exact HB.out | apply below_alloc | apply pw_below_drewN | apply below_drew1 | refine below_set ?_ GE284.out) | exact HB.out)) hb); clear HO287; clear HO290; clear BK284; clear HB; have HO287 := n0_; have HO290 := n1_; have HO293 := n2_; have BK284 := n3_; have HB := n4_; clear n0_ n1_ n2_ n3_ n4_; clear hb ho10)); try go_wp2_with (first | ((with_reducible refine gate_dst (N := 4) rfl ?_); refine box_event ?hg (N := 4) ?hd (cs := #[.int .u64 0, .int .u64 0]) (t := 50) ?hr ?_; (case hd => rfl); (case hg => rfl); (case hr => first | (go_simp; done) | (go_simp; rfl)); intro gb284 hg w6 hbox hb; have n0_ := Aside0.mk (below_step (by repeat (first | (with_reducible first | exact HB.out | apply below_alloc | apply pw_below_drewN | apply below_drew1) | exact HB.out)) hb); have n1_ := Aside0.mk (hbox); have n2_ := Aside0.mk ((by rw [hg]; exact (below_size (by repeat (first | (with_reducible first | exact HB.out | apply below_alloc | apply pw_below_drewN | apply below_drew1) | exact HB.out))) : w.heap.size ≤ gb284)); have n3_ := Aside0.mk ((by rw [hg]; exact (below_size (by repeat (first | (with_reducible first | exact HB.out | apply below_alloc | apply pw_below_drewN | apply below_drew1) | exact HB.out))) : w.heap.size ≤ gb284)); clear HB; have HB := n0_; have BK284 := n1_; have GW284 := n2_; have GE284 := n3_; clear n0_ n1_ n2_ n3_; clear hb hbox hg) | (go_at_call 34; (with_reducible refine (overfallref01_Digits.calls k 0 a0 t285 _ A3.out).mono ?_); rintro e w7 ⟨v286, rfl, ho0, hb⟩; have n0_ := Aside0.mk (Kd.R_lower ho0 (below_size (by repeat (first | (with_reducible first | exact HB.out | apply below_alloc | apply pw_below_drewN | apply below_drew1 | refine below_set ?_ GE284.out) | exact HB.out)))); have n1_ := Aside0.mk (blk_below (by exact BK284.out) hb); have n2_ := Aside0.mk (below_step (by repeat (first | (with_reducible first | exact HB.out | apply below_alloc | apply pw_below_drewN | apply below_drew1 | refine below_set ?_ GE284.out) | exact HB.out)) hb); clear BK284; clear HB; have HO287 := n0_; have BK284 := n1_; have HB := n2_; clear n0_ n1_ n2_; (try clear hb); (try clear hb2); (try clear hk); (try clear hi); (try clear ho0)) | (go_at_call 34; (with_reducible refine (overfallref01_Digits.calls k 0 a1 t288 _ A4.out).mono ?_); rintro e w8 ⟨v289, rfl, ho0, hb⟩; have n0_ := Aside0.mk (Kd.R_elder' (by (with_reducible repeat (first | apply Kd.R_alloc | apply Kd.R_drewN | apply Kd.R_drew)); exact HO287.out) (Kd.R_base ho0) hb); have n1_ := Aside0.mk (Kd.R_lower (Kd.R_new' ho0 (Kd.R_lt (by (with_reducible repeat (first | apply Kd.R_alloc | apply Kd.R_drewN | apply Kd.R_drew)); exact HO287.out))) (below_size (by repeat (first | (with_reducible first | exact HB.out | apply below_alloc | apply pw_below_drewN | apply below_drew1 | refine below_set ?_ GE284.out) | exact HB.out)))); have n2_ := Aside0.mk (blk_below (by exact BK284.out) hb); have n3_ := Aside0.mk (below_step (by repeat (first | (with_reducible first | exact HB.out | apply below_alloc | apply pw_below_drewN | apply below_drew1 | refine below_set ?_ GE284.out) | exact HB.out)) hb); clear HO287; clear BK284; clear HB; have HO287 := n0_; have HO290 := n1_; have BK284 := n2_; have HB := n3_; clear n0_ n1_ n2_ n3_; (try clear hb); (try clear hb2); (try clear hk); (try clear hi); (try clear ho0)) | ((with_reducible refine gate_dst (N := 18) rfl ?_); refine Kd.R_make (Kd.int .i64) _ 3 rfl (N := 18) rfl 64 _ _ rfl 9 rfl rfl Try.underlying64 (.int .i64 0) 8 info3 rfl (by decide) (by omega) 0 (ok := fun _ => True) (okp := fun _ => True) rfl (fun _ hk => hk) trivial (by omega) (by omega) (Below.refl _ _) (Nat.le_refl _) ?_; intro v292 w9 ho10 hb hg_ hnew_; clear hg_ hnew_; (first | rw [← Ny291.out] at ho10 | (simp only [Int.reduceToNat] at ho10; rw [← Ny291.out] at ho10)); have n0_ := Aside0.mk (Kd.R_elder' (by (with_reducible repeat (first | apply Kd.R_alloc | apply Kd.R_drewN | apply Kd.R_drew)); exact HO287.out) (Kd.R_base ho10) hb); have n1_ := Aside0.mk (Kd.R_elder' (by (with_reducible repeat (first | apply Kd.R_alloc | apply Kd.R_drewN | apply Kd.R_drew)); exact HO290.out) (Kd.R_base ho10) hb); have n2_ := Aside0.mk (Kd.R_lower (Kd.R_new' (Kd.R_new' ho10 (Kd.R_lt (by (with_reducible repeat (first | apply Kd.R_alloc | apply Kd.R_drewN | apply Kd.R_drew)); exact HO287.out))) (Kd.R_lt (by (with_reducible repeat (first | apply Kd.R_alloc | apply Kd.R_drewN | apply Kd.R_drew)); exact HO290.out))) (below_size (by repeat (first | (with_reducible first | exact HB.out | apply below_alloc | apply pw_below_drewN | apply below_drew1 | refine below_set ?_ GE284.out) | exact HB.out)))); have n3_ := Aside0.mk (blk_below (by exact BK284.out) hb); have n4_ := Aside0.mk (below_step (by repeat (first | (with_reducible first | exact HB.out | apply below_alloc | apply pw_below_drewN | apply below_drew1 | refine below_set ?_ GE284.out) | exact HB.out)) hb); clear HO287; clear HO290; clear BK284; clear HB; have HO287 := n0_; have HO290 := n1_; have HO293 := n2_; have BK284 := n3_; have HB := n4_; clear n0_ n1_ n2_ n3_ n4_; clear hb ho10)))
  go_loopg [8] k (fun kq v8 w' => ∃ (x7_1 : List Int) (x8_1 : Int), v8 = .int .i64 x8_1 ∧ Aside0 (overfallref01_Mul.l0 kq t285 t288 x7_1 x8_1 = some (r1, r2)) ∧ Aside0 (kq ≤ k) ∧ Aside0 (Kd.R (Kd.int .i64) 3 w' w.heap.size (fun k_ => some k_ ≠ (v289 : Value).ownBlock ∧ some k_ ≠ (v292 : Value).ownBlock) v286 t285) ∧ Aside0 (Kd.R (Kd.int .i64) 3 w' w.heap.size (fun k_ => some k_ ≠ (v286 : Value).ownBlock ∧ some k_ ≠ (v292 : Value).ownBlock) v289 t288) ∧ Aside0 (Kd.R (Kd.int .i64) 3 w' w.heap.size (fun k_ => some k_ ≠ (v286 : Value).ownBlock ∧ some k_ ≠ (v289 : Value).ownBlock) v292 x7_1) ∧ Aside0 (w'.heap[gb284]? = some (.cells #[.int .u64 0, .int .u64 0] 50 (0, 0))) ∧ Aside0 (Below w.heap.size w w'))
  case atStart => exact ⟨(y291), (0), (by first | rfl | (simp; done) | (simp [*]; done)), H', ⟨Nat.le_refl _⟩, ⟨by (with_reducible repeat (first | apply Kd.R_alloc | apply Kd.R_drewN | apply Kd.R_drew)); exact Kd.R_mono HO287.out (fun _ hk => ⟨hk.1.2, hk.2⟩)⟩, ⟨by (with_reducible repeat (first | apply Kd.R_alloc | apply Kd.R_drewN | apply Kd.R_drew)); exact Kd.R_mono HO290.out (fun _ hk => ⟨hk.1.2, hk.2⟩)⟩, ⟨by (with_reducible repeat (first | apply Kd.R_alloc | apply Kd.R_drewN | apply Kd.R_drew)); exact Kd.R_mono HO293.out (fun _ hk => ⟨hk.1.2, hk.2⟩)⟩, ⟨by exact BK284.out⟩, ⟨by repeat (first | (with_reducible first | exact HB.out | apply below_alloc | apply pw_below_drewN | apply below_drew1 | refine below_set ?_ GE284.out) | exact HB.out)⟩⟩
  case round =>
   clear H'
   try clear p2
   try clear c3
   try clear c5
   try clear c5b0
   try clear c5b1
   obtain ⟨x7_1, x8_1, rfl, HA, HK1, HO_5, HO_6, HO_7, BK284, HB⟩ := hrel
   cases gk with
   | zero => exact absurd HA.out (by simp [overfallref01_Mul.l0])
   | succ k1 =>
    have H := HA.out
    clear HA
    simp only [overfallref01_Mul.l0] at H
    by_cases c11 : x8_1 < 4
    ·rw [if_pos c11] at H
     have c11b0 : decide (x8_1 < 4) = true := decide_eq_true c11
     clear c11
     have H' := Aside0.mk H
     clear H
     go_wp2
     repeat (go_quiet (fail); try go_wp2)
     go_loopg [9, 10] k1 (fun kq v9 v10 w' => ∃ (x7_2 : List Int) (x9_2 : Int) (x10_2 : Int), v9 = .int .i64 x9_2 ∧ v10 = .int .i64 x10_2 ∧ Aside0 (overfallref01_Mul.l1 kq t285 t288 x7_2 x8_1 x9_2 x10_2 = some (r1, r2)) ∧ Aside0 (kq ≤ k1) ∧ Aside0 (Kd.R (Kd.int .i64) 3 w' w.heap.size (fun k_ => some k_ ≠ (v289 : Value).ownBlock ∧ some k_ ≠ (v292 : Value).ownBlock) v286 t285) ∧ Aside0 (Kd.R (Kd.int .i64) 3 w' w.heap.size (fun k_ => some k_ ≠ (v286 : Value).ownBlock ∧ some k_ ≠ (v292 : Value).ownBlock) v289 t288) ∧ Aside0 (Kd.R (Kd.int .i64) 3 w' w.heap.size (fun k_ => some k_ ≠ (v286 : Value).ownBlock ∧ some k_ ≠ (v289 : Value).ownBlock) v292 x7_2) ∧ Aside0 (w'.heap[gb284]? = some (.cells #[.int .u64 0, .int .u64 0] 50 (0, 0))) ∧ Aside0 (Below w.heap.size w w'))
     case atStart => exact ⟨(x7_1), (0), (0), (by first | rfl | (simp; done) | (simp [*]; done)), (by first | rfl | (simp; done) | (simp [*]; done)), H', ⟨Nat.le_refl _⟩, ⟨by (with_reducible repeat (first | apply Kd.R_alloc | apply Kd.R_drewN | apply Kd.R_drew)); exact HO_5.out⟩, ⟨by (with_reducible repeat (first | apply Kd.R_alloc | apply Kd.R_drewN | apply Kd.R_drew)); exact HO_6.out⟩, ⟨by (with_reducible repeat (first | apply Kd.R_alloc | apply Kd.R_drewN | apply Kd.R_drew)); exact HO_7.out⟩, ⟨by exact BK284.out⟩, ⟨by repeat (first | (with_reducible first | exact HB.out | apply below_alloc | apply pw_below_drewN | apply below_drew1 | refine below_set ?_ GE284.out) | exact HB.out)⟩⟩
     case round =>
      clear H'
      try clear c1
      try clear p2
      try clear c3
      try clear c5
      try clear c5b0
      try clear c5b1
      try clear c11
      try clear c11b0
      try clear p2
      obtain ⟨x7_2, x9_2, x10_2, rfl, rfl, HA, HK2, HO_5, HO_6, HO_7, BK284, HB⟩ := hrel
      cases gk with
      | zero => exact absurd HA.out (by simp [overfallref01_Mul.l1])
      | succ k2 =>
       have H := HA.out
       clear HA
       simp only [overfallref01_Mul.l1] at H
       by_cases c12 : x10_2 < 4
       ·rw [if_pos c12] at H
        have c12b0 : decide (x10_2 < 4) = true := decide_eq_true c12
        clear c12
        obtain ⟨ji13, hji13⟩ : ∃ j_ : Int, (wrap64 (x8_1 + x10_2)) = j_ := ⟨_, rfl⟩
        replace H : (if 0 ≤ (ji13) then (if (ji13) < (x7_2.length : Int) then (if 0 ≤ x8_1 then (if x8_1 < (t285.length : Int) then (if 0 ≤ x10_2 then (if x10_2 < (t288.length : Int) then (overfallref01_Mul.l1 k2 t285 t288 (x7_2.set ((ji13) : Int).toNat (Int.tmod (wrap64 ((wrap64 ((rd x7_2 (ji13)) + (wrap64 ((rd t285 x8_1) * (rd t288 x10_2))))) + x9_2)) 65536)) x8_1 (wrap64 (Int.tdiv (wrap64 ((wrap64 ((rd x7_2 (ji13)) + (wrap64 ((rd t285 x8_1) * (rd t288 x10_2))))) + x9_2)) 65536)) (wrap64 (x10_2 + 1))) else (none)) else (none)) else (none)) else (none)) else (none)) else (none)) = some (r1, r2) := by first | (rw [hji13] at H; exact H) | (simp only [hji13] at H ⊢; exact H)
        have hji13w : (IntKind.i64.wrap (x8_1 + x10_2)) = ji13 := (i64_w _).trans hji13
        by_cases c14 : 0 ≤ (ji13)
        ·rw [if_pos c14] at H
         have c14b0 : decide (0 ≤ (ji13)) = true := decide_eq_true c14
         clear c14
         by_cases c15 : (ji13) < (x7_2.length : Int)
         ·rw [if_pos c15] at H
          have c15b0 : decide ((ji13) < (x7_2.length : Int)) = true := decide_eq_true c15
          clear c15
          by_cases c16 : 0 ≤ x8_1
          ·rw [if_pos c16] at H
           have c16b0 : decide (0 ≤ x8_1) = true := decide_eq_true c16
           clear c16
           by_cases c17 : x8_1 < (t285.length : Int)
           ·rw [if_pos c17] at H
            have c17b0 : decide (x8_1 < (t285.length : Int)) = true := decide_eq_true c17
            clear c17
            by_cases c18 : 0 ≤ x10_2
            ·rw [if_pos c18] at H
             have c18b0 : decide (0 ≤ x10_2) = true := decide_eq_true c18
             clear c18
             by_cases c19 : x10_2 < (t288.length : Int)
             ·rw [if_pos c19] at H
              have c19b0 : decide (x10_2 < (t288.length : Int)) = true := decide_eq_true c19
              clear c19
              obtain ⟨y303, hy303⟩ : ∃ y_ : List Int, y_ = (x7_2.set ((ji13) : Int).toNat (Int.tmod (wrap64 ((wrap64 ((rd x7_2 (ji13)) + (wrap64 ((rd t285 x8_1) * (rd t288 x10_2))))) + x9_2)) 65536)) := ⟨_, rfl⟩
              replace H : (overfallref01_Mul.l1 k2 t285 t288 y303 x8_1 (wrap64 (Int.tdiv (wrap64 ((wrap64 ((rd x7_2 (ji13)) + (wrap64 ((rd t285 x8_1) * (rd t288 x10_2))))) + x9_2)) 65536)) (wrap64 (x10_2 + 1))) = some (r1, r2) := by first | (rw [hy303]; with_reducible exact H) | (have H2_ := (Option.bind_some _ _).symm.trans H; rw [hy303]; with_reducible exact H2_) | (have H2_ := (Option.bind_some _ _).symm.trans H; with_reducible exact H2_) | with_reducible exact H | (rw [hy303]; exact H) | exact H
              have Ny303 := Aside0.mk hy303
              clear hy303
              have H' := Aside0.mk H
              clear H
              obtain ⟨Ao21, co21, eo21⟩ := Kd.R_slice HO_7.out
              subst eo21
              have p300 : 0 ≤ ((ji13) : Int) := of_decide_eq_true (by first | (with_reducible assumption) | assumption)
              have q300 : (ji13) < (x7_2.length : Int) := of_decide_eq_true (by first | (with_reducible assumption) | assumption)
              obtain ⟨ad300, e300, hx300_0⟩ := Kd.at_int (Kd.R_reads' HO_7.out).2.2 (ji13) p300 q300
              cases e300
              replace p300 := eq_true p300
              replace q300 := eq_true q300
              obtain ⟨Ao22, co22, eo22⟩ := Kd.R_slice HO_5.out
              subst eo22
              have p301 : 0 ≤ (x8_1 : Int) := of_decide_eq_true (by first | (with_reducible assumption) | assumption)
              have q301 : x8_1 < (t285.length : Int) := of_decide_eq_true (by first | (with_reducible assumption) | assumption)
              obtain ⟨ad301, e301, hx301_0⟩ := Kd.at_int (Kd.R_reads' HO_5.out).2.2 x8_1 p301 q301
              cases e301
              replace p301 := eq_true p301
              replace q301 := eq_true q301
              obtain ⟨Ao23, co23, eo23⟩ := Kd.R_slice HO_6.out
              subst eo23
              have p302 : 0 ≤ (x10_2 : Int) := of_decide_eq_true (by first | (with_reducible assumption) | assumption)
              have q302 : x10_2 < (t288.length : Int) := of_decide_eq_true (by first | (with_reducible assumption) | assumption)
              obtain ⟨ad302, e302, hx302_0⟩ := Kd.at_int (Kd.R_reads' HO_6.out).2.2 x10_2 p302 q302
              cases e302
              replace p302 := eq_true p302
              replace q302 := eq_true q302
              have p20 : 0 ≤ ((ji13) : Int) := of_decide_eq_true (by first | (with_reducible assumption) | assumption)
              have q20 : ((ji13) : Int) < ((x7_2.length : Int) : Int) := of_decide_eq_true (by first | (with_reducible assumption) | assumption)
              obtain ⟨go20, co20, eo20, gb20, gl20, cl20, HG20⟩ := Kd.R_form HO_7.out (by omega)
              (first | cases eo20 | (injection eo20 with ea_ en_ ec_; (first | subst ea_ | (injection ea_ with ea_; subst ea_)); subst ec_; clear en_))
              have GB20 := Aside0.mk gb20
              have GG20 := Aside0.mk HG20
              clear gb20 gl20 HG20
              (first | simp only [add_plain] at hx300_0 | skip)
              obtain ⟨hx20_0, hf20_0⟩ := Kd.R_celln 0 HO_7.out ((ji13) : Int) p20 q20
              replace p20 := eq_true p20
              replace q20 := eq_true q20
              have HP24 := Kd.R_putg HO_7.out ((ji13) : Int) (Int.tmod (wrap64 ((wrap64 ((rd x7_2 (ji13)) + (wrap64 ((rd t285 x8_1) * (rd t288 x10_2))))) + x9_2)) 65536)
              go_wp2_with (first | ((with_reducible refine gate_store (t := 3) (p := 53) rfl ?_); (try (rw [drewN_self wr]; generalize hq_ : World.drewN wr _ = wr; have n0_ := Aside0.mk (Kd.R_at hq_ HO_5.out); have n1_ := Aside0.mk (Kd.R_at hq_ HO_6.out); have n2_ := Aside0.mk (Kd.R_at hq_ HO_7.out); have n3_ := Aside0.mk (blk_at hq_ BK284.out); have n4_ := Aside0.mk (below_at hq_ HB.out); clear hq_ HO_5 HO_6 HO_7 BK284 HB; have HO_5 := n0_; have HO_6 := n1_; have HO_7 := n2_; have BK284 := n3_; have HB := n4_; clear n0_ n1_ n2_ n3_ n4_; (try (have HP24 := Kd.R_putg HO_7.out ((ji13) : Int) (Int.tmod (wrap64 ((wrap64 ((rd x7_2 (ji13)) + (wrap64 ((rd t285 x8_1) * (rd t288 x10_2))))) + x9_2)) 65536))))); refine store_event (t := 3) (p := 53) (v := ?vo_w25) (w1 := (wr.setCell ⟨go20, ((ji13) : Int).toNat, none⟩ (.int .i64 (Int.tmod (wrap64 ((wrap64 ((rd x7_2 (ji13)) + (wrap64 ((rd t285 x8_1) * (rd t288 x10_2))))) + x9_2)) 65536)))) ?hg ?ho ?hn ?hr ?_; (case ho => rfl); (case hg => rfl); (case hn => rfl); (case hr => first | (go_simp; done) | (go_simp; rfl)); intro w25 hw; have hg : wr.grownBy w25 (some go20) := (by rw [hw]; exact HP24.2); have hp_ : Kd.R (Kd.int .i64) 3 w25 w.heap.size (fun k_ => some k_ ≠ (.slice (some ad301) t285.length co22 : Value).ownBlock ∧ some k_ ≠ (.slice (some ad302) t288.length co23 : Value).ownBlock) (.slice (some ⟨go20, 0, none⟩) x7_2.length co21) y303 := (by rw [hw, Ny303.out]; exact HP24.1); clear HP24; have n0_ := Aside0.mk (Kd.R_after (v := (.slice (some ⟨go20, 0, none⟩) x7_2.length co21)) (v1 := (.slice (some ⟨go20, 0, none⟩) x7_2.length co21)) (ok := (fun k_ => some k_ ≠ (.slice (some ad302) t288.length co23 : Value).ownBlock)) (by (with_reducible repeat (first | apply Kd.R_alloc | apply Kd.R_drewN | apply Kd.R_drew)); exact HO_5.out) hg (.inl rfl)); have n1_ := Aside0.mk (Kd.R_after (v := (.slice (some ⟨go20, 0, none⟩) x7_2.length co21)) (v1 := (.slice (some ⟨go20, 0, none⟩) x7_2.length co21)) (ok := (fun k_ => some k_ ≠ (.slice (some ad301) t285.length co22 : Value).ownBlock)) (by (with_reducible repeat (first | apply Kd.R_alloc | apply Kd.R_drewN | apply Kd.R_drew)); exact HO_6.out) hg (.inl rfl)); have n2_ := Aside0.mk (hp_); have n3_ := Aside0.mk (blk_grown (by exact BK284.out) hg (Kd.R_ne HO_7.out BK284.out (by decide))); have n4_ := Aside0.mk ((by rw [hw]; exact below_set (HB.out) GB20.out : Below w.heap.size w w25)); clear HO_5; clear HO_6; clear HO_7; clear BK284; clear HB; have HO_5 := n0_; have HO_6 := n1_; have HO_7 := n2_; have BK284 := n3_; have HB := n4_; clear n0_ n1_ n2_ n3_ n4_; clear hg hw hp_))
              repeat (go_quiet (first | ((with_reducible refine gate_store (t := 3) (p := 53) rfl ?_); (try (rw [drewN_self wr]; generalize hq_ : World.drewN wr _ = wr; have n0_ := Aside0.mk (Kd.R_at hq_ HO_5.out); have n1_ := Aside0.mk (Kd.R_at hq_ HO_6.out); have n2_ := Aside0.mk (Kd.R_at hq_ HO_7.out); have n3_ := Aside0.mk (blk_at hq_ BK284.out); have n4_ := Aside0.mk (below_at hq_ HB.out); clear hq_ HO_5 HO_6 HO_7 BK284 HB; have HO_5 := n0_; have HO_6 := n1_; have HO_7 := n2_; have BK284 := n3_; have HB := n4_; clear n0_ n1_ n2_ n3_ n4_; (try (have HP24 := Kd.R_putg HO_7.out ((ji13) : Int) (Int.tmod (wrap64 ((wrap64 ((rd x7_2 (ji13)) + (wrap64 ((rd t285 x8_1) * (rd t288 x10_2))))) + x9_2)) 65536))))); refine store_event (t := 3) (p := 53) (v := ?vo_w25) (w1 := (wr.setCell ⟨go20, ((ji13) : Int).toNat, none⟩ (.int .i64 (Int.tmod (wrap64 ((wrap64 ((rd x7_2 (ji13)) + (wrap64 ((rd t285 x8_1) * (rd t288 x10_2))))) + x9_2)) 65536)))) ?hg ?ho ?hn ?hr ?_; (case ho => rfl); (case hg => rfl); (case hn => rfl); (case hr => first | (go_simp; done) | (go_simp; rfl)); intro w25 hw; have hg : wr.grownBy w25 (some go20) := (by rw [hw]; exact HP24.2); have hp_ : Kd.R (Kd.int .i64) 3 w25 w.heap.size (fun k_ => some k_ ≠ (.slice (some ad301) t285.length co22 : Value).ownBlock ∧ some k_ ≠ (.slice (some ad302) t288.length co23 : Value).ownBlock) (.slice (some ⟨go20, 0, none⟩) x7_2.length co21) y303 := (by rw [hw, Ny303.out]; exact HP24.1); clear HP24; have n0_ := Aside0.mk (Kd.R_after (v := (.slice (some ⟨go20, 0, none⟩) x7_2.length co21)) (v1 := (.slice (some ⟨go20, 0, none⟩) x7_2.length co21)) (ok := (fun k_ => some k_ ≠ (.slice (some ad302) t288.length co23 : Value).ownBlock)) (by (with_reducible repeat (first | apply Kd.R_alloc | apply Kd.R_drewN | apply Kd.R_drew)); exact HO_5.out) hg (.inl rfl)); have n1_ := Aside0.mk (Kd.R_after (v := (.slice (some ⟨go20, 0, none⟩) x7_2.length co21)) (v1 := (.slice (some ⟨go20, 0, none⟩) x7_2.length co21)) (ok := (fun k_ => some k_ ≠ (.slice (some ad301) t285.length co22 : Value).ownBlock)) (by (with_reducible repeat (first | apply Kd.R_alloc | apply Kd.R_drewN | apply Kd.R_drew)); exact HO_6.out) hg (.inl rfl)); have n2_ := Aside0.mk (hp_); have n3_ := Aside0.mk (blk_grown (by exact BK284.out) hg (Kd.R_ne HO_7.out BK284.out (by decide))); have n4_ := Aside0.mk ((by rw [hw]; exact below_set (HB.out) GB20.out : Below w.heap.size w w25)); clear HO_5; clear HO_6; clear HO_7; clear BK284; clear HB; have HO_5 := n0_; have HO_6 := n1_; have HO_7 := n2_; have BK284 := n3_; have HB := n4_; clear n0_ n1_ n2_ n3_ n4_; clear hg hw hp_)); try go_wp2_with (first | ((with_reducible refine gate_store (t := 3) (p := 53) rfl ?_); (try (rw [drewN_self wr]; generalize hq_ : World.drewN wr _ = wr; have n0_ := Aside0.mk (Kd.R_at hq_ HO_5.out); have n1_ := Aside0.mk (Kd.R_at hq_ HO_6.out); have n2_ := Aside0.mk (Kd.R_at hq_ HO_7.out); have n3_ := Aside0.mk (blk_at hq_ BK284.out); have n4_ := Aside0.mk (below_at hq_ HB.out); clear hq_ HO_5 HO_6 HO_7 BK284 HB; have HO_5 := n0_; have HO_6 := n1_; have HO_7 := n2_; have BK284 := n3_; have HB := n4_; clear n0_ n1_ n2_ n3_ n4_; (try (have HP24 := Kd.R_putg HO_7.out ((ji13) : Int) (Int.tmod (wrap64 ((wrap64 ((rd x7_2 (ji13)) + (wrap64 ((rd t285 x8_1) * (rd t288 x10_2))))) + x9_2)) 65536))))); refine store_event (t := 3) (p := 53) (v := ?vo_w25) (w1 := (wr.setCell ⟨go20, ((ji13) : Int).toNat, none⟩ (.int .i64 (Int.tmod (wrap64 ((wrap64 ((rd x7_2 (ji13)) + (wrap64 ((rd t285 x8_1) * (rd t288 x10_2))))) + x9_2)) 65536)))) ?hg ?ho ?hn ?hr ?_; (case ho => rfl); (case hg => rfl); (case hn => rfl); (case hr => first | (go_simp; done) | (go_simp; rfl)); intro w25 hw; have hg : wr.grownBy w25 (some go20) := (by rw [hw]; exact HP24.2); have hp_ : Kd.R (Kd.int .i64) 3 w25 w.heap.size (fun k_ => some k_ ≠ (.slice (some ad301) t285.length co22 : Value).ownBlock ∧ some k_ ≠ (.slice (some ad302) t288.length co23 : Value).ownBlock) (.slice (some ⟨go20, 0, none⟩) x7_2.length co21) y303 := (by rw [hw, Ny303.out]; exact HP24.1); clear HP24; have n0_ := Aside0.mk (Kd.R_after (v := (.slice (some ⟨go20, 0, none⟩) x7_2.length co21)) (v1 := (.slice (some ⟨go20, 0, none⟩) x7_2.length co21)) (ok := (fun k_ => some k_ ≠ (.slice (some ad302) t288.length co23 : Value).ownBlock)) (by (with_reducible repeat (first | apply Kd.R_alloc | apply Kd.R_drewN | apply Kd.R_drew)); exact HO_5.out) hg (.inl rfl)); have n1_ := Aside0.mk (Kd.R_after (v := (.slice (some ⟨go20, 0, none⟩) x7_2.length co21)) (v1 := (.slice (some ⟨go20, 0, none⟩) x7_2.length co21)) (ok := (fun k_ => some k_ ≠ (.slice (some ad301) t285.length co22 : Value).ownBlock)) (by (with_reducible repeat (first | apply Kd.R_alloc | apply Kd.R_drewN | apply Kd.R_drew)); exact HO_6.out) hg (.inl rfl)); have n2_ := Aside0.mk (hp_); have n3_ := Aside0.mk (blk_grown (by exact BK284.out) hg (Kd.R_ne HO_7.out BK284.out (by decide))); have n4_ := Aside0.mk ((by rw [hw]; exact below_set (HB.out) GB20.out : Below w.heap.size w w25)); clear HO_5; clear HO_6; clear HO_7; clear BK284; clear HB; have HO_5 := n0_; have HO_6 := n1_; have HO_7 := n2_; have BK284 := n3_; have HB := n4_; clear n0_ n1_ n2_ n3_ n4_; clear hg hw hp_)))
              go_roundg k2
              case measure => have := HK1.out; have := HK2.out; omega
              case rel => exact ⟨(y303), (wrap64 (Int.tdiv (wrap64 ((wrap64 ((rd x7_2 (ji13)) + (wrap64 ((rd t285 x8_1) * (rd t288 x10_2))))) + x9_2)) 65536)), (wrap64 (x10_2 + 1)), (by first | rfl | (simp; done) | (simp only [← hji13] <;> (first | rfl | simp)) | (simp [*]; done)), (by first | rfl | (simp; done) | (simp [*]; done)), H', ⟨by have := HK1.out; have := HK2.out; omega⟩, ⟨by (with_reducible repeat (first | apply Kd.R_alloc | apply Kd.R_drewN | apply Kd.R_drew)); (first | exact HO_5.out | exact Kd.R_after (Kd.R_drewN HO_5.out _) (Kd.R_putg (Kd.R_drewN HO_7.out _) _ _).2 (.inl rfl))⟩, ⟨by (with_reducible repeat (first | apply Kd.R_alloc | apply Kd.R_drewN | apply Kd.R_drew)); (first | exact HO_6.out | exact Kd.R_after (Kd.R_drewN HO_6.out _) (Kd.R_putg (Kd.R_drewN HO_7.out _) _ _).2 (.inl rfl))⟩, ⟨by (with_reducible repeat (first | apply Kd.R_alloc | apply Kd.R_drewN | apply Kd.R_drew)); (first | exact HO_7.out | (rw [Ny303.out]; exact (Kd.R_putg (Kd.R_drewN HO_7.out _) _ _).1))⟩, ⟨by (first | exact BK284.out | exact blk_grown (blk_drewN BK284.out _) (Kd.R_putg (Kd.R_drewN HO_7.out _) _ _).2 (Kd.R_ne (Kd.R_drewN HO_7.out 0) (blk_drewN BK284.out 0) (by decide)))⟩, ⟨by first | exact HB.out | exact below_set (pw_below_drewN HB.out _) GB20.out⟩⟩
             ·rw [if_neg c19] at H
              exact absurd H (by simp)
            ·rw [if_neg c18] at H
             exact absurd H (by simp)
           ·rw [if_neg c17] at H
            exact absurd H (by simp)
          ·rw [if_neg c16] at H
           exact absurd H (by simp)
         ·rw [if_neg c15] at H
          exact absurd H (by simp)
        ·rw [if_neg c14] at H
         exact absurd H (by simp)
       ·rw [if_neg c12] at H
        have c12b0 : decide (x10_2 < 4) = false := decide_eq_false c12
        clear c12
        obtain ⟨ji26, hji26⟩ : ∃ j_ : Int, (wrap64 (x8_1 + 4)) = j_ := ⟨_, rfl⟩
        replace H : (if 0 ≤ (ji26) then (if (ji26) < (x7_2.length : Int) then (overfallref01_Mul.l0 k2 t285 t288 (x7_2.set ((ji26) : Int).toNat (wrap64 ((rd x7_2 (ji26)) + x9_2))) (wrap64 (x8_1 + 1))) else (none)) else (none)) = some (r1, r2) := by first | (rw [hji26] at H; exact H) | (simp only [hji26] at H ⊢; exact H)
        have hji26w : (IntKind.i64.wrap (x8_1 + 4)) = ji26 := (i64_w _).trans hji26
        by_cases c27 : 0 ≤ (ji26)
        ·rw [if_pos c27] at H
         have c27b0 : decide (0 ≤ (ji26)) = true := decide_eq_true c27
         clear c27
         by_cases c28 : (ji26) < (x7_2.length : Int)
         ·rw [if_pos c28] at H
          have c28b0 : decide ((ji26) < (x7_2.length : Int)) = true := decide_eq_true c28
          clear c28
          obtain ⟨y305, hy305⟩ : ∃ y_ : List Int, y_ = (x7_2.set ((ji26) : Int).toNat (wrap64 ((rd x7_2 (ji26)) + x9_2))) := ⟨_, rfl⟩
          replace H : (overfallref01_Mul.l0 k2 t285 t288 y305 (wrap64 (x8_1 + 1))) = some (r1, r2) := by first | (rw [hy305]; with_reducible exact H) | (have H2_ := (Option.bind_some _ _).symm.trans H; rw [hy305]; with_reducible exact H2_) | (have H2_ := (Option.bind_some _ _).symm.trans H; with_reducible exact H2_) | with_reducible exact H | (rw [hy305]; exact H) | exact H
          have Ny305 := Aside0.mk hy305
          clear hy305
          have H' := Aside0.mk H
          clear H
          obtain ⟨Ao30, co30, eo30⟩ := Kd.R_slice HO_7.out
          subst eo30
          have p304 : 0 ≤ ((ji26) : Int) := of_decide_eq_true (by first | (with_reducible assumption) | assumption)
          have q304 : (ji26) < (x7_2.length : Int) := of_decide_eq_true (by first | (with_reducible assumption) | assumption)
          obtain ⟨ad304, e304, hx304_0⟩ := Kd.at_int (Kd.R_reads' HO_7.out).2.2 (ji26) p304 q304
          cases e304
          replace p304 := eq_true p304
          replace q304 := eq_true q304
          have p29 : 0 ≤ ((ji26) : Int) := of_decide_eq_true (by first | (with_reducible assumption) | assumption)
          have q29 : ((ji26) : Int) < ((x7_2.length : Int) : Int) := of_decide_eq_true (by first | (with_reducible assumption) | assumption)
          obtain ⟨go29, co29, eo29, gb29, gl29, cl29, HG29⟩ := Kd.R_form HO_7.out (by omega)
          (first | cases eo29 | (injection eo29 with ea_ en_ ec_; (first | subst ea_ | (injection ea_ with ea_; subst ea_)); subst ec_; clear en_))
          have GB29 := Aside0.mk gb29
          have GG29 := Aside0.mk HG29
          clear gb29 gl29 HG29
          (first | simp only [add_plain] at hx304_0 | skip)
          obtain ⟨hx29_0, hf29_0⟩ := Kd.R_celln 0 HO_7.out ((ji26) : Int) p29 q29
          replace p29 := eq_true p29
          replace q29 := eq_true q29
          have HP31 := Kd.R_putg HO_7.out ((ji26) : Int) (wrap64 ((rd x7_2 (ji26)) + x9_2))
          go_wp2_with (first | ((with_reducible refine gate_store (t := 3) (p := 61) rfl ?_); (try (rw [drewN_self wr]; generalize hq_ : World.drewN wr _ = wr; have n0_ := Aside0.mk (Kd.R_at hq_ HO_5.out); have n1_ := Aside0.mk (Kd.R_at hq_ HO_6.out); have n2_ := Aside0.mk (Kd.R_at hq_ HO_7.out); have n3_ := Aside0.mk (blk_at hq_ BK284.out); have n4_ := Aside0.mk (below_at hq_ HB.out); clear hq_ HO_5 HO_6 HO_7 BK284 HB; have HO_5 := n0_; have HO_6 := n1_; have HO_7 := n2_; have BK284 := n3_; have HB := n4_; clear n0_ n1_ n2_ n3_ n4_; (try (have HP31 := Kd.R_putg HO_7.out ((ji26) : Int) (wrap64 ((rd x7_2 (ji26)) + x9_2)))))); refine store_event (t := 3) (p := 61) (v := ?vo_w32) (w1 := (wr.setCell ⟨go29, ((ji26) : Int).toNat, none⟩ (.int .i64 (wrap64 ((rd x7_2 (ji26)) + x9_2))))) ?hg ?ho ?hn ?hr ?_; (case ho => rfl); (case hg => rfl); (case hn => rfl); (case hr => first | (go_simp; done) | (go_simp; rfl)); intro w32 hw; have hg : wr.grownBy w32 (some go29) := (by rw [hw]; exact HP31.2); have hp_ : Kd.R (Kd.int .i64) 3 w32 w.heap.size (fun k_ => some k_ ≠ (v286 : Value).ownBlock ∧ some k_ ≠ (v289 : Value).ownBlock) (.slice (some ⟨go29, 0, none⟩) x7_2.length co30) y305 := (by rw [hw, Ny305.out]; exact HP31.1); clear HP31; have n0_ := Aside0.mk (Kd.R_after (v := (.slice (some ⟨go29, 0, none⟩) x7_2.length co30)) (v1 := (.slice (some ⟨go29, 0, none⟩) x7_2.length co30)) (ok := (fun k_ => some k_ ≠ (v289 : Value).ownBlock)) (by (with_reducible repeat (first | apply Kd.R_alloc | apply Kd.R_drewN | apply Kd.R_drew)); exact HO_5.out) hg (.inl rfl)); have n1_ := Aside0.mk (Kd.R_after (v := (.slice (some ⟨go29, 0, none⟩) x7_2.length co30)) (v1 := (.slice (some ⟨go29, 0, none⟩) x7_2.length co30)) (ok := (fun k_ => some k_ ≠ (v286 : Value).ownBlock)) (by (with_reducible repeat (first | apply Kd.R_alloc | apply Kd.R_drewN | apply Kd.R_drew)); exact HO_6.out) hg (.inl rfl)); have n2_ := Aside0.mk (hp_); have n3_ := Aside0.mk (blk_grown (by exact BK284.out) hg (Kd.R_ne HO_7.out BK284.out (by decide))); have n4_ := Aside0.mk ((by rw [hw]; exact below_set (HB.out) GB29.out : Below w.heap.size w w32)); clear HO_5; clear HO_6; clear HO_7; clear BK284; clear HB; have HO_5 := n0_; have HO_6 := n1_; have HO_7 := n2_; have BK284 := n3_; have HB := n4_; clear n0_ n1_ n2_ n3_ n4_; clear hg hw hp_))
          repeat (go_quiet (first | ((with_reducible refine gate_store (t := 3) (p := 61) rfl ?_); (try (rw [drewN_self wr]; generalize hq_ : World.drewN wr _ = wr; have n0_ := Aside0.mk (Kd.R_at hq_ HO_5.out); have n1_ := Aside0.mk (Kd.R_at hq_ HO_6.out); have n2_ := Aside0.mk (Kd.R_at hq_ HO_7.out); have n3_ := Aside0.mk (blk_at hq_ BK284.out); have n4_ := Aside0.mk (below_at hq_ HB.out); clear hq_ HO_5 HO_6 HO_7 BK284 HB; have HO_5 := n0_; have HO_6 := n1_; have HO_7 := n2_; have BK284 := n3_; have HB := n4_; clear n0_ n1_ n2_ n3_ n4_; (try (have HP31 := Kd.R_putg HO_7.out ((ji26) : Int) (wrap64 ((rd x7_2 (ji26)) + x9_2)))))); refine store_event (t := 3) (p := 61) (v := ?vo_w32) (w1 := (wr.setCell ⟨go29, ((ji26) : Int).toNat, none⟩ (.int .i64 (wrap64 ((rd x7_2 (ji26)) + x9_2))))) ?hg ?ho ?hn ?hr ?_; (case ho => rfl); (case hg => rfl); (case hn => rfl); (case hr => first | (go_simp; done) | (go_simp; rfl)); intro w32 hw; have hg : wr.grownBy w32 (some go29) := (by rw [hw]; exact HP31.2); have hp_ : Kd.R (Kd.int .i64) 3 w32 w.heap.size (fun k_ => some k_ ≠ (v286 : Value).ownBlock ∧ some k_ ≠ (v289 : Value).ownBlock) (.slice (some ⟨go29, 0, none⟩) x7_2.length co30) y305 := (by rw [hw, Ny305.out]; exact HP31.1); clear HP31; have n0_ := Aside0.mk (Kd.R_after (v := (.slice (some ⟨go29, 0, none⟩) x7_2.length co30)) (v1 := (.slice (some ⟨go29, 0, none⟩) x7_2.length co30)) (ok := (fun k_ => some k_ ≠ (v289 : Value).ownBlock)) (by (with_reducible repeat (first | apply Kd.R_alloc | apply Kd.R_drewN | apply Kd.R_drew)); exact HO_5.out) hg (.inl rfl)); have n1_ := Aside0.mk (Kd.R_after (v := (.slice (some ⟨go29, 0, none⟩) x7_2.length co30)) (v1 := (.slice (some ⟨go29, 0, none⟩) x7_2.length co30)) (ok := (fun k_ => some k_ ≠ (v286 : Value).ownBlock)) (by (with_reducible repeat (first | apply Kd.R_alloc | apply Kd.R_drewN | apply Kd.R_drew)); exact HO_6.out) hg (.inl rfl)); have n2_ := Aside0.mk (hp_); have n3_ := Aside0.mk (blk_grown (by exact BK284.out) hg (Kd.R_ne HO_7.out BK284.out (by decide))); have n4_ := Aside0.mk ((by rw [hw]; exact below_set (HB.out) GB29.out : Below w.heap.size w w32)); clear HO_5; clear HO_6; clear HO_7; clear BK284; clear HB; have HO_5 := n0_; have HO_6 := n1_; have HO_7 := n2_; have BK284 := n3_; have HB := n4_; clear n0_ n1_ n2_ n3_ n4_; clear hg hw hp_)); try go_wp2_with (first | ((with_reducible refine gate_store (t := 3) (p := 61) rfl ?_); (try (rw [drewN_self wr]; generalize hq_ : World.drewN wr _ = wr; have n0_ := Aside0.mk (Kd.R_at hq_ HO_5.out); have n1_ := Aside0.mk (Kd.R_at hq_ HO_6.out); have n2_ := Aside0.mk (Kd.R_at hq_ HO_7.out); have n3_ := Aside0.mk (blk_at hq_ BK284.out); have n4_ := Aside0.mk (below_at hq_ HB.out); clear hq_ HO_5 HO_6 HO_7 BK284 HB; have HO_5 := n0_; have HO_6 := n1_; have HO_7 := n2_; have BK284 := n3_; have HB := n4_; clear n0_ n1_ n2_ n3_ n4_; (try (have HP31 := Kd.R_putg HO_7.out ((ji26) : Int) (wrap64 ((rd x7_2 (ji26)) + x9_2)))))); refine store_event (t := 3) (p := 61) (v := ?vo_w32) (w1 := (wr.setCell ⟨go29, ((ji26) : Int).toNat, none⟩ (.int .i64 (wrap64 ((rd x7_2 (ji26)) + x9_2))))) ?hg ?ho ?hn ?hr ?_; (case ho => rfl); (case hg => rfl); (case hn => rfl); (case hr => first | (go_simp; done) | (go_simp; rfl)); intro w32 hw; have hg : wr.grownBy w32 (some go29) := (by rw [hw]; exact HP31.2); have hp_ : Kd.R (Kd.int .i64) 3 w32 w.heap.size (fun k_ => some k_ ≠ (v286 : Value).ownBlock ∧ some k_ ≠ (v289 : Value).ownBlock) (.slice (some ⟨go29, 0, none⟩) x7_2.length co30) y305 := (by rw [hw, Ny305.out]; exact HP31.1); clear HP31; have n0_ := Aside0.mk (Kd.R_after (v := (.slice (some ⟨go29, 0, none⟩) x7_2.length co30)) (v1 := (.slice (some ⟨go29, 0, none⟩) x7_2.length co30)) (ok := (fun k_ => some k_ ≠ (v289 : Value).ownBlock)) (by (with_reducible repeat (first | apply Kd.R_alloc | apply Kd.R_drewN | apply Kd.R_drew)); exact HO_5.out) hg (.inl rfl)); have n1_ := Aside0.mk (Kd.R_after (v := (.slice (some ⟨go29, 0, none⟩) x7_2.length co30)) (v1 := (.slice (some ⟨go29, 0, none⟩) x7_2.length co30)) (ok := (fun k_ => some k_ ≠ (v286 : Value).ownBlock)) (by (with_reducible repeat (first | apply Kd.R_alloc | apply Kd.R_drewN | apply Kd.R_drew)); exact HO_6.out) hg (.inl rfl)); have n2_ := Aside0.mk (hp_); have n3_ := Aside0.mk (blk_grown (by exact BK284.out) hg (Kd.R_ne HO_7.out BK284.out (by decide))); have n4_ := Aside0.mk ((by rw [hw]; exact below_set (HB.out) GB29.out : Below w.heap.size w w32)); clear HO_5; clear HO_6; clear HO_7; clear BK284; clear HB; have HO_5 := n0_; have HO_6 := n1_; have HO_7 := n2_; have BK284 := n3_; have HB := n4_; clear n0_ n1_ n2_ n3_ n4_; clear hg hw hp_)))
          go_roundg k2
          case measure => have := HK1.out; have := HK2.out; omega
          case rel => exact ⟨(y305), (wrap64 (x8_1 + 1)), (by first | rfl | (simp; done) | (simp [*]; done)), H', ⟨by have := HK1.out; have := HK2.out; omega⟩, ⟨by (with_reducible repeat (first | apply Kd.R_alloc | apply Kd.R_drewN | apply Kd.R_drew)); exact HO_5.out⟩, ⟨by (with_reducible repeat (first | apply Kd.R_alloc | apply Kd.R_drewN | apply Kd.R_drew)); exact HO_6.out⟩, ⟨by (with_reducible repeat (first | apply Kd.R_alloc | apply Kd.R_drewN | apply Kd.R_drew)); exact HO_7.out⟩, ⟨by exact BK284.out⟩, ⟨by repeat (first | (with_reducible first | exact HB.out | apply below_alloc | apply pw_below_drewN | apply below_drew1 | refine below_set ?_ GE284.out) | exact HB.out)⟩⟩
         ·rw [if_neg c28] at H
          exact absurd H (by simp)
        ·rw [if_neg c27] at H
         exact absurd H (by simp)
    ·rw [if_neg c11] at H
     have c11b0 : decide (x8_1 < 4) = false := decide_eq_false c11
     clear c11
     by_cases c33 : 8 ≤ (x7_1.length : Int)
     ·rw [if_pos c33] at H
      have c33b0 := eq_true c33
      have c33b1 : decide (8 ≤ (x7_1.length : Int)) = true := decide_eq_true c33
      clear c33
      obtain ⟨y294, hy294⟩ : ∃ y_ : List Int, y_ = (x7_1.take 8) := ⟨_, rfl⟩
      replace H : ((overfallref01_Value.f k1 y294).bind fun bt298 => (some (bt298.1, bt298.2))) = some (r1, r2) := by first | (rw [hy294]; with_reducible exact H) | (have H2_ := (Option.bind_some _ _).symm.trans H; rw [hy294]; with_reducible exact H2_) | (have H2_ := (Option.bind_some _ _).symm.trans H; with_reducible exact H2_) | with_reducible exact H | (rw [hy294]; exact H) | exact H
      have Ny294 := Aside0.mk hy294
      clear hy294
      replace H := Option.bind_eq_some_iff.mp H
      obtain ⟨⟨t298, t299⟩, A340, H⟩ := H
      replace H : (some (t298, t299)) = some (r1, r2) := H
      have A34 := Aside0.mk A340
      clear A340
      simp only [Option.some.injEq, Prod.mk.injEq] at H
      obtain ⟨rfl, rfl⟩ := H
      obtain ⟨Ao36, co36, eo36⟩ := Kd.R_slice HO_7.out
      subst eo36
      have q35 : (8 : Int) ≤ ((x7_1.length : Int) : Int) := of_decide_eq_true (by first | (with_reducible assumption) | assumption)
      obtain ⟨i035, hi035, _, hsz35, _⟩ := info_parts info3
      have hroom35 : x7_1.length ≤ co36 := (Kd.R_reads' HO_7.out).2.1
      have hC35 : Kd.C (Kd.int .i64) _ Ao36 x7_1.length x7_1 := (Kd.R_reads' HO_7.out).2.2
      have hcut35 := cut_to (P := Try.prog) 64 3 .i64 Try.underlying64 hi035 Ao36 x7_1.length co36 8 (by omega) q35 hroom35
      have hr35 := Kd.C_take (m := 8) hC35 (by omega)
      have hy35 : y294.length = (8 : Int).toNat := (by rw [Ny294.out, List.length_take]; omega)
      rw [← Ny294.out] at hr35
      rw [← hy35] at hcut35
      have HR297 := Aside0.mk hr35
      have HC297 := Aside0.mk (show y294.length ≤ co36 from by omega)
      clear hr35 hC35 hroom35 hi035 hsz35
      have KY35 := Aside0.mk hy35
      clear hy35
      have KL35 := Aside0.mk (show 8 ≤ x7_1.length from by omega)
      replace q35 := eq_true q35
      go_wp2_with (first | (go_at_call 35; (with_reducible refine (overfallref01_Value.calls k1 _ _ y294 t298 t299 _ ?side1 ?side2 A34.out).mono ?_); (case side1 => repeat (first | exact (by repeat (first | (with_reducible exact HR297.out) | (with_reducible refine Kd.C_alloc ?_ _) | (with_reducible refine Kd.C_drewN ?_ _) | (with_reducible refine Kd.C_drew ?_) | exact HR297.out)) | (with_reducible refine Kd.C_alloc ?_ _) | (with_reducible refine Kd.C_drewN ?_ _) | (with_reducible refine Kd.C_drew ?_))); (case side2 => exact HC297.out); rintro e w37 ⟨rfl, hb⟩; have n0_ := Aside0.mk (Kd.R_below (by (with_reducible repeat (first | apply Kd.R_alloc | apply Kd.R_drewN | apply Kd.R_drew)); exact HO_5.out) hb); have n1_ := Aside0.mk (Kd.R_below (by (with_reducible repeat (first | apply Kd.R_alloc | apply Kd.R_drewN | apply Kd.R_drew)); exact HO_6.out) hb); have n2_ := Aside0.mk (Kd.R_below (by (with_reducible repeat (first | apply Kd.R_alloc | apply Kd.R_drewN | apply Kd.R_drew)); exact HO_7.out) hb); have n3_ := Aside0.mk (blk_below (by exact BK284.out) hb); have n4_ := Aside0.mk (Kd.C_below (by repeat (first | (with_reducible exact HR297.out) | (with_reducible refine Kd.C_alloc ?_ _) | (with_reducible refine Kd.C_drewN ?_ _) | (with_reducible refine Kd.C_drew ?_) | exact HR297.out)) hb); have n5_ := Aside0.mk (below_step (by repeat (first | (with_reducible first | exact HB.out | apply below_alloc | apply pw_below_drewN | apply below_drew1 | refine below_set ?_ GE284.out) | exact HB.out)) hb); clear HO_5; clear HO_6; clear HO_7; clear BK284; clear HR297; clear HB; have HO_5 := n0_; have HO_6 := n1_; have HO_7 := n2_; have BK284 := n3_; have HR297 := n4_; have HB := n5_; clear n0_ n1_ n2_ n3_ n4_ n5_; (try clear hb); (try clear hb2); (try clear hk); (try clear hi); have hcz38_0 : w37.cell? ⟨gb284, 0, none⟩ = some (.int .u64 0) := (blk_cell BK284.out 0).trans rfl; have hcz38_1 : w37.cell? ⟨gb284, 1, none⟩ = some (.int .u64 0) := (blk_cell BK284.out 1).trans rfl; have hfz38_0 := blk_frozen BK284.out 0; have hfz38_1 := blk_frozen BK284.out 1))
      repeat (go_quiet (first | (go_at_call 35; (with_reducible refine (overfallref01_Value.calls k1 _ _ y294 t298 t299 _ ?side1 ?side2 A34.out).mono ?_); (case side1 => repeat (first | exact (by repeat (first | (with_reducible exact HR297.out) | (with_reducible refine Kd.C_alloc ?_ _) | (with_reducible refine Kd.C_drewN ?_ _) | (with_reducible refine Kd.C_drew ?_) | exact HR297.out)) | (with_reducible refine Kd.C_alloc ?_ _) | (with_reducible refine Kd.C_drewN ?_ _) | (with_reducible refine Kd.C_drew ?_))); (case side2 => exact HC297.out); rintro e w37 ⟨rfl, hb⟩; have n0_ := Aside0.mk (Kd.R_below (by (with_reducible repeat (first | apply Kd.R_alloc | apply Kd.R_drewN | apply Kd.R_drew)); exact HO_5.out) hb); have n1_ := Aside0.mk (Kd.R_below (by (with_reducible repeat (first | apply Kd.R_alloc | apply Kd.R_drewN | apply Kd.R_drew)); exact HO_6.out) hb); have n2_ := Aside0.mk (Kd.R_below (by (with_reducible repeat (first | apply Kd.R_alloc | apply Kd.R_drewN | apply Kd.R_drew)); exact HO_7.out) hb); have n3_ := Aside0.mk (blk_below (by exact BK284.out) hb); have n4_ := Aside0.mk (Kd.C_below (by repeat (first | (with_reducible exact HR297.out) | (with_reducible refine Kd.C_alloc ?_ _) | (with_reducible refine Kd.C_drewN ?_ _) | (with_reducible refine Kd.C_drew ?_) | exact HR297.out)) hb); have n5_ := Aside0.mk (below_step (by repeat (first | (with_reducible first | exact HB.out | apply below_alloc | apply pw_below_drewN | apply below_drew1 | refine below_set ?_ GE284.out) | exact HB.out)) hb); clear HO_5; clear HO_6; clear HO_7; clear BK284; clear HR297; clear HB; have HO_5 := n0_; have HO_6 := n1_; have HO_7 := n2_; have BK284 := n3_; have HR297 := n4_; have HB := n5_; clear n0_ n1_ n2_ n3_ n4_ n5_; (try clear hb); (try clear hb2); (try clear hk); (try clear hi); have hcz38_0 : w37.cell? ⟨gb284, 0, none⟩ = some (.int .u64 0) := (blk_cell BK284.out 0).trans rfl; have hcz38_1 : w37.cell? ⟨gb284, 1, none⟩ = some (.int .u64 0) := (blk_cell BK284.out 1).trans rfl; have hfz38_0 := blk_frozen BK284.out 0; have hfz38_1 := blk_frozen BK284.out 1)); try go_wp2_with (first | (go_at_call 35; (with_reducible refine (overfallref01_Value.calls k1 _ _ y294 t298 t299 _ ?side1 ?side2 A34.out).mono ?_); (case side1 => repeat (first | exact (by repeat (first | (with_reducible exact HR297.out) | (with_reducible refine Kd.C_alloc ?_ _) | (with_reducible refine Kd.C_drewN ?_ _) | (with_reducible refine Kd.C_drew ?_) | exact HR297.out)) | (with_reducible refine Kd.C_alloc ?_ _) | (with_reducible refine Kd.C_drewN ?_ _) | (with_reducible refine Kd.C_drew ?_))); (case side2 => exact HC297.out); rintro e w37 ⟨rfl, hb⟩; have n0_ := Aside0.mk (Kd.R_below (by (with_reducible repeat (first | apply Kd.R_alloc | apply Kd.R_drewN | apply Kd.R_drew)); exact HO_5.out) hb); have n1_ := Aside0.mk (Kd.R_below (by (with_reducible repeat (first | apply Kd.R_alloc | apply Kd.R_drewN | apply Kd.R_drew)); exact HO_6.out) hb); have n2_ := Aside0.mk (Kd.R_below (by (with_reducible repeat (first | apply Kd.R_alloc | apply Kd.R_drewN | apply Kd.R_drew)); exact HO_7.out) hb); have n3_ := Aside0.mk (blk_below (by exact BK284.out) hb); have n4_ := Aside0.mk (Kd.C_below (by repeat (first | (with_reducible exact HR297.out) | (with_reducible refine Kd.C_alloc ?_ _) | (with_reducible refine Kd.C_drewN ?_ _) | (with_reducible refine Kd.C_drew ?_) | exact HR297.out)) hb); have n5_ := Aside0.mk (below_step (by repeat (first | (with_reducible first | exact HB.out | apply below_alloc | apply pw_below_drewN | apply below_drew1 | refine below_set ?_ GE284.out) | exact HB.out)) hb); clear HO_5; clear HO_6; clear HO_7; clear BK284; clear HR297; clear HB; have HO_5 := n0_; have HO_6 := n1_; have HO_7 := n2_; have BK284 := n3_; have HR297 := n4_; have HB := n5_; clear n0_ n1_ n2_ n3_ n4_ n5_; (try clear hb); (try clear hb2); (try clear hk); (try clear hi); have hcz38_0 : w37.cell? ⟨gb284, 0, none⟩ = some (.int .u64 0) := (blk_cell BK284.out 0).trans rfl; have hcz38_1 : w37.cell? ⟨gb284, 1, none⟩ = some (.int .u64 0) := (blk_cell BK284.out 1).trans rfl; have hfz38_0 := blk_frozen BK284.out 0; have hfz38_1 := blk_frozen BK284.out 1)))
      refine bodyPost_ret (results_cell_row rfl _ _ gb284 50 #[.int .u64 t298, .int .u64 t299] (0, 0) _ rfl (by refine blk_put (cs := #[.int .u64 t298, .int .u64 0]) ?_ 1 _ rfl; refine blk_put (cs := #[.int .u64 0, .int .u64 0]) ?_ 0 _ rfl; exact BK284.out) Try.underlying50 rfl (by kernel_rfl)) rfl ?_
      exact ⟨by first | rfl | (simp [errW_none, errW_some] <;> rfl) | (simp [*, errW_none, errW_some] <;> rfl), by repeat (first | (with_reducible first | exact HB.out | apply below_alloc | apply pw_below_drewN | apply below_drew1 | refine below_set ?_ GE284.out) | exact HB.out)⟩
     ·rw [if_neg c33] at H
      exact absurd H (by simp)
 ·rw [if_neg c5] at H
  exact absurd H (by simp)

end Go.Proofs.Ytiiffgmbkajkhaa.E

-- Laid by a program of this claim's session (wip/tools/myprint.py) over the kit's printer.
import Derived.Test.YtiiffgmbkajkhaaBx0
import Derived.Test.YtiiffgmbkajkhaaBx6
import Derived.Test.YtiiffgmbkajkhaaBx7
namespace Go.Proofs.Ytiiffgmbkajkhaa.B
open Go.RowKit Go.Proofs.YtiiffgmbkajkhaaW.PrintWords Go.Proofs.YtiiffgmbkajkhaaW.PrintLast Go.Proofs.YtiiffgmbkajkhaaW.PrintMore
attribute [local go_sem] max2_int min2_int max_two min_two max_three min_three max_four min_four   -- for this text's walks alone
set_option linter.unusedVariables false
set_option linter.unusedSimpArgs false

/-! ### overfallref01_Mul: function 30 -/
mutual
def overfallref01_Mul.l0 : Nat → List Int → List Int → List Int → Int → Option (Int × Int)
 | 0, _, _, _, _ => none
 | k + 1, x5, x6, x7, x8 => if x8 < 4 then (overfallref01_Mul.l1 k x5 x6 x7 x8 0 0) else (if 8 ≤ (x7.length : Int) then ((overfallref01_Value.f k (x7.take 8)).bind fun bt299 => (some (bt299.1, bt299.2))) else (none))
def overfallref01_Mul.l1 : Nat → List Int → List Int → List Int → Int → Int → Int → Option (Int × Int)
 | 0, _, _, _, _, _, _ => none
 | k + 1, x5, x6, x7, x8, x9, x10 => if x10 < 4 then (if 0 ≤ (wrap64 (x8 + x10)) then (if (wrap64 (x8 + x10)) < (x7.length : Int) then (if 0 ≤ x8 then (if x8 < (x5.length : Int) then (if 0 ≤ x10 then (if x10 < (x6.length : Int) then (overfallref01_Mul.l1 k x5 x6 (x7.set ((wrap64 (x8 + x10)) : Int).toNat (Int.tmod (wrap64 ((wrap64 ((rd x7 (wrap64 (x8 + x10))) + (wrap64 ((rd x5 x8) * (rd x6 x10))))) + x9)) 65536)) x8 (wrap64 (Int.tdiv (wrap64 ((wrap64 ((rd x7 (wrap64 (x8 + x10))) + (wrap64 ((rd x5 x8) * (rd x6 x10))))) + x9)) 65536)) (wrap64 (x10 + 1))) else (none)) else (none)) else (none)) else (none)) else (none)) else (none)) else (if 0 ≤ (wrap64 (x8 + 4)) then (if (wrap64 (x8 + 4)) < (x7.length : Int) then (overfallref01_Mul.l0 k x5 x6 (x7.set ((wrap64 (x8 + 4)) : Int).toNat (wrap64 ((rd x7 (wrap64 (x8 + 4))) + x9))) (wrap64 (x8 + 1))) else (none)) else (none))
end
def overfallref01_Mul.f (k : Nat) (a0 : Int) (a1 : Int) : Option (Int × Int) := (overfallref01_Digits.f k 0 a0).bind fun t286 => ((overfallref01_Digits.f k 0 a1).bind fun t289 => (if 9 ≤ 35184372088832 then (overfallref01_Mul.l0 k t286 t289 (List.replicate 9 0) 0) else (none)))
theorem overfallref01_Mul.mono_l : ∀ k, (∀ y0 y1 y2 y3, LeO (overfallref01_Mul.l0 k y0 y1 y2 y3) (overfallref01_Mul.l0 (k + 1) y0 y1 y2 y3)) ∧ (∀ y0 y1 y2 y3 y4 y5, LeO (overfallref01_Mul.l1 k y0 y1 y2 y3 y4 y5) (overfallref01_Mul.l1 (k + 1) y0 y1 y2 y3 y4 y5))
 | 0 => ⟨fun _ _ _ _ r h => by simp [overfallref01_Mul.l0] at h, fun _ _ _ _ _ _ r h => by simp [overfallref01_Mul.l1] at h⟩
 | k + 1 => by
  obtain ⟨ih0, ih1⟩ := overfallref01_Mul.mono_l k
  refine ⟨?_, ?_⟩
  ·intro y0 y1 y2 y3
   unfold overfallref01_Mul.l0
   repeat' first
   | (with_reducible exact ih0 _ _ _ _)
   | (with_reducible exact ih1 _ _ _ _ _ _)
   | (with_reducible exact overfallref01_Digits.mono _ _ _)
   | (with_reducible exact overfallref01_Value.mono _ _)
   | (with_reducible exact LeO.refl _)
   | (with_reducible exact LeO.none _)
   | (with_reducible refine LeO.ite ?_ ?_)
   | (with_reducible refine LeO.bind ?_ (fun _ => ?_))
   | exact ih0 _ _ _ _
   | exact ih1 _ _ _ _ _ _
   | exact overfallref01_Digits.mono _ _ _
   | exact overfallref01_Value.mono _ _
   | exact LeO.none _
   | refine LeO.ite ?_ ?_
   | refine LeO.bind ?_ (fun _ => ?_)
  ·intro y0 y1 y2 y3 y4 y5
   unfold overfallref01_Mul.l1
   repeat' first
   | (with_reducible exact ih0 _ _ _ _)
   | (with_reducible exact ih1 _ _ _ _ _ _)
   | (with_reducible exact overfallref01_Digits.mono _ _ _)
   | (with_reducible exact overfallref01_Value.mono _ _)
   | (with_reducible exact LeO.refl _)
   | (with_reducible exact LeO.none _)
   | (with_reducible refine LeO.ite ?_ ?_)
   | (with_reducible refine LeO.bind ?_ (fun _ => ?_))
   | exact ih0 _ _ _ _
   | exact ih1 _ _ _ _ _ _
   | exact overfallref01_Digits.mono _ _ _
   | exact overfallref01_Value.mono _ _
   | exact LeO.none _
   | refine LeO.ite ?_ ?_
   | refine LeO.bind ?_ (fun _ => ?_)
theorem overfallref01_Mul.mono : ∀ a0 a1 k, LeO (overfallref01_Mul.f k a0 a1) (overfallref01_Mul.f (k + 1) a0 a1) := by
 intro a0 a1 k
 obtain ⟨ih0, ih1⟩ := overfallref01_Mul.mono_l k
 unfold overfallref01_Mul.f
 repeat' first
   | (with_reducible exact ih0 _ _ _ _)
   | (with_reducible exact ih1 _ _ _ _ _ _)
   | (with_reducible exact overfallref01_Digits.mono _ _ _)
   | (with_reducible exact overfallref01_Value.mono _ _)
   | (with_reducible exact LeO.refl _)
   | (with_reducible exact LeO.none _)
   | (with_reducible refine LeO.ite ?_ ?_)
   | (with_reducible refine LeO.bind ?_ (fun _ => ?_))
   | exact ih0 _ _ _ _
   | exact ih1 _ _ _ _ _ _
   | exact overfallref01_Digits.mono _ _ _
   | exact overfallref01_Value.mono _ _
   | exact LeO.none _
   | refine LeO.ite ?_ ?_
   | refine LeO.bind ?_ (fun _ => ?_)
set_option maxHeartbeats 8000000 in
set_option maxRecDepth 100000 in
theorem overfallref01_Mul.calls (k : Nat) (a0 : Int) (a1 : Int) (r1 : Int) (r2 : Int) (w : World) (h : overfallref01_Mul.f k a0 a1 = some (r1, r2)) :
  Calls Try.prog 30 #[.int .u64 a0, .int .u64 a1] w fun e w' => e = .returned (.agg #[.int .u64 r1, .int .u64 r2]) ∧ Below w.heap.size w w' := by
 have hu50 := Try.underlying50
 have HB := Aside0.mk (Below.refl w.heap.size w)
 have H : ((overfallref01_Digits.f k 0 a0).bind fun t286 => ((overfallref01_Digits.f k 0 a1).bind fun t289 => (if 9 ≤ 35184372088832 then (overfallref01_Mul.l0 k t286 t289 (List.replicate 9 0) 0) else (none)))) = some (r1, r2) := h
 clear h
 replace H := Option.bind_eq_some_iff.mp H
 obtain ⟨t286, A30, H⟩ := H
 replace H : ((overfallref01_Digits.f k 0 a1).bind fun t289 => (if 9 ≤ 35184372088832 then (overfallref01_Mul.l0 k t286 t289 (List.replicate 9 0) 0) else (none))) = some (r1, r2) := H
 have A3 := Aside0.mk A30
 clear A30
 replace H := Option.bind_eq_some_iff.mp H
 obtain ⟨t289, A40, H⟩ := H
 replace H : (if 9 ≤ 35184372088832 then (overfallref01_Mul.l0 k t286 t289 (List.replicate 9 0) 0) else (none)) = some (r1, r2) := H
 have A4 := Aside0.mk A40
 clear A40
 by_cases c5 : 9 ≤ 35184372088832
 ·rw [if_pos c5] at H
  have c5b0 := eq_true c5
  have c5b1 : decide (9 ≤ 35184372088832) = true := decide_eq_true c5
  clear c5
  obtain ⟨y292, hy292⟩ : ∃ y_ : List Int, y_ = (List.replicate 9 0) := ⟨_, rfl⟩
  replace H : (overfallref01_Mul.l0 k t286 t289 y292 0) = some (r1, r2) := by first | (rw [hy292]; with_reducible exact H) | (have H2_ := (Option.bind_some _ _).symm.trans H; rw [hy292]; with_reducible exact H2_) | (have H2_ := (Option.bind_some _ _).symm.trans H; with_reducible exact H2_) | with_reducible exact H | (rw [hy292]; exact H) | exact H
  have Ny292 := Aside0.mk hy292
  clear hy292
  have H' := Aside0.mk H
  clear H
  go_enter Try.func30, Try.ntmps30
  go_wp2_with (first | ((with_reducible refine gate_dst (N := 4) rfl ?_); refine box_event ?hg (N := 4) ?hd (cs := #[.int .u64 0, .int .u64 0]) (t := 50) ?hr ?_; (case hd => rfl); (case hg => rfl); (case hr => first | (go_simp; done) | (go_simp; rfl)); intro gb285 hg w6 hbox hb; have n0_ := Aside0.mk (below_step (by repeat (first | (with_reducible first | exact HB.out | apply below_alloc | apply pw_below_drewN | apply below_drew1) | exact HB.out)) hb); have n1_ := Aside0.mk (hbox); have n2_ := Aside0.mk ((by rw [hg]; exact (below_size (by repeat (first | (with_reducible first | exact HB.out | apply below_alloc | apply pw_below_drewN | apply below_drew1) | exact HB.out))) : w.heap.size ≤ gb285)); have n3_ := Aside0.mk ((by rw [hg]; exact (below_size (by repeat (first | (with_reducible first | exact HB.out | apply below_alloc | apply pw_below_drewN | apply below_drew1) | exact HB.out))) : w.heap.size ≤ gb285)); clear HB; have HB := n0_; have BK285 := n1_; have GW285 := n2_; have GE285 := n3_; clear n0_ n1_ n2_ n3_; clear hb hbox hg) | (go_at_call 34; (with_reducible refine (overfallref01_Digits.calls k 0 a0 t286 _ A3.out).mono ?_); rintro e w7 ⟨v287, rfl, ho0, hb⟩; have n0_ := Aside0.mk (Kd.R_lower ho0 (below_size (by repeat (first | (with_reducible first | exact HB.out | apply below_alloc | apply pw_below_drewN | apply below_drew1 | refine below_set ?_ GE285.out) | exact HB.out)))); have n1_ := Aside0.mk (blk_below (by exact BK285.out) hb); have n2_ := Aside0.mk (below_step (by repeat (first | (with_reducible first | exact HB.out | apply below_alloc | apply pw_below_drewN | apply below_drew1 | refine below_set ?_ GE285.out) | exact HB.out)) hb); clear BK285; clear HB; have HO288 := n0_; have BK285 := n1_; have HB := n2_; clear n0_ n1_ n2_; (try clear hb); (try clear hb2); (try clear hk); (try clear hi); (try clear ho0)) | (go_at_call 34; (with_reducible refine (overfallref01_Digits.calls k 0 a1 t289 _ A4.out).mono ?_); rintro e w8 ⟨v290, rfl, ho0, hb⟩; have n0_ := Aside0.mk (Kd.R_elder' (by (with_reducible repeat (first | apply Kd.R_alloc | apply Kd.R_drewN | apply Kd.R_drew)); exact HO288.out) (Kd.R_base ho0) hb); have n1_ := Aside0.mk (Kd.R_lower (Kd.R_new' ho0 (Kd.R_lt (by (with_reducible repeat (first | apply Kd.R_alloc | apply Kd.R_drewN | apply Kd.R_drew)); exact HO288.out))) (below_size (by repeat (first | (with_reducible first | exact HB.out | apply below_alloc | apply pw_below_drewN | apply below_drew1 | refine below_set ?_ GE285.out) | exact HB.out)))); have n2_ := Aside0.mk (blk_below (by exact BK285.out) hb); have n3_ := Aside0.mk (below_step (by repeat (first | (with_reducible first | exact HB.out | apply below_alloc | apply pw_below_drewN | apply below_drew1 | refine below_set ?_ GE285.out) | exact HB.out)) hb); clear HO288; clear BK285; clear HB; have HO288 := n0_; have HO291 := n1_; have BK285 := n2_; have HB := n3_; clear n0_ n1_ n2_ n3_; (try clear hb); (try clear hb2); (try clear hk); (try clear hi); (try clear ho0)) | ((with_reducible refine gate_dst (N := 18) rfl ?_); refine Kd.R_make (Kd.int .i64) _ 3 rfl (N := 18) rfl 64 _ _ rfl 9 rfl rfl Try.underlying64 (.int .i64 0) 8 info3 rfl (by decide) (by omega) 0 (ok := fun _ => True) (okp := fun _ => True) rfl (fun _ hk => hk) trivial (by omega) (by omega) (Below.refl _ _) (Nat.le_refl _) ?_; intro v293 w9 ho10 hb hg_ hnew_; clear hg_ hnew_; (first | rw [← Ny292.out] at ho10 | (simp only [Int.reduceToNat] at ho10; rw [← Ny292.out] at ho10)); have n0_ := Aside0.mk (Kd.R_elder' (by (with_reducible repeat (first | apply Kd.R_alloc | apply Kd.R_drewN | apply Kd.R_drew)); exact HO288.out) (Kd.R_base ho10) hb); have n1_ := Aside0.mk (Kd.R_elder' (by (with_reducible repeat (first | apply Kd.R_alloc | apply Kd.R_drewN | apply Kd.R_drew)); exact HO291.out) (Kd.R_base ho10) hb); have n2_ := Aside0.mk (Kd.R_lower (Kd.R_new' (Kd.R_new' ho10 (Kd.R_lt (by (with_reducible repeat (first | apply Kd.R_alloc | apply Kd.R_drewN | apply Kd.R_drew)); exact HO288.out))) (Kd.R_lt (by (with_reducible repeat (first | apply Kd.R_alloc | apply Kd.R_drewN | apply Kd.R_drew)); exact HO291.out))) (below_size (by repeat (first | (with_reducible first | exact HB.out | apply below_alloc | apply pw_below_drewN | apply below_drew1 | refine below_set ?_ GE285.out) | exact HB.out)))); have n3_ := Aside0.mk (blk_below (by exact BK285.out) hb); have n4_ := Aside0.mk (below_step (by repeat (first | (with_reducible first | exact HB.out | apply below_alloc | apply pw_below_drewN | apply below_drew1 | refine below_set ?_ GE285.out) | exact HB.out)) hb); clear HO288; clear HO291; clear BK285; clear HB; have HO288 := n0_; have HO291 := n1_; have HO294 := n2_; have BK285 := n3_; have HB := n4_; clear n0_ n1_ n2_ n3_ n4_; clear hb ho10))
  repeat (go_quiet (first | ((with_reducible refine gate_dst (N := 4) rfl ?_); refine box_event ?hg (N := 4) ?hd (cs := #[.int .u64 0, .int .u64 0]) (t := 50) ?hr ?_; (case hd => rfl); (case hg => rfl); (case hr => first | (go_simp; done) | (go_simp; rfl)); intro gb285 hg w6 hbox hb; have n0_ := Aside0.mk (below_step (by repeat (first | (with_reducible first | exact HB.out | apply below_alloc | apply pw_below_drewN | apply below_drew1) | exact HB.out)) hb); have n1_ := Aside0.mk (hbox); have n2_ := Aside0.mk ((by rw [hg]; exact (below_size (by repeat (first | (with_reducible first | exact HB.out | apply below_alloc | apply pw_below_drewN | apply below_drew1) | exact HB.out))) : w.heap.size ≤ gb285)); have n3_ := Aside0.mk ((by rw [hg]; exact (below_size (by repeat (first | (with_reducible first | exact HB.out | apply below_alloc | apply pw_below_drewN | apply below_drew1) | exact HB.out))) : w.heap.size ≤ gb285)); clear HB; have HB := n0_; have BK285 := n1_; have GW285 := n2_; have GE285 := n3_; clear n0_ n1_ n2_ n3_; clear hb hbox hg) | (go_at_call 34; (with_reducible refine (overfallref01_Digits.calls k 0 a0 t286 _ A3.out).mono ?_); rintro e w7 ⟨v287, rfl, ho0, hb⟩; have n0_ := Aside0.mk (Kd.R_lower ho0 (below_size (by repeat (first | (with_reducible first | exact HB.out | apply below_alloc | apply pw_below_drewN | apply below_drew1 | refine below_set ?_ GE285.out) | exact HB.out)))); have n1_ := Aside0.mk (blk_below (by exact BK285.out) hb); have n2_ := Aside0.mk (below_step (by repeat (first | (with_reducible first | exact HB.out | apply below_alloc | apply pw_below_drewN | apply below_drew1 | refine below_set ?_ GE285.out) | exact HB.out)) hb); clear BK285; clear HB; have HO288 := n0_; have BK285 := n1_; have HB := n2_; clear n0_ n1_ n2_; (try clear hb); (try clear hb2); (try clear hk); (try clear hi); (try clear ho0)) | (go_at_call 34; (with_reducible refine (overfallref01_Digits.calls k 0 a1 t289 _ A4.out).mono ?_); rintro e w8 ⟨v290, rfl, ho0, hb⟩; have n0_ := Aside0.mk (Kd.R_elder' (by (with_reducible repeat (first | apply Kd.R_alloc | apply Kd.R_drewN | apply Kd.R_drew)); exact HO288.out) (Kd.R_base ho0) hb); have n1_ := Aside0.mk (Kd.R_lower (Kd.R_new' ho0 (Kd.R_lt (by (with_reducible repeat (first | apply Kd.R_alloc | apply Kd.R_drewN | apply Kd.R_drew)); exact HO288.out))) (below_size (by repeat (first | (with_reducible first | exact HB.out | apply below_alloc | apply pw_below_drewN | apply below_drew1 | refine below_set ?_ GE285.out) | exact HB.out)))); have n2_ := Aside0.mk (blk_below (by exact BK285.out) hb); have n3_ := Aside0.mk (below_step (by repeat (first | (with_reducible first | exact HB.out | apply below_alloc | apply pw_below_drewN | apply below_drew1 | refine below_set ?_ GE285.out) | exact HB.out)) hb); clear HO288; clear BK285; clear HB; have HO288 := n0_; have HO291 := n1_; have BK285 := n2_; have HB := n3_; clear n0_ n1_ n2_ n3_; (try clear hb); (try clear hb2); (try clear hk); (try clear hi); (try clear ho0)) | ((with_reducible refine gate_dst (N := 18) rfl ?_); refine Kd.R_make (Kd.int .i64) _ 3 rfl (N := 18) rfl 64 _ _ rfl 9 rfl rfl Try.underlying64 (.int .i64 0) 8 info3 rfl (by decide) (by omega) 0 (ok := fun _ => True) (okp := fun _ => True) rfl (fun _ hk => hk) trivial (by omega) (by omega) (Below.refl _ _) (Nat.le_refl _) ?_; intro v293 w9 ho10 hb hg_ hnew_; clear hg_ hnew_; (first | rw [← Ny292.out] at ho10 | (simp only [Int.reduceToNat] at ho10; rw [← Ny292.out] at ho10)); have n0_ := Aside0.mk (Kd.R_elder' (by (with_reducible repeat (first | apply Kd.R_alloc | apply Kd.R_drewN | apply Kd.R_drew)); exact HO288.out) (Kd.R_base ho10) hb); have n1_ := Aside0.mk (Kd.R_elder' (by (with_reducible repeat (first | apply Kd.R_alloc | apply Kd.R_drewN | apply Kd.R_drew)); exact HO291.out) (Kd.R_base ho10) hb); have n2_ := Aside0.mk (Kd.R_lower (Kd.R_new' (Kd.R_new' ho10 (Kd.R_lt (by (with_reducible repeat (first | apply Kd.R_alloc | apply Kd.R_drewN | apply Kd.R_drew)); exact HO288.out))) (Kd.R_lt (by (with_reducible repeat (first | apply Kd.R_alloc | apply Kd.R_drewN | apply Kd.R_drew)); exact HO291.out))) (below_size (by repeat (first | (with_reducible first | exact HB.out | apply below_alloc | apply pw_below_drewN | apply below_drew1 | refine below_set ?_ GE285.out) | exact HB.out)))); have n3_ := Aside0.mk (blk_below (by exact BK285.out) hb); have n4_ := Aside0.mk (below_step (by repeat (first | (with_reducible first | exact HB.out | apply below_alloc | apply pw_below_drewN | apply below_drew1 | refine below_set ?_ GE285.out) | exact HB.out)) hb); clear HO288; clear HO291; clear BK285; clear HB; have HO288 := n0_; have HO291 := n1_; have HO294 := n2_; have BK285 := n3_; have HB := n4_; clear n0_ n1_ n2_ n3_ n4_; clear hb ho10)); try go_wp2_with (first | ((with_reducible refine gate_dst (N := 4) rfl ?_); refine box_event ?hg (N := 4) ?hd (cs := #[.int .u64 0, .int .u64 0]) (t := 50) ?hr ?_; (case hd => rfl); (case hg => rfl); (case hr => first | (go_simp; done) | (go_simp; rfl)); intro gb285 hg w6 hbox hb; have n0_ := Aside0.mk (below_step (by repeat (first | (with_reducible first | exact HB.out | apply below_alloc | apply pw_below_drewN | apply below_drew1) | exact HB.out)) hb); have n1_ := Aside0.mk (hbox); have n2_ := Aside0.mk ((by rw [hg]; exact (below_size (by repeat (first | (with_reducible first | exact HB.out | apply below_alloc | apply pw_below_drewN | apply below_drew1) | exact HB.out))) : w.heap.size ≤ gb285)); have n3_ := Aside0.mk ((by rw [hg]; exact (below_size (by repeat (first | (with_reducible first | exact HB.out | apply below_alloc | apply pw_below_drewN | apply below_drew1) | exact HB.out))) : w.heap.size ≤ gb285)); clear HB; have HB := n0_; have BK285 := n1_; have GW285 := n2_; have GE285 := n3_; clear n0_ n1_ n2_ n3_; clear hb hbox hg) | (go_at_call 34; (with_reducible refine (overfallref01_Digits.calls k 0 a0 t286 _ A3.out).mono ?_); rintro e w7 ⟨v287, rfl, ho0, hb⟩; have n0_ := Aside0.mk (Kd.R_lower ho0 (below_size (by repeat (first | (with_reducible first | exact HB.out | apply below_alloc | apply pw_below_drewN | apply below_drew1 | refine below_set ?_ GE285.out) | exact HB.out)))); have n1_ := Aside0.mk (blk_below (by exact BK285.out) hb); have n2_ := Aside0.mk (below_step (by repeat (first | (with_reducible first | exact HB.out | apply below_alloc | apply pw_below_drewN | apply below_drew1 | refine below_set ?_ GE285.out) | exact HB.out)) hb); clear BK285; clear HB; have HO288 := n0_; have BK285 := n1_; have HB := n2_; clear n0_ n1_ n2_; (try clear hb); (try clear hb2); (try clear hk); (try clear hi); (try clear ho0)) | (go_at_call 34; (with_reducible refine (overfallref01_Digits.calls k 0 a1 t289 _ A4.out).mono ?_); rintro e w8 ⟨v290, rfl, ho0, hb⟩; have n0_ := Aside0.mk (Kd.R_elder' (by (with_reducible repeat (first | apply Kd.R_alloc | apply Kd.R_drewN | apply Kd.R_drew)); exact HO288.out) (Kd.R_base ho0) hb); have n1_ := Aside0.mk (Kd.R_lower (Kd.R_new' ho0 (Kd.R_lt (by (with_reducible repeat (first | apply Kd.R_alloc | apply Kd.R_drewN | apply Kd.R_drew)); exact HO288.out))) (below_size (by repeat (first | (with_reducible first | exact HB.out | apply below_alloc | apply pw_below_drewN | apply below_drew1 | refine below_set ?_ GE285.out) | exact HB.out)))); have n2_ := Aside0.mk (blk_below (by exact BK285.out) hb); have n3_ := Aside0.mk (below_step (by repeat (first | (with_reducible first | exact HB.out | apply below_alloc | apply pw_below_drewN | apply below_drew1 | refine below_set ?_ GE285.out) | exact HB.out)) hb); clear HO288; clear BK285; clear HB; have HO288 := n0_; have HO291 := n1_; have BK285 := n2_; have HB := n3_; clear n0_ n1_ n2_ n3_; (try clear hb); (try clear hb2); (try clear hk); (try clear hi); (try clear ho0)) | ((with_reducible refine gate_dst (N := 18) rfl ?_); refine Kd.R_make (Kd.int .i64) _ 3 rfl (N := 18) rfl 64 _ _ rfl 9 rfl rfl Try.underlying64 (.int .i64 0) 8 info3 rfl (by decide) (by omega) 0 (ok := fun _ => True) (okp := fun _ => True) rfl (fun _ hk => hk) trivial (by omega) (by omega) (Below.refl _ _) (Nat.le_refl _) ?_; intro v293 w9 ho10 hb hg_ hnew_; clear hg_ hnew_; (first | rw [← Ny292.out] at ho10 | (simp only [Int.reduceToNat] at ho10; rw [← Ny292.out] at ho10)); have n0_ := Aside0.mk (Kd.R_elder' (by (with_reducible repeat (first | apply Kd.R_alloc | apply Kd.R_drewN | apply Kd.R_drew)); exact HO288.out) (Kd.R_base ho10) hb); have n1_ := Aside0.mk (Kd.R_elder' (by (with_reducible repeat (first | apply Kd.R_alloc | apply Kd.R_drewN | apply Kd.R_drew)); exact HO291.out) (Kd.R_base ho10) hb); have n2_ := Aside0.mk (Kd.R_lower (Kd.R_new' (Kd.R_new' ho10 (Kd.R_lt (by (with_reducible repeat (first | apply Kd.R_alloc | apply Kd.R_drewN | apply Kd.R_drew)); exact HO288.out))) (Kd.R_lt (by (with_reducible repeat (first | apply Kd.R_alloc | apply Kd.R_drewN | apply Kd.R_drew)); exact HO291.out))) (below_size (by repeat (first | (with_reducible first | exact HB.out | apply below_alloc | apply pw_below_drewN | apply below_drew1 | refine below_set ?_ GE285.out) | exact HB.out)))); have n3_ := Aside0.mk (blk_below (by exact BK285.out) hb); have n4_ := Aside0.mk (below_step (by repeat (first | (with_reducible first | exact HB.out | apply below_alloc | apply pw_below_drewN | apply below_drew1 | refine below_set ?_ GE285.out) | exact HB.out)) hb); clear HO288; clear HO291; clear BK285; clear HB; have HO288 := n0_; have HO291 := n1_; have HO294 := n2_; have BK285 := n3_; have HB := n4_; clear n0_ n1_ n2_ n3_ n4_; clear hb ho10)))
  go_loopg [8] k (fun kq v8 w' => ∃ (x7_1 : List Int) (x8_1 : Int), v8 = .int .i64 x8_1 ∧ Aside0 (overfallref01_Mul.l0 kq t286 t289 x7_1 x8_1 = some (r1, r2)) ∧ Aside0 (kq ≤ k) ∧ Aside0 (Kd.R (Kd.int .i64) 3 w' w.heap.size (fun k_ => some k_ ≠ (v290 : Value).ownBlock ∧ some k_ ≠ (v293 : Value).ownBlock) v287 t286) ∧ Aside0 (Kd.R (Kd.int .i64) 3 w' w.heap.size (fun k_ => some k_ ≠ (v287 : Value).ownBlock ∧ some k_ ≠ (v293 : Value).ownBlock) v290 t289) ∧ Aside0 (Kd.R (Kd.int .i64) 3 w' w.heap.size (fun k_ => some k_ ≠ (v287 : Value).ownBlock ∧ some k_ ≠ (v290 : Value).ownBlock) v293 x7_1) ∧ Aside0 (w'.heap[gb285]? = some (.cells #[.int .u64 0, .int .u64 0] 50 (0, 0))) ∧ Aside0 (Below w.heap.size w w'))
  case atStart => exact ⟨(y292), (0), (by first | rfl | (simp; done) | (simp [*]; done)), H', ⟨Nat.le_refl _⟩, ⟨by (with_reducible repeat (first | apply Kd.R_alloc | apply Kd.R_drewN | apply Kd.R_drew)); exact Kd.R_mono HO288.out (fun _ hk => ⟨hk.1.2, hk.2⟩)⟩, ⟨by (with_reducible repeat (first | apply Kd.R_alloc | apply Kd.R_drewN | apply Kd.R_drew)); exact Kd.R_mono HO291.out (fun _ hk => ⟨hk.1.2, hk.2⟩)⟩, ⟨by (with_reducible repeat (first | apply Kd.R_alloc | apply Kd.R_drewN | apply Kd.R_drew)); exact Kd.R_mono HO294.out (fun _ hk => ⟨hk.1.2, hk.2⟩)⟩, ⟨by exact BK285.out⟩, ⟨by repeat (first | (with_reducible first | exact HB.out | apply below_alloc | apply pw_below_drewN | apply below_drew1 | refine below_set ?_ GE285.out) | exact HB.out)⟩⟩
  case round =>
   clear H'
   try clear p2
   try clear c3
   try clear c5
   try clear c5b0
   try clear c5b1
   obtain ⟨x7_1, x8_1, rfl, HA, HK1, HO_5, HO_6, HO_7, BK285, HB⟩ := hrel
   cases gk with
   | zero => exact absurd HA.out (by simp [overfallref01_Mul.l0])
   | succ k1 =>
    have H := HA.out
    clear HA
    simp only [overfallref01_Mul.l0] at H
    by_cases c11 : x8_1 < 4
    ·rw [if_pos c11] at H
     have c11b0 : decide (x8_1 < 4) = true := decide_eq_true c11
     clear c11
     have H' := Aside0.mk H
     clear H
     go_wp2
     repeat (go_quiet (fail); try go_wp2)
     go_loopg [9, 10] k1 (fun kq v9 v10 w' => ∃ (x7_2 : List Int) (x9_2 : Int) (x10_2 : Int), v9 = .int .i64 x9_2 ∧ v10 = .int .i64 x10_2 ∧ Aside0 (overfallref01_Mul.l1 kq t286 t289 x7_2 x8_1 x9_2 x10_2 = some (r1, r2)) ∧ Aside0 (kq ≤ k1) ∧ Aside0 (Kd.R (Kd.int .i64) 3 w' w.heap.size (fun k_ => some k_ ≠ (v290 : Value).ownBlock ∧ some k_ ≠ (v293 : Value).ownBlock) v287 t286) ∧ Aside0 (Kd.R (Kd.int .i64) 3 w' w.heap.size (fun k_ => some k_ ≠ (v287 : Value).ownBlock ∧ some k_ ≠ (v293 : Value).ownBlock) v290 t289) ∧ Aside0 (Kd.R (Kd.int .i64) 3 w' w.heap.size (fun k_ => some k_ ≠ (v287 : Value).ownBlock ∧ some k_ ≠ (v290 : Value).ownBlock) v293 x7_2) ∧ Aside0 (w'.heap[gb285]? = some (.cells #[.int .u64 0, .int .u64 0] 50 (0, 0))) ∧ Aside0 (Below w.heap.size w w'))
     case atStart => exact ⟨(x7_1), (0), (0), (by first | rfl | (simp; done) | (simp [*]; done)), (by first | rfl | (simp; done) | (simp [*]; done)), H', ⟨Nat.le_refl _⟩, ⟨by (with_reducible repeat (first | apply Kd.R_alloc | apply Kd.R_drewN | apply Kd.R_drew)); exact HO_5.out⟩, ⟨by (with_reducible repeat (first | apply Kd.R_alloc | apply Kd.R_drewN | apply Kd.R_drew)); exact HO_6.out⟩, ⟨by (with_reducible repeat (first | apply Kd.R_alloc | apply Kd.R_drewN | apply Kd.R_drew)); exact HO_7.out⟩, ⟨by exact BK285.out⟩, ⟨by repeat (first | (with_reducible first | exact HB.out | apply below_alloc | apply pw_below_drewN | apply below_drew1 | refine below_set ?_ GE285.out) | exact HB.out)⟩⟩
     case round =>
      clear H'
      try clear c1
      try clear p2
      try clear c3
      try clear c5
      try clear c5b0
      try clear c5b1
      try clear c11
      try clear c11b0
      try clear p2
      obtain ⟨x7_2, x9_2, x10_2, rfl, rfl, HA, HK2, HO_5, HO_6, HO_7, BK285, HB⟩ := hrel
      cases gk with
      | zero => exact absurd HA.out (by simp [overfallref01_Mul.l1])
      | succ k2 =>
       have H := HA.out
       clear HA
       simp only [overfallref01_Mul.l1] at H
       by_cases c12 : x10_2 < 4
       ·rw [if_pos c12] at H
        have c12b0 : decide (x10_2 < 4) = true := decide_eq_true c12
        clear c12
        obtain ⟨ji13, hji13⟩ : ∃ j_ : Int, (wrap64 (x8_1 + x10_2)) = j_ := ⟨_, rfl⟩
        replace H : (if 0 ≤ (ji13) then (if (ji13) < (x7_2.length : Int) then (if 0 ≤ x8_1 then (if x8_1 < (t286.length : Int) then (if 0 ≤ x10_2 then (if x10_2 < (t289.length : Int) then (overfallref01_Mul.l1 k2 t286 t289 (x7_2.set ((ji13) : Int).toNat (Int.tmod (wrap64 ((wrap64 ((rd x7_2 (ji13)) + (wrap64 ((rd t286 x8_1) * (rd t289 x10_2))))) + x9_2)) 65536)) x8_1 (wrap64 (Int.tdiv (wrap64 ((wrap64 ((rd x7_2 (ji13)) + (wrap64 ((rd t286 x8_1) * (rd t289 x10_2))))) + x9_2)) 65536)) (wrap64 (x10_2 + 1))) else (none)) else (none)) else (none)) else (none)) else (none)) else (none)) = some (r1, r2) := by first | (rw [hji13] at H; exact H) | (simp only [hji13] at H ⊢; exact H)
        have hji13w : (IntKind.i64.wrap (x8_1 + x10_2)) = ji13 := (i64_w _).trans hji13
        by_cases c14 : 0 ≤ (ji13)
        ·rw [if_pos c14] at H
         have c14b0 : decide (0 ≤ (ji13)) = true := decide_eq_true c14
         clear c14
         by_cases c15 : (ji13) < (x7_2.length : Int)
         ·rw [if_pos c15] at H
          have c15b0 : decide ((ji13) < (x7_2.length : Int)) = true := decide_eq_true c15
          clear c15
          by_cases c16 : 0 ≤ x8_1
          ·rw [if_pos c16] at H
           have c16b0 : decide (0 ≤ x8_1) = true := decide_eq_true c16
           clear c16
           by_cases c17 : x8_1 < (t286.length : Int)
           ·rw [if_pos c17] at H
            have c17b0 : decide (x8_1 < (t286.length : Int)) = true := decide_eq_true c17
            clear c17
            by_cases c18 : 0 ≤ x10_2
            ·rw [if_pos c18] at H
             have c18b0 : decide (0 ≤ x10_2) = true := decide_eq_true c18
             clear c18
             by_cases c19 : x10_2 < (t289.length : Int)
             ·rw [if_pos c19] at H
              have c19b0 : decide (x10_2 < (t289.length : Int)) = true := decide_eq_true c19
              clear c19
              obtain ⟨y304, hy304⟩ : ∃ y_ : List Int, y_ = (x7_2.set ((ji13) : Int).toNat (Int.tmod (wrap64 ((wrap64 ((rd x7_2 (ji13)) + (wrap64 ((rd t286 x8_1) * (rd t289 x10_2))))) + x9_2)) 65536)) := ⟨_, rfl⟩
              replace H : (overfallref01_Mul.l1 k2 t286 t289 y304 x8_1 (wrap64 (Int.tdiv (wrap64 ((wrap64 ((rd x7_2 (ji13)) + (wrap64 ((rd t286 x8_1) * (rd t289 x10_2))))) + x9_2)) 65536)) (wrap64 (x10_2 + 1))) = some (r1, r2) := by first | (rw [hy304]; with_reducible exact H) | (have H2_ := (Option.bind_some _ _).symm.trans H; rw [hy304]; with_reducible exact H2_) | (have H2_ := (Option.bind_some _ _).symm.trans H; with_reducible exact H2_) | with_reducible exact H | (rw [hy304]; exact H) | exact H
              have Ny304 := Aside0.mk hy304
              clear hy304
              have H' := Aside0.mk H
              clear H
              obtain ⟨Ao21, co21, eo21⟩ := Kd.R_slice HO_7.out
              subst eo21
              have p301 : 0 ≤ ((ji13) : Int) := of_decide_eq_true (by first | (with_reducible assumption) | assumption)
              have q301 : (ji13) < (x7_2.length : Int) := of_decide_eq_true (by first | (with_reducible assumption) | assumption)
              obtain ⟨ad301, e301, hx301_0⟩ := Kd.at_int (Kd.R_reads' HO_7.out).2.2 (ji13) p301 q301
              cases e301
              replace p301 := eq_true p301
              replace q301 := eq_true q301
              obtain ⟨Ao22, co22, eo22⟩ := Kd.R_slice HO_5.out
              subst eo22
              have p302 : 0 ≤ (x8_1 : Int) := of_decide_eq_true (by first | (with_reducible assumption) | assumption)
              have q302 : x8_1 < (t286.length : Int) := of_decide_eq_true (by first | (with_reducible assumption) | assumption)
              obtain ⟨ad302, e302, hx302_0⟩ := Kd.at_int (Kd.R_reads' HO_5.out).2.2 x8_1 p302 q302
              cases e302
              replace p302 := eq_true p302
              replace q302 := eq_true q302
              obtain ⟨Ao23, co23, eo23⟩ := Kd.R_slice HO_6.out
              subst eo23
              have p303 : 0 ≤ (x10_2 : Int) := of_decide_eq_true (by first | (with_reducible assumption) | assumption)
              have q303 : x10_2 < (t289.length : Int) := of_decide_eq_true (by first | (with_reducible assumption) | assumption)
              obtain ⟨ad303, e303, hx303_0⟩ := Kd.at_int (Kd.R_reads' HO_6.out).2.2 x10_2 p303 q303
              cases e303
              replace p303 := eq_true p303
              replace q303 := eq_true q303
              have p20 : 0 ≤ ((ji13) : Int) := of_decide_eq_true (by first | (with_reducible assumption) | assumption)
              have q20 : ((ji13) : Int) < ((x7_2.length : Int) : Int) := of_decide_eq_true (by first | (with_reducible assumption) | assumption)
              obtain ⟨go20, co20, eo20, gb20, gl20, cl20, HG20⟩ := Kd.R_form HO_7.out (by omega)
              (first | cases eo20 | (injection eo20 with ea_ en_ ec_; (first | subst ea_ | (injection ea_ with ea_; subst ea_)); subst ec_; clear en_))
              have GB20 := Aside0.mk gb20
              have GG20 := Aside0.mk HG20
              clear gb20 gl20 HG20
              (first | simp only [add_plain] at hx301_0 | skip)
              obtain ⟨hx20_0, hf20_0⟩ := Kd.R_celln 0 HO_7.out ((ji13) : Int) p20 q20
              replace p20 := eq_true p20
              replace q20 := eq_true q20
              have HP24 := Kd.R_putg HO_7.out ((ji13) : Int) (Int.tmod (wrap64 ((wrap64 ((rd x7_2 (ji13)) + (wrap64 ((rd t286 x8_1) * (rd t289 x10_2))))) + x9_2)) 65536)
              go_wp2_with (first | ((with_reducible refine gate_store (t := 3) (p := 53) rfl ?_); (try (rw [drewN_self wr]; generalize hq_ : World.drewN wr _ = wr; have n0_ := Aside0.mk (Kd.R_at hq_ HO_5.out); have n1_ := Aside0.mk (Kd.R_at hq_ HO_6.out); have n2_ := Aside0.mk (Kd.R_at hq_ HO_7.out); have n3_ := Aside0.mk (blk_at hq_ BK285.out); have n4_ := Aside0.mk (below_at hq_ HB.out); clear hq_ HO_5 HO_6 HO_7 BK285 HB; have HO_5 := n0_; have HO_6 := n1_; have HO_7 := n2_; have BK285 := n3_; have HB := n4_; clear n0_ n1_ n2_ n3_ n4_; (try (have HP24 := Kd.R_putg HO_7.out ((ji13) : Int) (Int.tmod (wrap64 ((wrap64 ((rd x7_2 (ji13)) + (wrap64 ((rd t286 x8_1) * (rd t289 x10_2))))) + x9_2)) 65536))))); refine store_event (t := 3) (p := 53) (v := ?vo_w25) (w1 := (wr.setCell ⟨go20, ((ji13) : Int).toNat, none⟩ (.int .i64 (Int.tmod (wrap64 ((wrap64 ((rd x7_2 (ji13)) + (wrap64 ((rd t286 x8_1) * (rd t289 x10_2))))) + x9_2)) 65536)))) ?hg ?ho ?hn ?hr ?_; (case ho => rfl); (case hg => rfl); (case hn => rfl); (case hr => first | (go_simp; done) | (go_simp; rfl)); intro w25 hw; have hg : wr.grownBy w25 (some go20) := (by rw [hw]; exact HP24.2); have hp_ : Kd.R (Kd.int .i64) 3 w25 w.heap.size (fun k_ => some k_ ≠ (.slice (some ad302) t286.length co22 : Value).ownBlock ∧ some k_ ≠ (.slice (some ad303) t289.length co23 : Value).ownBlock) (.slice (some ⟨go20, 0, none⟩) x7_2.length co21) y304 := (by rw [hw, Ny304.out]; exact HP24.1); clear HP24; have n0_ := Aside0.mk (Kd.R_after (v := (.slice (some ⟨go20, 0, none⟩) x7_2.length co21)) (v1 := (.slice (some ⟨go20, 0, none⟩) x7_2.length co21)) (ok := (fun k_ => some k_ ≠ (.slice (some ad303) t289.length co23 : Value).ownBlock)) (by (with_reducible repeat (first | apply Kd.R_alloc | apply Kd.R_drewN | apply Kd.R_drew)); exact HO_5.out) hg (.inl rfl)); have n1_ := Aside0.mk (Kd.R_after (v := (.slice (some ⟨go20, 0, none⟩) x7_2.length co21)) (v1 := (.slice (some ⟨go20, 0, none⟩) x7_2.length co21)) (ok := (fun k_ => some k_ ≠ (.slice (some ad302) t286.length co22 : Value).ownBlock)) (by (with_reducible repeat (first | apply Kd.R_alloc | apply Kd.R_drewN | apply Kd.R_drew)); exact HO_6.out) hg (.inl rfl)); have n2_ := Aside0.mk (hp_); have n3_ := Aside0.mk (blk_grown (by exact BK285.out) hg (Kd.R_ne HO_7.out BK285.out (by decide))); have n4_ := Aside0.mk ((by rw [hw]; exact below_set (HB.out) GB20.out : Below w.heap.size w w25)); clear HO_5; clear HO_6; clear HO_7; clear BK285; clear HB; have HO_5 := n0_; have HO_6 := n1_; have HO_7 := n2_; have BK285 := n3_; have HB := n4_; clear n0_ n1_ n2_ n3_ n4_; clear hg hw hp_))
              repeat (go_quiet (first | ((with_reducible refine gate_store (t := 3) (p := 53) rfl ?_); (try (rw [drewN_self wr]; generalize hq_ : World.drewN wr _ = wr; have n0_ := Aside0.mk (Kd.R_at hq_ HO_5.out); have n1_ := Aside0.mk (Kd.R_at hq_ HO_6.out); have n2_ := Aside0.mk (Kd.R_at hq_ HO_7.out); have n3_ := Aside0.mk (blk_at hq_ BK285.out); have n4_ := Aside0.mk (below_at hq_ HB.out); clear hq_ HO_5 HO_6 HO_7 BK285 HB; have HO_5 := n0_; have HO_6 := n1_; have HO_7 := n2_; have BK285 := n3_; have HB := n4_; clear n0_ n1_ n2_ n3_ n4_; (try (have HP24 := Kd.R_putg HO_7.out ((ji13) : Int) (Int.tmod (wrap64 ((wrap64 ((rd x7_2 (ji13)) + (wrap64 ((rd t286 x8_1) * (rd t289 x10_2))))) + x9_2)) 65536))))); refine store_event (t := 3) (p := 53) (v := ?vo_w25) (w1 := (wr.setCell ⟨go20, ((ji13) : Int).toNat, none⟩ (.int .i64 (Int.tmod (wrap64 ((wrap64 ((rd x7_2 (ji13)) + (wrap64 ((rd t286 x8_1) * (rd t289 x10_2))))) + x9_2)) 65536)))) ?hg ?ho ?hn ?hr ?_; (case ho => rfl); (case hg => rfl); (case hn => rfl); (case hr => first | (go_simp; done) | (go_simp; rfl)); intro w25 hw; have hg : wr.grownBy w25 (some go20) := (by rw [hw]; exact HP24.2); have hp_ : Kd.R (Kd.int .i64) 3 w25 w.heap.size (fun k_ => some k_ ≠ (.slice (some ad302) t286.length co22 : Value).ownBlock ∧ some k_ ≠ (.slice (some ad303) t289.length co23 : Value).ownBlock) (.slice (some ⟨go20, 0, none⟩) x7_2.length co21) y304 := (by rw [hw, Ny304.out]; exact HP24.1); clear HP24; have n0_ := Aside0.mk (Kd.R_after (v := (.slice (some ⟨go20, 0, none⟩) x7_2.length co21)) (v1 := (.slice (some ⟨go20, 0, none⟩) x7_2.length co21)) (ok := (fun k_ => some k_ ≠ (.slice (some ad303) t289.length co23 : Value).ownBlock)) (by (with_reducible repeat (first | apply Kd.R_alloc | apply Kd.R_drewN | apply Kd.R_drew)); exact HO_5.out) hg (.inl rfl)); have n1_ := Aside0.mk (Kd.R_after (v := (.slice (some ⟨go20, 0, none⟩) x7_2.length co21)) (v1 := (.slice (some ⟨go20, 0, none⟩) x7_2.length co21)) (ok := (fun k_ => some k_ ≠ (.slice (some ad302) t286.length co22 : Value).ownBlock)) (by (with_reducible repeat (first | apply Kd.R_alloc | apply Kd.R_drewN | apply Kd.R_drew)); exact HO_6.out) hg (.inl rfl)); have n2_ := Aside0.mk (hp_); have n3_ := Aside0.mk (blk_grown (by exact BK285.out) hg (Kd.R_ne HO_7.out BK285.out (by decide))); have n4_ := Aside0.mk ((by rw [hw]; exact below_set (HB.out) GB20.out : Below w.heap.size w w25)); clear HO_5; clear HO_6; clear HO_7; clear BK285; clear HB; have HO_5 := n0_; have HO_6 := n1_; have HO_7 := n2_; have BK285 := n3_; have HB := n4_; clear n0_ n1_ n2_ n3_ n4_; clear hg hw hp_)); try go_wp2_with (first | ((with_reducible refine gate_store (t := 3) (p := 53) rfl ?_); (try (rw [drewN_self wr]; generalize hq_ : World.drewN wr _ = wr; have n0_ := Aside0.mk (Kd.R_at hq_ HO_5.out); have n1_ := Aside0.mk (Kd.R_at hq_ HO_6.out); have n2_ := Aside0.mk (Kd.R_at hq_ HO_7.out); have n3_ := Aside0.mk (blk_at hq_ BK285.out); have n4_ := Aside0.mk (below_at hq_ HB.out); clear hq_ HO_5 HO_6 HO_7 BK285 HB; have HO_5 := n0_; have HO_6 := n1_; have HO_7 := n2_; have BK285 := n3_; have HB := n4_; clear n0_ n1_ n2_ n3_ n4_; (try (have HP24 := Kd.R_putg HO_7.out ((ji13) : Int) (Int.tmod (wrap64 ((wrap64 ((rd x7_2 (ji13)) + (wrap64 ((rd t286 x8_1) * (rd t289 x10_2))))) + x9_2)) 65536))))); refine store_event (t := 3) (p := 53) (v := ?vo_w25) (w1 := (wr.setCell ⟨go20, ((ji13) : Int).toNat, none⟩ (.int .i64 (Int.tmod (wrap64 ((wrap64 ((rd x7_2 (ji13)) + (wrap64 ((rd t286 x8_1) * (rd t289 x10_2))))) + x9_2)) 65536)))) ?hg ?ho ?hn ?hr ?_; (case ho => rfl); (case hg => rfl); (case hn => rfl); (case hr => first | (go_simp; done) | (go_simp; rfl)); intro w25 hw; have hg : wr.grownBy w25 (some go20) := (by rw [hw]; exact HP24.2); have hp_ : Kd.R (Kd.int .i64) 3 w25 w.heap.size (fun k_ => some k_ ≠ (.slice (some ad302) t286.length co22 : Value).ownBlock ∧ some k_ ≠ (.slice (some ad303) t289.length co23 : Value).ownBlock) (.slice (some ⟨go20, 0, none⟩) x7_2.length co21) y304 := (by rw [hw, Ny304.out]; exact HP24.1); clear HP24; have n0_ := Aside0.mk (Kd.R_after (v := (.slice (some ⟨go20, 0, none⟩) x7_2.length co21)) (v1 := (.slice (some ⟨go20, 0, none⟩) x7_2.length co21)) (ok := (fun k_ => some k_ ≠ (.slice (some ad303) t289.length co23 : Value).ownBlock)) (by (with_reducible repeat (first | apply Kd.R_alloc | apply Kd.R_drewN | apply Kd.R_drew)); exact HO_5.out) hg (.inl rfl)); have n1_ := Aside0.mk (Kd.R_after (v := (.slice (some ⟨go20, 0, none⟩) x7_2.length co21)) (v1 := (.slice (some ⟨go20, 0, none⟩) x7_2.length co21)) (ok := (fun k_ => some k_ ≠ (.slice (some ad302) t286.length co22 : Value).ownBlock)) (by (with_reducible repeat (first | apply Kd.R_alloc | apply Kd.R_drewN | apply Kd.R_drew)); exact HO_6.out) hg (.inl rfl)); have n2_ := Aside0.mk (hp_); have n3_ := Aside0.mk (blk_grown (by exact BK285.out) hg (Kd.R_ne HO_7.out BK285.out (by decide))); have n4_ := Aside0.mk ((by rw [hw]; exact below_set (HB.out) GB20.out : Below w.heap.size w w25)); clear HO_5; clear HO_6; clear HO_7; clear BK285; clear HB; have HO_5 := n0_; have HO_6 := n1_; have HO_7 := n2_; have BK285 := n3_; have HB := n4_; clear n0_ n1_ n2_ n3_ n4_; clear hg hw hp_)))
              go_roundg k2
              case measure => have := HK1.out; have := HK2.out; omega
              case rel => exact ⟨(y304), (wrap64 (Int.tdiv (wrap64 ((wrap64 ((rd x7_2 (ji13)) + (wrap64 ((rd t286 x8_1) * (rd t289 x10_2))))) + x9_2)) 65536)), (wrap64 (x10_2 + 1)), (by first | rfl | (simp; done) | (simp only [← hji13] <;> (first | rfl | simp)) | (simp [*]; done)), (by first | rfl | (simp; done) | (simp [*]; done)), H', ⟨by have := HK1.out; have := HK2.out; omega⟩, ⟨by (with_reducible repeat (first | apply Kd.R_alloc | apply Kd.R_drewN | apply Kd.R_drew)); (first | exact HO_5.out | exact Kd.R_after (Kd.R_drewN HO_5.out _) (Kd.R_putg (Kd.R_drewN HO_7.out _) _ _).2 (.inl rfl))⟩, ⟨by (with_reducible repeat (first | apply Kd.R_alloc | apply Kd.R_drewN | apply Kd.R_drew)); (first | exact HO_6.out | exact Kd.R_after (Kd.R_drewN HO_6.out _) (Kd.R_putg (Kd.R_drewN HO_7.out _) _ _).2 (.inl rfl))⟩, ⟨by (with_reducible repeat (first | apply Kd.R_alloc | apply Kd.R_drewN | apply Kd.R_drew)); (first | exact HO_7.out | (rw [Ny304.out]; exact (Kd.R_putg (Kd.R_drewN HO_7.out _) _ _).1))⟩, ⟨by (first | exact BK285.out | exact blk_grown (blk_drewN BK285.out _) (Kd.R_putg (Kd.R_drewN HO_7.out _) _ _).2 (Kd.R_ne (Kd.R_drewN HO_7.out 0) (blk_drewN BK285.out 0) (by decide)))⟩, ⟨by first | exact HB.out | exact below_set (pw_below_drewN HB.out _) GB20.out⟩⟩
             ·rw [if_neg c19] at H
              exact absurd H (by simp)
            ·rw [if_neg c18] at H
             exact absurd H (by simp)
           ·rw [if_neg c17] at H
            exact absurd H (by simp)
          ·rw [if_neg c16] at H
           exact absurd H (by simp)
         ·rw [if_neg c15] at H
          exact absurd H (by simp)
        ·rw [if_neg c14] at H
         exact absurd H (by simp)
       ·rw [if_neg c12] at H
        have c12b0 : decide (x10_2 < 4) = false := decide_eq_false c12
        clear c12
        obtain ⟨ji26, hji26⟩ : ∃ j_ : Int, (wrap64 (x8_1 + 4)) = j_ := ⟨_, rfl⟩
        replace H : (if 0 ≤ (ji26) then (if (ji26) < (x7_2.length : Int) then (overfallref01_Mul.l0 k2 t286 t289 (x7_2.set ((ji26) : Int).toNat (wrap64 ((rd x7_2 (ji26)) + x9_2))) (wrap64 (x8_1 + 1))) else (none)) else (none)) = some (r1, r2) := by first | (rw [hji26] at H; exact H) | (simp only [hji26] at H ⊢; exact H)
        have hji26w : (IntKind.i64.wrap (x8_1 + 4)) = ji26 := (i64_w _).trans hji26
        by_cases c27 : 0 ≤ (ji26)
        ·rw [if_pos c27] at H
         have c27b0 : decide (0 ≤ (ji26)) = true := decide_eq_true c27
         clear c27
         by_cases c28 : (ji26) < (x7_2.length : Int)
         ·rw [if_pos c28] at H
          have c28b0 : decide ((ji26) < (x7_2.length : Int)) = true := decide_eq_true c28
          clear c28
          obtain ⟨y306, hy306⟩ : ∃ y_ : List Int, y_ = (x7_2.set ((ji26) : Int).toNat (wrap64 ((rd x7_2 (ji26)) + x9_2))) := ⟨_, rfl⟩
          replace H : (overfallref01_Mul.l0 k2 t286 t289 y306 (wrap64 (x8_1 + 1))) = some (r1, r2) := by first | (rw [hy306]; with_reducible exact H) | (have H2_ := (Option.bind_some _ _).symm.trans H; rw [hy306]; with_reducible exact H2_) | (have H2_ := (Option.bind_some _ _).symm.trans H; with_reducible exact H2_) | with_reducible exact H | (rw [hy306]; exact H) | exact H
          have Ny306 := Aside0.mk hy306
          clear hy306
          have H' := Aside0.mk H
          clear H
          obtain ⟨Ao30, co30, eo30⟩ := Kd.R_slice HO_7.out
          subst eo30
          have p305 : 0 ≤ ((ji26) : Int) := of_decide_eq_true (by first | (with_reducible assumption) | assumption)
          have q305 : (ji26) < (x7_2.length : Int) := of_decide_eq_true (by first | (with_reducible assumption) | assumption)
          obtain ⟨ad305, e305, hx305_0⟩ := Kd.at_int (Kd.R_reads' HO_7.out).2.2 (ji26) p305 q305
          cases e305
          replace p305 := eq_true p305
          replace q305 := eq_true q305
          have p29 : 0 ≤ ((ji26) : Int) := of_decide_eq_true (by first | (with_reducible assumption) | assumption)
          have q29 : ((ji26) : Int) < ((x7_2.length : Int) : Int) := of_decide_eq_true (by first | (with_reducible assumption) | assumption)
          obtain ⟨go29, co29, eo29, gb29, gl29, cl29, HG29⟩ := Kd.R_form HO_7.out (by omega)
          (first | cases eo29 | (injection eo29 with ea_ en_ ec_; (first | subst ea_ | (injection ea_ with ea_; subst ea_)); subst ec_; clear en_))
          have GB29 := Aside0.mk gb29
          have GG29 := Aside0.mk HG29
          clear gb29 gl29 HG29
          (first | simp only [add_plain] at hx305_0 | skip)
          obtain ⟨hx29_0, hf29_0⟩ := Kd.R_celln 0 HO_7.out ((ji26) : Int) p29 q29
          replace p29 := eq_true p29
          replace q29 := eq_true q29
          have HP31 := Kd.R_putg HO_7.out ((ji26) : Int) (wrap64 ((rd x7_2 (ji26)) + x9_2))
          go_wp2_with (first | ((with_reducible refine gate_store (t := 3) (p := 61) rfl ?_); (try (rw [drewN_self wr]; generalize hq_ : World.drewN wr _ = wr; have n0_ := Aside0.mk (Kd.R_at hq_ HO_5.out); have n1_ := Aside0.mk (Kd.R_at hq_ HO_6.out); have n2_ := Aside0.mk (Kd.R_at hq_ HO_7.out); have n3_ := Aside0.mk (blk_at hq_ BK285.out); have n4_ := Aside0.mk (below_at hq_ HB.out); clear hq_ HO_5 HO_6 HO_7 BK285 HB; have HO_5 := n0_; have HO_6 := n1_; have HO_7 := n2_; have BK285 := n3_; have HB := n4_; clear n0_ n1_ n2_ n3_ n4_; (try (have HP31 := Kd.R_putg HO_7.out ((ji26) : Int) (wrap64 ((rd x7_2 (ji26)) + x9_2)))))); refine store_event (t := 3) (p := 61) (v := ?vo_w32) (w1 := (wr.setCell ⟨go29, ((ji26) : Int).toNat, none⟩ (.int .i64 (wrap64 ((rd x7_2 (ji26)) + x9_2))))) ?hg ?ho ?hn ?hr ?_; (case ho => rfl); (case hg => rfl); (case hn => rfl); (case hr => first | (go_simp; done) | (go_simp; rfl)); intro w32 hw; have hg : wr.grownBy w32 (some go29) := (by rw [hw]; exact HP31.2); have hp_ : Kd.R (Kd.int .i64) 3 w32 w.heap.size (fun k_ => some k_ ≠ (v287 : Value).ownBlock ∧ some k_ ≠ (v290 : Value).ownBlock) (.slice (some ⟨go29, 0, none⟩) x7_2.length co30) y306 := (by rw [hw, Ny306.out]; exact HP31.1); clear HP31; have n0_ := Aside0.mk (Kd.R_after (v := (.slice (some ⟨go29, 0, none⟩) x7_2.length co30)) (v1 := (.slice (some ⟨go29, 0, none⟩) x7_2.length co30)) (ok := (fun k_ => some k_ ≠ (v290 : Value).ownBlock)) (by (with_reducible repeat (first | apply Kd.R_alloc | apply Kd.R_drewN | apply Kd.R_drew)); exact HO_5.out) hg (.inl rfl)); have n1_ := Aside0.mk (Kd.R_after (v := (.slice (some ⟨go29, 0, none⟩) x7_2.length co30)) (v1 := (.slice (some ⟨go29, 0, none⟩) x7_2.length co30)) (ok := (fun k_ => some k_ ≠ (v287 : Value).ownBlock)) (by (with_reducible repeat (first | apply Kd.R_alloc | apply Kd.R_drewN | apply Kd.R_drew)); exact HO_6.out) hg (.inl rfl)); have n2_ := Aside0.mk (hp_); have n3_ := Aside0.mk (blk_grown (by exact BK285.out) hg (Kd.R_ne HO_7.out BK285.out (by decide))); have n4_ := Aside0.mk ((by rw [hw]; exact below_set (HB.out) GB29.out : Below w.heap.size w w32)); clear HO_5; clear HO_6; clear HO_7; clear BK285; clear HB; have HO_5 := n0_; have HO_6 := n1_; have HO_7 := n2_; have BK285 := n3_; have HB := n4_; clear n0_ n1_ n2_ n3_ n4_; clear hg hw hp_))
          repeat (go_quiet (first | ((with_reducible refine gate_store (t := 3) (p := 61) rfl ?_); (try (rw [drewN_self wr]; generalize hq_ : World.drewN wr _ = wr; have n0_ := Aside0.mk (Kd.R_at hq_ HO_5.out); have n1_ := Aside0.mk (Kd.R_at hq_ HO_6.out); have n2_ := Aside0.mk (Kd.R_at hq_ HO_7.out); have n3_ := Aside0.mk (blk_at hq_ BK285.out); have n4_ := Aside0.mk (below_at hq_ HB.out); clear hq_ HO_5 HO_6 HO_7 BK285 HB; have HO_5 := n0_; have HO_6 := n1_; have HO_7 := n2_; have BK285 := n3_; have HB := n4_; clear n0_ n1_ n2_ n3_ n4_; (try (have HP31 := Kd.R_putg HO_7.out ((ji26) : Int) (wrap64 ((rd x7_2 (ji26)) + x9_2)))))); refine store_event (t := 3) (p := 61) (v := ?vo_w32) (w1 := (wr.setCell ⟨go29, ((ji26) : Int).toNat, none⟩ (.int .i64 (wrap64 ((rd x7_2 (ji26)) + x9_2))))) ?hg ?ho ?hn ?hr ?_; (case ho => rfl); (case hg => rfl); (case hn => rfl); (case hr => first | (go_simp; done) | (go_simp; rfl)); intro w32 hw; have hg : wr.grownBy w32 (some go29) := (by rw [hw]; exact HP31.2); have hp_ : Kd.R (Kd.int .i64) 3 w32 w.heap.size (fun k_ => some k_ ≠ (v287 : Value).ownBlock ∧ some k_ ≠ (v290 : Value).ownBlock) (.slice (some ⟨go29, 0, none⟩) x7_2.length co30) y306 := (by rw [hw, Ny306.out]; exact HP31.1); clear HP31; have n0_ := Aside0.mk (Kd.R_after (v := (.slice (some ⟨go29, 0, none⟩) x7_2.length co30)) (v1 := (.slice (some ⟨go29, 0, none⟩) x7_2.length co30)) (ok := (fun k_ => some k_ ≠ (v290 : Value).ownBlock)) (by (with_reducible repeat (first | apply Kd.R_alloc | apply Kd.R_drewN | apply Kd.R_drew)); exact HO_5.out) hg (.inl rfl)); have n1_ := Aside0.mk (Kd.R_after (v := (.slice (some ⟨go29, 0, none⟩) x7_2.length co30)) (v1 := (.slice (some ⟨go29, 0, none⟩) x7_2.length co30)) (ok := (fun k_ => some k_ ≠ (v287 : Value).ownBlock)) (by (with_reducible repeat (first | apply Kd.R_alloc | apply Kd.R_drewN | apply Kd.R_drew)); exact HO_6.out) hg (.inl rfl)); have n2_ := Aside0.mk (hp_); have n3_ := Aside0.mk (blk_grown (by exact BK285.out) hg (Kd.R_ne HO_7.out BK285.out (by decide))); have n4_ := Aside0.mk ((by rw [hw]; exact below_set (HB.out) GB29.out : Below w.heap.size w w32)); clear HO_5; clear HO_6; clear HO_7; clear BK285; clear HB; have HO_5 := n0_; have HO_6 := n1_; have HO_7 := n2_; have BK285 := n3_; have HB := n4_; clear n0_ n1_ n2_ n3_ n4_; clear hg hw hp_)); try go_wp2_with (first | ((with_reducible refine gate_store (t := 3) (p := 61) rfl ?_); (try (rw [drewN_self wr]; generalize hq_ : World.drewN wr _ = wr; have n0_ := Aside0.mk (Kd.R_at hq_ HO_5.out); have n1_ := Aside0.mk (Kd.R_at hq_ HO_6.out); have n2_ := Aside0.mk (Kd.R_at hq_ HO_7.out); have n3_ := Aside0.mk (blk_at hq_ BK285.out); have n4_ := Aside0.mk (below_at hq_ HB.out); clear hq_ HO_5 HO_6 HO_7 BK285 HB; have HO_5 := n0_; have HO_6 := n1_; have HO_7 := n2_; have BK285 := n3_; have HB := n4_; clear n0_ n1_ n2_ n3_ n4_; (try (have HP31 := Kd.R_putg HO_7.out ((ji26) : Int) (wrap64 ((rd x7_2 (ji26)) + x9_2)))))); refine store_event (t := 3) (p := 61) (v := ?vo_w32) (w1 := (wr.setCell ⟨go29, ((ji26) : Int).toNat, none⟩ (.int .i64 (wrap64 ((rd x7_2 (ji26)) + x9_2))))) ?hg ?ho ?hn ?hr ?_; (case ho => rfl); (case hg => rfl); (case hn => rfl); (case hr => first | (go_simp; done) | (go_simp; rfl)); intro w32 hw; have hg : wr.grownBy w32 (some go29) := (by rw [hw]; exact HP31.2); have hp_ : Kd.R (Kd.int .i64) 3 w32 w.heap.size (fun k_ => some k_ ≠ (v287 : Value).ownBlock ∧ some k_ ≠ (v290 : Value).ownBlock) (.slice (some ⟨go29, 0, none⟩) x7_2.length co30) y306 := (by rw [hw, Ny306.out]; exact HP31.1); clear HP31; have n0_ := Aside0.mk (Kd.R_after (v := (.slice (some ⟨go29, 0, none⟩) x7_2.length co30)) (v1 := (.slice (some ⟨go29, 0, none⟩) x7_2.length co30)) (ok := (fun k_ => some k_ ≠ (v290 : Value).ownBlock)) (by (with_reducible repeat (first | apply Kd.R_alloc | apply Kd.R_drewN | apply Kd.R_drew)); exact HO_5.out) hg (.inl rfl)); have n1_ := Aside0.mk (Kd.R_after (v := (.slice (some ⟨go29, 0, none⟩) x7_2.length co30)) (v1 := (.slice (some ⟨go29, 0, none⟩) x7_2.length co30)) (ok := (fun k_ => some k_ ≠ (v287 : Value).ownBlock)) (by (with_reducible repeat (first | apply Kd.R_alloc | apply Kd.R_drewN | apply Kd.R_drew)); exact HO_6.out) hg (.inl rfl)); have n2_ := Aside0.mk (hp_); have n3_ := Aside0.mk (blk_grown (by exact BK285.out) hg (Kd.R_ne HO_7.out BK285.out (by decide))); have n4_ := Aside0.mk ((by rw [hw]; exact below_set (HB.out) GB29.out : Below w.heap.size w w32)); clear HO_5; clear HO_6; clear HO_7; clear BK285; clear HB; have HO_5 := n0_; have HO_6 := n1_; have HO_7 := n2_; have BK285 := n3_; have HB := n4_; clear n0_ n1_ n2_ n3_ n4_; clear hg hw hp_)))
          go_roundg k2
          case measure => have := HK1.out; have := HK2.out; omega
          case rel => exact ⟨(y306), (wrap64 (x8_1 + 1)), (by first | rfl | (simp; done) | (simp [*]; done)), H', ⟨by have := HK1.out; have := HK2.out; omega⟩, ⟨by (with_reducible repeat (first | apply Kd.R_alloc | apply Kd.R_drewN | apply Kd.R_drew)); exact HO_5.out⟩, ⟨by (with_reducible repeat (first | apply Kd.R_alloc | apply Kd.R_drewN | apply Kd.R_drew)); exact HO_6.out⟩, ⟨by (with_reducible repeat (first | apply Kd.R_alloc | apply Kd.R_drewN | apply Kd.R_drew)); exact HO_7.out⟩, ⟨by exact BK285.out⟩, ⟨by repeat (first | (with_reducible first | exact HB.out | apply below_alloc | apply pw_below_drewN | apply below_drew1 | refine below_set ?_ GE285.out) | exact HB.out)⟩⟩
         ·rw [if_neg c28] at H
          exact absurd H (by simp)
        ·rw [if_neg c27] at H
         exact absurd H (by simp)
    ·rw [if_neg c11] at H
     have c11b0 : decide (x8_1 < 4) = false := decide_eq_false c11
     clear c11
     by_cases c33 : 8 ≤ (x7_1.length : Int)
     ·rw [if_pos c33] at H
      have c33b0 := eq_true c33
      have c33b1 : decide (8 ≤ (x7_1.length : Int)) = true := decide_eq_true c33
      clear c33
      obtain ⟨y295, hy295⟩ : ∃ y_ : List Int, y_ = (x7_1.take 8) := ⟨_, rfl⟩
      replace H : ((overfallref01_Value.f k1 y295).bind fun bt299 => (some (bt299.1, bt299.2))) = some (r1, r2) := by first | (rw [hy295]; with_reducible exact H) | (have H2_ := (Option.bind_some _ _).symm.trans H; rw [hy295]; with_reducible exact H2_) | (have H2_ := (Option.bind_some _ _).symm.trans H; with_reducible exact H2_) | with_reducible exact H | (rw [hy295]; exact H) | exact H
      have Ny295 := Aside0.mk hy295
      clear hy295
      replace H := Option.bind_eq_some_iff.mp H
      obtain ⟨⟨t299, t300⟩, A340, H⟩ := H
      replace H : (some (t299, t300)) = some (r1, r2) := H
      have A34 := Aside0.mk A340
      clear A340
      simp only [Option.some.injEq, Prod.mk.injEq] at H
      obtain ⟨rfl, rfl⟩ := H
      obtain ⟨Ao36, co36, eo36⟩ := Kd.R_slice HO_7.out
      subst eo36
      have q35 : (8 : Int) ≤ ((x7_1.length : Int) : Int) := of_decide_eq_true (by first | (with_reducible assumption) | assumption)
      obtain ⟨i035, hi035, _, hsz35, _⟩ := info_parts info3
      have hroom35 : x7_1.length ≤ co36 := (Kd.R_reads' HO_7.out).2.1
      have hC35 : Kd.C (Kd.int .i64) _ Ao36 x7_1.length x7_1 := (Kd.R_reads' HO_7.out).2.2
      have hcut35 := cut_to (P := Try.prog) 64 3 .i64 Try.underlying64 hi035 Ao36 x7_1.length co36 8 (by omega) q35 hroom35
      have hr35 := Kd.C_take (m := 8) hC35 (by omega)
      have hy35 : y295.length = (8 : Int).toNat := (by rw [Ny295.out, List.length_take]; omega)
      rw [← Ny295.out] at hr35
      rw [← hy35] at hcut35
      have HR298 := Aside0.mk hr35
      have HC298 := Aside0.mk (show y295.length ≤ co36 from by omega)
      clear hr35 hC35 hroom35 hi035 hsz35
      have KY35 := Aside0.mk hy35
      clear hy35
      have KL35 := Aside0.mk (show 8 ≤ x7_1.length from by omega)
      replace q35 := eq_true q35
      go_wp2_with (first | (go_at_call 35; (with_reducible refine (overfallref01_Value.calls k1 _ _ y295 t299 t300 _ ?side1 ?side2 A34.out).mono ?_); (case side1 => repeat (first | exact (by repeat (first | (with_reducible exact HR298.out) | (with_reducible refine Kd.C_alloc ?_ _) | (with_reducible refine Kd.C_drewN ?_ _) | (with_reducible refine Kd.C_drew ?_) | exact HR298.out)) | (with_reducible refine Kd.C_alloc ?_ _) | (with_reducible refine Kd.C_drewN ?_ _) | (with_reducible refine Kd.C_drew ?_))); (case side2 => exact HC298.out); rintro e w37 ⟨rfl, hb⟩; have n0_ := Aside0.mk (Kd.R_below (by (with_reducible repeat (first | apply Kd.R_alloc | apply Kd.R_drewN | apply Kd.R_drew)); exact HO_5.out) hb); have n1_ := Aside0.mk (Kd.R_below (by (with_reducible repeat (first | apply Kd.R_alloc | apply Kd.R_drewN | apply Kd.R_drew)); exact HO_6.out) hb); have n2_ := Aside0.mk (Kd.R_below (by (with_reducible repeat (first | apply Kd.R_alloc | apply Kd.R_drewN | apply Kd.R_drew)); exact HO_7.out) hb); have n3_ := Aside0.mk (blk_below (by exact BK285.out) hb); have n4_ := Aside0.mk (Kd.C_below (by repeat (first | (with_reducible exact HR298.out) | (with_reducible refine Kd.C_alloc ?_ _) | (with_reducible refine Kd.C_drewN ?_ _) | (with_reducible refine Kd.C_drew ?_) | exact HR298.out)) hb); have n5_ := Aside0.mk (below_step (by repeat (first | (with_reducible first | exact HB.out | apply below_alloc | apply pw_below_drewN | apply below_drew1 | refine below_set ?_ GE285.out) | exact HB.out)) hb); clear HO_5; clear HO_6; clear HO_7; clear BK285; clear HR298; clear HB; have HO_5 := n0_; have HO_6 := n1_; have HO_7 := n2_; have BK285 := n3_; have HR298 := n4_; have HB := n5_; clear n0_ n1_ n2_ n3_ n4_ n5_; (try clear hb); (try clear hb2); (try clear hk); (try clear hi); have hcz38_0 : w37.cell? ⟨gb285, 0, none⟩ = some (.int .u64 0) := (blk_cell BK285.out 0).trans rfl; have hcz38_1 : w37.cell? ⟨gb285, 1, none⟩ = some (.int .u64 0) := (blk_cell BK285.out 1).trans rfl; have hfz38_0 := blk_frozen BK285.out 0; have hfz38_1 := blk_frozen BK285.out 1))
      repeat (go_quiet (first | (go_at_call 35; (with_reducible refine (overfallref01_Value.calls k1 _ _ y295 t299 t300 _ ?side1 ?side2 A34.out).mono ?_); (case side1 => repeat (first | exact (by repeat (first | (with_reducible exact HR298.out) | (with_reducible refine Kd.C_alloc ?_ _) | (with_reducible refine Kd.C_drewN ?_ _) | (with_reducible refine Kd.C_drew ?_) | exact HR298.out)) | (with_reducible refine Kd.C_alloc ?_ _) | (with_reducible refine Kd.C_drewN ?_ _) | (with_reducible refine Kd.C_drew ?_))); (case side2 => exact HC298.out); rintro e w37 ⟨rfl, hb⟩; have n0_ := Aside0.mk (Kd.R_below (by (with_reducible repeat (first | apply Kd.R_alloc | apply Kd.R_drewN | apply Kd.R_drew)); exact HO_5.out) hb); have n1_ := Aside0.mk (Kd.R_below (by (with_reducible repeat (first | apply Kd.R_alloc | apply Kd.R_drewN | apply Kd.R_drew)); exact HO_6.out) hb); have n2_ := Aside0.mk (Kd.R_below (by (with_reducible repeat (first | apply Kd.R_alloc | apply Kd.R_drewN | apply Kd.R_drew)); exact HO_7.out) hb); have n3_ := Aside0.mk (blk_below (by exact BK285.out) hb); have n4_ := Aside0.mk (Kd.C_below (by repeat (first | (with_reducible exact HR298.out) | (with_reducible refine Kd.C_alloc ?_ _) | (with_reducible refine Kd.C_drewN ?_ _) | (with_reducible refine Kd.C_drew ?_) | exact HR298.out)) hb); have n5_ := Aside0.mk (below_step (by repeat (first | (with_reducible first | exact HB.out | apply below_alloc | apply pw_below_drewN | apply below_drew1 | refine below_set ?_ GE285.out) | exact HB.out)) hb); clear HO_5; clear HO_6; clear HO_7; clear BK285; clear HR298; clear HB; have HO_5 := n0_; have HO_6 := n1_; have HO_7 := n2_; have BK285 := n3_; have HR298 := n4_; have HB := n5_; clear n0_ n1_ n2_ n3_ n4_ n5_; (try clear hb); (try clear hb2); (try clear hk); (try clear hi); have hcz38_0 : w37.cell? ⟨gb285, 0, none⟩ = some (.int .u64 0) := (blk_cell BK285.out 0).trans rfl; have hcz38_1 : w37.cell? ⟨gb285, 1, none⟩ = some (.int .u64 0) := (blk_cell BK285.out 1).trans rfl; have hfz38_0 := blk_frozen BK285.out 0; have hfz38_1 := blk_frozen BK285.out 1)); try go_wp2_with (first | (go_at_call 35; (with_reducible refine (overfallref01_Value.calls k1 _ _ y295 t299 t300 _ ?side1 ?side2 A34.out).mono ?_); (case side1 => repeat (first | exact (by repeat (first | (with_reducible exact HR298.out) | (with_reducible refine Kd.C_alloc ?_ _) | (with_reducible refine Kd.C_drewN ?_ _) | (with_reducible refine Kd.C_drew ?_) | exact HR298.out)) | (with_reducible refine Kd.C_alloc ?_ _) | (with_reducible refine Kd.C_drewN ?_ _) | (with_reducible refine Kd.C_drew ?_))); (case side2 => exact HC298.out); rintro e w37 ⟨rfl, hb⟩; have n0_ := Aside0.mk (Kd.R_below (by (with_reducible repeat (first | apply Kd.R_alloc | apply Kd.R_drewN | apply Kd.R_drew)); exact HO_5.out) hb); have n1_ := Aside0.mk (Kd.R_below (by (with_reducible repeat (first | apply Kd.R_alloc | apply Kd.R_drewN | apply Kd.R_drew)); exact HO_6.out) hb); have n2_ := Aside0.mk (Kd.R_below (by (with_reducible repeat (first | apply Kd.R_alloc | apply Kd.R_drewN | apply Kd.R_drew)); exact HO_7.out) hb); have n3_ := Aside0.mk (blk_below (by exact BK285.out) hb); have n4_ := Aside0.mk (Kd.C_below (by repeat (first | (with_reducible exact HR298.out) | (with_reducible refine Kd.C_alloc ?_ _) | (with_reducible refine Kd.C_drewN ?_ _) | (with_reducible refine Kd.C_drew ?_) | exact HR298.out)) hb); have n5_ := Aside0.mk (below_step (by repeat (first | (with_reducible first | exact HB.out | apply below_alloc | apply pw_below_drewN | apply below_drew1 | refine below_set ?_ GE285.out) | exact HB.out)) hb); clear HO_5; clear HO_6; clear HO_7; clear BK285; clear HR298; clear HB; have HO_5 := n0_; have HO_6 := n1_; have HO_7 := n2_; have BK285 := n3_; have HR298 := n4_; have HB := n5_; clear n0_ n1_ n2_ n3_ n4_ n5_; (try clear hb); (try clear hb2); (try clear hk); (try clear hi); have hcz38_0 : w37.cell? ⟨gb285, 0, none⟩ = some (.int .u64 0) := (blk_cell BK285.out 0).trans rfl; have hcz38_1 : w37.cell? ⟨gb285, 1, none⟩ = some (.int .u64 0) := (blk_cell BK285.out 1).trans rfl; have hfz38_0 := blk_frozen BK285.out 0; have hfz38_1 := blk_frozen BK285.out 1)))
      refine bodyPost_ret (results_cell_row rfl _ _ gb285 50 #[.int .u64 t299, .int .u64 t300] (0, 0) _ rfl (by refine blk_put (cs := #[.int .u64 t299, .int .u64 0]) ?_ 1 _ rfl; refine blk_put (cs := #[.int .u64 0, .int .u64 0]) ?_ 0 _ rfl; exact BK285.out) Try.underlying50 rfl (by kernel_rfl)) rfl ?_
      exact ⟨by first | rfl | (simp [errW_none, errW_some] <;> rfl) | (simp [*, errW_none, errW_some] <;> rfl), by repeat (first | (with_reducible first | exact HB.out | apply below_alloc | apply pw_below_drewN | apply below_drew1 | refine below_set ?_ GE285.out) | exact HB.out)⟩
     ·rw [if_neg c33] at H
      exact absurd H (by simp)
 ·rw [if_neg c5] at H
  exact absurd H (by simp)

/-! ### overfallref02_Mul: function 13 -/
def overfallref02_Mul.f (k : Nat) (a0 : Int) (a1 : Int) : Option (Int) := (overfallref02_Size.f a0).bind fun bt307 => ((overfallref02_Size.f a1).bind fun bt311 => ((overfallref01_Mul.f k bt307.2.1 bt311.2.1).bind fun bt315 => ((overfallref02_Back.f k bt315.1 bt315.2 (bt307.2.2 != bt311.2.2)).bind fun t317 => (some t317))))
theorem overfallref02_Mul.mono : ∀ a0 a1 k, LeO (overfallref02_Mul.f k a0 a1) (overfallref02_Mul.f (k + 1) a0 a1) := by
 intro a0 a1 k
 unfold overfallref02_Mul.f
 repeat' first
   | (with_reducible exact overfallref01_Mul.mono _ _ _)
   | (with_reducible exact overfallref02_Back.mono _ _ _ _)
   | (with_reducible exact LeO.refl _)
   | (with_reducible exact LeO.none _)
   | (with_reducible refine LeO.ite ?_ ?_)
   | (with_reducible refine LeO.bind ?_ (fun _ => ?_))
   | exact overfallref01_Mul.mono _ _ _
   | exact overfallref02_Back.mono _ _ _ _
   | exact LeO.none _
   | refine LeO.ite ?_ ?_
   | refine LeO.bind ?_ (fun _ => ?_)
set_option maxHeartbeats 8000000 in
set_option maxRecDepth 100000 in
theorem overfallref02_Mul.calls (k : Nat) (a0 : Int) (a1 : Int) (r : Int) (w : World) (h : overfallref02_Mul.f k a0 a1 = some r) :
  Calls Try.prog 13 #[.int .i64 a0, .int .i64 a1] w fun e w' => e = .returned (.int .i64 r) ∧ Below w.heap.size w w' := by
 have hu50 := Try.underlying50
 have HB := Aside0.mk (Below.refl w.heap.size w)
 have H : ((overfallref02_Size.f a0).bind fun bt307 => ((overfallref02_Size.f a1).bind fun bt311 => ((overfallref01_Mul.f k bt307.2.1 bt311.2.1).bind fun bt315 => ((overfallref02_Back.f k bt315.1 bt315.2 (bt307.2.2 != bt311.2.2)).bind fun t317 => (some t317))))) = some r := h
 clear h
 replace H := Option.bind_eq_some_iff.mp H
 obtain ⟨⟨t307, t308, t309⟩, A30, H⟩ := H
 replace H : ((overfallref02_Size.f a1).bind fun bt311 => ((overfallref01_Mul.f k t308 bt311.2.1).bind fun bt315 => ((overfallref02_Back.f k bt315.1 bt315.2 (t309 != bt311.2.2)).bind fun t317 => (some t317)))) = some r := H
 have A3 := Aside0.mk A30
 clear A30
 replace H := Option.bind_eq_some_iff.mp H
 obtain ⟨⟨t311, t312, t313⟩, A40, H⟩ := H
 replace H : ((overfallref01_Mul.f k t308 t312).bind fun bt315 => ((overfallref02_Back.f k bt315.1 bt315.2 (t309 != t313)).bind fun t317 => (some t317))) = some r := H
 have A4 := Aside0.mk A40
 clear A40
 replace H := Option.bind_eq_some_iff.mp H
 obtain ⟨⟨t315, t316⟩, A50, H⟩ := H
 replace H : ((overfallref02_Back.f k t315 t316 (t309 != t313)).bind fun t317 => (some t317)) = some r := H
 have A5 := Aside0.mk A50
 clear A50
 replace H := Option.bind_eq_some_iff.mp H
 obtain ⟨t317, A60, H⟩ := H
 replace H : (some t317) = some r := H
 have A6 := Aside0.mk A60
 clear A60
 obtain rfl := Option.some.inj H
 go_enter Try.func13, Try.ntmps13
 go_wp2_with (first | ((with_reducible refine gate_callee (f := 22) rfl ?_); refine goesL_ (some 11) rfl rfl Try.func22 (by kernel_rfl) rfl #[.int .i64 a0] rfl (by (try simp only [List.map_toArray, List.map_cons, List.map_nil]); first | done | rfl | (simp only [List.length_drop, List.length_take]; rfl)) ?_; (with_reducible refine (overfallref02_Size.calls a0 t307 t308 t309 _ A3.out).mono ?_); rintro e w7 ⟨rfl, hb⟩; refine ⟨_, rfl, ?_⟩; have n0_ := Aside0.mk (below_step (by repeat (first | (with_reducible first | exact HB.out | apply below_alloc | apply pw_below_drewN | apply below_drew1) | exact HB.out)) hb); clear HB; have HB := n0_; clear n0_; (try clear hb); (try clear hb2); (try clear hk); (try clear hi)) | ((with_reducible refine gate_dst (N := 5) rfl ?_); refine box_event ?hg (N := 5) ?hd (cs := #[.int .u64 0, .int .u64 0]) (t := 50) ?hr ?_; (case hd => rfl); (case hg => rfl); (case hr => first | (go_simp; done) | (go_simp; rfl)); intro gb310 hg w8 hbox hb; have n0_ := Aside0.mk (below_step (by repeat (first | (with_reducible first | exact HB.out | apply below_alloc | apply pw_below_drewN | apply below_drew1) | exact HB.out)) hb); have n1_ := Aside0.mk (hbox); have n2_ := Aside0.mk ((by rw [hg]; exact (below_size (by repeat (first | (with_reducible first | exact HB.out | apply below_alloc | apply pw_below_drewN | apply below_drew1) | exact HB.out))) : w.heap.size ≤ gb310)); have n3_ := Aside0.mk ((by rw [hg]; exact (below_size (by repeat (first | (with_reducible first | exact HB.out | apply below_alloc | apply pw_below_drewN | apply below_drew1) | exact HB.out))) : w.heap.size ≤ gb310)); clear HB; have HB := n0_; have BK310 := n1_; have GW310 := n2_; have GE310 := n3_; clear n0_ n1_ n2_ n3_; clear hb hbox hg; have hcz9_0 : w8.cell? ⟨gb310, 0, none⟩ = some (.int .u64 0) := (blk_cell BK310.out 0).trans rfl; have hcz9_1 : w8.cell? ⟨gb310, 1, none⟩ = some (.int .u64 0) := (blk_cell BK310.out 1).trans rfl; have hfz9_0 := blk_frozen BK310.out 0; have hfz9_1 := blk_frozen BK310.out 1) | ((with_reducible refine gate_callee (f := 22) rfl ?_); refine goesL_ (some 16) rfl rfl Try.func22 (by kernel_rfl) rfl #[.int .i64 a1] rfl (by (try simp only [List.map_toArray, List.map_cons, List.map_nil]); first | done | rfl | (simp only [List.length_drop, List.length_take]; rfl)) ?_; (with_reducible refine (overfallref02_Size.calls a1 t311 t312 t313 _ A4.out).mono ?_); rintro e w10 ⟨rfl, hb⟩; refine ⟨_, rfl, ?_⟩; have n0_ := Aside0.mk (blk_below (g := gb310) (o := .cells #[.int .u64 t307, .int .u64 t308] 50 (0, 0)) (by refine blk_put (cs := #[.int .u64 t307, .int .u64 0]) ?_ 1 _ rfl; refine blk_put (cs := #[.int .u64 0, .int .u64 0]) ?_ 0 _ rfl; exact BK310.out) hb); have n1_ := Aside0.mk (below_step (by repeat (first | (with_reducible first | exact HB.out | apply below_alloc | apply pw_below_drewN | apply below_drew1 | refine below_set ?_ GE310.out) | exact HB.out)) hb); clear BK310; clear HB; have BK310 := n0_; have HB := n1_; clear n0_ n1_; (try clear hb); (try clear hb2); (try clear hk); (try clear hi)) | ((with_reducible refine gate_dst (N := 7) rfl ?_); refine box_event ?hg (N := 7) ?hd (cs := #[.int .u64 0, .int .u64 0]) (t := 50) ?hr ?_; (case hd => rfl); (case hg => rfl); (case hr => first | (go_simp; done) | (go_simp; rfl)); intro gb314 hg w11 hbox hb; have n0_ := Aside0.mk (blk_below (by exact BK310.out) hb); have n1_ := Aside0.mk (below_step (by repeat (first | (with_reducible first | exact HB.out | apply below_alloc | apply pw_below_drewN | apply below_drew1 | refine below_set ?_ GE310.out) | exact HB.out)) hb); have n2_ := Aside0.mk (hbox); have n3_ := Aside0.mk ((by rw [hg]; exact (below_size (by repeat (first | (with_reducible first | exact HB.out | apply below_alloc | apply pw_below_drewN | apply below_drew1 | refine below_set ?_ GE310.out) | exact HB.out))) : w.heap.size ≤ gb314)); have n4_ := Aside0.mk ((by rw [hg]; exact (below_size (by repeat (first | (with_reducible first | exact HB.out | apply below_alloc | apply pw_below_drewN | apply below_drew1 | refine below_set ?_ GE310.out) | exact HB.out))) : w.heap.size ≤ gb314)); have n5_ := Aside0.mk ((by rw [hg]; exact Nat.ne_of_lt (blk_lt (by exact BK310.out)) : gb310 ≠ gb314)); have n6_ := Aside0.mk ((by rw [hg]; exact Nat.ne_of_gt (blk_lt (by exact BK310.out)) : gb314 ≠ gb310)); clear BK310; clear HB; have BK310 := n0_; have HB := n1_; have BK314 := n2_; have GW314 := n3_; have GE314 := n4_; have NB310_314 := n5_; have NB314_310 := n6_; clear n0_ n1_ n2_ n3_ n4_ n5_ n6_; clear hb hbox hg; have hnb12 := NB314_310.out; have hnc12 := NB310_314.out; have hcz13_0 : w11.cell? ⟨gb314, 0, none⟩ = some (.int .u64 0) := (blk_cell BK314.out 0).trans rfl; have hcz13_1 : w11.cell? ⟨gb314, 1, none⟩ = some (.int .u64 0) := (blk_cell BK314.out 1).trans rfl; have hfz13_0 := blk_frozen BK314.out 0; have hfz13_1 := blk_frozen BK314.out 1; have hcz14_0 : w11.cell? ⟨gb310, 0, none⟩ = some (.int .u64 t307) := (blk_cell BK310.out 0).trans rfl; have hcz14_1 : w11.cell? ⟨gb310, 1, none⟩ = some (.int .u64 t308) := (blk_cell BK310.out 1).trans rfl; have hfz14_0 := blk_frozen BK310.out 0; have hfz14_1 := blk_frozen BK310.out 1) | ((with_reducible refine gate_callee (f := 30) rfl ?_); refine goesL_ (some 23) rfl rfl Try.func30 (by kernel_rfl) rfl #[.int .u64 t308, .int .u64 t312] rfl (by (try simp only [List.map_toArray, List.map_cons, List.map_nil]); first | done | rfl | (simp only [List.length_drop, List.length_take]; rfl)) ?_; (with_reducible refine (overfallref01_Mul.calls k t308 t312 t315 t316 _ A5.out).mono ?_); rintro e w15 ⟨rfl, hb⟩; refine ⟨_, rfl, ?_⟩; have n0_ := Aside0.mk (blk_below (g := gb310) (o := .cells #[.int .u64 t307, .int .u64 t308] 50 (0, 0)) (by refine blk_far ?_ NB310_314.out _; refine blk_far ?_ NB310_314.out _; exact BK310.out) hb); have n1_ := Aside0.mk (blk_below (g := gb314) (o := .cells #[.int .u64 t311, .int .u64 t312] 50 (0, 0)) (by refine blk_put (cs := #[.int .u64 t311, .int .u64 0]) ?_ 1 _ rfl; refine blk_put (cs := #[.int .u64 0, .int .u64 0]) ?_ 0 _ rfl; exact BK314.out) hb); have n2_ := Aside0.mk (below_step (by repeat (first | (with_reducible first | exact HB.out | apply below_alloc | apply pw_below_drewN | apply below_drew1 | refine below_set ?_ GE310.out | refine below_set ?_ GE314.out) | exact HB.out)) hb); clear BK310; clear BK314; clear HB; have BK310 := n0_; have BK314 := n1_; have HB := n2_; clear n0_ n1_ n2_; (try clear hb); (try clear hb2); (try clear hk); (try clear hi)) | ((with_reducible refine gate_callee (f := 24) rfl ?_); refine goesL_ (some 27) rfl rfl Try.func24 (by kernel_rfl) rfl #[.agg #[.int .u64 t315, .int .u64 t316], .bool (t309 != t313)] rfl (by (try simp only [List.map_toArray, List.map_cons, List.map_nil]); first | done | rfl | (simp only [List.length_drop, List.length_take]; rfl)) ?_; (with_reducible refine (overfallref02_Back.calls k t315 t316 (t309 != t313) t317 _ A6.out).mono ?_); rintro e w16 ⟨rfl, hb⟩; refine ⟨_, rfl, ?_⟩; have n0_ := Aside0.mk (blk_below (by exact BK310.out) hb); have n1_ := Aside0.mk (blk_below (by exact BK314.out) hb); have n2_ := Aside0.mk (below_step (by repeat (first | (with_reducible first | exact HB.out | apply below_alloc | apply pw_below_drewN | apply below_drew1 | refine below_set ?_ GE310.out | refine below_set ?_ GE314.out) | exact HB.out)) hb); clear BK310; clear BK314; clear HB; have BK310 := n0_; have BK314 := n1_; have HB := n2_; clear n0_ n1_ n2_; (try clear hb); (try clear hb2); (try clear hk); (try clear hi)))
 go_ret
 exact ⟨by first | rfl | (simp [errW_none, errW_some] <;> rfl) | (simp [*, errW_none, errW_some] <;> rfl), by repeat (first | (with_reducible first | exact HB.out | apply below_alloc | apply pw_below_drewN | apply below_drew1 | refine below_set ?_ GE310.out | refine below_set ?_ GE314.out) | exact HB.out)⟩

end Go.Proofs.Ytiiffgmbkajkhaa.B

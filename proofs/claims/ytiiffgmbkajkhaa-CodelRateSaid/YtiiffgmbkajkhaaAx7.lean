-- Laid by a program of this claim's session (wip/tools/myprint.py) over the kit's printer.
import Derived.Test.YtiiffgmbkajkhaaAx0
import Derived.Test.YtiiffgmbkajkhaaAx6
namespace Go.Proofs.Ytiiffgmbkajkhaa.A
open Go.RowKit Go.Proofs.YtiiffgmbkajkhaaW.PrintWords Go.Proofs.YtiiffgmbkajkhaaW.PrintLast Go.Proofs.YtiiffgmbkajkhaaW.PrintMore
attribute [local go_sem] max2_int min2_int max_two min_two max_three min_three max_four min_four   -- for this text's walks alone
set_option linter.unusedVariables false
set_option linter.unusedSimpArgs false

/-! ### overfallref01_Mul: function 30 -/
mutual
def overfallref01_Mul.l0 : Nat → List Int → List Int → List Int → Int → Option (Int × Int)
 | 0, _, _, _, _ => none
 | k + 1, x5, x6, x7, x8 => if x8 < 4 then (overfallref01_Mul.l1 k x5 x6 x7 x8 0 0) else (if 8 ≤ (x7.length : Int) then ((overfallref01_Value.f k (x7.take 8)).bind fun bt241 => (some (bt241.1, bt241.2))) else (none))
def overfallref01_Mul.l1 : Nat → List Int → List Int → List Int → Int → Int → Int → Option (Int × Int)
 | 0, _, _, _, _, _, _ => none
 | k + 1, x5, x6, x7, x8, x9, x10 => if x10 < 4 then (if 0 ≤ (wrap64 (x8 + x10)) then (if (wrap64 (x8 + x10)) < (x7.length : Int) then (if 0 ≤ x8 then (if x8 < (x5.length : Int) then (if 0 ≤ x10 then (if x10 < (x6.length : Int) then (overfallref01_Mul.l1 k x5 x6 (x7.set ((wrap64 (x8 + x10)) : Int).toNat (Int.tmod (wrap64 ((wrap64 ((rd x7 (wrap64 (x8 + x10))) + (wrap64 ((rd x5 x8) * (rd x6 x10))))) + x9)) 65536)) x8 (wrap64 (Int.tdiv (wrap64 ((wrap64 ((rd x7 (wrap64 (x8 + x10))) + (wrap64 ((rd x5 x8) * (rd x6 x10))))) + x9)) 65536)) (wrap64 (x10 + 1))) else (none)) else (none)) else (none)) else (none)) else (none)) else (none)) else (if 0 ≤ (wrap64 (x8 + 4)) then (if (wrap64 (x8 + 4)) < (x7.length : Int) then (overfallref01_Mul.l0 k x5 x6 (x7.set ((wrap64 (x8 + 4)) : Int).toNat (wrap64 ((rd x7 (wrap64 (x8 + 4))) + x9))) (wrap64 (x8 + 1))) else (none)) else (none))
end
def overfallref01_Mul.f (k : Nat) (a0 : Int) (a1 : Int) : Option (Int × Int) := (overfallref01_Digits.f k 0 a0).bind fun t228 => ((overfallref01_Digits.f k 0 a1).bind fun t231 => (if 9 ≤ 35184372088832 then (overfallref01_Mul.l0 k t228 t231 (List.replicate 9 0) 0) else (none)))
theorem overfallref01_Mul.mono_l : ∀ k, (∀ y0 y1 y2 y3, LeO (overfallref01_Mul.l0 k y0 y1 y2 y3) (overfallref01_Mul.l0 (k + 1) y0 y1 y2 y3)) ∧ (∀ y0 y1 y2 y3 y4 y5, LeO (overfallref01_Mul.l1 k y0 y1 y2 y3 y4 y5) (overfallref01_Mul.l1 (k + 1) y0 y1 y2 y3 y4 y5))
 | 0 => ⟨fun _ _ _ _ r h => by simp [overfallref01_Mul.l0] at h, fun _ _ _ _ _ _ r h => by simp [overfallref01_Mul.l1] at h⟩
 | k + 1 => by
  obtain ⟨ih0, ih1⟩ := overfallref01_Mul.mono_l k
  refine ⟨?_, ?_⟩
  ·intro y0 y1 y2 y3
   unfold overfallref01_Mul.l0
   repeat' first
   | (with_reducible exact ih0 _ _ _ _)
   | (with_reducible exact ih1 _ _ _ _ _ _)
   | (with_reducible exact overfallref01_Digits.mono _ _ _)
   | (with_reducible exact overfallref01_Value.mono _ _)
   | (with_reducible exact LeO.refl _)
   | (with_reducible exact LeO.none _)
   | (with_reducible refine LeO.ite ?_ ?_)
   | (with_reducible refine LeO.bind ?_ (fun _ => ?_))
   | exact ih0 _ _ _ _
   | exact ih1 _ _ _ _ _ _
   | exact overfallref01_Digits.mono _ _ _
   | exact overfallref01_Value.mono _ _
   | exact LeO.none _
   | refine LeO.ite ?_ ?_
   | refine LeO.bind ?_ (fun _ => ?_)
  ·intro y0 y1 y2 y3 y4 y5
   unfold overfallref01_Mul.l1
   repeat' first
   | (with_reducible exact ih0 _ _ _ _)
   | (with_reducible exact ih1 _ _ _ _ _ _)
   | (with_reducible exact overfallref01_Digits.mono _ _ _)
   | (with_reducible exact overfallref01_Value.mono _ _)
   | (with_reducible exact LeO.refl _)
   | (with_reducible exact LeO.none _)
   | (with_reducible refine LeO.ite ?_ ?_)
   | (with_reducible refine LeO.bind ?_ (fun _ => ?_))
   | exact ih0 _ _ _ _
   | exact ih1 _ _ _ _ _ _
   | exact overfallref01_Digits.mono _ _ _
   | exact overfallref01_Value.mono _ _
   | exact LeO.none _
   | refine LeO.ite ?_ ?_
   | refine LeO.bind ?_ (fun _ => ?_)
theorem overfallref01_Mul.mono : ∀ a0 a1 k, LeO (overfallref01_Mul.f k a0 a1) (overfallref01_Mul.f (k + 1) a0 a1) := by
 intro a0 a1 k
 obtain ⟨ih0, ih1⟩ := overfallref01_Mul.mono_l k
 unfold overfallref01_Mul.f
 repeat' first
   | (with_reducible exact ih0 _ _ _ _)
   | (with_reducible exact ih1 _ _ _ _ _ _)
   | (with_reducible exact overfallref01_Digits.mono _ _ _)
   | (with_reducible exact overfallref01_Value.mono _ _)
   | (with_reducible exact LeO.refl _)
   | (with_reducible exact LeO.none _)
   | (with_reducible refine LeO.ite ?_ ?_)
   | (with_reducible refine LeO.bind ?_ (fun _ => ?_))
   | exact ih0 _ _ _ _
   | exact ih1 _ _ _ _ _ _
   | exact overfallref01_Digits.mono _ _ _
   | exact overfallref01_Value.mono _ _
   | exact LeO.none _
   | refine LeO.ite ?_ ?_
   | refine LeO.bind ?_ (fun _ => ?_)
set_option maxHeartbeats 8000000 in
set_option maxRecDepth 100000 in
theorem overfallref01_Mul.calls (k : Nat) (a0 : Int) (a1 : Int) (r1 : Int) (r2 : Int) (w : World) (h : overfallref01_Mul.f k a0 a1 = some (r1, r2)) :
  Calls Try.prog 30 #[.int .u64 a0, .int .u64 a1] w fun e w' => e = .returned (.agg #[.int .u64 r1, .int .u64 r2]) ∧ Below w.heap.size w w' := by
 have hu50 := Try.underlying50
 have HB := Aside0.mk (Below.refl w.heap.size w)
 have H : ((overfallref01_Digits.f k 0 a0).bind fun t228 => ((overfallref01_Digits.f k 0 a1).bind fun t231 => (if 9 ≤ 35184372088832 then (overfallref01_Mul.l0 k t228 t231 (List.replicate 9 0) 0) else (none)))) = some (r1, r2) := h
 clear h
 replace H := Option.bind_eq_some_iff.mp H
 obtain ⟨t228, A30, H⟩ := H
 replace H : ((overfallref01_Digits.f k 0 a1).bind fun t231 => (if 9 ≤ 35184372088832 then (overfallref01_Mul.l0 k t228 t231 (List.replicate 9 0) 0) else (none))) = some (r1, r2) := H
 have A3 := Aside0.mk A30
 clear A30
 replace H := Option.bind_eq_some_iff.mp H
 obtain ⟨t231, A40, H⟩ := H
 replace H : (if 9 ≤ 35184372088832 then (overfallref01_Mul.l0 k t228 t231 (List.replicate 9 0) 0) else (none)) = some (r1, r2) := H
 have A4 := Aside0.mk A40
 clear A40
 by_cases c5 : 9 ≤ 35184372088832
 ·rw [if_pos c5] at H
  have c5b0 := eq_true c5
  have c5b1 : decide (9 ≤ 35184372088832) = true := decide_eq_true c5
  clear c5
  obtain ⟨y234, hy234⟩ : ∃ y_ : List Int, y_ = (List.replicate 9 0) := ⟨_, rfl⟩
  replace H : (overfallref01_Mul.l0 k t228 t231 y234 0) = some (r1, r2) := by first | (rw [hy234]; with_reducible exact H) | (have H2_ := (Option.bind_some _ _).symm.trans H; rw [hy234]; with_reducible exact H2_) | (have H2_ := (Option.bind_some _ _).symm.trans H; with_reducible exact H2_) | with_reducible exact H | (rw [hy234]; exact H) | exact H
  have Ny234 := Aside0.mk hy234
  clear hy234
  have H' := Aside0.mk H
  clear H
  go_enter Try.func30, Try.ntmps30
  go_wp2_with (first | ((with_reducible refine gate_dst (N := 4) rfl ?_); refine box_event ?hg (N := 4) ?hd (cs := #[.int .u64 0, .int .u64 0]) (t := 50) ?hr ?_; (case hd => rfl); (case hg => rfl); (case hr => first | (go_simp; done) | (go_simp; rfl)); intro gb227 hg w6 hbox hb; have n0_ := Aside0.mk (below_step (by repeat (first | (with_reducible first | exact HB.out | apply below_alloc | apply pw_below_drewN | apply below_drew1) | exact HB.out)) hb); have n1_ := Aside0.mk (hbox); have n2_ := Aside0.mk ((by rw [hg]; exact (below_size (by repeat (first | (with_reducible first | exact HB.out | apply below_alloc | apply pw_below_drewN | apply below_drew1) | exact HB.out))) : w.heap.size ≤ gb227)); have n3_ := Aside0.mk ((by rw [hg]; exact (below_size (by repeat (first | (with_reducible first | exact HB.out | apply below_alloc | apply pw_below_drewN | apply below_drew1) | exact HB.out))) : w.heap.size ≤ gb227)); clear HB; have HB := n0_; have BK227 := n1_; have GW227 := n2_; have GE227 := n3_; clear n0_ n1_ n2_ n3_; clear hb hbox hg) | (go_at_call 34; (with_reducible refine (overfallref01_Digits.calls k 0 a0 t228 _ A3.out).mono ?_); rintro e w7 ⟨v229, rfl, ho0, hb⟩; have n0_ := Aside0.mk (Kd.R_lower ho0 (below_size (by repeat (first | (with_reducible first | exact HB.out | apply below_alloc | apply pw_below_drewN | apply below_drew1 | refine below_set ?_ GE227.out) | exact HB.out)))); have n1_ := Aside0.mk (blk_below (by exact BK227.out) hb); have n2_ := Aside0.mk (below_step (by repeat (first | (with_reducible first | exact HB.out | apply below_alloc | apply pw_below_drewN | apply below_drew1 | refine below_set ?_ GE227.out) | exact HB.out)) hb); clear BK227; clear HB; have HO230 := n0_; have BK227 := n1_; have HB := n2_; clear n0_ n1_ n2_; (try clear hb); (try clear hb2); (try clear hk); (try clear hi); (try clear ho0)) | (go_at_call 34; (with_reducible refine (overfallref01_Digits.calls k 0 a1 t231 _ A4.out).mono ?_); rintro e w8 ⟨v232, rfl, ho0, hb⟩; have n0_ := Aside0.mk (Kd.R_elder' (by (with_reducible repeat (first | apply Kd.R_alloc | apply Kd.R_drewN | apply Kd.R_drew)); exact HO230.out) (Kd.R_base ho0) hb); have n1_ := Aside0.mk (Kd.R_lower (Kd.R_new' ho0 (Kd.R_lt (by (with_reducible repeat (first | apply Kd.R_alloc | apply Kd.R_drewN | apply Kd.R_drew)); exact HO230.out))) (below_size (by repeat (first | (with_reducible first | exact HB.out | apply below_alloc | apply pw_below_drewN | apply below_drew1 | refine below_set ?_ GE227.out) | exact HB.out)))); have n2_ := Aside0.mk (blk_below (by exact BK227.out) hb); have n3_ := Aside0.mk (below_step (by repeat (first | (with_reducible first | exact HB.out | apply below_alloc | apply pw_below_drewN | apply below_drew1 | refine below_set ?_ GE227.out) | exact HB.out)) hb); clear HO230; clear BK227; clear HB; have HO230 := n0_; have HO233 := n1_; have BK227 := n2_; have HB := n3_; clear n0_ n1_ n2_ n3_; (try clear hb); (try clear hb2); (try clear hk); (try clear hi); (try clear ho0)) | ((with_reducible refine gate_dst (N := 18) rfl ?_); refine Kd.R_make (Kd.int .i64) _ 3 rfl (N := 18) rfl 64 _ _ rfl 9 rfl rfl Try.underlying64 (.int .i64 0) 8 info3 rfl (by decide) (by omega) 0 (ok := fun _ => True) (okp := fun _ => True) rfl (fun _ hk => hk) trivial (by omega) (by omega) (Below.refl _ _) (Nat.le_refl _) ?_; intro v235 w9 ho10 hb hg_ hnew_; clear hg_ hnew_; (first | rw [← Ny234.out] at ho10 | (simp only [Int.reduceToNat] at ho10; rw [← Ny234.out] at ho10)); have n0_ := Aside0.mk (Kd.R_elder' (by (with_reducible repeat (first | apply Kd.R_alloc | apply Kd.R_drewN | apply Kd.R_drew)); exact HO230.out) (Kd.R_base ho10) hb); have n1_ := Aside0.mk (Kd.R_elder' (by (with_reducible repeat (first | apply Kd.R_alloc | apply Kd.R_drewN | apply Kd.R_drew)); exact HO233.out) (Kd.R_base ho10) hb); have n2_ := Aside0.mk (Kd.R_lower (Kd.R_new' (Kd.R_new' ho10 (Kd.R_lt (by (with_reducible repeat (first | apply Kd.R_alloc | apply Kd.R_drewN | apply Kd.R_drew)); exact HO230.out))) (Kd.R_lt (by (with_reducible repeat (first | apply Kd.R_alloc | apply Kd.R_drewN | apply Kd.R_drew)); exact HO233.out))) (below_size (by repeat (first | (with_reducible first | exact HB.out | apply below_alloc | apply pw_below_drewN | apply below_drew1 | refine below_set ?_ GE227.out) | exact HB.out)))); have n3_ := Aside0.mk (blk_below (by exact BK227.out) hb); have n4_ := Aside0.mk (below_step (by repeat (first | (with_reducible first | exact HB.out | apply below_alloc | apply pw_below_drewN | apply below_drew1 | refine below_set ?_ GE227.out) | exact HB.out)) hb); clear HO230; clear HO233; clear BK227; clear HB; have HO230 := n0_; have HO233 := n1_; have HO236 := n2_; have BK227 := n3_; have HB := n4_; clear n0_ n1_ n2_ n3_ n4_; clear hb ho10))
  repeat (go_quiet (first | ((with_reducible refine gate_dst (N := 4) rfl ?_); refine box_event ?hg (N := 4) ?hd (cs := #[.int .u64 0, .int .u64 0]) (t := 50) ?hr ?_; (case hd => rfl); (case hg => rfl); (case hr => first | (go_simp; done) | (go_simp; rfl)); intro gb227 hg w6 hbox hb; have n0_ := Aside0.mk (below_step (by repeat (first | (with_reducible first | exact HB.out | apply below_alloc | apply pw_below_drewN | apply below_drew1) | exact HB.out)) hb); have n1_ := Aside0.mk (hbox); have n2_ := Aside0.mk ((by rw [hg]; exact (below_size (by repeat (first | (with_reducible first | exact HB.out | apply below_alloc | apply pw_below_drewN | apply below_drew1) | exact HB.out))) : w.heap.size ≤ gb227)); have n3_ := Aside0.mk ((by rw [hg]; exact (below_size (by repeat (first | (with_reducible first | exact HB.out | apply below_alloc | apply pw_below_drewN | apply below_drew1) | exact HB.out))) : w.heap.size ≤ gb227)); clear HB; have HB := n0_; have BK227 := n1_; have GW227 := n2_; have GE227 := n3_; clear n0_ n1_ n2_ n3_; clear hb hbox hg) | (go_at_call 34; (with_reducible refine (overfallref01_Digits.calls k 0 a0 t228 _ A3.out).mono ?_); rintro e w7 ⟨v229, rfl, ho0, hb⟩; have n0_ := Aside0.mk (Kd.R_lower ho0 (below_size (by repeat (first | (with_reducible first | exact HB.out | apply below_alloc | apply pw_below_drewN | apply below_drew1 | refine below_set ?_ GE227.out) | exact HB.out)))); have n1_ := Aside0.mk (blk_below (by exact BK227.out) hb); have n2_ := Aside0.mk (below_step (by repeat (first | (with_reducible first | exact HB.out | apply below_alloc | apply pw_below_drewN | apply below_drew1 | refine below_set ?_ GE227.out) | exact HB.out)) hb); clear BK227; clear HB; have HO230 := n0_; have BK227 := n1_; have HB := n2_; clear n0_ n1_ n2_; (try clear hb); (try clear hb2); (try clear hk); (try clear hi); (try clear ho0)) | (go_at_call 34; (with_reducible refine (overfallref01_Digits.calls k 0 a1 t231 _ A4.out).mono ?_); rintro e w8 ⟨v232, rfl, ho0, hb⟩; have n0_ := Aside0.mk (Kd.R_elder' (by (with_reducible repeat (first | apply Kd.R_alloc | apply Kd.R_drewN | apply Kd.R_drew)); exact HO230.out) (Kd.R_base ho0) hb); have n1_ := Aside0.mk (Kd.R_lower (Kd.R_new' ho0 (Kd.R_lt (by (with_reducible repeat (first | apply Kd.R_alloc | apply Kd.R_drewN | apply Kd.R_drew)); exact HO230.out))) (below_size (by repeat (first | (with_reducible first | exact HB.out | apply below_alloc | apply pw_below_drewN | apply below_drew1 | refine below_set ?_ GE227.out) | exact HB.out)))); have n2_ := Aside0.mk (blk_below (by exact BK227.out) hb); have n3_ := Aside0.mk (below_step (by repeat (first | (with_reducible first | exact HB.out | apply below_alloc | apply pw_below_drewN | apply below_drew1 | refine below_set ?_ GE227.out) | exact HB.out)) hb); clear HO230; clear BK227; clear HB; have HO230 := n0_; have HO233 := n1_; have BK227 := n2_; have HB := n3_; clear n0_ n1_ n2_ n3_; (try clear hb); (try clear hb2); (try clear hk); (try clear hi); (try clear ho0)) | ((with_reducible refine gate_dst (N := 18) rfl ?_); refine Kd.R_make (Kd.int .i64) _ 3 rfl (N := 18) rfl 64 _ _ rfl 9 rfl rfl Try.underlying64 (.int .i64 0) 8 info3 rfl (by decide) (by omega) 0 (ok := fun _ => True) (okp := fun _ => True) rfl (fun _ hk => hk) trivial (by omega) (by omega) (Below.refl _ _) (Nat.le_refl _) ?_; intro v235 w9 ho10 hb hg_ hnew_; clear hg_ hnew_; (first | rw [← Ny234.out] at ho10 | (simp only [Int.reduceToNat] at ho10; rw [← Ny234.out] at ho10)); have n0_ := Aside0.mk (Kd.R_elder' (by (with_reducible repeat (first | apply Kd.R_alloc | apply Kd.R_drewN | apply Kd.R_drew)); exact HO230.out) (Kd.R_base ho10) hb); have n1_ := Aside0.mk (Kd.R_elder' (by (with_reducible repeat (first | apply Kd.R_alloc | apply Kd.R_drewN | apply Kd.R_drew)); exact HO233.out) (Kd.R_base ho10) hb); have n2_ := Aside0.mk (Kd.R_lower (Kd.R_new' (Kd.R_new' ho10 (Kd.R_lt (by (with_reducible repeat (first | apply Kd.R_alloc | apply Kd.R_drewN | apply Kd.R_drew)); exact HO230.out))) (Kd.R_lt (by (with_reducible repeat (first | apply Kd.R_alloc | apply Kd.R_drewN | apply Kd.R_drew)); exact HO233.out))) (below_size (by repeat (first | (with_reducible first | exact HB.out | apply below_alloc | apply pw_below_drewN | apply below_drew1 | refine below_set ?_ GE227.out) | exact HB.out)))); have n3_ := Aside0.mk (blk_below (by exact BK227.out) hb); have n4_ := Aside0.mk (below_step (by repeat (first | (with_reducible first | exact HB.out | apply below_alloc | apply pw_below_drewN | apply below_drew1 | refine below_set ?_ GE227.out) | exact HB.out)) hb); clear HO230; clear HO233; clear BK227; clear HB; have HO230 := n0_; have HO233 := n1_; have HO236 := n2_; have BK227 := n3_; have HB := n4_; clear n0_ n1_ n2_ n3_ n4_; clear hb ho10)); try go_wp2_with (first | ((with_reducible refine gate_dst (N := 4) rfl ?_); refine box_event ?hg (N := 4) ?hd (cs := #[.int .u64 0, .int .u64 0]) (t := 50) ?hr ?_; (case hd => rfl); (case hg => rfl); (case hr => first | (go_simp; done) | (go_simp; rfl)); intro gb227 hg w6 hbox hb; have n0_ := Aside0.mk (below_step (by repeat (first | (with_reducible first | exact HB.out | apply below_alloc | apply pw_below_drewN | apply below_drew1) | exact HB.out)) hb); have n1_ := Aside0.mk (hbox); have n2_ := Aside0.mk ((by rw [hg]; exact (below_size (by repeat (first | (with_reducible first | exact HB.out | apply below_alloc | apply pw_below_drewN | apply below_drew1) | exact HB.out))) : w.heap.size ≤ gb227)); have n3_ := Aside0.mk ((by rw [hg]; exact (below_size (by repeat (first | (with_reducible first | exact HB.out | apply below_alloc | apply pw_below_drewN | apply below_drew1) | exact HB.out))) : w.heap.size ≤ gb227)); clear HB; have HB := n0_; have BK227 := n1_; have GW227 := n2_; have GE227 := n3_; clear n0_ n1_ n2_ n3_; clear hb hbox hg) | (go_at_call 34; (with_reducible refine (overfallref01_Digits.calls k 0 a0 t228 _ A3.out).mono ?_); rintro e w7 ⟨v229, rfl, ho0, hb⟩; have n0_ := Aside0.mk (Kd.R_lower ho0 (below_size (by repeat (first | (with_reducible first | exact HB.out | apply below_alloc | apply pw_below_drewN | apply below_drew1 | refine below_set ?_ GE227.out) | exact HB.out)))); have n1_ := Aside0.mk (blk_below (by exact BK227.out) hb); have n2_ := Aside0.mk (below_step (by repeat (first | (with_reducible first | exact HB.out | apply below_alloc | apply pw_below_drewN | apply below_drew1 | refine below_set ?_ GE227.out) | exact HB.out)) hb); clear BK227; clear HB; have HO230 := n0_; have BK227 := n1_; have HB := n2_; clear n0_ n1_ n2_; (try clear hb); (try clear hb2); (try clear hk); (try clear hi); (try clear ho0)) | (go_at_call 34; (with_reducible refine (overfallref01_Digits.calls k 0 a1 t231 _ A4.out).mono ?_); rintro e w8 ⟨v232, rfl, ho0, hb⟩; have n0_ := Aside0.mk (Kd.R_elder' (by (with_reducible repeat (first | apply Kd.R_alloc | apply Kd.R_drewN | apply Kd.R_drew)); exact HO230.out) (Kd.R_base ho0) hb); have n1_ := Aside0.mk (Kd.R_lower (Kd.R_new' ho0 (Kd.R_lt (by (with_reducible repeat (first | apply Kd.R_alloc | apply Kd.R_drewN | apply Kd.R_drew)); exact HO230.out))) (below_size (by repeat (first | (with_reducible first | exact HB.out | apply below_alloc | apply pw_below_drewN | apply below_drew1 | refine below_set ?_ GE227.out) | exact HB.out)))); have n2_ := Aside0.mk (blk_below (by exact BK227.out) hb); have n3_ := Aside0.mk (below_step (by repeat (first | (with_reducible first | exact HB.out | apply below_alloc | apply pw_below_drewN | apply below_drew1 | refine below_set ?_ GE227.out) | exact HB.out)) hb); clear HO230; clear BK227; clear HB; have HO230 := n0_; have HO233 := n1_; have BK227 := n2_; have HB := n3_; clear n0_ n1_ n2_ n3_; (try clear hb); (try clear hb2); (try clear hk); (try clear hi); (try clear ho0)) | ((with_reducible refine gate_dst (N := 18) rfl ?_); refine Kd.R_make (Kd.int .i64) _ 3 rfl (N := 18) rfl 64 _ _ rfl 9 rfl rfl Try.underlying64 (.int .i64 0) 8 info3 rfl (by decide) (by omega) 0 (ok := fun _ => True) (okp := fun _ => True) rfl (fun _ hk => hk) trivial (by omega) (by omega) (Below.refl _ _) (Nat.le_refl _) ?_; intro v235 w9 ho10 hb hg_ hnew_; clear hg_ hnew_; (first | rw [← Ny234.out] at ho10 | (simp only [Int.reduceToNat] at ho10; rw [← Ny234.out] at ho10)); have n0_ := Aside0.mk (Kd.R_elder' (by (with_reducible repeat (first | apply Kd.R_alloc | apply Kd.R_drewN | apply Kd.R_drew)); exact HO230.out) (Kd.R_base ho10) hb); have n1_ := Aside0.mk (Kd.R_elder' (by (with_reducible repeat (first | apply Kd.R_alloc | apply Kd.R_drewN | apply Kd.R_drew)); exact HO233.out) (Kd.R_base ho10) hb); have n2_ := Aside0.mk (Kd.R_lower (Kd.R_new' (Kd.R_new' ho10 (Kd.R_lt (by (with_reducible repeat (first | apply Kd.R_alloc | apply Kd.R_drewN | apply Kd.R_drew)); exact HO230.out))) (Kd.R_lt (by (with_reducible repeat (first | apply Kd.R_alloc | apply Kd.R_drewN | apply Kd.R_drew)); exact HO233.out))) (below_size (by repeat (first | (with_reducible first | exact HB.out | apply below_alloc | apply pw_below_drewN | apply below_drew1 | refine below_set ?_ GE227.out) | exact HB.out)))); have n3_ := Aside0.mk (blk_below (by exact BK227.out) hb); have n4_ := Aside0.mk (below_step (by repeat (first | (with_reducible first | exact HB.out | apply below_alloc | apply pw_below_drewN | apply below_drew1 | refine below_set ?_ GE227.out) | exact HB.out)) hb); clear HO230; clear HO233; clear BK227; clear HB; have HO230 := n0_; have HO233 := n1_; have HO236 := n2_; have BK227 := n3_; have HB := n4_; clear n0_ n1_ n2_ n3_ n4_; clear hb ho10)))
  go_loopg [8] k (fun kq v8 w' => ∃ (x7_1 : List Int) (x8_1 : Int), v8 = .int .i64 x8_1 ∧ Aside0 (overfallref01_Mul.l0 kq t228 t231 x7_1 x8_1 = some (r1, r2)) ∧ Aside0 (kq ≤ k) ∧ Aside0 (Kd.R (Kd.int .i64) 3 w' w.heap.size (fun k_ => some k_ ≠ (v232 : Value).ownBlock ∧ some k_ ≠ (v235 : Value).ownBlock) v229 t228) ∧ Aside0 (Kd.R (Kd.int .i64) 3 w' w.heap.size (fun k_ => some k_ ≠ (v229 : Value).ownBlock ∧ some k_ ≠ (v235 : Value).ownBlock) v232 t231) ∧ Aside0 (Kd.R (Kd.int .i64) 3 w' w.heap.size (fun k_ => some k_ ≠ (v229 : Value).ownBlock ∧ some k_ ≠ (v232 : Value).ownBlock) v235 x7_1) ∧ Aside0 (w'.heap[gb227]? = some (.cells #[.int .u64 0, .int .u64 0] 50 (0, 0))) ∧ Aside0 (Below w.heap.size w w'))
  case atStart => exact ⟨(y234), (0), (by first | rfl | (simp; done) | (simp [*]; done)), H', ⟨Nat.le_refl _⟩, ⟨by (with_reducible repeat (first | apply Kd.R_alloc | apply Kd.R_drewN | apply Kd.R_drew)); exact Kd.R_mono HO230.out (fun _ hk => ⟨hk.1.2, hk.2⟩)⟩, ⟨by (with_reducible repeat (first | apply Kd.R_alloc | apply Kd.R_drewN | apply Kd.R_drew)); exact Kd.R_mono HO233.out (fun _ hk => ⟨hk.1.2, hk.2⟩)⟩, ⟨by (with_reducible repeat (first | apply Kd.R_alloc | apply Kd.R_drewN | apply Kd.R_drew)); exact Kd.R_mono HO236.out (fun _ hk => ⟨hk.1.2, hk.2⟩)⟩, ⟨by exact BK227.out⟩, ⟨by repeat (first | (with_reducible first | exact HB.out | apply below_alloc | apply pw_below_drewN | apply below_drew1 | refine below_set ?_ GE227.out) | exact HB.out)⟩⟩
  case round =>
   clear H'
   try clear p2
   try clear c3
   try clear c5
   try clear c5b0
   try clear c5b1
   obtain ⟨x7_1, x8_1, rfl, HA, HK1, HO_5, HO_6, HO_7, BK227, HB⟩ := hrel
   cases gk with
   | zero => exact absurd HA.out (by simp [overfallref01_Mul.l0])
   | succ k1 =>
    have H := HA.out
    clear HA
    simp only [overfallref01_Mul.l0] at H
    by_cases c11 : x8_1 < 4
    ·rw [if_pos c11] at H
     have c11b0 : decide (x8_1 < 4) = true := decide_eq_true c11
     clear c11
     have H' := Aside0.mk H
     clear H
     go_wp2
     repeat (go_quiet (fail); try go_wp2)
     go_loopg [9, 10] k1 (fun kq v9 v10 w' => ∃ (x7_2 : List Int) (x9_2 : Int) (x10_2 : Int), v9 = .int .i64 x9_2 ∧ v10 = .int .i64 x10_2 ∧ Aside0 (overfallref01_Mul.l1 kq t228 t231 x7_2 x8_1 x9_2 x10_2 = some (r1, r2)) ∧ Aside0 (kq ≤ k1) ∧ Aside0 (Kd.R (Kd.int .i64) 3 w' w.heap.size (fun k_ => some k_ ≠ (v232 : Value).ownBlock ∧ some k_ ≠ (v235 : Value).ownBlock) v229 t228) ∧ Aside0 (Kd.R (Kd.int .i64) 3 w' w.heap.size (fun k_ => some k_ ≠ (v229 : Value).ownBlock ∧ some k_ ≠ (v235 : Value).ownBlock) v232 t231) ∧ Aside0 (Kd.R (Kd.int .i64) 3 w' w.heap.size (fun k_ => some k_ ≠ (v229 : Value).ownBlock ∧ some k_ ≠ (v232 : Value).ownBlock) v235 x7_2) ∧ Aside0 (w'.heap[gb227]? = some (.cells #[.int .u64 0, .int .u64 0] 50 (0, 0))) ∧ Aside0 (Below w.heap.size w w'))
     case atStart => exact ⟨(x7_1), (0), (0), (by first | rfl | (simp; done) | (simp [*]; done)), (by first | rfl | (simp; done) | (simp [*]; done)), H', ⟨Nat.le_refl _⟩, ⟨by (with_reducible repeat (first | apply Kd.R_alloc | apply Kd.R_drewN | apply Kd.R_drew)); exact HO_5.out⟩, ⟨by (with_reducible repeat (first | apply Kd.R_alloc | apply Kd.R_drewN | apply Kd.R_drew)); exact HO_6.out⟩, ⟨by (with_reducible repeat (first | apply Kd.R_alloc | apply Kd.R_drewN | apply Kd.R_drew)); exact HO_7.out⟩, ⟨by exact BK227.out⟩, ⟨by repeat (first | (with_reducible first | exact HB.out | apply below_alloc | apply pw_below_drewN | apply below_drew1 | refine below_set ?_ GE227.out) | exact HB.out)⟩⟩
     case round =>
      clear H'
      try clear c1
      try clear p2
      try clear c3
      try clear c5
      try clear c5b0
      try clear c5b1
      try clear c11
      try clear c11b0
      try clear p2
      obtain ⟨x7_2, x9_2, x10_2, rfl, rfl, HA, HK2, HO_5, HO_6, HO_7, BK227, HB⟩ := hrel
      cases gk with
      | zero => exact absurd HA.out (by simp [overfallref01_Mul.l1])
      | succ k2 =>
       have H := HA.out
       clear HA
       simp only [overfallref01_Mul.l1] at H
       by_cases c12 : x10_2 < 4
       ·rw [if_pos c12] at H
        have c12b0 : decide (x10_2 < 4) = true := decide_eq_true c12
        clear c12
        obtain ⟨ji13, hji13⟩ : ∃ j_ : Int, (wrap64 (x8_1 + x10_2)) = j_ := ⟨_, rfl⟩
        replace H : (if 0 ≤ (ji13) then (if (ji13) < (x7_2.length : Int) then (if 0 ≤ x8_1 then (if x8_1 < (t228.length : Int) then (if 0 ≤ x10_2 then (if x10_2 < (t231.length : Int) then (overfallref01_Mul.l1 k2 t228 t231 (x7_2.set ((ji13) : Int).toNat (Int.tmod (wrap64 ((wrap64 ((rd x7_2 (ji13)) + (wrap64 ((rd t228 x8_1) * (rd t231 x10_2))))) + x9_2)) 65536)) x8_1 (wrap64 (Int.tdiv (wrap64 ((wrap64 ((rd x7_2 (ji13)) + (wrap64 ((rd t228 x8_1) * (rd t231 x10_2))))) + x9_2)) 65536)) (wrap64 (x10_2 + 1))) else (none)) else (none)) else (none)) else (none)) else (none)) else (none)) = some (r1, r2) := by first | (rw [hji13] at H; exact H) | (simp only [hji13] at H ⊢; exact H)
        have hji13w : (IntKind.i64.wrap (x8_1 + x10_2)) = ji13 := (i64_w _).trans hji13
        by_cases c14 : 0 ≤ (ji13)
        ·rw [if_pos c14] at H
         have c14b0 : decide (0 ≤ (ji13)) = true := decide_eq_true c14
         clear c14
         by_cases c15 : (ji13) < (x7_2.length : Int)
         ·rw [if_pos c15] at H
          have c15b0 : decide ((ji13) < (x7_2.length : Int)) = true := decide_eq_true c15
          clear c15
          by_cases c16 : 0 ≤ x8_1
          ·rw [if_pos c16] at H
           have c16b0 : decide (0 ≤ x8_1) = true := decide_eq_true c16
           clear c16
           by_cases c17 : x8_1 < (t228.length : Int)
           ·rw [if_pos c17] at H
            have c17b0 : decide (x8_1 < (t228.length : Int)) = true := decide_eq_true c17
            clear c17
            by_cases c18 : 0 ≤ x10_2
            ·rw [if_pos c18] at H
             have c18b0 : decide (0 ≤ x10_2) = true := decide_eq_true c18
             clear c18
             by_cases c19 : x10_2 < (t231.length : Int)
             ·rw [if_pos c19] at H
              have c19b0 : decide (x10_2 < (t231.length : Int)) = true := decide_eq_true c19
              clear c19
              obtain ⟨y246, hy246⟩ : ∃ y_ : List Int, y_ = (x7_2.set ((ji13) : Int).toNat (Int.tmod (wrap64 ((wrap64 ((rd x7_2 (ji13)) + (wrap64 ((rd t228 x8_1) * (rd t231 x10_2))))) + x9_2)) 65536)) := ⟨_, rfl⟩
              replace H : (overfallref01_Mul.l1 k2 t228 t231 y246 x8_1 (wrap64 (Int.tdiv (wrap64 ((wrap64 ((rd x7_2 (ji13)) + (wrap64 ((rd t228 x8_1) * (rd t231 x10_2))))) + x9_2)) 65536)) (wrap64 (x10_2 + 1))) = some (r1, r2) := by first | (rw [hy246]; with_reducible exact H) | (have H2_ := (Option.bind_some _ _).symm.trans H; rw [hy246]; with_reducible exact H2_) | (have H2_ := (Option.bind_some _ _).symm.trans H; with_reducible exact H2_) | with_reducible exact H | (rw [hy246]; exact H) | exact H
              have Ny246 := Aside0.mk hy246
              clear hy246
              have H' := Aside0.mk H
              clear H
              obtain ⟨Ao21, co21, eo21⟩ := Kd.R_slice HO_7.out
              subst eo21
              have p243 : 0 ≤ ((ji13) : Int) := of_decide_eq_true (by first | (with_reducible assumption) | assumption)
              have q243 : (ji13) < (x7_2.length : Int) := of_decide_eq_true (by first | (with_reducible assumption) | assumption)
              obtain ⟨ad243, e243, hx243_0⟩ := Kd.at_int (Kd.R_reads' HO_7.out).2.2 (ji13) p243 q243
              cases e243
              replace p243 := eq_true p243
              replace q243 := eq_true q243
              obtain ⟨Ao22, co22, eo22⟩ := Kd.R_slice HO_5.out
              subst eo22
              have p244 : 0 ≤ (x8_1 : Int) := of_decide_eq_true (by first | (with_reducible assumption) | assumption)
              have q244 : x8_1 < (t228.length : Int) := of_decide_eq_true (by first | (with_reducible assumption) | assumption)
              obtain ⟨ad244, e244, hx244_0⟩ := Kd.at_int (Kd.R_reads' HO_5.out).2.2 x8_1 p244 q244
              cases e244
              replace p244 := eq_true p244
              replace q244 := eq_true q244
              obtain ⟨Ao23, co23, eo23⟩ := Kd.R_slice HO_6.out
              subst eo23
              have p245 : 0 ≤ (x10_2 : Int) := of_decide_eq_true (by first | (with_reducible assumption) | assumption)
              have q245 : x10_2 < (t231.length : Int) := of_decide_eq_true (by first | (with_reducible assumption) | assumption)
              obtain ⟨ad245, e245, hx245_0⟩ := Kd.at_int (Kd.R_reads' HO_6.out).2.2 x10_2 p245 q245
              cases e245
              replace p245 := eq_true p245
              replace q245 := eq_true q245
              have p20 : 0 ≤ ((ji13) : Int) := of_decide_eq_true (by first | (with_reducible assumption) | assumption)
              have q20 : ((ji13) : Int) < ((x7_2.length : Int) : Int) := of_decide_eq_true (by first | (with_reducible assumption) | assumption)
              obtain ⟨go20, co20, eo20, gb20, gl20, cl20, HG20⟩ := Kd.R_form HO_7.out (by omega)
              (first | cases eo20 | (injection eo20 with ea_ en_ ec_; (first | subst ea_ | (injection ea_ with ea_; subst ea_)); subst ec_; clear en_))
              have GB20 := Aside0.mk gb20
              have GG20 := Aside0.mk HG20
              clear gb20 gl20 HG20
              (first | simp only [add_plain] at hx243_0 | skip)
              obtain ⟨hx20_0, hf20_0⟩ := Kd.R_celln 0 HO_7.out ((ji13) : Int) p20 q20
              replace p20 := eq_true p20
              replace q20 := eq_true q20
              have HP24 := Kd.R_putg HO_7.out ((ji13) : Int) (Int.tmod (wrap64 ((wrap64 ((rd x7_2 (ji13)) + (wrap64 ((rd t228 x8_1) * (rd t231 x10_2))))) + x9_2)) 65536)
              go_wp2_with (first | ((with_reducible refine gate_store (t := 3) (p := 53) rfl ?_); (try (rw [drewN_self wr]; generalize hq_ : World.drewN wr _ = wr; have n0_ := Aside0.mk (Kd.R_at hq_ HO_5.out); have n1_ := Aside0.mk (Kd.R_at hq_ HO_6.out); have n2_ := Aside0.mk (Kd.R_at hq_ HO_7.out); have n3_ := Aside0.mk (blk_at hq_ BK227.out); have n4_ := Aside0.mk (below_at hq_ HB.out); clear hq_ HO_5 HO_6 HO_7 BK227 HB; have HO_5 := n0_; have HO_6 := n1_; have HO_7 := n2_; have BK227 := n3_; have HB := n4_; clear n0_ n1_ n2_ n3_ n4_; (try (have HP24 := Kd.R_putg HO_7.out ((ji13) : Int) (Int.tmod (wrap64 ((wrap64 ((rd x7_2 (ji13)) + (wrap64 ((rd t228 x8_1) * (rd t231 x10_2))))) + x9_2)) 65536))))); refine store_event (t := 3) (p := 53) (v := ?vo_w25) (w1 := (wr.setCell ⟨go20, ((ji13) : Int).toNat, none⟩ (.int .i64 (Int.tmod (wrap64 ((wrap64 ((rd x7_2 (ji13)) + (wrap64 ((rd t228 x8_1) * (rd t231 x10_2))))) + x9_2)) 65536)))) ?hg ?ho ?hn ?hr ?_; (case ho => rfl); (case hg => rfl); (case hn => rfl); (case hr => first | (go_simp; done) | (go_simp; rfl)); intro w25 hw; have hg : wr.grownBy w25 (some go20) := (by rw [hw]; exact HP24.2); have hp_ : Kd.R (Kd.int .i64) 3 w25 w.heap.size (fun k_ => some k_ ≠ (.slice (some ad244) t228.length co22 : Value).ownBlock ∧ some k_ ≠ (.slice (some ad245) t231.length co23 : Value).ownBlock) (.slice (some ⟨go20, 0, none⟩) x7_2.length co21) y246 := (by rw [hw, Ny246.out]; exact HP24.1); clear HP24; have n0_ := Aside0.mk (Kd.R_after (v := (.slice (some ⟨go20, 0, none⟩) x7_2.length co21)) (v1 := (.slice (some ⟨go20, 0, none⟩) x7_2.length co21)) (ok := (fun k_ => some k_ ≠ (.slice (some ad245) t231.length co23 : Value).ownBlock)) (by (with_reducible repeat (first | apply Kd.R_alloc | apply Kd.R_drewN | apply Kd.R_drew)); exact HO_5.out) hg (.inl rfl)); have n1_ := Aside0.mk (Kd.R_after (v := (.slice (some ⟨go20, 0, none⟩) x7_2.length co21)) (v1 := (.slice (some ⟨go20, 0, none⟩) x7_2.length co21)) (ok := (fun k_ => some k_ ≠ (.slice (some ad244) t228.length co22 : Value).ownBlock)) (by (with_reducible repeat (first | apply Kd.R_alloc | apply Kd.R_drewN | apply Kd.R_drew)); exact HO_6.out) hg (.inl rfl)); have n2_ := Aside0.mk (hp_); have n3_ := Aside0.mk (blk_grown (by exact BK227.out) hg (Kd.R_ne HO_7.out BK227.out (by decide))); have n4_ := Aside0.mk ((by rw [hw]; exact below_set (HB.out) GB20.out : Below w.heap.size w w25)); clear HO_5; clear HO_6; clear HO_7; clear BK227; clear HB; have HO_5 := n0_; have HO_6 := n1_; have HO_7 := n2_; have BK227 := n3_; have HB := n4_; clear n0_ n1_ n2_ n3_ n4_; clear hg hw hp_))
              repeat (go_quiet (first | ((with_reducible refine gate_store (t := 3) (p := 53) rfl ?_); (try (rw [drewN_self wr]; generalize hq_ : World.drewN wr _ = wr; have n0_ := Aside0.mk (Kd.R_at hq_ HO_5.out); have n1_ := Aside0.mk (Kd.R_at hq_ HO_6.out); have n2_ := Aside0.mk (Kd.R_at hq_ HO_7.out); have n3_ := Aside0.mk (blk_at hq_ BK227.out); have n4_ := Aside0.mk (below_at hq_ HB.out); clear hq_ HO_5 HO_6 HO_7 BK227 HB; have HO_5 := n0_; have HO_6 := n1_; have HO_7 := n2_; have BK227 := n3_; have HB := n4_; clear n0_ n1_ n2_ n3_ n4_; (try (have HP24 := Kd.R_putg HO_7.out ((ji13) : Int) (Int.tmod (wrap64 ((wrap64 ((rd x7_2 (ji13)) + (wrap64 ((rd t228 x8_1) * (rd t231 x10_2))))) + x9_2)) 65536))))); refine store_event (t := 3) (p := 53) (v := ?vo_w25) (w1 := (wr.setCell ⟨go20, ((ji13) : Int).toNat, none⟩ (.int .i64 (Int.tmod (wrap64 ((wrap64 ((rd x7_2 (ji13)) + (wrap64 ((rd t228 x8_1) * (rd t231 x10_2))))) + x9_2)) 65536)))) ?hg ?ho ?hn ?hr ?_; (case ho => rfl); (case hg => rfl); (case hn => rfl); (case hr => first | (go_simp; done) | (go_simp; rfl)); intro w25 hw; have hg : wr.grownBy w25 (some go20) := (by rw [hw]; exact HP24.2); have hp_ : Kd.R (Kd.int .i64) 3 w25 w.heap.size (fun k_ => some k_ ≠ (.slice (some ad244) t228.length co22 : Value).ownBlock ∧ some k_ ≠ (.slice (some ad245) t231.length co23 : Value).ownBlock) (.slice (some ⟨go20, 0, none⟩) x7_2.length co21) y246 := (by rw [hw, Ny246.out]; exact HP24.1); clear HP24; have n0_ := Aside0.mk (Kd.R_after (v := (.slice (some ⟨go20, 0, none⟩) x7_2.length co21)) (v1 := (.slice (some ⟨go20, 0, none⟩) x7_2.length co21)) (ok := (fun k_ => some k_ ≠ (.slice (some ad245) t231.length co23 : Value).ownBlock)) (by (with_reducible repeat (first | apply Kd.R_alloc | apply Kd.R_drewN | apply Kd.R_drew)); exact HO_5.out) hg (.inl rfl)); have n1_ := Aside0.mk (Kd.R_after (v := (.slice (some ⟨go20, 0, none⟩) x7_2.length co21)) (v1 := (.slice (some ⟨go20, 0, none⟩) x7_2.length co21)) (ok := (fun k_ => some k_ ≠ (.slice (some ad244) t228.length co22 : Value).ownBlock)) (by (with_reducible repeat (first | apply Kd.R_alloc | apply Kd.R_drewN | apply Kd.R_drew)); exact HO_6.out) hg (.inl rfl)); have n2_ := Aside0.mk (hp_); have n3_ := Aside0.mk (blk_grown (by exact BK227.out) hg (Kd.R_ne HO_7.out BK227.out (by decide))); have n4_ := Aside0.mk ((by rw [hw]; exact below_set (HB.out) GB20.out : Below w.heap.size w w25)); clear HO_5; clear HO_6; clear HO_7; clear BK227; clear HB; have HO_5 := n0_; have HO_6 := n1_; have HO_7 := n2_; have BK227 := n3_; have HB := n4_; clear n0_ n1_ n2_ n3_ n4_; clear hg hw hp_)); try go_wp2_with (first | ((with_reducible refine gate_store (t := 3) (p := 53) rfl ?_); (try (rw [drewN_self wr]; generalize hq_ : World.drewN wr _ = wr; have n0_ := Aside0.mk (Kd.R_at hq_ HO_5.out); have n1_ := Aside0.mk (Kd.R_at hq_ HO_6.out); have n2_ := Aside0.mk (Kd.R_at hq_ HO_7.out); have n3_ := Aside0.mk (blk_at hq_ BK227.out); have n4_ := Aside0.mk (below_at hq_ HB.out); clear hq_ HO_5 HO_6 HO_7 BK227 HB; have HO_5 := n0_; have HO_6 := n1_; have HO_7 := n2_; have BK227 := n3_; have HB := n4_; clear n0_ n1_ n2_ n3_ n4_; (try (have HP24 := Kd.R_putg HO_7.out ((ji13) : Int) (Int.tmod (wrap64 ((wrap64 ((rd x7_2 (ji13)) + (wrap64 ((rd t228 x8_1) * (rd t231 x10_2))))) + x9_2)) 65536))))); refine store_event (t := 3) (p := 53) (v := ?vo_w25) (w1 := (wr.setCell ⟨go20, ((ji13) : Int).toNat, none⟩ (.int .i64 (Int.tmod (wrap64 ((wrap64 ((rd x7_2 (ji13)) + (wrap64 ((rd t228 x8_1) * (rd t231 x10_2))))) + x9_2)) 65536)))) ?hg ?ho ?hn ?hr ?_; (case ho => rfl); (case hg => rfl); (case hn => rfl); (case hr => first | (go_simp; done) | (go_simp; rfl)); intro w25 hw; have hg : wr.grownBy w25 (some go20) := (by rw [hw]; exact HP24.2); have hp_ : Kd.R (Kd.int .i64) 3 w25 w.heap.size (fun k_ => some k_ ≠ (.slice (some ad244) t228.length co22 : Value).ownBlock ∧ some k_ ≠ (.slice (some ad245) t231.length co23 : Value).ownBlock) (.slice (some ⟨go20, 0, none⟩) x7_2.length co21) y246 := (by rw [hw, Ny246.out]; exact HP24.1); clear HP24; have n0_ := Aside0.mk (Kd.R_after (v := (.slice (some ⟨go20, 0, none⟩) x7_2.length co21)) (v1 := (.slice (some ⟨go20, 0, none⟩) x7_2.length co21)) (ok := (fun k_ => some k_ ≠ (.slice (some ad245) t231.length co23 : Value).ownBlock)) (by (with_reducible repeat (first | apply Kd.R_alloc | apply Kd.R_drewN | apply Kd.R_drew)); exact HO_5.out) hg (.inl rfl)); have n1_ := Aside0.mk (Kd.R_after (v := (.slice (some ⟨go20, 0, none⟩) x7_2.length co21)) (v1 := (.slice (some ⟨go20, 0, none⟩) x7_2.length co21)) (ok := (fun k_ => some k_ ≠ (.slice (some ad244) t228.length co22 : Value).ownBlock)) (by (with_reducible repeat (first | apply Kd.R_alloc | apply Kd.R_drewN | apply Kd.R_drew)); exact HO_6.out) hg (.inl rfl)); have n2_ := Aside0.mk (hp_); have n3_ := Aside0.mk (blk_grown (by exact BK227.out) hg (Kd.R_ne HO_7.out BK227.out (by decide))); have n4_ := Aside0.mk ((by rw [hw]; exact below_set (HB.out) GB20.out : Below w.heap.size w w25)); clear HO_5; clear HO_6; clear HO_7; clear BK227; clear HB; have HO_5 := n0_; have HO_6 := n1_; have HO_7 := n2_; have BK227 := n3_; have HB := n4_; clear n0_ n1_ n2_ n3_ n4_; clear hg hw hp_)))
              go_roundg k2
              case measure => have := HK1.out; have := HK2.out; omega
              case rel => exact ⟨(y246), (wrap64 (Int.tdiv (wrap64 ((wrap64 ((rd x7_2 (ji13)) + (wrap64 ((rd t228 x8_1) * (rd t231 x10_2))))) + x9_2)) 65536)), (wrap64 (x10_2 + 1)), (by first | rfl | (simp; done) | (simp only [← hji13] <;> (first | rfl | simp)) | (simp [*]; done)), (by first | rfl | (simp; done) | (simp [*]; done)), H', ⟨by have := HK1.out; have := HK2.out; omega⟩, ⟨by (with_reducible repeat (first | apply Kd.R_alloc | apply Kd.R_drewN | apply Kd.R_drew)); (first | exact HO_5.out | exact Kd.R_after (Kd.R_drewN HO_5.out _) (Kd.R_putg (Kd.R_drewN HO_7.out _) _ _).2 (.inl rfl))⟩, ⟨by (with_reducible repeat (first | apply Kd.R_alloc | apply Kd.R_drewN | apply Kd.R_drew)); (first | exact HO_6.out | exact Kd.R_after (Kd.R_drewN HO_6.out _) (Kd.R_putg (Kd.R_drewN HO_7.out _) _ _).2 (.inl rfl))⟩, ⟨by (with_reducible repeat (first | apply Kd.R_alloc | apply Kd.R_drewN | apply Kd.R_drew)); (first | exact HO_7.out | (rw [Ny246.out]; exact (Kd.R_putg (Kd.R_drewN HO_7.out _) _ _).1))⟩, ⟨by (first | exact BK227.out | exact blk_grown (blk_drewN BK227.out _) (Kd.R_putg (Kd.R_drewN HO_7.out _) _ _).2 (Kd.R_ne (Kd.R_drewN HO_7.out 0) (blk_drewN BK227.out 0) (by decide)))⟩, ⟨by first | exact HB.out | exact below_set (pw_below_drewN HB.out _) GB20.out⟩⟩
             ·rw [if_neg c19] at H
              exact absurd H (by simp)
            ·rw [if_neg c18] at H
             exact absurd H (by simp)
           ·rw [if_neg c17] at H
            exact absurd H (by simp)
          ·rw [if_neg c16] at H
           exact absurd H (by simp)
         ·rw [if_neg c15] at H
          exact absurd H (by simp)
        ·rw [if_neg c14] at H
         exact absurd H (by simp)
       ·rw [if_neg c12] at H
        have c12b0 : decide (x10_2 < 4) = false := decide_eq_false c12
        clear c12
        obtain ⟨ji26, hji26⟩ : ∃ j_ : Int, (wrap64 (x8_1 + 4)) = j_ := ⟨_, rfl⟩
        replace H : (if 0 ≤ (ji26) then (if (ji26) < (x7_2.length : Int) then (overfallref01_Mul.l0 k2 t228 t231 (x7_2.set ((ji26) : Int).toNat (wrap64 ((rd x7_2 (ji26)) + x9_2))) (wrap64 (x8_1 + 1))) else (none)) else (none)) = some (r1, r2) := by first | (rw [hji26] at H; exact H) | (simp only [hji26] at H ⊢; exact H)
        have hji26w : (IntKind.i64.wrap (x8_1 + 4)) = ji26 := (i64_w _).trans hji26
        by_cases c27 : 0 ≤ (ji26)
        ·rw [if_pos c27] at H
         have c27b0 : decide (0 ≤ (ji26)) = true := decide_eq_true c27
         clear c27
         by_cases c28 : (ji26) < (x7_2.length : Int)
         ·rw [if_pos c28] at H
          have c28b0 : decide ((ji26) < (x7_2.length : Int)) = true := decide_eq_true c28
          clear c28
          obtain ⟨y248, hy248⟩ : ∃ y_ : List Int, y_ = (x7_2.set ((ji26) : Int).toNat (wrap64 ((rd x7_2 (ji26)) + x9_2))) := ⟨_, rfl⟩
          replace H : (overfallref01_Mul.l0 k2 t228 t231 y248 (wrap64 (x8_1 + 1))) = some (r1, r2) := by first | (rw [hy248]; with_reducible exact H) | (have H2_ := (Option.bind_some _ _).symm.trans H; rw [hy248]; with_reducible exact H2_) | (have H2_ := (Option.bind_some _ _).symm.trans H; with_reducible exact H2_) | with_reducible exact H | (rw [hy248]; exact H) | exact H
          have Ny248 := Aside0.mk hy248
          clear hy248
          have H' := Aside0.mk H
          clear H
          obtain ⟨Ao30, co30, eo30⟩ := Kd.R_slice HO_7.out
          subst eo30
          have p247 : 0 ≤ ((ji26) : Int) := of_decide_eq_true (by first | (with_reducible assumption) | assumption)
          have q247 : (ji26) < (x7_2.length : Int) := of_decide_eq_true (by first | (with_reducible assumption) | assumption)
          obtain ⟨ad247, e247, hx247_0⟩ := Kd.at_int (Kd.R_reads' HO_7.out).2.2 (ji26) p247 q247
          cases e247
          replace p247 := eq_true p247
          replace q247 := eq_true q247
          have p29 : 0 ≤ ((ji26) : Int) := of_decide_eq_true (by first | (with_reducible assumption) | assumption)
          have q29 : ((ji26) : Int) < ((x7_2.length : Int) : Int) := of_decide_eq_true (by first | (with_reducible assumption) | assumption)
          obtain ⟨go29, co29, eo29, gb29, gl29, cl29, HG29⟩ := Kd.R_form HO_7.out (by omega)
          (first | cases eo29 | (injection eo29 with ea_ en_ ec_; (first | subst ea_ | (injection ea_ with ea_; subst ea_)); subst ec_; clear en_))
          have GB29 := Aside0.mk gb29
          have GG29 := Aside0.mk HG29
          clear gb29 gl29 HG29
          (first | simp only [add_plain] at hx247_0 | skip)
          obtain ⟨hx29_0, hf29_0⟩ := Kd.R_celln 0 HO_7.out ((ji26) : Int) p29 q29
          replace p29 := eq_true p29
          replace q29 := eq_true q29
          have HP31 := Kd.R_putg HO_7.out ((ji26) : Int) (wrap64 ((rd x7_2 (ji26)) + x9_2))
          go_wp2_with (first | ((with_reducible refine gate_store (t := 3) (p := 61) rfl ?_); (try (rw [drewN_self wr]; generalize hq_ : World.drewN wr _ = wr; have n0_ := Aside0.mk (Kd.R_at hq_ HO_5.out); have n1_ := Aside0.mk (Kd.R_at hq_ HO_6.out); have n2_ := Aside0.mk (Kd.R_at hq_ HO_7.out); have n3_ := Aside0.mk (blk_at hq_ BK227.out); have n4_ := Aside0.mk (below_at hq_ HB.out); clear hq_ HO_5 HO_6 HO_7 BK227 HB; have HO_5 := n0_; have HO_6 := n1_; have HO_7 := n2_; have BK227 := n3_; have HB := n4_; clear n0_ n1_ n2_ n3_ n4_; (try (have HP31 := Kd.R_putg HO_7.out ((ji26) : Int) (wrap64 ((rd x7_2 (ji26)) + x9_2)))))); refine store_event (t := 3) (p := 61) (v := ?vo_w32) (w1 := (wr.setCell ⟨go29, ((ji26) : Int).toNat, none⟩ (.int .i64 (wrap64 ((rd x7_2 (ji26)) + x9_2))))) ?hg ?ho ?hn ?hr ?_; (case ho => rfl); (case hg => rfl); (case hn => rfl); (case hr => first | (go_simp; done) | (go_simp; rfl)); intro w32 hw; have hg : wr.grownBy w32 (some go29) := (by rw [hw]; exact HP31.2); have hp_ : Kd.R (Kd.int .i64) 3 w32 w.heap.size (fun k_ => some k_ ≠ (v229 : Value).ownBlock ∧ some k_ ≠ (v232 : Value).ownBlock) (.slice (some ⟨go29, 0, none⟩) x7_2.length co30) y248 := (by rw [hw, Ny248.out]; exact HP31.1); clear HP31; have n0_ := Aside0.mk (Kd.R_after (v := (.slice (some ⟨go29, 0, none⟩) x7_2.length co30)) (v1 := (.slice (some ⟨go29, 0, none⟩) x7_2.length co30)) (ok := (fun k_ => some k_ ≠ (v232 : Value).ownBlock)) (by (with_reducible repeat (first | apply Kd.R_alloc | apply Kd.R_drewN | apply Kd.R_drew)); exact HO_5.out) hg (.inl rfl)); have n1_ := Aside0.mk (Kd.R_after (v := (.slice (some ⟨go29, 0, none⟩) x7_2.length co30)) (v1 := (.slice (some ⟨go29, 0, none⟩) x7_2.length co30)) (ok := (fun k_ => some k_ ≠ (v229 : Value).ownBlock)) (by (with_reducible repeat (first | apply Kd.R_alloc | apply Kd.R_drewN | apply Kd.R_drew)); exact HO_6.out) hg (.inl rfl)); have n2_ := Aside0.mk (hp_); have n3_ := Aside0.mk (blk_grown (by exact BK227.out) hg (Kd.R_ne HO_7.out BK227.out (by decide))); have n4_ := Aside0.mk ((by rw [hw]; exact below_set (HB.out) GB29.out : Below w.heap.size w w32)); clear HO_5; clear HO_6; clear HO_7; clear BK227; clear HB; have HO_5 := n0_; have HO_6 := n1_; have HO_7 := n2_; have BK227 := n3_; have HB := n4_; clear n0_ n1_ n2_ n3_ n4_; clear hg hw hp_))
          repeat (go_quiet (first | ((with_reducible refine gate_store (t := 3) (p := 61) rfl ?_); (try (rw [drewN_self wr]; generalize hq_ : World.drewN wr _ = wr; have n0_ := Aside0.mk (Kd.R_at hq_ HO_5.out); have n1_ := Aside0.mk (Kd.R_at hq_ HO_6.out); have n2_ := Aside0.mk (Kd.R_at hq_ HO_7.out); have n3_ := Aside0.mk (blk_at hq_ BK227.out); have n4_ := Aside0.mk (below_at hq_ HB.out); clear hq_ HO_5 HO_6 HO_7 BK227 HB; have HO_5 := n0_; have HO_6 := n1_; have HO_7 := n2_; have BK227 := n3_; have HB := n4_; clear n0_ n1_ n2_ n3_ n4_; (try (have HP31 := Kd.R_putg HO_7.out ((ji26) : Int) (wrap64 ((rd x7_2 (ji26)) + x9_2)))))); refine store_event (t := 3) (p := 61) (v := ?vo_w32) (w1 := (wr.setCell ⟨go29, ((ji26) : Int).toNat, none⟩ (.int .i64 (wrap64 ((rd x7_2 (ji26)) + x9_2))))) ?hg ?ho ?hn ?hr ?_; (case ho => rfl); (case hg => rfl); (case hn => rfl); (case hr => first | (go_simp; done) | (go_simp; rfl)); intro w32 hw; have hg : wr.grownBy w32 (some go29) := (by rw [hw]; exact HP31.2); have hp_ : Kd.R (Kd.int .i64) 3 w32 w.heap.size (fun k_ => some k_ ≠ (v229 : Value).ownBlock ∧ some k_ ≠ (v232 : Value).ownBlock) (.slice (some ⟨go29, 0, none⟩) x7_2.length co30) y248 := (by rw [hw, Ny248.out]; exact HP31.1); clear HP31; have n0_ := Aside0.mk (Kd.R_after (v := (.slice (some ⟨go29, 0, none⟩) x7_2.length co30)) (v1 := (.slice (some ⟨go29, 0, none⟩) x7_2.length co30)) (ok := (fun k_ => some k_ ≠ (v232 : Value).ownBlock)) (by (with_reducible repeat (first | apply Kd.R_alloc | apply Kd.R_drewN | apply Kd.R_drew)); exact HO_5.out) hg (.inl rfl)); have n1_ := Aside0.mk (Kd.R_after (v := (.slice (some ⟨go29, 0, none⟩) x7_2.length co30)) (v1 := (.slice (some ⟨go29, 0, none⟩) x7_2.length co30)) (ok := (fun k_ => some k_ ≠ (v229 : Value).ownBlock)) (by (with_reducible repeat (first | apply Kd.R_alloc | apply Kd.R_drewN | apply Kd.R_drew)); exact HO_6.out) hg (.inl rfl)); have n2_ := Aside0.mk (hp_); have n3_ := Aside0.mk (blk_grown (by exact BK227.out) hg (Kd.R_ne HO_7.out BK227.out (by decide))); have n4_ := Aside0.mk ((by rw [hw]; exact below_set (HB.out) GB29.out : Below w.heap.size w w32)); clear HO_5; clear HO_6; clear HO_7; clear BK227; clear HB; have HO_5 := n0_; have HO_6 := n1_; have HO_7 := n2_; have BK227 := n3_; have HB := n4_; clear n0_ n1_ n2_ n3_ n4_; clear hg hw hp_)); try go_wp2_with (first | ((with_reducible refine gate_store (t := 3) (p := 61) rfl ?_); (try (rw [drewN_self wr]; generalize hq_ : World.drewN wr _ = wr; have n0_ := Aside0.mk (Kd.R_at hq_ HO_5.out); have n1_ := Aside0.mk (Kd.R_at hq_ HO_6.out); have n2_ := Aside0.mk (Kd.R_at hq_ HO_7.out); have n3_ := Aside0.mk (blk_at hq_ BK227.out); have n4_ := Aside0.mk (below_at hq_ HB.out); clear hq_ HO_5 HO_6 HO_7 BK227 HB; have HO_5 := n0_; have HO_6 := n1_; have HO_7 := n2_; have BK227 := n3_; have HB := n4_; clear n0_ n1_ n2_ n3_ n4_; (try (have HP31 := Kd.R_putg HO_7.out ((ji26) : Int) (wrap64 ((rd x7_2 (ji26)) + x9_2)))))); refine store_event (t := 3) (p := 61) (v := ?vo_w32) (w1 := (wr.setCell ⟨go29, ((ji26) : Int).toNat, none⟩ (.int .i64 (wrap64 ((rd x7_2 (ji26)) + x9_2))))) ?hg ?ho ?hn ?hr ?_; (case ho => rfl); (case hg => rfl); (case hn => rfl); (case hr => first | (go_simp; done) | (go_simp; rfl)); intro w32 hw; have hg : wr.grownBy w32 (some go29) := (by rw [hw]; exact HP31.2); have hp_ : Kd.R (Kd.int .i64) 3 w32 w.heap.size (fun k_ => some k_ ≠ (v229 : Value).ownBlock ∧ some k_ ≠ (v232 : Value).ownBlock) (.slice (some ⟨go29, 0, none⟩) x7_2.length co30) y248 := (by rw [hw, Ny248.out]; exact HP31.1); clear HP31; have n0_ := Aside0.mk (Kd.R_after (v := (.slice (some ⟨go29, 0, none⟩) x7_2.length co30)) (v1 := (.slice (some ⟨go29, 0, none⟩) x7_2.length co30)) (ok := (fun k_ => some k_ ≠ (v232 : Value).ownBlock)) (by (with_reducible repeat (first | apply Kd.R_alloc | apply Kd.R_drewN | apply Kd.R_drew)); exact HO_5.out) hg (.inl rfl)); have n1_ := Aside0.mk (Kd.R_after (v := (.slice (some ⟨go29, 0, none⟩) x7_2.length co30)) (v1 := (.slice (some ⟨go29, 0, none⟩) x7_2.length co30)) (ok := (fun k_ => some k_ ≠ (v229 : Value).ownBlock)) (by (with_reducible repeat (first | apply Kd.R_alloc | apply Kd.R_drewN | apply Kd.R_drew)); exact HO_6.out) hg (.inl rfl)); have n2_ := Aside0.mk (hp_); have n3_ := Aside0.mk (blk_grown (by exact BK227.out) hg (Kd.R_ne HO_7.out BK227.out (by decide))); have n4_ := Aside0.mk ((by rw [hw]; exact below_set (HB.out) GB29.out : Below w.heap.size w w32)); clear HO_5; clear HO_6; clear HO_7; clear BK227; clear HB; have HO_5 := n0_; have HO_6 := n1_; have HO_7 := n2_; have BK227 := n3_; have HB := n4_; clear n0_ n1_ n2_ n3_ n4_; clear hg hw hp_)))
          go_roundg k2
          case measure => have := HK1.out; have := HK2.out; omega
          case rel => exact ⟨(y248), (wrap64 (x8_1 + 1)), (by first | rfl | (simp; done) | (simp [*]; done)), H', ⟨by have := HK1.out; have := HK2.out; omega⟩, ⟨by (with_reducible repeat (first | apply Kd.R_alloc | apply Kd.R_drewN | apply Kd.R_drew)); exact HO_5.out⟩, ⟨by (with_reducible repeat (first | apply Kd.R_alloc | apply Kd.R_drewN | apply Kd.R_drew)); exact HO_6.out⟩, ⟨by (with_reducible repeat (first | apply Kd.R_alloc | apply Kd.R_drewN | apply Kd.R_drew)); exact HO_7.out⟩, ⟨by exact BK227.out⟩, ⟨by repeat (first | (with_reducible first | exact HB.out | apply below_alloc | apply pw_below_drewN | apply below_drew1 | refine below_set ?_ GE227.out) | exact HB.out)⟩⟩
         ·rw [if_neg c28] at H
          exact absurd H (by simp)
        ·rw [if_neg c27] at H
         exact absurd H (by simp)
    ·rw [if_neg c11] at H
     have c11b0 : decide (x8_1 < 4) = false := decide_eq_false c11
     clear c11
     by_cases c33 : 8 ≤ (x7_1.length : Int)
     ·rw [if_pos c33] at H
      have c33b0 := eq_true c33
      have c33b1 : decide (8 ≤ (x7_1.length : Int)) = true := decide_eq_true c33
      clear c33
      obtain ⟨y237, hy237⟩ : ∃ y_ : List Int, y_ = (x7_1.take 8) := ⟨_, rfl⟩
      replace H : ((overfallref01_Value.f k1 y237).bind fun bt241 => (some (bt241.1, bt241.2))) = some (r1, r2) := by first | (rw [hy237]; with_reducible exact H) | (have H2_ := (Option.bind_some _ _).symm.trans H; rw [hy237]; with_reducible exact H2_) | (have H2_ := (Option.bind_some _ _).symm.trans H; with_reducible exact H2_) | with_reducible exact H | (rw [hy237]; exact H) | exact H
      have Ny237 := Aside0.mk hy237
      clear hy237
      replace H := Option.bind_eq_some_iff.mp H
      obtain ⟨⟨t241, t242⟩, A340, H⟩ := H
      replace H : (some (t241, t242)) = some (r1, r2) := H
      have A34 := Aside0.mk A340
      clear A340
      simp only [Option.some.injEq, Prod.mk.injEq] at H
      obtain ⟨rfl, rfl⟩ := H
      obtain ⟨Ao36, co36, eo36⟩ := Kd.R_slice HO_7.out
      subst eo36
      have q35 : (8 : Int) ≤ ((x7_1.length : Int) : Int) := of_decide_eq_true (by first | (with_reducible assumption) | assumption)
      obtain ⟨i035, hi035, _, hsz35, _⟩ := info_parts info3
      have hroom35 : x7_1.length ≤ co36 := (Kd.R_reads' HO_7.out).2.1
      have hC35 : Kd.C (Kd.int .i64) _ Ao36 x7_1.length x7_1 := (Kd.R_reads' HO_7.out).2.2
      have hcut35 := cut_to (P := Try.prog) 64 3 .i64 Try.underlying64 hi035 Ao36 x7_1.length co36 8 (by omega) q35 hroom35
      have hr35 := Kd.C_take (m := 8) hC35 (by omega)
      have hy35 : y237.length = (8 : Int).toNat := (by rw [Ny237.out, List.length_take]; omega)
      rw [← Ny237.out] at hr35
      rw [← hy35] at hcut35
      have HR240 := Aside0.mk hr35
      have HC240 := Aside0.mk (show y237.length ≤ co36 from by omega)
      clear hr35 hC35 hroom35 hi035 hsz35
      have KY35 := Aside0.mk hy35
      clear hy35
      have KL35 := Aside0.mk (show 8 ≤ x7_1.length from by omega)
      replace q35 := eq_true q35
      go_wp2_with (first | (go_at_call 35; (with_reducible refine (overfallref01_Value.calls k1 _ _ y237 t241 t242 _ ?side1 ?side2 A34.out).mono ?_); (case side1 => repeat (first | exact (by repeat (first | (with_reducible exact HR240.out) | (with_reducible refine Kd.C_alloc ?_ _) | (with_reducible refine Kd.C_drewN ?_ _) | (with_reducible refine Kd.C_drew ?_) | exact HR240.out)) | (with_reducible refine Kd.C_alloc ?_ _) | (with_reducible refine Kd.C_drewN ?_ _) | (with_reducible refine Kd.C_drew ?_))); (case side2 => exact HC240.out); rintro e w37 ⟨rfl, hb⟩; have n0_ := Aside0.mk (Kd.R_below (by (with_reducible repeat (first | apply Kd.R_alloc | apply Kd.R_drewN | apply Kd.R_drew)); exact HO_5.out) hb); have n1_ := Aside0.mk (Kd.R_below (by (with_reducible repeat (first | apply Kd.R_alloc | apply Kd.R_drewN | apply Kd.R_drew)); exact HO_6.out) hb); have n2_ := Aside0.mk (Kd.R_below (by (with_reducible repeat (first | apply Kd.R_alloc | apply Kd.R_drewN | apply Kd.R_drew)); exact HO_7.out) hb); have n3_ := Aside0.mk (blk_below (by exact BK227.out) hb); have n4_ := Aside0.mk (Kd.C_below (by repeat (first | (with_reducible exact HR240.out) | (with_reducible refine Kd.C_alloc ?_ _) | (with_reducible refine Kd.C_drewN ?_ _) | (with_reducible refine Kd.C_drew ?_) | exact HR240.out)) hb); have n5_ := Aside0.mk (below_step (by repeat (first | (with_reducible first | exact HB.out | apply below_alloc | apply pw_below_drewN | apply below_drew1 | refine below_set ?_ GE227.out) | exact HB.out)) hb); clear HO_5; clear HO_6; clear HO_7; clear BK227; clear HR240; clear HB; have HO_5 := n0_; have HO_6 := n1_; have HO_7 := n2_; have BK227 := n3_; have HR240 := n4_; have HB := n5_; clear n0_ n1_ n2_ n3_ n4_ n5_; (try clear hb); (try clear hb2); (try clear hk); (try clear hi); have hcz38_0 : w37.cell? ⟨gb227, 0, none⟩ = some (.int .u64 0) := (blk_cell BK227.out 0).trans rfl; have hcz38_1 : w37.cell? ⟨gb227, 1, none⟩ = some (.int .u64 0) := (blk_cell BK227.out 1).trans rfl; have hfz38_0 := blk_frozen BK227.out 0; have hfz38_1 := blk_frozen BK227.out 1))
      repeat (go_quiet (first | (go_at_call 35; (with_reducible refine (overfallref01_Value.calls k1 _ _ y237 t241 t242 _ ?side1 ?side2 A34.out).mono ?_); (case side1 => repeat (first | exact (by repeat (first | (with_reducible exact HR240.out) | (with_reducible refine Kd.C_alloc ?_ _) | (with_reducible refine Kd.C_drewN ?_ _) | (with_reducible refine Kd.C_drew ?_) | exact HR240.out)) | (with_reducible refine Kd.C_alloc ?_ _) | (with_reducible refine Kd.C_drewN ?_ _) | (with_reducible refine Kd.C_drew ?_))); (case side2 => exact HC240.out); rintro e w37 ⟨rfl, hb⟩; have n0_ := Aside0.mk (Kd.R_below (by (with_reducible repeat (first | apply Kd.R_alloc | apply Kd.R_drewN | apply Kd.R_drew)); exact HO_5.out) hb); have n1_ := Aside0.mk (Kd.R_below (by (with_reducible repeat (first | apply Kd.R_alloc | apply Kd.R_drewN | apply Kd.R_drew)); exact HO_6.out) hb); have n2_ := Aside0.mk (Kd.R_below (by (with_reducible repeat (first | apply Kd.R_alloc | apply Kd.R_drewN | apply Kd.R_drew)); exact HO_7.out) hb); have n3_ := Aside0.mk (blk_below (by exact BK227.out) hb); have n4_ := Aside0.mk (Kd.C_below (by repeat (first | (with_reducible exact HR240.out) | (with_reducible refine Kd.C_alloc ?_ _) | (with_reducible refine Kd.C_drewN ?_ _) | (with_reducible refine Kd.C_drew ?_) | exact HR240.out)) hb); have n5_ := Aside0.mk (below_step (by repeat (first | (with_reducible first | exact HB.out | apply below_alloc | apply pw_below_drewN | apply below_drew1 | refine below_set ?_ GE227.out) | exact HB.out)) hb); clear HO_5; clear HO_6; clear HO_7; clear BK227; clear HR240; clear HB; have HO_5 := n0_; have HO_6 := n1_; have HO_7 := n2_; have BK227 := n3_; have HR240 := n4_; have HB := n5_; clear n0_ n1_ n2_ n3_ n4_ n5_; (try clear hb); (try clear hb2); (try clear hk); (try clear hi); have hcz38_0 : w37.cell? ⟨gb227, 0, none⟩ = some (.int .u64 0) := (blk_cell BK227.out 0).trans rfl; have hcz38_1 : w37.cell? ⟨gb227, 1, none⟩ = some (.int .u64 0) := (blk_cell BK227.out 1).trans rfl; have hfz38_0 := blk_frozen BK227.out 0; have hfz38_1 := blk_frozen BK227.out 1)); try go_wp2_with (first | (go_at_call 35; (with_reducible refine (overfallref01_Value.calls k1 _ _ y237 t241 t242 _ ?side1 ?side2 A34.out).mono ?_); (case side1 => repeat (first | exact (by repeat (first | (with_reducible exact HR240.out) | (with_reducible refine Kd.C_alloc ?_ _) | (with_reducible refine Kd.C_drewN ?_ _) | (with_reducible refine Kd.C_drew ?_) | exact HR240.out)) | (with_reducible refine Kd.C_alloc ?_ _) | (with_reducible refine Kd.C_drewN ?_ _) | (with_reducible refine Kd.C_drew ?_))); (case side2 => exact HC240.out); rintro e w37 ⟨rfl, hb⟩; have n0_ := Aside0.mk (Kd.R_below (by (with_reducible repeat (first | apply Kd.R_alloc | apply Kd.R_drewN | apply Kd.R_drew)); exact HO_5.out) hb); have n1_ := Aside0.mk (Kd.R_below (by (with_reducible repeat (first | apply Kd.R_alloc | apply Kd.R_drewN | apply Kd.R_drew)); exact HO_6.out) hb); have n2_ := Aside0.mk (Kd.R_below (by (with_reducible repeat (first | apply Kd.R_alloc | apply Kd.R_drewN | apply Kd.R_drew)); exact HO_7.out) hb); have n3_ := Aside0.mk (blk_below (by exact BK227.out) hb); have n4_ := Aside0.mk (Kd.C_below (by repeat (first | (with_reducible exact HR240.out) | (with_reducible refine Kd.C_alloc ?_ _) | (with_reducible refine Kd.C_drewN ?_ _) | (with_reducible refine Kd.C_drew ?_) | exact HR240.out)) hb); have n5_ := Aside0.mk (below_step (by repeat (first | (with_reducible first | exact HB.out | apply below_alloc | apply pw_below_drewN | apply below_drew1 | refine below_set ?_ GE227.out) | exact HB.out)) hb); clear HO_5; clear HO_6; clear HO_7; clear BK227; clear HR240; clear HB; have HO_5 := n0_; have HO_6 := n1_; have HO_7 := n2_; have BK227 := n3_; have HR240 := n4_; have HB := n5_; clear n0_ n1_ n2_ n3_ n4_ n5_; (try clear hb); (try clear hb2); (try clear hk); (try clear hi); have hcz38_0 : w37.cell? ⟨gb227, 0, none⟩ = some (.int .u64 0) := (blk_cell BK227.out 0).trans rfl; have hcz38_1 : w37.cell? ⟨gb227, 1, none⟩ = some (.int .u64 0) := (blk_cell BK227.out 1).trans rfl; have hfz38_0 := blk_frozen BK227.out 0; have hfz38_1 := blk_frozen BK227.out 1)))
      refine bodyPost_ret (results_cell_row rfl _ _ gb227 50 #[.int .u64 t241, .int .u64 t242] (0, 0) _ rfl (by refine blk_put (cs := #[.int .u64 t241, .int .u64 0]) ?_ 1 _ rfl; refine blk_put (cs := #[.int .u64 0, .int .u64 0]) ?_ 0 _ rfl; exact BK227.out) Try.underlying50 rfl (by kernel_rfl)) rfl ?_
      exact ⟨by first | rfl | (simp [errW_none, errW_some] <;> rfl) | (simp [*, errW_none, errW_some] <;> rfl), by repeat (first | (with_reducible first | exact HB.out | apply below_alloc | apply pw_below_drewN | apply below_drew1 | refine below_set ?_ GE227.out) | exact HB.out)⟩
     ·rw [if_neg c33] at H
      exact absurd H (by simp)
 ·rw [if_neg c5] at H
  exact absurd H (by simp)

/-! ### overfallref01_Add: function 23 -/
def overfallref01_Add.l0 : Nat → List Int → List Int → Int → Int → Option (Int × Int × Bool)
 | 0, _, _, _, _ => none
 | k + 1, x6, x7, x8, x9 => if x9 < 8 then (if 0 ≤ x9 then (if x9 < (x6.length : Int) then (if x9 < (x7.length : Int) then (overfallref01_Add.l0 k (x6.set (x9 : Int).toNat (Int.tmod (wrap64 ((wrap64 ((rd x6 x9) + (rd x7 x9))) + x8)) 65536)) x7 (wrap64 (Int.tdiv (wrap64 ((wrap64 ((rd x6 x9) + (rd x7 x9))) + x8)) 65536)) (wrap64 (x9 + 1))) else (none)) else (none)) else (none)) else ((overfallref01_Value.f k x6).bind fun bt261 => (some (bt261.1, bt261.2, decide (x8 > 0))))
def overfallref01_Add.f (k : Nat) (a0_0 : Int) (a0_1 : Int) (a1_0 : Int) (a1_1 : Int) : Option (Int × Int × Bool) := (overfallref01_Digits.f k a0_0 a0_1).bind fun t252 => ((overfallref01_Digits.f k a1_0 a1_1).bind fun t255 => (overfallref01_Add.l0 k t252 t255 0 0))
theorem overfallref01_Add.mono_l : ∀ k, (∀ y0 y1 y2 y3, LeO (overfallref01_Add.l0 k y0 y1 y2 y3) (overfallref01_Add.l0 (k + 1) y0 y1 y2 y3))
 | 0 => fun _ _ _ _ r h => by simp [overfallref01_Add.l0] at h
 | k + 1 => by
  have ih0 := overfallref01_Add.mono_l k
  ·intro y0 y1 y2 y3
   unfold overfallref01_Add.l0
   repeat' first
   | (with_reducible exact ih0 _ _ _ _)
   | (with_reducible exact overfallref01_Digits.mono _ _ _)
   | (with_reducible exact overfallref01_Value.mono _ _)
   | (with_reducible exact LeO.refl _)
   | (with_reducible exact LeO.none _)
   | (with_reducible refine LeO.ite ?_ ?_)
   | (with_reducible refine LeO.bind ?_ (fun _ => ?_))
   | exact ih0 _ _ _ _
   | exact overfallref01_Digits.mono _ _ _
   | exact overfallref01_Value.mono _ _
   | exact LeO.none _
   | refine LeO.ite ?_ ?_
   | refine LeO.bind ?_ (fun _ => ?_)
theorem overfallref01_Add.mono : ∀ a0 a1 a2 a3 k, LeO (overfallref01_Add.f k a0 a1 a2 a3) (overfallref01_Add.f (k + 1) a0 a1 a2 a3) := by
 intro a0 a1 a2 a3 k
 have ih0 := overfallref01_Add.mono_l k
 unfold overfallref01_Add.f
 repeat' first
   | (with_reducible exact ih0 _ _ _ _)
   | (with_reducible exact overfallref01_Digits.mono _ _ _)
   | (with_reducible exact overfallref01_Value.mono _ _)
   | (with_reducible exact LeO.refl _)
   | (with_reducible exact LeO.none _)
   | (with_reducible refine LeO.ite ?_ ?_)
   | (with_reducible refine LeO.bind ?_ (fun _ => ?_))
   | exact ih0 _ _ _ _
   | exact overfallref01_Digits.mono _ _ _
   | exact overfallref01_Value.mono _ _
   | exact LeO.none _
   | refine LeO.ite ?_ ?_
   | refine LeO.bind ?_ (fun _ => ?_)
def overfallref01_Add.T6 : Bool × List (List Nat × List Nat) := (true, [([], []), ([], []), ([0, 1], [0, 1]), ([2], [2]), ([], []), ([], []), ([4, 5], [4, 5]), ([6], [6]), ([3, 7], [3, 7]), ([], []), ([8, 9], [8, 9]), ([10, 0, 1, 2, 3, 4, 5, 6, 7, 8, 9, 10], [10])])
def overfallref01_Add.B6 : List Nat := [0, 0, 3, 7, 0, 0, 48, 112, 255, 0, 1023, 2047]
theorem overfallref01_Add.tab6 : rtab .any (opsOf Try.f23 6) = overfallref01_Add.T6 := by kernel_rfl
theorem overfallref01_Add.bits6 : waitsOk overfallref01_Add.T6.2 overfallref01_Add.B6 = true := by kernel_rfl
set_option maxHeartbeats 8000000 in
set_option maxRecDepth 100000 in
theorem overfallref01_Add.calls (k : Nat) (a0_0 : Int) (a0_1 : Int) (a1_0 : Int) (a1_1 : Int) (r1 : Int) (r2 : Int) (r3 : Bool) (w : World) (h : overfallref01_Add.f k a0_0 a0_1 a1_0 a1_1 = some (r1, r2, r3)) :
  Calls Try.prog 23 #[.agg #[.int .u64 a0_0, .int .u64 a0_1], .agg #[.int .u64 a1_0, .int .u64 a1_1]] w fun e w' => e = .returned (.tuple #[.agg #[.int .u64 r1, .int .u64 r2], .bool r3]) ∧ Below w.heap.size w w' := by
 have hu50 := Try.underlying50
 have HB := Aside0.mk (Below.refl w.heap.size w)
 have H : ((overfallref01_Digits.f k a0_0 a0_1).bind fun t252 => ((overfallref01_Digits.f k a1_0 a1_1).bind fun t255 => (overfallref01_Add.l0 k t252 t255 0 0))) = some (r1, r2, r3) := h
 clear h
 replace H := Option.bind_eq_some_iff.mp H
 obtain ⟨t252, A30, H⟩ := H
 replace H : ((overfallref01_Digits.f k a1_0 a1_1).bind fun t255 => (overfallref01_Add.l0 k t252 t255 0 0)) = some (r1, r2, r3) := H
 have A3 := Aside0.mk A30
 clear A30
 replace H := Option.bind_eq_some_iff.mp H
 obtain ⟨t255, A40, H⟩ := H
 replace H : (overfallref01_Add.l0 k t252 t255 0 0) = some (r1, r2, r3) := H
 have A4 := Aside0.mk A40
 clear A40
 have H' := Aside0.mk H
 clear H
 go_enter Try.func23, Try.ntmps23
 try go_wp2_with (first | ((with_reducible refine gate_dst (N := 2) rfl ?_); refine box_event ?hg (N := 2) ?hd (cs := #[.int .u64 a0_0, .int .u64 a0_1]) (t := 50) ?hr ?_; (case hd => rfl); (case hg => rfl); (case hr => first | (go_simp; done) | (go_simp; rfl)); intro gb249 hg w5 hbox hb; have n0_ := Aside0.mk (below_step (by repeat (first | (with_reducible first | exact HB.out | apply below_alloc | apply pw_below_drewN | apply below_drew1) | exact HB.out)) hb); have n1_ := Aside0.mk (hbox); have n2_ := Aside0.mk ((by rw [hg]; exact (below_size (by repeat (first | (with_reducible first | exact HB.out | apply below_alloc | apply pw_below_drewN | apply below_drew1) | exact HB.out))) : w.heap.size ≤ gb249)); have n3_ := Aside0.mk ((by rw [hg]; exact (below_size (by repeat (first | (with_reducible first | exact HB.out | apply below_alloc | apply pw_below_drewN | apply below_drew1) | exact HB.out))) : w.heap.size ≤ gb249)); clear HB; have HB := n0_; have BK249 := n1_; have GW249 := n2_; have GE249 := n3_; clear n0_ n1_ n2_ n3_; clear hb hbox hg) | ((with_reducible refine gate_dst (N := 3) rfl ?_); refine box_event ?hg (N := 3) ?hd (cs := #[.int .u64 a1_0, .int .u64 a1_1]) (t := 50) ?hr ?_; (case hd => rfl); (case hg => rfl); (case hr => first | (go_simp; done) | (go_simp; rfl)); intro gb250 hg w6 hbox hb; have n0_ := Aside0.mk (blk_below (by exact BK249.out) hb); have n1_ := Aside0.mk (below_step (by repeat (first | (with_reducible first | exact HB.out | apply below_alloc | apply pw_below_drewN | apply below_drew1 | refine below_set ?_ GE249.out) | exact HB.out)) hb); have n2_ := Aside0.mk (hbox); have n3_ := Aside0.mk ((by rw [hg]; exact (below_size (by repeat (first | (with_reducible first | exact HB.out | apply below_alloc | apply pw_below_drewN | apply below_drew1 | refine below_set ?_ GE249.out) | exact HB.out))) : w.heap.size ≤ gb250)); have n4_ := Aside0.mk ((by rw [hg]; exact (below_size (by repeat (first | (with_reducible first | exact HB.out | apply below_alloc | apply pw_below_drewN | apply below_drew1 | refine below_set ?_ GE249.out) | exact HB.out))) : w.heap.size ≤ gb250)); have n5_ := Aside0.mk ((by rw [hg]; exact Nat.ne_of_lt (blk_lt (by exact BK249.out)) : gb249 ≠ gb250)); have n6_ := Aside0.mk ((by rw [hg]; exact Nat.ne_of_gt (blk_lt (by exact BK249.out)) : gb250 ≠ gb249)); clear BK249; clear HB; have BK249 := n0_; have HB := n1_; have BK250 := n2_; have GW250 := n3_; have GE250 := n4_; have NB249_250 := n5_; have NB250_249 := n6_; clear n0_ n1_ n2_ n3_ n4_ n5_ n6_; clear hb hbox hg) | ((with_reducible refine gate_dst (N := 4) rfl ?_); refine box_event ?hg (N := 4) ?hd (cs := #[.int .u64 0, .int .u64 0]) (t := 50) ?hr ?_; (case hd => rfl); (case hg => rfl); (case hr => first | (go_simp; done) | (go_simp; rfl)); intro gb251 hg w7 hbox hb; have n0_ := Aside0.mk (blk_below (by exact BK249.out) hb); have n1_ := Aside0.mk (blk_below (by exact BK250.out) hb); have n2_ := Aside0.mk (below_step (by repeat (first | (with_reducible first | exact HB.out | apply below_alloc | apply pw_below_drewN | apply below_drew1 | refine below_set ?_ GE249.out | refine below_set ?_ GE250.out) | exact HB.out)) hb); have n3_ := Aside0.mk (hbox); have n4_ := Aside0.mk ((by rw [hg]; exact (below_size (by repeat (first | (with_reducible first | exact HB.out | apply below_alloc | apply pw_below_drewN | apply below_drew1 | refine below_set ?_ GE249.out | refine below_set ?_ GE250.out) | exact HB.out))) : w.heap.size ≤ gb251)); have n5_ := Aside0.mk ((by rw [hg]; exact (below_size (by repeat (first | (with_reducible first | exact HB.out | apply below_alloc | apply pw_below_drewN | apply below_drew1 | refine below_set ?_ GE249.out | refine below_set ?_ GE250.out) | exact HB.out))) : w.heap.size ≤ gb251)); have n6_ := Aside0.mk ((by rw [hg]; exact Nat.ne_of_lt (blk_lt (by exact BK249.out)) : gb249 ≠ gb251)); have n7_ := Aside0.mk ((by rw [hg]; exact Nat.ne_of_gt (blk_lt (by exact BK249.out)) : gb251 ≠ gb249)); have n8_ := Aside0.mk ((by rw [hg]; exact Nat.ne_of_lt (blk_lt (by exact BK250.out)) : gb250 ≠ gb251)); have n9_ := Aside0.mk ((by rw [hg]; exact Nat.ne_of_gt (blk_lt (by exact BK250.out)) : gb251 ≠ gb250)); clear BK249; clear BK250; clear HB; have BK249 := n0_; have BK250 := n1_; have HB := n2_; have BK251 := n3_; have GW251 := n4_; have GE251 := n5_; have NB249_251 := n6_; have NB251_249 := n7_; have NB250_251 := n8_; have NB251_250 := n9_; clear n0_ n1_ n2_ n3_ n4_ n5_ n6_ n7_ n8_ n9_; clear hb hbox hg))
 have n0_ := Aside0.mk (blk_drew BK249.out)
 have n1_ := Aside0.mk (blk_drew BK250.out)
 have n2_ := Aside0.mk (blk_drew BK251.out)
 have n3_ := Aside0.mk (below_drew1 HB.out)
 clear BK249
 clear BK250
 clear BK251
 clear HB
 have BK249 := n0_
 have BK250 := n1_
 have BK251 := n2_
 have HB := n3_
 clear n0_ n1_ n2_ n3_
 refine start_ (n := 6) (S := fun w' => w'.cell? ⟨gb249, 0, none⟩ = some (.int .u64 a0_0) ∧ w'.cell? ⟨gb249, 1, none⟩ = some (.int .u64 a0_1) ∧ w'.cell? ⟨gb250, 0, none⟩ = some (.int .u64 a1_0) ∧ w'.cell? ⟨gb250, 1, none⟩ = some (.int .u64 a1_1)) (ds := []) #[false, false, false, false, false, false] (by kernel_rfl) rfl rfl ⟨(blk_cell BK249.out 0).trans rfl, (blk_cell BK249.out 1).trans rfl, (blk_cell BK250.out 0).trans rfl, (blk_cell BK250.out 1).trans rfl⟩ (fun hHeld => ?_)
 generalize w7.drew = w8 at BK249 BK250 BK251 HB hHeld ⊢
 refine take_ (i := 0) (N := some 11) (v := ?_) (a' := ?_) #[true, false, false, false, false, false] rfl rfl (by kernel_rfl) (fun _ _ _ h => h) (Or.inl ⟨by rfl, ?_⟩) hHeld ?_ ?_
 rotate_left
 ·rintro w' ⟨s0, s1, s2, s3⟩
  go_simp
  with_reducible rfl
 rotate_left
 ·simp only [Act.put, List.setIfInBounds_toArray, List.set_cons_zero, List.set_cons_succ, i64_w, i32_w]
  rfl
 refine take_ (i := 2) (N := some 13) (v := ?_) (a' := ?_) #[true, false, true, false, false, false] rfl rfl (by kernel_rfl) (fun _ _ _ h => h) (Or.inl ⟨by rfl, ?_⟩) hHeld ?_ ?_
 rotate_left
 ·rintro w' ⟨s0, s1, s2, s3⟩
  go_simp
  with_reducible rfl
 rotate_left
 ·simp only [Act.put, List.setIfInBounds_toArray, List.set_cons_zero, List.set_cons_succ, i64_w, i32_w]
  rfl
 refine one_ (i := 1) (N := some 12) #[true, true, true, false, false, false] rfl rfl (by kernel_rfl) (by decide) (fun K hK => ?_)
 refine goes_ Try.func34 (by kernel_rfl) rfl #[.agg #[.int .u64 a0_0, .int .u64 a0_1]] (by rfl) rfl rfl (by (try simp only [List.map_toArray, List.map_cons, List.map_nil]); first | done | rfl | (simp only [List.length_drop, List.length_take]; rfl)) ?_
 with_reducible refine (overfallref01_Digits.calls k a0_0 a0_1 t252 _ A3.out).mono ?_
 rintro e w9 ⟨v253, rfl, ho0, hb⟩
 refine ⟨_, rfl, ?_⟩
 have n0_ := Aside0.mk (Kd.R_lower ho0 (below_size (by repeat (first | (with_reducible first | exact HB.out | apply below_alloc | apply pw_below_drewN | apply below_drew1 | refine below_set ?_ GE249.out | refine below_set ?_ GE250.out | refine below_set ?_ GE251.out) | exact HB.out))))
 have n1_ := Aside0.mk (blk_below (by exact BK249.out) hb)
 have n2_ := Aside0.mk (blk_below (by exact BK250.out) hb)
 have n3_ := Aside0.mk (blk_below (by exact BK251.out) hb)
 have n4_ := Aside0.mk (below_step (by repeat (first | (with_reducible first | exact HB.out | apply below_alloc | apply pw_below_drewN | apply below_drew1 | refine below_set ?_ GE249.out | refine below_set ?_ GE250.out | refine below_set ?_ GE251.out) | exact HB.out)) hb)
 clear BK249
 clear BK250
 clear BK251
 clear HB
 have HO254 := n0_
 have BK249 := n1_
 have BK250 := n2_
 have BK251 := n3_
 have HB := n4_
 clear n0_ n1_ n2_ n3_ n4_
 (try clear hb)
 (try clear hb2)
 (try clear hk)
 (try clear hi)
 (try clear ho0)
 refine hK.out _ _ ⟨(blk_cell BK249.out 0).trans rfl, (blk_cell BK249.out 1).trans rfl, (blk_cell BK250.out 0).trans rfl, (blk_cell BK250.out 1).trans rfl⟩ (fun hHeld => ?_)
 clear hK K
 refine norm_ (a' := ?_) ?_ ?_
 rotate_left
 ·show Act.put _ (some 12) _ = _
  simp only [Act.put, List.setIfInBounds_toArray, List.set_cons_zero, List.set_cons_succ, i64_w, i32_w]
  rfl
 refine one_ (i := 3) (N := some 14) #[true, true, true, true, false, false] rfl rfl (by kernel_rfl) (by decide) (fun K hK => ?_)
 refine goes_ Try.func34 (by kernel_rfl) rfl #[.agg #[.int .u64 a1_0, .int .u64 a1_1]] (by rfl) rfl rfl (by (try simp only [List.map_toArray, List.map_cons, List.map_nil]); first | done | rfl | (simp only [List.length_drop, List.length_take]; rfl)) ?_
 with_reducible refine (overfallref01_Digits.calls k a1_0 a1_1 t255 _ A4.out).mono ?_
 rintro e w10 ⟨v256, rfl, ho0, hb⟩
 refine ⟨_, rfl, ?_⟩
 have n0_ := Aside0.mk (Kd.R_elder' (by (with_reducible repeat (first | apply Kd.R_alloc | apply Kd.R_drewN | apply Kd.R_drew)); exact HO254.out) (Kd.R_base ho0) hb)
 have n1_ := Aside0.mk (Kd.R_lower (Kd.R_new' ho0 (Kd.R_lt (by (with_reducible repeat (first | apply Kd.R_alloc | apply Kd.R_drewN | apply Kd.R_drew)); exact HO254.out))) (below_size (by repeat (first | (with_reducible first | exact HB.out | apply below_alloc | apply pw_below_drewN | apply below_drew1 | refine below_set ?_ GE249.out | refine below_set ?_ GE250.out | refine below_set ?_ GE251.out) | exact HB.out))))
 have n2_ := Aside0.mk (blk_below (by exact BK249.out) hb)
 have n3_ := Aside0.mk (blk_below (by exact BK250.out) hb)
 have n4_ := Aside0.mk (blk_below (by exact BK251.out) hb)
 have n5_ := Aside0.mk (below_step (by repeat (first | (with_reducible first | exact HB.out | apply below_alloc | apply pw_below_drewN | apply below_drew1 | refine below_set ?_ GE249.out | refine below_set ?_ GE250.out | refine below_set ?_ GE251.out) | exact HB.out)) hb)
 clear HO254
 clear BK249
 clear BK250
 clear BK251
 clear HB
 have HO254 := n0_
 have HO257 := n1_
 have BK249 := n2_
 have BK250 := n3_
 have BK251 := n4_
 have HB := n5_
 clear n0_ n1_ n2_ n3_ n4_ n5_
 (try clear hb)
 (try clear hb2)
 (try clear hk)
 (try clear hi)
 (try clear ho0)
 refine hK.out _ _ ⟨(blk_cell BK249.out 0).trans rfl, (blk_cell BK249.out 1).trans rfl, (blk_cell BK250.out 0).trans rfl, (blk_cell BK250.out 1).trans rfl⟩ (fun hHeld => ?_)
 clear hK K
 refine norm_ (a' := ?_) ?_ ?_
 rotate_left
 ·show Act.put _ (some 14) _ = _
  simp only [Act.put, List.setIfInBounds_toArray, List.set_cons_zero, List.set_cons_succ, i64_w, i32_w]
  rfl
 refine pure_ (i := 4) (N := some 6) (v := ?_) (a' := ?_) #[true, true, true, true, true, false] rfl rfl (by kernel_rfl) (fun _ _ _ h => h) (Or.inl ⟨by rfl, ?_⟩) ?_ ?_
 rotate_left
 ·intro w'
  go_simp
  with_reducible rfl
 rotate_left
 ·simp only [Act.put, List.setIfInBounds_toArray, List.set_cons_zero, List.set_cons_succ, i64_w, i32_w]
  rfl
 refine pure_ (i := 5) (N := some 7) (v := ?_) (a' := ?_) #[true, true, true, true, true, true] rfl rfl (by kernel_rfl) (fun _ _ _ h => h) (Or.inl ⟨by rfl, ?_⟩) ?_ ?_
 rotate_left
 ·intro w'
  go_simp
  with_reducible rfl
 rotate_left
 ·simp only [Act.put, List.setIfInBounds_toArray, List.set_cons_zero, List.set_cons_succ, i64_w, i32_w]
  rfl
 refine done_ (by kernel_rfl) ?_
 try go_wp2
 go_loopg [8, 9] k (fun kq v8 v9 w' => ∃ (x6_1 : List Int) (x8_1 : Int) (x9_1 : Int), v8 = .int .i64 x8_1 ∧ v9 = .int .i64 x9_1 ∧ Aside0 (overfallref01_Add.l0 kq x6_1 t255 x8_1 x9_1 = some (r1, r2, r3)) ∧ Aside0 (kq ≤ k) ∧ Aside0 (Kd.R (Kd.int .i64) 3 w' w.heap.size (fun k_ => some k_ ≠ (v256 : Value).ownBlock) v253 x6_1) ∧ Aside0 (Kd.R (Kd.int .i64) 3 w' w.heap.size (fun k_ => some k_ ≠ (v253 : Value).ownBlock) v256 t255) ∧ Aside0 (w'.heap[gb249]? = some (.cells #[.int .u64 a0_0, .int .u64 a0_1] 50 (0, 0))) ∧ Aside0 (w'.heap[gb250]? = some (.cells #[.int .u64 a1_0, .int .u64 a1_1] 50 (0, 0))) ∧ Aside0 (w'.heap[gb251]? = some (.cells #[.int .u64 0, .int .u64 0] 50 (0, 0))) ∧ Aside0 (Below w.heap.size w w'))
 case atStart => exact ⟨(t252), (0), (0), (by first | rfl | (simp; done) | (simp [*]; done)), (by first | rfl | (simp; done) | (simp [*]; done)), H', ⟨Nat.le_refl _⟩, ⟨by (with_reducible repeat (first | apply Kd.R_alloc | apply Kd.R_drewN | apply Kd.R_drew)); exact Kd.R_mono HO254.out (fun _ hk => hk.2)⟩, ⟨by (with_reducible repeat (first | apply Kd.R_alloc | apply Kd.R_drewN | apply Kd.R_drew)); exact Kd.R_mono HO257.out (fun _ hk => hk.2)⟩, ⟨by exact BK249.out⟩, ⟨by exact BK250.out⟩, ⟨by exact BK251.out⟩, ⟨by repeat (first | (with_reducible first | exact HB.out | apply below_alloc | apply pw_below_drewN | apply below_drew1 | refine below_set ?_ GE249.out | refine below_set ?_ GE250.out | refine below_set ?_ GE251.out) | exact HB.out)⟩⟩
 case round =>
  clear H'
  try clear c2
  try clear p2
  try clear c3
  obtain ⟨x6_1, x8_1, x9_1, rfl, rfl, HA, HK1, HO_6, HO_7, BK249, BK250, BK251, HB⟩ := hrel
  cases gk with
  | zero => exact absurd HA.out (by simp [overfallref01_Add.l0])
  | succ k1 =>
   have H := HA.out
   clear HA
   simp only [overfallref01_Add.l0] at H
   by_cases c11 : x9_1 < 8
   ·rw [if_pos c11] at H
    have c11b0 : decide (x9_1 < 8) = true := decide_eq_true c11
    clear c11
    by_cases c12 : 0 ≤ x9_1
    ·rw [if_pos c12] at H
     have c12b0 : decide (0 ≤ x9_1) = true := decide_eq_true c12
     clear c12
     by_cases c13 : x9_1 < (x6_1.length : Int)
     ·rw [if_pos c13] at H
      have c13b0 : decide (x9_1 < (x6_1.length : Int)) = true := decide_eq_true c13
      clear c13
      by_cases c14 : x9_1 < (t255.length : Int)
      ·rw [if_pos c14] at H
       have c14b0 : decide (x9_1 < (t255.length : Int)) = true := decide_eq_true c14
       clear c14
       obtain ⟨y260, hy260⟩ : ∃ y_ : List Int, y_ = (x6_1.set (x9_1 : Int).toNat (Int.tmod (wrap64 ((wrap64 ((rd x6_1 x9_1) + (rd t255 x9_1))) + x8_1)) 65536)) := ⟨_, rfl⟩
       replace H : (overfallref01_Add.l0 k1 y260 t255 (wrap64 (Int.tdiv (wrap64 ((wrap64 ((rd x6_1 x9_1) + (rd t255 x9_1))) + x8_1)) 65536)) (wrap64 (x9_1 + 1))) = some (r1, r2, r3) := by first | (rw [hy260]; with_reducible exact H) | (have H2_ := (Option.bind_some _ _).symm.trans H; rw [hy260]; with_reducible exact H2_) | (have H2_ := (Option.bind_some _ _).symm.trans H; with_reducible exact H2_) | with_reducible exact H | (rw [hy260]; exact H) | exact H
       have Ny260 := Aside0.mk hy260
       clear hy260
       have H' := Aside0.mk H
       clear H
       try go_wp2
       have n0_ := Aside0.mk (Kd.R_drew HO_6.out)
       have n1_ := Aside0.mk (Kd.R_drew HO_7.out)
       have n2_ := Aside0.mk (blk_drew BK249.out)
       have n3_ := Aside0.mk (blk_drew BK250.out)
       have n4_ := Aside0.mk (blk_drew BK251.out)
       have n5_ := Aside0.mk (below_drew1 HB.out)
       clear HO_6
       clear HO_7
       clear BK249
       clear BK250
       clear BK251
       clear HB
       have HO_6 := n0_
       have HO_7 := n1_
       have BK249 := n2_
       have BK250 := n3_
       have BK251 := n4_
       have HB := n5_
       clear n0_ n1_ n2_ n3_ n4_ n5_
       obtain ⟨Ao17, co17, eo17⟩ := Kd.R_slice HO_6.out
       (first | subst eo17 | (injection eo17 with f1_ f2_ f3_; have f4_ := f1_.symm; have f5_ := f3_.symm; clear f1_ f2_ f3_; subst f4_; subst f5_))
       have p258 : 0 ≤ (x9_1 : Int) := of_decide_eq_true (by first | (with_reducible assumption) | assumption)
       have q258 : x9_1 < (x6_1.length : Int) := of_decide_eq_true (by first | (with_reducible assumption) | assumption)
       obtain ⟨ad258, e258, hx258_0⟩ := Kd.at_int (Kd.R_reads' HO_6.out).2.2 x9_1 p258 q258
       cases e258
       replace p258 := eq_true p258
       replace q258 := eq_true q258
       obtain ⟨Ao18, co18, eo18⟩ := Kd.R_slice HO_7.out
       (first | subst eo18 | (injection eo18 with f1_ f2_ f3_; have f4_ := f1_.symm; have f5_ := f3_.symm; clear f1_ f2_ f3_; subst f4_; subst f5_))
       have p259 : 0 ≤ (x9_1 : Int) := of_decide_eq_true (by first | (with_reducible assumption) | assumption)
       have q259 : x9_1 < (t255.length : Int) := of_decide_eq_true (by first | (with_reducible assumption) | assumption)
       obtain ⟨ad259, e259, hx259_0⟩ := Kd.at_int (Kd.R_reads' HO_7.out).2.2 x9_1 p259 q259
       cases e259
       replace p259 := eq_true p259
       replace q259 := eq_true q259
       refine start_ (n := 12) (S := fun w' => w'.cell? (ad258.add (x9_1).toNat) = some (.int .i64 (rd x6_1 x9_1)) ∧ w'.cell? (ad259.add (x9_1).toNat) = some (.int .i64 (rd t255 x9_1))) (ds := []) #[false, false, false, false, false, false, false, false, false, false, false, false] (by kernel_rfl) rfl rfl ⟨hx258_0, hx259_0⟩ (fun hHeld => ?_); refine with_tabW overfallref01_Add.tab6 overfallref01_Add.bits6 (fun HT_ HW_ => ?_)
       generalize wr.drew = w16 at HO_6 HO_7 BK249 BK250 BK251 HB hx258_0 hx259_0 hHeld ⊢
       refine pure_ (i := 0) (N := some 19) (v := ?_) (a' := ?_) #[true, false, false, false, false, false, false, false, false, false, false, false] rfl rfl (any_of HT_.out (by kernel_rfl)) (fun _ _ _ h => h) (Or.inl ⟨by rfl, ?_⟩) ?_ ?_
       rotate_left
       ·intro w'
        go_simp
        with_reducible rfl
       rotate_left
       ·simp only [Act.put, List.setIfInBounds_toArray, List.set_cons_zero, List.set_cons_succ, i64_w, i32_w]
        rfl
       refine pure_ (i := 1) (N := some 20) (v := ?_) (a' := ?_) #[true, true, false, false, false, false, false, false, false, false, false, false] rfl rfl (any_of HT_.out (by kernel_rfl)) (fun _ _ _ h => h) (Or.inl ⟨by rfl, ?_⟩) ?_ ?_
       rotate_left
       ·intro w'
        go_simp
        with_reducible rfl
       rotate_left
       ·simp only [Act.put, List.setIfInBounds_toArray, List.set_cons_zero, List.set_cons_succ, i64_w, i32_w]
        rfl
       refine pure_ (i := 2) (N := some 21) (v := ?_) (a' := ?_) #[true, true, true, false, false, false, false, false, false, false, false, false] rfl rfl (any_of HT_.out (by kernel_rfl)) (fun _ _ _ h => h) (Or.inl ⟨by rfl, ?_⟩) ?_ ?_
       rotate_left
       ·intro w'
        go_simp
        with_reducible rfl
       rotate_left
       ·simp only [Act.put, List.setIfInBounds_toArray, List.set_cons_zero, List.set_cons_succ, i64_w, i32_w]
        rfl
       refine pure_ (i := 4) (N := some 23) (v := ?_) (a' := ?_) #[true, true, true, false, true, false, false, false, false, false, false, false] rfl rfl (any_of HT_.out (by kernel_rfl)) (fun _ _ _ h => h) (Or.inl ⟨by rfl, ?_⟩) ?_ ?_
       rotate_left
       ·intro w'
        go_simp
        with_reducible rfl
       rotate_left
       ·simp only [Act.put, List.setIfInBounds_toArray, List.set_cons_zero, List.set_cons_succ, i64_w, i32_w]
        rfl
       refine pure_ (i := 5) (N := some 24) (v := ?_) (a' := ?_) #[true, true, true, false, true, true, false, false, false, false, false, false] rfl rfl (any_of HT_.out (by kernel_rfl)) (fun _ _ _ h => h) (Or.inl ⟨by rfl, ?_⟩) ?_ ?_
       rotate_left
       ·intro w'
        go_simp
        with_reducible rfl
       rotate_left
       ·simp only [Act.put, List.setIfInBounds_toArray, List.set_cons_zero, List.set_cons_succ, i64_w, i32_w]
        rfl
       refine pure_ (i := 6) (N := some 25) (v := ?_) (a' := ?_) #[true, true, true, false, true, true, true, false, false, false, false, false] rfl rfl (any_of HT_.out (by kernel_rfl)) (fun _ _ _ h => h) (Or.inl ⟨by rfl, ?_⟩) ?_ ?_
       rotate_left
       ·intro w'
        go_simp
        with_reducible rfl
       rotate_left
       ·simp only [Act.put, List.setIfInBounds_toArray, List.set_cons_zero, List.set_cons_succ, i64_w, i32_w]
        rfl
       refine pure_ (i := 9) (N := some 28) (v := ?_) (a' := ?_) #[true, true, true, false, true, true, true, false, false, true, false, false] rfl rfl (any_of HT_.out (by kernel_rfl)) (fun _ _ _ h => h) (Or.inl ⟨by rfl, ?_⟩) ?_ ?_
       rotate_left
       ·intro w'
        go_simp
        with_reducible rfl
       rotate_left
       ·simp only [Act.put, List.setIfInBounds_toArray, List.set_cons_zero, List.set_cons_succ, i64_w, i32_w]
        rfl
       refine take_ (i := 3) (N := some 22) (v := ?_) (a' := ?_) #[true, true, true, true, true, true, true, false, false, true, false, false] rfl rfl (take_ofW HT_.out HW_.out (by kernel_rfl)) (fun _ _ _ h => h) (Or.inl ⟨by rfl, ?_⟩) hHeld ?_ ?_
       rotate_left
       ·rintro w' ⟨s0, s1⟩
        go_simp
        with_reducible rfl
       rotate_left
       ·simp only [Act.put, List.setIfInBounds_toArray, List.set_cons_zero, List.set_cons_succ, i64_w, i32_w]
        rfl
       refine take_ (i := 7) (N := some 26) (v := ?_) (a' := ?_) #[true, true, true, true, true, true, true, true, false, true, false, false] rfl rfl (take_ofW HT_.out HW_.out (by kernel_rfl)) (fun _ _ _ h => h) (Or.inl ⟨by rfl, ?_⟩) hHeld ?_ ?_
       rotate_left
       ·rintro w' ⟨s0, s1⟩
        go_simp
        with_reducible rfl
       rotate_left
       ·simp only [Act.put, List.setIfInBounds_toArray, List.set_cons_zero, List.set_cons_succ, i64_w, i32_w]
        rfl
       refine pure_ (i := 8) (N := some 27) (v := ?_) (a' := ?_) #[true, true, true, true, true, true, true, true, true, true, false, false] rfl rfl (any_of HT_.out (by kernel_rfl)) (fun _ _ _ h => h) (Or.inl ⟨by rfl, ?_⟩) ?_ ?_
       rotate_left
       ·intro w'
        go_simp
        with_reducible rfl
       rotate_left
       ·simp only [Act.put, List.setIfInBounds_toArray, List.set_cons_zero, List.set_cons_succ, i64_w, i32_w]
        rfl
       refine pure_ (i := 10) (N := some 29) (v := ?_) (a' := ?_) #[true, true, true, true, true, true, true, true, true, true, true, false] rfl rfl (any_of HT_.out (by kernel_rfl)) (fun _ _ _ h => h) (Or.inl ⟨by rfl, ?_⟩) ?_ ?_
       rotate_left
       ·intro w'
        go_simp
        with_reducible rfl
       rotate_left
       ·simp only [Act.put, List.setIfInBounds_toArray, List.set_cons_zero, List.set_cons_succ, i64_w, i32_w]
        rfl
       refine pure_ (i := 11) (N := some 10) (v := ?_) (a' := ?_) #[true, true, true, true, true, true, true, true, true, true, true, true] rfl rfl (any_of HT_.out (by kernel_rfl)) (fun _ _ _ h => h) (Or.inl ⟨by rfl, ?_⟩) ?_ ?_
       rotate_left
       ·intro w'
        go_simp
        with_reducible rfl
       rotate_left
       ·simp only [Act.put, List.setIfInBounds_toArray, List.set_cons_zero, List.set_cons_succ, i64_w, i32_w]
        rfl
       refine done_ (done_of HT_.out (by kernel_rfl)) ?_
       have p15 : 0 ≤ (x9_1 : Int) := of_decide_eq_true (by first | (with_reducible assumption) | assumption)
       have q15 : (x9_1 : Int) < ((x6_1.length : Int) : Int) := of_decide_eq_true (by first | (with_reducible assumption) | assumption)
       obtain ⟨go15, co15, eo15, gb15, gl15, cl15, HG15⟩ := Kd.R_form HO_6.out (by omega)
       (first | cases eo15 | (injection eo15 with ea_ en_ ec_; (first | subst ea_ | (injection ea_ with ea_; subst ea_)); subst ec_; clear en_))
       have GB15 := Aside0.mk gb15
       have GG15 := Aside0.mk HG15
       clear gb15 gl15 HG15
       (first | simp only [add_plain] at hx258_0 | skip)
       obtain ⟨hx15_0, hf15_0⟩ := Kd.R_celln 0 HO_6.out (x9_1 : Int) p15 q15
       replace p15 := eq_true p15
       replace q15 := eq_true q15
       obtain ⟨hy19_, hz19_⟩ := Kd.R_celln 0 HO_6.out (x9_1 : Int) (of_decide_eq_true (by first | (with_reducible assumption) | assumption)) (of_decide_eq_true (by first | (with_reducible assumption) | assumption))
       have HP19 := Kd.R_putg HO_6.out (x9_1 : Int) (Int.tmod (wrap64 ((wrap64 ((rd x6_1 x9_1) + (rd t255 x9_1))) + x8_1)) 65536)
       try go_wp2_with (first | ((with_reducible refine gate_store (t := 3) (p := 36) rfl ?_); refine store_event (t := 3) (p := 36) (v := ?vo_w20) (w1 := (w16.setCell ⟨go15, (x9_1 : Int).toNat, none⟩ (.int .i64 (Int.tmod (wrap64 ((wrap64 ((rd x6_1 x9_1) + (rd t255 x9_1))) + x8_1)) 65536)))) ?hg ?ho ?hn ?hr ?_; (case ho => rfl); (case hg => rfl); (case hn => rfl); (case hr => first | (go_simp; done) | (go_simp; rfl)); intro w20 hw; have hg : w16.grownBy w20 (some go15) := (by rw [hw]; exact HP19.2); have hp_ : Kd.R (Kd.int .i64) 3 w20 w.heap.size (fun k_ => some k_ ≠ (.slice (some ad259) t255.length co18 : Value).ownBlock) (.slice (some ⟨go15, 0, none⟩) x6_1.length co17) y260 := (by rw [hw, Ny260.out]; exact HP19.1); clear HP19; have n0_ := Aside0.mk (hp_); have n1_ := Aside0.mk (Kd.R_after (v := (.slice (some ⟨go15, 0, none⟩) x6_1.length co17)) (v1 := (.slice (some ⟨go15, 0, none⟩) x6_1.length co17)) (ok := (fun _ => True)) (by (with_reducible repeat (first | apply Kd.R_alloc | apply Kd.R_drewN | apply Kd.R_drew)); exact Kd.R_mono HO_7.out (fun _ hk => ⟨trivial, hk⟩)) hg (.inl rfl)); have n2_ := Aside0.mk (blk_grown (by exact BK249.out) hg (Kd.R_ne HO_6.out BK249.out (by decide))); have n3_ := Aside0.mk (blk_grown (by exact BK250.out) hg (Kd.R_ne HO_6.out BK250.out (by decide))); have n4_ := Aside0.mk (blk_grown (by exact BK251.out) hg (Kd.R_ne HO_6.out BK251.out (by decide))); have n5_ := Aside0.mk ((by rw [hw]; exact below_set (HB.out) GB15.out : Below w.heap.size w w20)); clear HO_6; clear HO_7; clear BK249; clear BK250; clear BK251; clear HB; have HO_6 := n0_; have HO_7 := n1_; have BK249 := n2_; have BK250 := n3_; have BK251 := n4_; have HB := n5_; clear n0_ n1_ n2_ n3_ n4_ n5_; clear hg hw hp_))
       go_roundg k1
       case measure => have := HK1.out; omega
       case rel => exact ⟨(y260), (wrap64 (Int.tdiv (wrap64 ((wrap64 ((rd x6_1 x9_1) + (rd t255 x9_1))) + x8_1)) 65536)), (wrap64 (x9_1 + 1)), (by first | rfl | (simp; done) | (simp [*]; done)), (by first | rfl | (simp; done) | (simp [*]; done)), H', ⟨by have := HK1.out; omega⟩, ⟨by (with_reducible repeat (first | apply Kd.R_alloc | apply Kd.R_drewN | apply Kd.R_drew)); exact HO_6.out⟩, ⟨by (with_reducible repeat (first | apply Kd.R_alloc | apply Kd.R_drewN | apply Kd.R_drew)); exact Kd.R_mono HO_7.out (fun _ hk => hk.2)⟩, ⟨by exact BK249.out⟩, ⟨by exact BK250.out⟩, ⟨by exact BK251.out⟩, ⟨by repeat (first | (with_reducible first | exact HB.out | apply below_alloc | apply pw_below_drewN | apply below_drew1 | refine below_set ?_ GE249.out | refine below_set ?_ GE250.out | refine below_set ?_ GE251.out) | exact HB.out)⟩⟩
      ·rw [if_neg c14] at H
       exact absurd H (by simp)
     ·rw [if_neg c13] at H
      exact absurd H (by simp)
    ·rw [if_neg c12] at H
     exact absurd H (by simp)
   ·rw [if_neg c11] at H
    have c11b0 : decide (x9_1 < 8) = false := decide_eq_false c11
    clear c11
    replace H := Option.bind_eq_some_iff.mp H
    obtain ⟨⟨t261, t262⟩, A210, H⟩ := H
    replace H : (some (t261, t262, decide (x8_1 > 0))) = some (r1, r2, r3) := H
    have A21 := Aside0.mk A210
    clear A210
    simp only [Option.some.injEq, Prod.mk.injEq] at H
    obtain ⟨rfl, rfl, rfl⟩ := H
    obtain ⟨Ao22, co22, eo22⟩ := Kd.R_slice HO_6.out
    subst eo22
    go_wp2_with (first | ((with_reducible refine gate_callee (f := 35) rfl ?_); refine goesL_ (some 38) rfl rfl Try.func35 (by kernel_rfl) rfl #[.slice Ao22 x6_1.length co22] rfl (by (try simp only [List.map_toArray, List.map_cons, List.map_nil]); first | done | rfl | (simp only [List.length_drop, List.length_take]; rfl)) ?_; (with_reducible refine (overfallref01_Value.calls k1 _ _ x6_1 t261 t262 _ ?side1 ?side2 A21.out).mono ?_); (case side1 => repeat (first | exact (Kd.R_reads' HO_6.out).2.2 | (with_reducible refine Kd.C_alloc ?_ _) | (with_reducible refine Kd.C_drewN ?_ _) | (with_reducible refine Kd.C_drew ?_))); (case side2 => exact (Kd.R_reads' HO_6.out).2.1); rintro e w23 ⟨rfl, hb⟩; refine ⟨_, rfl, ?_⟩; have n0_ := Aside0.mk (Kd.R_below (by (with_reducible repeat (first | apply Kd.R_alloc | apply Kd.R_drewN | apply Kd.R_drew)); exact HO_6.out) hb); have n1_ := Aside0.mk (Kd.R_below (by (with_reducible repeat (first | apply Kd.R_alloc | apply Kd.R_drewN | apply Kd.R_drew)); exact HO_7.out) hb); have n2_ := Aside0.mk (blk_below (by exact BK249.out) hb); have n3_ := Aside0.mk (blk_below (by exact BK250.out) hb); have n4_ := Aside0.mk (blk_below (by exact BK251.out) hb); have n5_ := Aside0.mk (below_step (by repeat (first | (with_reducible first | exact HB.out | apply below_alloc | apply pw_below_drewN | apply below_drew1 | refine below_set ?_ GE249.out | refine below_set ?_ GE250.out | refine below_set ?_ GE251.out) | exact HB.out)) hb); clear HO_6; clear HO_7; clear BK249; clear BK250; clear BK251; clear HB; have HO_6 := n0_; have HO_7 := n1_; have BK249 := n2_; have BK250 := n3_; have BK251 := n4_; have HB := n5_; clear n0_ n1_ n2_ n3_ n4_ n5_; (try clear hb); (try clear hb2); (try clear hk); (try clear hi); have hnb24 := NB251_249.out; have hnc24 := NB249_251.out; have hnb25 := NB251_250.out; have hnc25 := NB250_251.out; have hcz26_0 : w23.cell? ⟨gb251, 0, none⟩ = some (.int .u64 0) := (blk_cell BK251.out 0).trans rfl; have hcz26_1 : w23.cell? ⟨gb251, 1, none⟩ = some (.int .u64 0) := (blk_cell BK251.out 1).trans rfl; have hfz26_0 := blk_frozen BK251.out 0; have hfz26_1 := blk_frozen BK251.out 1))
    refine bodyPost_ret (results_ct rfl _ _ gb251 50 #[.int .u64 t261, .int .u64 t262] (0, 0) _ rfl (by refine blk_put (cs := #[.int .u64 t261, .int .u64 0]) ?_ 1 _ rfl; refine blk_put (cs := #[.int .u64 0, .int .u64 0]) ?_ 0 _ rfl; exact BK251.out) Try.underlying50 rfl (by kernel_rfl)) rfl ?_
    exact ⟨by first | rfl | (simp [errW_none, errW_some] <;> rfl) | (simp [*, errW_none, errW_some] <;> rfl), by repeat (first | (with_reducible first | exact HB.out | apply below_alloc | apply pw_below_drewN | apply below_drew1 | refine below_set ?_ GE249.out | refine below_set ?_ GE250.out | refine below_set ?_ GE251.out) | exact HB.out)⟩

/-! ### overfallref01_Less: function 25 -/
def overfallref01_Less.f (a0_0 : Int) (a0_1 : Int) (a1_0 : Int) (a1_1 : Int) : Option (Bool) := if a0_0 < a1_0 then (some true) else (if a0_0 = a1_0 then (some (decide (a0_1 < a1_1))) else (some false))
set_option maxHeartbeats 8000000 in
set_option maxRecDepth 100000 in
theorem overfallref01_Less.calls (a0_0 : Int) (a0_1 : Int) (a1_0 : Int) (a1_1 : Int) (r : Bool) (w : World) (h : overfallref01_Less.f a0_0 a0_1 a1_0 a1_1 = some r) :
  Calls Try.prog 25 #[.agg #[.int .u64 a0_0, .int .u64 a0_1], .agg #[.int .u64 a1_0, .int .u64 a1_1]] w fun e w' => e = .returned (.bool r) ∧ Below w.heap.size w w' := by
 have hu50 := Try.underlying50
 have HB := Aside0.mk (Below.refl w.heap.size w)
 have H : (if a0_0 < a1_0 then (some true) else (if a0_0 = a1_0 then (some (decide (a0_1 < a1_1))) else (some false))) = some r := h
 clear h
 by_cases c3 : a0_0 < a1_0
 ·rw [if_pos c3] at H
  have c3b0 : decide (a0_0 < a1_0) = true := decide_eq_true c3
  clear c3
  obtain rfl := Option.some.inj H
  go_enter Try.func25, Try.ntmps25
  go_wp2_with (first | ((with_reducible refine gate_dst (N := 2) rfl ?_); refine box_event ?hg (N := 2) ?hd (cs := #[.int .u64 a0_0, .int .u64 a0_1]) (t := 50) ?hr ?_; (case hd => rfl); (case hg => rfl); (case hr => first | (go_simp; done) | (go_simp; rfl)); intro gb263 hg w4 hbox hb; have n0_ := Aside0.mk (below_step (by repeat (first | (with_reducible first | exact HB.out | apply below_alloc | apply pw_below_drewN | apply below_drew1) | exact HB.out)) hb); have n1_ := Aside0.mk (hbox); have n2_ := Aside0.mk ((by rw [hg]; exact (below_size (by repeat (first | (with_reducible first | exact HB.out | apply below_alloc | apply pw_below_drewN | apply below_drew1) | exact HB.out))) : w.heap.size ≤ gb263)); have n3_ := Aside0.mk ((by rw [hg]; exact (below_size (by repeat (first | (with_reducible first | exact HB.out | apply below_alloc | apply pw_below_drewN | apply below_drew1) | exact HB.out))) : w.heap.size ≤ gb263)); clear HB; have HB := n0_; have BK263 := n1_; have GW263 := n2_; have GE263 := n3_; clear n0_ n1_ n2_ n3_; clear hb hbox hg) | ((with_reducible refine gate_dst (N := 3) rfl ?_); refine box_event ?hg (N := 3) ?hd (cs := #[.int .u64 a1_0, .int .u64 a1_1]) (t := 50) ?hr ?_; (case hd => rfl); (case hg => rfl); (case hr => first | (go_simp; done) | (go_simp; rfl)); intro gb264 hg w5 hbox hb; have n0_ := Aside0.mk (blk_below (by exact BK263.out) hb); have n1_ := Aside0.mk (below_step (by repeat (first | (with_reducible first | exact HB.out | apply below_alloc | apply pw_below_drewN | apply below_drew1 | refine below_set ?_ GE263.out) | exact HB.out)) hb); have n2_ := Aside0.mk (hbox); have n3_ := Aside0.mk ((by rw [hg]; exact (below_size (by repeat (first | (with_reducible first | exact HB.out | apply below_alloc | apply pw_below_drewN | apply below_drew1 | refine below_set ?_ GE263.out) | exact HB.out))) : w.heap.size ≤ gb264)); have n4_ := Aside0.mk ((by rw [hg]; exact (below_size (by repeat (first | (with_reducible first | exact HB.out | apply below_alloc | apply pw_below_drewN | apply below_drew1 | refine below_set ?_ GE263.out) | exact HB.out))) : w.heap.size ≤ gb264)); have n5_ := Aside0.mk ((by rw [hg]; exact Nat.ne_of_lt (blk_lt (by exact BK263.out)) : gb263 ≠ gb264)); have n6_ := Aside0.mk ((by rw [hg]; exact Nat.ne_of_gt (blk_lt (by exact BK263.out)) : gb264 ≠ gb263)); clear BK263; clear HB; have BK263 := n0_; have HB := n1_; have BK264 := n2_; have GW264 := n3_; have GE264 := n4_; have NB263_264 := n5_; have NB264_263 := n6_; clear n0_ n1_ n2_ n3_ n4_ n5_ n6_; clear hb hbox hg; have hnb6 := NB263_264.out; have hnc6 := NB264_263.out; have hcz7_0 : w5.cell? ⟨gb263, 0, none⟩ = some (.int .u64 a0_0) := (blk_cell BK263.out 0).trans rfl; have hcz7_1 : w5.cell? ⟨gb263, 1, none⟩ = some (.int .u64 a0_1) := (blk_cell BK263.out 1).trans rfl; have hfz7_0 := blk_frozen BK263.out 0; have hfz7_1 := blk_frozen BK263.out 1; have hcz8_0 : w5.cell? ⟨gb264, 0, none⟩ = some (.int .u64 a1_0) := (blk_cell BK264.out 0).trans rfl; have hcz8_1 : w5.cell? ⟨gb264, 1, none⟩ = some (.int .u64 a1_1) := (blk_cell BK264.out 1).trans rfl; have hfz8_0 := blk_frozen BK264.out 0; have hfz8_1 := blk_frozen BK264.out 1))
  go_ret
  exact ⟨by first | rfl | (simp [errW_none, errW_some] <;> rfl) | (simp [*, errW_none, errW_some] <;> rfl), by repeat (first | (with_reducible first | exact HB.out | apply below_alloc | apply pw_below_drewN | apply below_drew1 | refine below_set ?_ GE263.out | refine below_set ?_ GE264.out) | exact HB.out)⟩
 ·rw [if_neg c3] at H
  have c3b0 : decide (a0_0 < a1_0) = false := decide_eq_false c3
  clear c3
  by_cases c9 : a0_0 = a1_0
  ·rw [if_pos c9] at H
   have c9b0 : (a0_0 == a1_0) = true := beq_iff_eq.mpr c9
   have c9b1 : (a0_0 != a1_0) = false := bne_eq_false_iff_eq.mpr c9
   clear c9
   obtain rfl := Option.some.inj H
   go_enter Try.func25, Try.ntmps25
   go_wp2_with (first | ((with_reducible refine gate_dst (N := 2) rfl ?_); refine box_event ?hg (N := 2) ?hd (cs := #[.int .u64 a0_0, .int .u64 a0_1]) (t := 50) ?hr ?_; (case hd => rfl); (case hg => rfl); (case hr => first | (go_simp; done) | (go_simp; rfl)); intro gb263 hg w10 hbox hb; have n0_ := Aside0.mk (below_step (by repeat (first | (with_reducible first | exact HB.out | apply below_alloc | apply pw_below_drewN | apply below_drew1) | exact HB.out)) hb); have n1_ := Aside0.mk (hbox); have n2_ := Aside0.mk ((by rw [hg]; exact (below_size (by repeat (first | (with_reducible first | exact HB.out | apply below_alloc | apply pw_below_drewN | apply below_drew1) | exact HB.out))) : w.heap.size ≤ gb263)); have n3_ := Aside0.mk ((by rw [hg]; exact (below_size (by repeat (first | (with_reducible first | exact HB.out | apply below_alloc | apply pw_below_drewN | apply below_drew1) | exact HB.out))) : w.heap.size ≤ gb263)); clear HB; have HB := n0_; have BK263 := n1_; have GW263 := n2_; have GE263 := n3_; clear n0_ n1_ n2_ n3_; clear hb hbox hg) | ((with_reducible refine gate_dst (N := 3) rfl ?_); refine box_event ?hg (N := 3) ?hd (cs := #[.int .u64 a1_0, .int .u64 a1_1]) (t := 50) ?hr ?_; (case hd => rfl); (case hg => rfl); (case hr => first | (go_simp; done) | (go_simp; rfl)); intro gb264 hg w11 hbox hb; have n0_ := Aside0.mk (blk_below (by exact BK263.out) hb); have n1_ := Aside0.mk (below_step (by repeat (first | (with_reducible first | exact HB.out | apply below_alloc | apply pw_below_drewN | apply below_drew1 | refine below_set ?_ GE263.out) | exact HB.out)) hb); have n2_ := Aside0.mk (hbox); have n3_ := Aside0.mk ((by rw [hg]; exact (below_size (by repeat (first | (with_reducible first | exact HB.out | apply below_alloc | apply pw_below_drewN | apply below_drew1 | refine below_set ?_ GE263.out) | exact HB.out))) : w.heap.size ≤ gb264)); have n4_ := Aside0.mk ((by rw [hg]; exact (below_size (by repeat (first | (with_reducible first | exact HB.out | apply below_alloc | apply pw_below_drewN | apply below_drew1 | refine below_set ?_ GE263.out) | exact HB.out))) : w.heap.size ≤ gb264)); have n5_ := Aside0.mk ((by rw [hg]; exact Nat.ne_of_lt (blk_lt (by exact BK263.out)) : gb263 ≠ gb264)); have n6_ := Aside0.mk ((by rw [hg]; exact Nat.ne_of_gt (blk_lt (by exact BK263.out)) : gb264 ≠ gb263)); clear BK263; clear HB; have BK263 := n0_; have HB := n1_; have BK264 := n2_; have GW264 := n3_; have GE264 := n4_; have NB263_264 := n5_; have NB264_263 := n6_; clear n0_ n1_ n2_ n3_ n4_ n5_ n6_; clear hb hbox hg; have hnb12 := NB263_264.out; have hnc12 := NB264_263.out; have hcz13_0 : w11.cell? ⟨gb263, 0, none⟩ = some (.int .u64 a0_0) := (blk_cell BK263.out 0).trans rfl; have hcz13_1 : w11.cell? ⟨gb263, 1, none⟩ = some (.int .u64 a0_1) := (blk_cell BK263.out 1).trans rfl; have hfz13_0 := blk_frozen BK263.out 0; have hfz13_1 := blk_frozen BK263.out 1; have hcz14_0 : w11.cell? ⟨gb264, 0, none⟩ = some (.int .u64 a1_0) := (blk_cell BK264.out 0).trans rfl; have hcz14_1 : w11.cell? ⟨gb264, 1, none⟩ = some (.int .u64 a1_1) := (blk_cell BK264.out 1).trans rfl; have hfz14_0 := blk_frozen BK264.out 0; have hfz14_1 := blk_frozen BK264.out 1))
   go_ret
   exact ⟨by first | rfl | (simp [errW_none, errW_some] <;> rfl) | (simp [*, errW_none, errW_some] <;> rfl), by repeat (first | (with_reducible first | exact HB.out | apply below_alloc | apply pw_below_drewN | apply below_drew1 | refine below_set ?_ GE263.out | refine below_set ?_ GE264.out) | exact HB.out)⟩
  ·rw [if_neg c9] at H
   have c9b0 : (a0_0 == a1_0) = false := beq_eq_false_iff_ne.mpr c9
   have c9b1 : (a0_0 != a1_0) = true := bne_iff_ne.mpr c9
   obtain rfl := Option.some.inj H
   go_enter Try.func25, Try.ntmps25
   go_wp2_with (first | ((with_reducible refine gate_dst (N := 2) rfl ?_); refine box_event ?hg (N := 2) ?hd (cs := #[.int .u64 a0_0, .int .u64 a0_1]) (t := 50) ?hr ?_; (case hd => rfl); (case hg => rfl); (case hr => first | (go_simp; done) | (go_simp; rfl)); intro gb263 hg w15 hbox hb; have n0_ := Aside0.mk (below_step (by repeat (first | (with_reducible first | exact HB.out | apply below_alloc | apply pw_below_drewN | apply below_drew1) | exact HB.out)) hb); have n1_ := Aside0.mk (hbox); have n2_ := Aside0.mk ((by rw [hg]; exact (below_size (by repeat (first | (with_reducible first | exact HB.out | apply below_alloc | apply pw_below_drewN | apply below_drew1) | exact HB.out))) : w.heap.size ≤ gb263)); have n3_ := Aside0.mk ((by rw [hg]; exact (below_size (by repeat (first | (with_reducible first | exact HB.out | apply below_alloc | apply pw_below_drewN | apply below_drew1) | exact HB.out))) : w.heap.size ≤ gb263)); clear HB; have HB := n0_; have BK263 := n1_; have GW263 := n2_; have GE263 := n3_; clear n0_ n1_ n2_ n3_; clear hb hbox hg) | ((with_reducible refine gate_dst (N := 3) rfl ?_); refine box_event ?hg (N := 3) ?hd (cs := #[.int .u64 a1_0, .int .u64 a1_1]) (t := 50) ?hr ?_; (case hd => rfl); (case hg => rfl); (case hr => first | (go_simp; done) | (go_simp; rfl)); intro gb264 hg w16 hbox hb; have n0_ := Aside0.mk (blk_below (by exact BK263.out) hb); have n1_ := Aside0.mk (below_step (by repeat (first | (with_reducible first | exact HB.out | apply below_alloc | apply pw_below_drewN | apply below_drew1 | refine below_set ?_ GE263.out) | exact HB.out)) hb); have n2_ := Aside0.mk (hbox); have n3_ := Aside0.mk ((by rw [hg]; exact (below_size (by repeat (first | (with_reducible first | exact HB.out | apply below_alloc | apply pw_below_drewN | apply below_drew1 | refine below_set ?_ GE263.out) | exact HB.out))) : w.heap.size ≤ gb264)); have n4_ := Aside0.mk ((by rw [hg]; exact (below_size (by repeat (first | (with_reducible first | exact HB.out | apply below_alloc | apply pw_below_drewN | apply below_drew1 | refine below_set ?_ GE263.out) | exact HB.out))) : w.heap.size ≤ gb264)); have n5_ := Aside0.mk ((by rw [hg]; exact Nat.ne_of_lt (blk_lt (by exact BK263.out)) : gb263 ≠ gb264)); have n6_ := Aside0.mk ((by rw [hg]; exact Nat.ne_of_gt (blk_lt (by exact BK263.out)) : gb264 ≠ gb263)); clear BK263; clear HB; have BK263 := n0_; have HB := n1_; have BK264 := n2_; have GW264 := n3_; have GE264 := n4_; have NB263_264 := n5_; have NB264_263 := n6_; clear n0_ n1_ n2_ n3_ n4_ n5_ n6_; clear hb hbox hg; have hnb17 := NB263_264.out; have hnc17 := NB264_263.out; have hcz18_0 : w16.cell? ⟨gb263, 0, none⟩ = some (.int .u64 a0_0) := (blk_cell BK263.out 0).trans rfl; have hcz18_1 : w16.cell? ⟨gb263, 1, none⟩ = some (.int .u64 a0_1) := (blk_cell BK263.out 1).trans rfl; have hfz18_0 := blk_frozen BK263.out 0; have hfz18_1 := blk_frozen BK263.out 1; have hcz19_0 : w16.cell? ⟨gb264, 0, none⟩ = some (.int .u64 a1_0) := (blk_cell BK264.out 0).trans rfl; have hcz19_1 : w16.cell? ⟨gb264, 1, none⟩ = some (.int .u64 a1_1) := (blk_cell BK264.out 1).trans rfl; have hfz19_0 := blk_frozen BK264.out 0; have hfz19_1 := blk_frozen BK264.out 1))
   go_ret
   exact ⟨by first | rfl | (simp [errW_none, errW_some] <;> rfl) | (simp [*, errW_none, errW_some] <;> rfl), by repeat (first | (with_reducible first | exact HB.out | apply below_alloc | apply pw_below_drewN | apply below_drew1 | refine below_set ?_ GE263.out | refine below_set ?_ GE264.out) | exact HB.out)⟩

end Go.Proofs.Ytiiffgmbkajkhaa.A

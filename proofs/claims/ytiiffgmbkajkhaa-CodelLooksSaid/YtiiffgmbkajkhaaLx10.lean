-- Laid by a program of this claim's session (wip/tools/myprint.py) over the kit's printer.
import Derived.Test.YtiiffgmbkajkhaaLx0
import Derived.Test.YtiiffgmbkajkhaaLx7
import Derived.Test.YtiiffgmbkajkhaaLx8
namespace Go.Proofs.Ytiiffgmbkajkhaa.L
open Go.RowKit Go.Proofs.YtiiffgmbkajkhaaW.PrintWords Go.Proofs.YtiiffgmbkajkhaaW.PrintLast Go.Proofs.YtiiffgmbkajkhaaW.PrintMore
attribute [local go_sem] max2_int min2_int max_two min_two max_three min_three max_four min_four   -- for this text's walks alone
set_option linter.unusedVariables false
set_option linter.unusedSimpArgs false

/-! ### overfallref01_Mul: function 30 -/
mutual
def overfallref01_Mul.l0 : Nat → List Int → List Int → List Int → Int → Option (Int × Int)
 | 0, _, _, _, _ => none
 | k + 1, x5, x6, x7, x8 => if x8 < 4 then (overfallref01_Mul.l1 k x5 x6 x7 x8 0 0) else (if 8 ≤ (x7.length : Int) then ((overfallref01_Value.f k (x7.take 8)).bind fun bt319 => (some (bt319.1, bt319.2))) else (none))
def overfallref01_Mul.l1 : Nat → List Int → List Int → List Int → Int → Int → Int → Option (Int × Int)
 | 0, _, _, _, _, _, _ => none
 | k + 1, x5, x6, x7, x8, x9, x10 => if x10 < 4 then (if 0 ≤ (wrap64 (x8 + x10)) then (if (wrap64 (x8 + x10)) < (x7.length : Int) then (if 0 ≤ x8 then (if x8 < (x5.length : Int) then (if 0 ≤ x10 then (if x10 < (x6.length : Int) then (overfallref01_Mul.l1 k x5 x6 (x7.set ((wrap64 (x8 + x10)) : Int).toNat (Int.tmod (wrap64 ((wrap64 ((rd x7 (wrap64 (x8 + x10))) + (wrap64 ((rd x5 x8) * (rd x6 x10))))) + x9)) 65536)) x8 (wrap64 (Int.tdiv (wrap64 ((wrap64 ((rd x7 (wrap64 (x8 + x10))) + (wrap64 ((rd x5 x8) * (rd x6 x10))))) + x9)) 65536)) (wrap64 (x10 + 1))) else (none)) else (none)) else (none)) else (none)) else (none)) else (none)) else (if 0 ≤ (wrap64 (x8 + 4)) then (if (wrap64 (x8 + 4)) < (x7.length : Int) then (overfallref01_Mul.l0 k x5 x6 (x7.set ((wrap64 (x8 + 4)) : Int).toNat (wrap64 ((rd x7 (wrap64 (x8 + 4))) + x9))) (wrap64 (x8 + 1))) else (none)) else (none))
end
def overfallref01_Mul.f (k : Nat) (a0 : Int) (a1 : Int) : Option (Int × Int) := (overfallref01_Digits.f k 0 a0).bind fun t306 => ((overfallref01_Digits.f k 0 a1).bind fun t309 => (if 9 ≤ 35184372088832 then (overfallref01_Mul.l0 k t306 t309 (List.replicate 9 0) 0) else (none)))
theorem overfallref01_Mul.mono_l : ∀ k, (∀ y0 y1 y2 y3, LeO (overfallref01_Mul.l0 k y0 y1 y2 y3) (overfallref01_Mul.l0 (k + 1) y0 y1 y2 y3)) ∧ (∀ y0 y1 y2 y3 y4 y5, LeO (overfallref01_Mul.l1 k y0 y1 y2 y3 y4 y5) (overfallref01_Mul.l1 (k + 1) y0 y1 y2 y3 y4 y5))
 | 0 => ⟨fun _ _ _ _ r h => by simp [overfallref01_Mul.l0] at h, fun _ _ _ _ _ _ r h => by simp [overfallref01_Mul.l1] at h⟩
 | k + 1 => by
  obtain ⟨ih0, ih1⟩ := overfallref01_Mul.mono_l k
  refine ⟨?_, ?_⟩
  ·intro y0 y1 y2 y3
   unfold overfallref01_Mul.l0
   repeat' first
   | (with_reducible exact ih0 _ _ _ _)
   | (with_reducible exact ih1 _ _ _ _ _ _)
   | (with_reducible exact overfallref01_Digits.mono _ _ _)
   | (with_reducible exact overfallref01_Value.mono _ _)
   | (with_reducible exact LeO.refl _)
   | (with_reducible exact LeO.none _)
   | (with_reducible refine LeO.ite ?_ ?_)
   | (with_reducible refine LeO.bind ?_ (fun _ => ?_))
   | exact ih0 _ _ _ _
   | exact ih1 _ _ _ _ _ _
   | exact overfallref01_Digits.mono _ _ _
   | exact overfallref01_Value.mono _ _
   | exact LeO.none _
   | refine LeO.ite ?_ ?_
   | refine LeO.bind ?_ (fun _ => ?_)
  ·intro y0 y1 y2 y3 y4 y5
   unfold overfallref01_Mul.l1
   repeat' first
   | (with_reducible exact ih0 _ _ _ _)
   | (with_reducible exact ih1 _ _ _ _ _ _)
   | (with_reducible exact overfallref01_Digits.mono _ _ _)
   | (with_reducible exact overfallref01_Value.mono _ _)
   | (with_reducible exact LeO.refl _)
   | (with_reducible exact LeO.none _)
   | (with_reducible refine LeO.ite ?_ ?_)
   | (with_reducible refine LeO.bind ?_ (fun _ => ?_))
   | exact ih0 _ _ _ _
   | exact ih1 _ _ _ _ _ _
   | exact overfallref01_Digits.mono _ _ _
   | exact overfallref01_Value.mono _ _
   | exact LeO.none _
   | refine LeO.ite ?_ ?_
   | refine LeO.bind ?_ (fun _ => ?_)
theorem overfallref01_Mul.mono : ∀ a0 a1 k, LeO (overfallref01_Mul.f k a0 a1) (overfallref01_Mul.f (k + 1) a0 a1) := by
 intro a0 a1 k
 obtain ⟨ih0, ih1⟩ := overfallref01_Mul.mono_l k
 unfold overfallref01_Mul.f
 repeat' first
   | (with_reducible exact ih0 _ _ _ _)
   | (with_reducible exact ih1 _ _ _ _ _ _)
   | (with_reducible exact overfallref01_Digits.mono _ _ _)
   | (with_reducible exact overfallref01_Value.mono _ _)
   | (with_reducible exact LeO.refl _)
   | (with_reducible exact LeO.none _)
   | (with_reducible refine LeO.ite ?_ ?_)
   | (with_reducible refine LeO.bind ?_ (fun _ => ?_))
   | exact ih0 _ _ _ _
   | exact ih1 _ _ _ _ _ _
   | exact overfallref01_Digits.mono _ _ _
   | exact overfallref01_Value.mono _ _
   | exact LeO.none _
   | refine LeO.ite ?_ ?_
   | refine LeO.bind ?_ (fun _ => ?_)
set_option maxHeartbeats 8000000 in
set_option maxRecDepth 100000 in
theorem overfallref01_Mul.calls (k : Nat) (a0 : Int) (a1 : Int) (r1 : Int) (r2 : Int) (w : World) (h : overfallref01_Mul.f k a0 a1 = some (r1, r2)) :
  Calls Try.prog 30 #[.int .u64 a0, .int .u64 a1] w fun e w' => e = .returned (.agg #[.int .u64 r1, .int .u64 r2]) ∧ Below w.heap.size w w' := by
 have hu50 := Try.underlying50
 have HB := m_ (Below.refl w.heap.size w)
 have H : ((overfallref01_Digits.f k 0 a0).bind fun t306 => ((overfallref01_Digits.f k 0 a1).bind fun t309 => (if 9 ≤ 35184372088832 then (overfallref01_Mul.l0 k t306 t309 (List.replicate 9 0) 0) else (none)))) = some (r1, r2) := h
 clear h
 replace H := Option.bind_eq_some_iff.mp H
 obtain ⟨t306, A30, H⟩ := H
 replace H : ((overfallref01_Digits.f k 0 a1).bind fun t309 => (if 9 ≤ 35184372088832 then (overfallref01_Mul.l0 k t306 t309 (List.replicate 9 0) 0) else (none))) = some (r1, r2) := H
 have A3 := Aside0.mk A30
 clear A30
 replace H := Option.bind_eq_some_iff.mp H
 obtain ⟨t309, A40, H⟩ := H
 replace H : (if 9 ≤ 35184372088832 then (overfallref01_Mul.l0 k t306 t309 (List.replicate 9 0) 0) else (none)) = some (r1, r2) := H
 have A4 := Aside0.mk A40
 clear A40
 by_cases c5 : 9 ≤ 35184372088832
 ·rw [if_pos c5] at H
  have c5b0 := eq_true c5
  have c5b1 : decide (9 ≤ 35184372088832) = true := decide_eq_true c5
  clear c5
  obtain ⟨y312, hy312⟩ : ∃ y_ : List Int, y_ = (List.replicate 9 0) := ⟨_, rfl⟩
  replace H : (overfallref01_Mul.l0 k t306 t309 y312 0) = some (r1, r2) := by first | (rw [hy312]; with_reducible exact H) | (have H2_ := (Option.bind_some _ _).symm.trans H; rw [hy312]; with_reducible exact H2_) | (have H2_ := (Option.bind_some _ _).symm.trans H; with_reducible exact H2_) | with_reducible exact H | (rw [hy312]; exact H) | exact H
  have Ny312 := Aside0.mk hy312
  clear hy312
  have H' := Aside0.mk H
  clear H
  go_enter Try.func30, Try.ntmps30
  go_wp2_with (first | ((with_reducible refine gate_dst (N := 4) rfl ?_); refine box_event ?hg (N := 4) ?hd (cs := #[.int .u64 0, .int .u64 0]) (t := 50) ?hr ?_; (case hd => rfl); (case hg => rfl); (case hr => first | (go_simp; done) | (go_simp; rfl)); intro gb305 hg w6 hbox hb; have BK305 := m_ (hbox); have GW305 := ge_ (by repeat (with_reducible first | exact HB.out | apply below_drew1 | apply pw_below_drewN)) hg; have GE305 := GW305; replace HB := st_ (by repeat (with_reducible first | exact HB.out | apply below_drew1 | apply pw_below_drewN)) hb; clear hb hbox hg) | (go_at_call 34; (with_reducible refine (overfallref01_Digits.calls k 0 a0 t306 _ A3.out).mono ?_); rintro e w7 ⟨v307, rfl, ho0, hb⟩; have HO308 := m_ (Kd.R_lower ho0 (below_size (by repeat (with_reducible first | exact HB.out | apply bs_ GE305 | apply below_drew1 | apply pw_below_drewN)))); replace BK305 := bb_ BK305 hb; replace HB := st_ (by repeat (with_reducible first | exact HB.out | apply bs_ GE305 | apply below_drew1 | apply pw_below_drewN)) hb; (try clear hb); (try clear ho0)) | (go_at_call 34; (with_reducible refine (overfallref01_Digits.calls k 0 a1 t309 _ A4.out).mono ?_); rintro e w8 ⟨v310, rfl, ho0, hb⟩; have HO311 := m_ (Kd.R_lower (Kd.R_new' ho0 (Kd.R_lt (by (with_reducible repeat (first | apply Kd.R_alloc | apply Kd.R_drewN | apply Kd.R_drew)); exact HO308.out))) (below_size (by repeat (with_reducible first | exact HB.out | apply bs_ GE305 | apply below_drew1 | apply pw_below_drewN)))); replace HO308 := m_ (Kd.R_elder' (by (with_reducible repeat (first | apply Kd.R_alloc | apply Kd.R_drewN | apply Kd.R_drew)); exact HO308.out) (Kd.R_base ho0) hb); replace BK305 := bb_ BK305 hb; replace HB := st_ (by repeat (with_reducible first | exact HB.out | apply bs_ GE305 | apply below_drew1 | apply pw_below_drewN)) hb; (try clear hb); (try clear ho0)) | ((with_reducible refine gate_dst (N := 18) rfl ?_); refine Kd.R_make (Kd.int .i64) _ 3 rfl (N := 18) rfl 64 _ _ rfl 9 rfl rfl Try.underlying64 (.int .i64 0) 8 info3 rfl (by decide) (by omega) 0 (ok := fun _ => True) (okp := fun _ => True) rfl (fun _ hk => hk) trivial (by omega) (by omega) (Below.refl _ _) (Nat.le_refl _) ?_; intro v313 w9 ho10 hb hg_ hnew_; clear hg_ hnew_; (first | rw [← Ny312.out] at ho10 | (simp only [Int.reduceToNat] at ho10; rw [← Ny312.out] at ho10)); have HO314 := m_ (Kd.R_lower (Kd.R_new' (Kd.R_new' ho10 (Kd.R_lt (by (with_reducible repeat (first | apply Kd.R_alloc | apply Kd.R_drewN | apply Kd.R_drew)); exact HO308.out))) (Kd.R_lt (by (with_reducible repeat (first | apply Kd.R_alloc | apply Kd.R_drewN | apply Kd.R_drew)); exact HO311.out))) (below_size (by repeat (with_reducible first | exact HB.out | apply bs_ GE305 | apply below_drew1 | apply pw_below_drewN)))); replace HO308 := m_ (Kd.R_elder' (by (with_reducible repeat (first | apply Kd.R_alloc | apply Kd.R_drewN | apply Kd.R_drew)); exact HO308.out) (Kd.R_base ho10) hb); replace HO311 := m_ (Kd.R_elder' (by (with_reducible repeat (first | apply Kd.R_alloc | apply Kd.R_drewN | apply Kd.R_drew)); exact HO311.out) (Kd.R_base ho10) hb); replace BK305 := bb_ BK305 hb; replace HB := st_ (by repeat (with_reducible first | exact HB.out | apply bs_ GE305 | apply below_drew1 | apply pw_below_drewN)) hb; clear hb ho10))
  repeat (go_quiet (first | ((with_reducible refine gate_dst (N := 4) rfl ?_); refine box_event ?hg (N := 4) ?hd (cs := #[.int .u64 0, .int .u64 0]) (t := 50) ?hr ?_; (case hd => rfl); (case hg => rfl); (case hr => first | (go_simp; done) | (go_simp; rfl)); intro gb305 hg w6 hbox hb; have BK305 := m_ (hbox); have GW305 := ge_ (by repeat (with_reducible first | exact HB.out | apply below_drew1 | apply pw_below_drewN)) hg; have GE305 := GW305; replace HB := st_ (by repeat (with_reducible first | exact HB.out | apply below_drew1 | apply pw_below_drewN)) hb; clear hb hbox hg) | (go_at_call 34; (with_reducible refine (overfallref01_Digits.calls k 0 a0 t306 _ A3.out).mono ?_); rintro e w7 ⟨v307, rfl, ho0, hb⟩; have HO308 := m_ (Kd.R_lower ho0 (below_size (by repeat (with_reducible first | exact HB.out | apply bs_ GE305 | apply below_drew1 | apply pw_below_drewN)))); replace BK305 := bb_ BK305 hb; replace HB := st_ (by repeat (with_reducible first | exact HB.out | apply bs_ GE305 | apply below_drew1 | apply pw_below_drewN)) hb; (try clear hb); (try clear ho0)) | (go_at_call 34; (with_reducible refine (overfallref01_Digits.calls k 0 a1 t309 _ A4.out).mono ?_); rintro e w8 ⟨v310, rfl, ho0, hb⟩; have HO311 := m_ (Kd.R_lower (Kd.R_new' ho0 (Kd.R_lt (by (with_reducible repeat (first | apply Kd.R_alloc | apply Kd.R_drewN | apply Kd.R_drew)); exact HO308.out))) (below_size (by repeat (with_reducible first | exact HB.out | apply bs_ GE305 | apply below_drew1 | apply pw_below_drewN)))); replace HO308 := m_ (Kd.R_elder' (by (with_reducible repeat (first | apply Kd.R_alloc | apply Kd.R_drewN | apply Kd.R_drew)); exact HO308.out) (Kd.R_base ho0) hb); replace BK305 := bb_ BK305 hb; replace HB := st_ (by repeat (with_reducible first | exact HB.out | apply bs_ GE305 | apply below_drew1 | apply pw_below_drewN)) hb; (try clear hb); (try clear ho0)) | ((with_reducible refine gate_dst (N := 18) rfl ?_); refine Kd.R_make (Kd.int .i64) _ 3 rfl (N := 18) rfl 64 _ _ rfl 9 rfl rfl Try.underlying64 (.int .i64 0) 8 info3 rfl (by decide) (by omega) 0 (ok := fun _ => True) (okp := fun _ => True) rfl (fun _ hk => hk) trivial (by omega) (by omega) (Below.refl _ _) (Nat.le_refl _) ?_; intro v313 w9 ho10 hb hg_ hnew_; clear hg_ hnew_; (first | rw [← Ny312.out] at ho10 | (simp only [Int.reduceToNat] at ho10; rw [← Ny312.out] at ho10)); have HO314 := m_ (Kd.R_lower (Kd.R_new' (Kd.R_new' ho10 (Kd.R_lt (by (with_reducible repeat (first | apply Kd.R_alloc | apply Kd.R_drewN | apply Kd.R_drew)); exact HO308.out))) (Kd.R_lt (by (with_reducible repeat (first | apply Kd.R_alloc | apply Kd.R_drewN | apply Kd.R_drew)); exact HO311.out))) (below_size (by repeat (with_reducible first | exact HB.out | apply bs_ GE305 | apply below_drew1 | apply pw_below_drewN)))); replace HO308 := m_ (Kd.R_elder' (by (with_reducible repeat (first | apply Kd.R_alloc | apply Kd.R_drewN | apply Kd.R_drew)); exact HO308.out) (Kd.R_base ho10) hb); replace HO311 := m_ (Kd.R_elder' (by (with_reducible repeat (first | apply Kd.R_alloc | apply Kd.R_drewN | apply Kd.R_drew)); exact HO311.out) (Kd.R_base ho10) hb); replace BK305 := bb_ BK305 hb; replace HB := st_ (by repeat (with_reducible first | exact HB.out | apply bs_ GE305 | apply below_drew1 | apply pw_below_drewN)) hb; clear hb ho10)); try go_wp2_with (first | ((with_reducible refine gate_dst (N := 4) rfl ?_); refine box_event ?hg (N := 4) ?hd (cs := #[.int .u64 0, .int .u64 0]) (t := 50) ?hr ?_; (case hd => rfl); (case hg => rfl); (case hr => first | (go_simp; done) | (go_simp; rfl)); intro gb305 hg w6 hbox hb; have BK305 := m_ (hbox); have GW305 := ge_ (by repeat (with_reducible first | exact HB.out | apply below_drew1 | apply pw_below_drewN)) hg; have GE305 := GW305; replace HB := st_ (by repeat (with_reducible first | exact HB.out | apply below_drew1 | apply pw_below_drewN)) hb; clear hb hbox hg) | (go_at_call 34; (with_reducible refine (overfallref01_Digits.calls k 0 a0 t306 _ A3.out).mono ?_); rintro e w7 ⟨v307, rfl, ho0, hb⟩; have HO308 := m_ (Kd.R_lower ho0 (below_size (by repeat (with_reducible first | exact HB.out | apply bs_ GE305 | apply below_drew1 | apply pw_below_drewN)))); replace BK305 := bb_ BK305 hb; replace HB := st_ (by repeat (with_reducible first | exact HB.out | apply bs_ GE305 | apply below_drew1 | apply pw_below_drewN)) hb; (try clear hb); (try clear ho0)) | (go_at_call 34; (with_reducible refine (overfallref01_Digits.calls k 0 a1 t309 _ A4.out).mono ?_); rintro e w8 ⟨v310, rfl, ho0, hb⟩; have HO311 := m_ (Kd.R_lower (Kd.R_new' ho0 (Kd.R_lt (by (with_reducible repeat (first | apply Kd.R_alloc | apply Kd.R_drewN | apply Kd.R_drew)); exact HO308.out))) (below_size (by repeat (with_reducible first | exact HB.out | apply bs_ GE305 | apply below_drew1 | apply pw_below_drewN)))); replace HO308 := m_ (Kd.R_elder' (by (with_reducible repeat (first | apply Kd.R_alloc | apply Kd.R_drewN | apply Kd.R_drew)); exact HO308.out) (Kd.R_base ho0) hb); replace BK305 := bb_ BK305 hb; replace HB := st_ (by repeat (with_reducible first | exact HB.out | apply bs_ GE305 | apply below_drew1 | apply pw_below_drewN)) hb; (try clear hb); (try clear ho0)) | ((with_reducible refine gate_dst (N := 18) rfl ?_); refine Kd.R_make (Kd.int .i64) _ 3 rfl (N := 18) rfl 64 _ _ rfl 9 rfl rfl Try.underlying64 (.int .i64 0) 8 info3 rfl (by decide) (by omega) 0 (ok := fun _ => True) (okp := fun _ => True) rfl (fun _ hk => hk) trivial (by omega) (by omega) (Below.refl _ _) (Nat.le_refl _) ?_; intro v313 w9 ho10 hb hg_ hnew_; clear hg_ hnew_; (first | rw [← Ny312.out] at ho10 | (simp only [Int.reduceToNat] at ho10; rw [← Ny312.out] at ho10)); have HO314 := m_ (Kd.R_lower (Kd.R_new' (Kd.R_new' ho10 (Kd.R_lt (by (with_reducible repeat (first | apply Kd.R_alloc | apply Kd.R_drewN | apply Kd.R_drew)); exact HO308.out))) (Kd.R_lt (by (with_reducible repeat (first | apply Kd.R_alloc | apply Kd.R_drewN | apply Kd.R_drew)); exact HO311.out))) (below_size (by repeat (with_reducible first | exact HB.out | apply bs_ GE305 | apply below_drew1 | apply pw_below_drewN)))); replace HO308 := m_ (Kd.R_elder' (by (with_reducible repeat (first | apply Kd.R_alloc | apply Kd.R_drewN | apply Kd.R_drew)); exact HO308.out) (Kd.R_base ho10) hb); replace HO311 := m_ (Kd.R_elder' (by (with_reducible repeat (first | apply Kd.R_alloc | apply Kd.R_drewN | apply Kd.R_drew)); exact HO311.out) (Kd.R_base ho10) hb); replace BK305 := bb_ BK305 hb; replace HB := st_ (by repeat (with_reducible first | exact HB.out | apply bs_ GE305 | apply below_drew1 | apply pw_below_drewN)) hb; clear hb ho10)))
  go_loopg [8] k (fun kq v8 w' => ∃ (x7_1 : List Int) (x8_1 : Int), v8 = .int .i64 x8_1 ∧ Aside0 (overfallref01_Mul.l0 kq t306 t309 x7_1 x8_1 = some (r1, r2)) ∧ Aside0 (kq ≤ k) ∧ Aside0 (Kd.R (Kd.int .i64) 3 w' w.heap.size (fun k_ => some k_ ≠ (v310 : Value).ownBlock ∧ some k_ ≠ (v313 : Value).ownBlock) v307 t306) ∧ Aside0 (Kd.R (Kd.int .i64) 3 w' w.heap.size (fun k_ => some k_ ≠ (v307 : Value).ownBlock ∧ some k_ ≠ (v313 : Value).ownBlock) v310 t309) ∧ Aside0 (Kd.R (Kd.int .i64) 3 w' w.heap.size (fun k_ => some k_ ≠ (v307 : Value).ownBlock ∧ some k_ ≠ (v310 : Value).ownBlock) v313 x7_1) ∧ Aside0 (w'.heap[gb305]? = some (.cells #[.int .u64 0, .int .u64 0] 50 (0, 0))) ∧ Aside0 (Below w.heap.size w w'))
  case atStart => exact ⟨(y312), (0), (by first | rfl | (simp; done) | (simp [*]; done)), H', ⟨Nat.le_refl _⟩, ⟨by (with_reducible repeat (first | apply Kd.R_alloc | apply Kd.R_drewN | apply Kd.R_drew)); exact Kd.R_mono HO308.out (fun _ hk => ⟨hk.1.2, hk.2⟩)⟩, ⟨by (with_reducible repeat (first | apply Kd.R_alloc | apply Kd.R_drewN | apply Kd.R_drew)); exact Kd.R_mono HO311.out (fun _ hk => ⟨hk.1.2, hk.2⟩)⟩, ⟨by (with_reducible repeat (first | apply Kd.R_alloc | apply Kd.R_drewN | apply Kd.R_drew)); exact Kd.R_mono HO314.out (fun _ hk => ⟨hk.1.2, hk.2⟩)⟩, ⟨by exact BK305.out⟩, ⟨by repeat (with_reducible first | exact HB.out | apply bs_ GE305 | apply below_drew1 | apply pw_below_drewN)⟩⟩
  case round =>
   clear H'
   try clear p2
   try clear c3
   try clear c5
   try clear c5b0
   try clear c5b1
   obtain ⟨x7_1, x8_1, rfl, HA, HK1, HO_5, HO_6, HO_7, BK305, HB⟩ := hrel
   cases gk with
   | zero => exact absurd HA.out (by simp [overfallref01_Mul.l0])
   | succ k1 =>
    have H := HA.out
    clear HA
    simp only [overfallref01_Mul.l0] at H
    by_cases c11 : x8_1 < 4
    ·rw [if_pos c11] at H
     have c11b0 : decide (x8_1 < 4) = true := decide_eq_true c11
     clear c11
     have H' := Aside0.mk H
     clear H
     go_wp2
     repeat (go_quiet (fail); try go_wp2)
     go_loopg [9, 10] k1 (fun kq v9 v10 w' => ∃ (x7_2 : List Int) (x9_2 : Int) (x10_2 : Int), v9 = .int .i64 x9_2 ∧ v10 = .int .i64 x10_2 ∧ Aside0 (overfallref01_Mul.l1 kq t306 t309 x7_2 x8_1 x9_2 x10_2 = some (r1, r2)) ∧ Aside0 (kq ≤ k1) ∧ Aside0 (Kd.R (Kd.int .i64) 3 w' w.heap.size (fun k_ => some k_ ≠ (v310 : Value).ownBlock ∧ some k_ ≠ (v313 : Value).ownBlock) v307 t306) ∧ Aside0 (Kd.R (Kd.int .i64) 3 w' w.heap.size (fun k_ => some k_ ≠ (v307 : Value).ownBlock ∧ some k_ ≠ (v313 : Value).ownBlock) v310 t309) ∧ Aside0 (Kd.R (Kd.int .i64) 3 w' w.heap.size (fun k_ => some k_ ≠ (v307 : Value).ownBlock ∧ some k_ ≠ (v310 : Value).ownBlock) v313 x7_2) ∧ Aside0 (w'.heap[gb305]? = some (.cells #[.int .u64 0, .int .u64 0] 50 (0, 0))) ∧ Aside0 (Below w.heap.size w w'))
     case atStart => exact ⟨(x7_1), (0), (0), (by first | rfl | (simp; done) | (simp [*]; done)), (by first | rfl | (simp; done) | (simp [*]; done)), H', ⟨Nat.le_refl _⟩, ⟨by (with_reducible repeat (first | apply Kd.R_alloc | apply Kd.R_drewN | apply Kd.R_drew)); exact HO_5.out⟩, ⟨by (with_reducible repeat (first | apply Kd.R_alloc | apply Kd.R_drewN | apply Kd.R_drew)); exact HO_6.out⟩, ⟨by (with_reducible repeat (first | apply Kd.R_alloc | apply Kd.R_drewN | apply Kd.R_drew)); exact HO_7.out⟩, ⟨by exact BK305.out⟩, ⟨by repeat (with_reducible first | exact HB.out | apply bs_ GE305 | apply below_drew1 | apply pw_below_drewN)⟩⟩
     case round =>
      clear H'
      try clear c1
      try clear p2
      try clear c3
      try clear c5
      try clear c5b0
      try clear c5b1
      try clear c11
      try clear c11b0
      try clear p2
      obtain ⟨x7_2, x9_2, x10_2, rfl, rfl, HA, HK2, HO_5, HO_6, HO_7, BK305, HB⟩ := hrel
      cases gk with
      | zero => exact absurd HA.out (by simp [overfallref01_Mul.l1])
      | succ k2 =>
       have H := HA.out
       clear HA
       simp only [overfallref01_Mul.l1] at H
       by_cases c12 : x10_2 < 4
       ·rw [if_pos c12] at H
        have c12b0 : decide (x10_2 < 4) = true := decide_eq_true c12
        clear c12
        obtain ⟨ji13, hji13⟩ : ∃ j_ : Int, (wrap64 (x8_1 + x10_2)) = j_ := ⟨_, rfl⟩
        replace H : (if 0 ≤ (ji13) then (if (ji13) < (x7_2.length : Int) then (if 0 ≤ x8_1 then (if x8_1 < (t306.length : Int) then (if 0 ≤ x10_2 then (if x10_2 < (t309.length : Int) then (overfallref01_Mul.l1 k2 t306 t309 (x7_2.set ((ji13) : Int).toNat (Int.tmod (wrap64 ((wrap64 ((rd x7_2 (ji13)) + (wrap64 ((rd t306 x8_1) * (rd t309 x10_2))))) + x9_2)) 65536)) x8_1 (wrap64 (Int.tdiv (wrap64 ((wrap64 ((rd x7_2 (ji13)) + (wrap64 ((rd t306 x8_1) * (rd t309 x10_2))))) + x9_2)) 65536)) (wrap64 (x10_2 + 1))) else (none)) else (none)) else (none)) else (none)) else (none)) else (none)) = some (r1, r2) := by first | (rw [hji13] at H; exact H) | (simp only [hji13] at H ⊢; exact H)
        have hji13w : (IntKind.i64.wrap (x8_1 + x10_2)) = ji13 := (i64_w _).trans hji13
        by_cases c14 : 0 ≤ (ji13)
        ·rw [if_pos c14] at H
         have c14b0 : decide (0 ≤ (ji13)) = true := decide_eq_true c14
         clear c14
         by_cases c15 : (ji13) < (x7_2.length : Int)
         ·rw [if_pos c15] at H
          have c15b0 : decide ((ji13) < (x7_2.length : Int)) = true := decide_eq_true c15
          clear c15
          by_cases c16 : 0 ≤ x8_1
          ·rw [if_pos c16] at H
           have c16b0 : decide (0 ≤ x8_1) = true := decide_eq_true c16
           clear c16
           by_cases c17 : x8_1 < (t306.length : Int)
           ·rw [if_pos c17] at H
            have c17b0 : decide (x8_1 < (t306.length : Int)) = true := decide_eq_true c17
            clear c17
            by_cases c18 : 0 ≤ x10_2
            ·rw [if_pos c18] at H
             have c18b0 : decide (0 ≤ x10_2) = true := decide_eq_true c18
             clear c18
             by_cases c19 : x10_2 < (t309.length : Int)
             ·rw [if_pos c19] at H
              have c19b0 : decide (x10_2 < (t309.length : Int)) = true := decide_eq_true c19
              clear c19
              obtain ⟨y324, hy324⟩ : ∃ y_ : List Int, y_ = (x7_2.set ((ji13) : Int).toNat (Int.tmod (wrap64 ((wrap64 ((rd x7_2 (ji13)) + (wrap64 ((rd t306 x8_1) * (rd t309 x10_2))))) + x9_2)) 65536)) := ⟨_, rfl⟩
              replace H : (overfallref01_Mul.l1 k2 t306 t309 y324 x8_1 (wrap64 (Int.tdiv (wrap64 ((wrap64 ((rd x7_2 (ji13)) + (wrap64 ((rd t306 x8_1) * (rd t309 x10_2))))) + x9_2)) 65536)) (wrap64 (x10_2 + 1))) = some (r1, r2) := by first | (rw [hy324]; with_reducible exact H) | (have H2_ := (Option.bind_some _ _).symm.trans H; rw [hy324]; with_reducible exact H2_) | (have H2_ := (Option.bind_some _ _).symm.trans H; with_reducible exact H2_) | with_reducible exact H | (rw [hy324]; exact H) | exact H
              have Ny324 := Aside0.mk hy324
              clear hy324
              have H' := Aside0.mk H
              clear H
              obtain ⟨Ao21, co21, eo21⟩ := Kd.R_slice HO_7.out
              subst eo21
              have p321 : 0 ≤ ((ji13) : Int) := of_decide_eq_true (by first | (with_reducible assumption) | assumption)
              have q321 : (ji13) < (x7_2.length : Int) := of_decide_eq_true (by first | (with_reducible assumption) | assumption)
              obtain ⟨ad321, e321, hx321_0⟩ := Kd.at_int (Kd.R_reads' HO_7.out).2.2 (ji13) p321 q321
              cases e321
              replace p321 := eq_true p321
              replace q321 := eq_true q321
              obtain ⟨Ao22, co22, eo22⟩ := Kd.R_slice HO_5.out
              subst eo22
              have p322 : 0 ≤ (x8_1 : Int) := of_decide_eq_true (by first | (with_reducible assumption) | assumption)
              have q322 : x8_1 < (t306.length : Int) := of_decide_eq_true (by first | (with_reducible assumption) | assumption)
              obtain ⟨ad322, e322, hx322_0⟩ := Kd.at_int (Kd.R_reads' HO_5.out).2.2 x8_1 p322 q322
              cases e322
              replace p322 := eq_true p322
              replace q322 := eq_true q322
              obtain ⟨Ao23, co23, eo23⟩ := Kd.R_slice HO_6.out
              subst eo23
              have p323 : 0 ≤ (x10_2 : Int) := of_decide_eq_true (by first | (with_reducible assumption) | assumption)
              have q323 : x10_2 < (t309.length : Int) := of_decide_eq_true (by first | (with_reducible assumption) | assumption)
              obtain ⟨ad323, e323, hx323_0⟩ := Kd.at_int (Kd.R_reads' HO_6.out).2.2 x10_2 p323 q323
              cases e323
              replace p323 := eq_true p323
              replace q323 := eq_true q323
              have p20 : 0 ≤ ((ji13) : Int) := of_decide_eq_true (by first | (with_reducible assumption) | assumption)
              have q20 : ((ji13) : Int) < ((x7_2.length : Int) : Int) := of_decide_eq_true (by first | (with_reducible assumption) | assumption)
              obtain ⟨go20, co20, eo20, gb20, gl20, cl20, HG20⟩ := Kd.R_form HO_7.out (by omega)
              (first | cases eo20 | (injection eo20 with ea_ en_ ec_; (first | subst ea_ | (injection ea_ with ea_; subst ea_)); subst ec_; clear en_))
              have GB20 := Aside0.mk gb20
              have GG20 := Aside0.mk HG20
              clear gb20 gl20 HG20
              (first | simp only [add_plain] at hx321_0 | skip)
              obtain ⟨hx20_0, hf20_0⟩ := Kd.R_celln 0 HO_7.out ((ji13) : Int) p20 q20
              replace p20 := eq_true p20
              replace q20 := eq_true q20
              have HP24 := Kd.R_putg HO_7.out ((ji13) : Int) (Int.tmod (wrap64 ((wrap64 ((rd x7_2 (ji13)) + (wrap64 ((rd t306 x8_1) * (rd t309 x10_2))))) + x9_2)) 65536)
              go_wp2_with (first | ((with_reducible refine gate_store (t := 3) (p := 53) rfl ?_); (try (rw [drewN_self wr]; generalize hq_ : World.drewN wr _ = wr; replace HO_5 := m_ (Kd.R_at hq_ HO_5.out); replace HO_6 := m_ (Kd.R_at hq_ HO_6.out); replace HO_7 := m_ (Kd.R_at hq_ HO_7.out); replace BK305 := m_ (blk_at hq_ BK305.out); replace HB := m_ (below_at hq_ HB.out); clear hq_; (try (have HP24 := Kd.R_putg HO_7.out ((ji13) : Int) (Int.tmod (wrap64 ((wrap64 ((rd x7_2 (ji13)) + (wrap64 ((rd t306 x8_1) * (rd t309 x10_2))))) + x9_2)) 65536))))); refine store_event (t := 3) (p := 53) (v := ?vo_w25) (w1 := (wr.setCell ⟨go20, ((ji13) : Int).toNat, none⟩ (.int .i64 (Int.tmod (wrap64 ((wrap64 ((rd x7_2 (ji13)) + (wrap64 ((rd t306 x8_1) * (rd t309 x10_2))))) + x9_2)) 65536)))) ?hg ?ho ?hn ?hr ?_; (case ho => rfl); (case hg => rfl); (case hn => rfl); (case hr => first | (go_simp; done) | (go_simp; rfl)); intro w25 hw; have hg : wr.grownBy w25 (some go20) := (by rw [hw]; exact HP24.2); have hp_ : Kd.R (Kd.int .i64) 3 w25 w.heap.size (fun k_ => some k_ ≠ (.slice (some ad322) t306.length co22 : Value).ownBlock ∧ some k_ ≠ (.slice (some ad323) t309.length co23 : Value).ownBlock) (.slice (some ⟨go20, 0, none⟩) x7_2.length co21) y324 := (by rw [hw, Ny324.out]; exact HP24.1); clear HP24; have n0_ := m_ (Kd.R_after (v := (.slice (some ⟨go20, 0, none⟩) x7_2.length co21)) (v1 := (.slice (some ⟨go20, 0, none⟩) x7_2.length co21)) (ok := (fun k_ => some k_ ≠ (.slice (some ad323) t309.length co23 : Value).ownBlock)) (by (with_reducible repeat (first | apply Kd.R_alloc | apply Kd.R_drewN | apply Kd.R_drew)); exact HO_5.out) hg (.inl rfl)); have n1_ := m_ (Kd.R_after (v := (.slice (some ⟨go20, 0, none⟩) x7_2.length co21)) (v1 := (.slice (some ⟨go20, 0, none⟩) x7_2.length co21)) (ok := (fun k_ => some k_ ≠ (.slice (some ad322) t306.length co22 : Value).ownBlock)) (by (with_reducible repeat (first | apply Kd.R_alloc | apply Kd.R_drewN | apply Kd.R_drew)); exact HO_6.out) hg (.inl rfl)); have n2_ := m_ (hp_); have n3_ := m_ (blk_grown (by exact BK305.out) hg (Kd.R_ne HO_7.out BK305.out (by decide))); have n4_ := m_ ((by rw [hw]; exact below_set (HB.out) GB20.out : Below w.heap.size w w25)); clear HO_5; clear HO_6; clear HO_7; clear BK305; clear HB; have HO_5 := n0_; have HO_6 := n1_; have HO_7 := n2_; have BK305 := n3_; have HB := n4_; clear n0_ n1_ n2_ n3_ n4_; clear hg hw hp_))
              repeat (go_quiet (first | ((with_reducible refine gate_store (t := 3) (p := 53) rfl ?_); (try (rw [drewN_self wr]; generalize hq_ : World.drewN wr _ = wr; replace HO_5 := m_ (Kd.R_at hq_ HO_5.out); replace HO_6 := m_ (Kd.R_at hq_ HO_6.out); replace HO_7 := m_ (Kd.R_at hq_ HO_7.out); replace BK305 := m_ (blk_at hq_ BK305.out); replace HB := m_ (below_at hq_ HB.out); clear hq_; (try (have HP24 := Kd.R_putg HO_7.out ((ji13) : Int) (Int.tmod (wrap64 ((wrap64 ((rd x7_2 (ji13)) + (wrap64 ((rd t306 x8_1) * (rd t309 x10_2))))) + x9_2)) 65536))))); refine store_event (t := 3) (p := 53) (v := ?vo_w25) (w1 := (wr.setCell ⟨go20, ((ji13) : Int).toNat, none⟩ (.int .i64 (Int.tmod (wrap64 ((wrap64 ((rd x7_2 (ji13)) + (wrap64 ((rd t306 x8_1) * (rd t309 x10_2))))) + x9_2)) 65536)))) ?hg ?ho ?hn ?hr ?_; (case ho => rfl); (case hg => rfl); (case hn => rfl); (case hr => first | (go_simp; done) | (go_simp; rfl)); intro w25 hw; have hg : wr.grownBy w25 (some go20) := (by rw [hw]; exact HP24.2); have hp_ : Kd.R (Kd.int .i64) 3 w25 w.heap.size (fun k_ => some k_ ≠ (.slice (some ad322) t306.length co22 : Value).ownBlock ∧ some k_ ≠ (.slice (some ad323) t309.length co23 : Value).ownBlock) (.slice (some ⟨go20, 0, none⟩) x7_2.length co21) y324 := (by rw [hw, Ny324.out]; exact HP24.1); clear HP24; have n0_ := m_ (Kd.R_after (v := (.slice (some ⟨go20, 0, none⟩) x7_2.length co21)) (v1 := (.slice (some ⟨go20, 0, none⟩) x7_2.length co21)) (ok := (fun k_ => some k_ ≠ (.slice (some ad323) t309.length co23 : Value).ownBlock)) (by (with_reducible repeat (first | apply Kd.R_alloc | apply Kd.R_drewN | apply Kd.R_drew)); exact HO_5.out) hg (.inl rfl)); have n1_ := m_ (Kd.R_after (v := (.slice (some ⟨go20, 0, none⟩) x7_2.length co21)) (v1 := (.slice (some ⟨go20, 0, none⟩) x7_2.length co21)) (ok := (fun k_ => some k_ ≠ (.slice (some ad322) t306.length co22 : Value).ownBlock)) (by (with_reducible repeat (first | apply Kd.R_alloc | apply Kd.R_drewN | apply Kd.R_drew)); exact HO_6.out) hg (.inl rfl)); have n2_ := m_ (hp_); have n3_ := m_ (blk_grown (by exact BK305.out) hg (Kd.R_ne HO_7.out BK305.out (by decide))); have n4_ := m_ ((by rw [hw]; exact below_set (HB.out) GB20.out : Below w.heap.size w w25)); clear HO_5; clear HO_6; clear HO_7; clear BK305; clear HB; have HO_5 := n0_; have HO_6 := n1_; have HO_7 := n2_; have BK305 := n3_; have HB := n4_; clear n0_ n1_ n2_ n3_ n4_; clear hg hw hp_)); try go_wp2_with (first | ((with_reducible refine gate_store (t := 3) (p := 53) rfl ?_); (try (rw [drewN_self wr]; generalize hq_ : World.drewN wr _ = wr; replace HO_5 := m_ (Kd.R_at hq_ HO_5.out); replace HO_6 := m_ (Kd.R_at hq_ HO_6.out); replace HO_7 := m_ (Kd.R_at hq_ HO_7.out); replace BK305 := m_ (blk_at hq_ BK305.out); replace HB := m_ (below_at hq_ HB.out); clear hq_; (try (have HP24 := Kd.R_putg HO_7.out ((ji13) : Int) (Int.tmod (wrap64 ((wrap64 ((rd x7_2 (ji13)) + (wrap64 ((rd t306 x8_1) * (rd t309 x10_2))))) + x9_2)) 65536))))); refine store_event (t := 3) (p := 53) (v := ?vo_w25) (w1 := (wr.setCell ⟨go20, ((ji13) : Int).toNat, none⟩ (.int .i64 (Int.tmod (wrap64 ((wrap64 ((rd x7_2 (ji13)) + (wrap64 ((rd t306 x8_1) * (rd t309 x10_2))))) + x9_2)) 65536)))) ?hg ?ho ?hn ?hr ?_; (case ho => rfl); (case hg => rfl); (case hn => rfl); (case hr => first | (go_simp; done) | (go_simp; rfl)); intro w25 hw; have hg : wr.grownBy w25 (some go20) := (by rw [hw]; exact HP24.2); have hp_ : Kd.R (Kd.int .i64) 3 w25 w.heap.size (fun k_ => some k_ ≠ (.slice (some ad322) t306.length co22 : Value).ownBlock ∧ some k_ ≠ (.slice (some ad323) t309.length co23 : Value).ownBlock) (.slice (some ⟨go20, 0, none⟩) x7_2.length co21) y324 := (by rw [hw, Ny324.out]; exact HP24.1); clear HP24; have n0_ := m_ (Kd.R_after (v := (.slice (some ⟨go20, 0, none⟩) x7_2.length co21)) (v1 := (.slice (some ⟨go20, 0, none⟩) x7_2.length co21)) (ok := (fun k_ => some k_ ≠ (.slice (some ad323) t309.length co23 : Value).ownBlock)) (by (with_reducible repeat (first | apply Kd.R_alloc | apply Kd.R_drewN | apply Kd.R_drew)); exact HO_5.out) hg (.inl rfl)); have n1_ := m_ (Kd.R_after (v := (.slice (some ⟨go20, 0, none⟩) x7_2.length co21)) (v1 := (.slice (some ⟨go20, 0, none⟩) x7_2.length co21)) (ok := (fun k_ => some k_ ≠ (.slice (some ad322) t306.length co22 : Value).ownBlock)) (by (with_reducible repeat (first | apply Kd.R_alloc | apply Kd.R_drewN | apply Kd.R_drew)); exact HO_6.out) hg (.inl rfl)); have n2_ := m_ (hp_); have n3_ := m_ (blk_grown (by exact BK305.out) hg (Kd.R_ne HO_7.out BK305.out (by decide))); have n4_ := m_ ((by rw [hw]; exact below_set (HB.out) GB20.out : Below w.heap.size w w25)); clear HO_5; clear HO_6; clear HO_7; clear BK305; clear HB; have HO_5 := n0_; have HO_6 := n1_; have HO_7 := n2_; have BK305 := n3_; have HB := n4_; clear n0_ n1_ n2_ n3_ n4_; clear hg hw hp_)))
              go_roundg k2
              case measure => have := HK1.out; have := HK2.out; omega
              case rel => exact ⟨(y324), (wrap64 (Int.tdiv (wrap64 ((wrap64 ((rd x7_2 (ji13)) + (wrap64 ((rd t306 x8_1) * (rd t309 x10_2))))) + x9_2)) 65536)), (wrap64 (x10_2 + 1)), (by first | rfl | (simp; done) | (simp only [← hji13] <;> (first | rfl | simp)) | (simp [*]; done)), (by first | rfl | (simp; done) | (simp [*]; done)), H', ⟨by have := HK1.out; have := HK2.out; omega⟩, ⟨by (with_reducible repeat (first | apply Kd.R_alloc | apply Kd.R_drewN | apply Kd.R_drew)); (first | exact HO_5.out | exact Kd.R_after (Kd.R_drewN HO_5.out _) (Kd.R_putg (Kd.R_drewN HO_7.out _) _ _).2 (.inl rfl))⟩, ⟨by (with_reducible repeat (first | apply Kd.R_alloc | apply Kd.R_drewN | apply Kd.R_drew)); (first | exact HO_6.out | exact Kd.R_after (Kd.R_drewN HO_6.out _) (Kd.R_putg (Kd.R_drewN HO_7.out _) _ _).2 (.inl rfl))⟩, ⟨by (with_reducible repeat (first | apply Kd.R_alloc | apply Kd.R_drewN | apply Kd.R_drew)); (first | exact HO_7.out | (rw [Ny324.out]; exact (Kd.R_putg (Kd.R_drewN HO_7.out _) _ _).1))⟩, ⟨by (first | exact BK305.out | exact blk_grown (blk_drewN BK305.out _) (Kd.R_putg (Kd.R_drewN HO_7.out _) _ _).2 (Kd.R_ne (Kd.R_drewN HO_7.out 0) (blk_drewN BK305.out 0) (by decide)))⟩, ⟨by first | exact HB.out | exact below_set (pw_below_drewN HB.out _) GB20.out⟩⟩
             ·rw [if_neg c19] at H
              exact absurd H (by simp)
            ·rw [if_neg c18] at H
             exact absurd H (by simp)
           ·rw [if_neg c17] at H
            exact absurd H (by simp)
          ·rw [if_neg c16] at H
           exact absurd H (by simp)
         ·rw [if_neg c15] at H
          exact absurd H (by simp)
        ·rw [if_neg c14] at H
         exact absurd H (by simp)
       ·rw [if_neg c12] at H
        have c12b0 : decide (x10_2 < 4) = false := decide_eq_false c12
        clear c12
        obtain ⟨ji26, hji26⟩ : ∃ j_ : Int, (wrap64 (x8_1 + 4)) = j_ := ⟨_, rfl⟩
        replace H : (if 0 ≤ (ji26) then (if (ji26) < (x7_2.length : Int) then (overfallref01_Mul.l0 k2 t306 t309 (x7_2.set ((ji26) : Int).toNat (wrap64 ((rd x7_2 (ji26)) + x9_2))) (wrap64 (x8_1 + 1))) else (none)) else (none)) = some (r1, r2) := by first | (rw [hji26] at H; exact H) | (simp only [hji26] at H ⊢; exact H)
        have hji26w : (IntKind.i64.wrap (x8_1 + 4)) = ji26 := (i64_w _).trans hji26
        by_cases c27 : 0 ≤ (ji26)
        ·rw [if_pos c27] at H
         have c27b0 : decide (0 ≤ (ji26)) = true := decide_eq_true c27
         clear c27
         by_cases c28 : (ji26) < (x7_2.length : Int)
         ·rw [if_pos c28] at H
          have c28b0 : decide ((ji26) < (x7_2.length : Int)) = true := decide_eq_true c28
          clear c28
          obtain ⟨y326, hy326⟩ : ∃ y_ : List Int, y_ = (x7_2.set ((ji26) : Int).toNat (wrap64 ((rd x7_2 (ji26)) + x9_2))) := ⟨_, rfl⟩
          replace H : (overfallref01_Mul.l0 k2 t306 t309 y326 (wrap64 (x8_1 + 1))) = some (r1, r2) := by first | (rw [hy326]; with_reducible exact H) | (have H2_ := (Option.bind_some _ _).symm.trans H; rw [hy326]; with_reducible exact H2_) | (have H2_ := (Option.bind_some _ _).symm.trans H; with_reducible exact H2_) | with_reducible exact H | (rw [hy326]; exact H) | exact H
          have Ny326 := Aside0.mk hy326
          clear hy326
          have H' := Aside0.mk H
          clear H
          obtain ⟨Ao30, co30, eo30⟩ := Kd.R_slice HO_7.out
          subst eo30
          have p325 : 0 ≤ ((ji26) : Int) := of_decide_eq_true (by first | (with_reducible assumption) | assumption)
          have q325 : (ji26) < (x7_2.length : Int) := of_decide_eq_true (by first | (with_reducible assumption) | assumption)
          obtain ⟨ad325, e325, hx325_0⟩ := Kd.at_int (Kd.R_reads' HO_7.out).2.2 (ji26) p325 q325
          cases e325
          replace p325 := eq_true p325
          replace q325 := eq_true q325
          have p29 : 0 ≤ ((ji26) : Int) := of_decide_eq_true (by first | (with_reducible assumption) | assumption)
          have q29 : ((ji26) : Int) < ((x7_2.length : Int) : Int) := of_decide_eq_true (by first | (with_reducible assumption) | assumption)
          obtain ⟨go29, co29, eo29, gb29, gl29, cl29, HG29⟩ := Kd.R_form HO_7.out (by omega)
          (first | cases eo29 | (injection eo29 with ea_ en_ ec_; (first | subst ea_ | (injection ea_ with ea_; subst ea_)); subst ec_; clear en_))
          have GB29 := Aside0.mk gb29
          have GG29 := Aside0.mk HG29
          clear gb29 gl29 HG29
          (first | simp only [add_plain] at hx325_0 | skip)
          obtain ⟨hx29_0, hf29_0⟩ := Kd.R_celln 0 HO_7.out ((ji26) : Int) p29 q29
          replace p29 := eq_true p29
          replace q29 := eq_true q29
          have HP31 := Kd.R_putg HO_7.out ((ji26) : Int) (wrap64 ((rd x7_2 (ji26)) + x9_2))
          go_wp2_with (first | ((with_reducible refine gate_store (t := 3) (p := 61) rfl ?_); (try (rw [drewN_self wr]; generalize hq_ : World.drewN wr _ = wr; replace HO_5 := m_ (Kd.R_at hq_ HO_5.out); replace HO_6 := m_ (Kd.R_at hq_ HO_6.out); replace HO_7 := m_ (Kd.R_at hq_ HO_7.out); replace BK305 := m_ (blk_at hq_ BK305.out); replace HB := m_ (below_at hq_ HB.out); clear hq_; (try (have HP31 := Kd.R_putg HO_7.out ((ji26) : Int) (wrap64 ((rd x7_2 (ji26)) + x9_2)))))); refine store_event (t := 3) (p := 61) (v := ?vo_w32) (w1 := (wr.setCell ⟨go29, ((ji26) : Int).toNat, none⟩ (.int .i64 (wrap64 ((rd x7_2 (ji26)) + x9_2))))) ?hg ?ho ?hn ?hr ?_; (case ho => rfl); (case hg => rfl); (case hn => rfl); (case hr => first | (go_simp; done) | (go_simp; rfl)); intro w32 hw; have hg : wr.grownBy w32 (some go29) := (by rw [hw]; exact HP31.2); have hp_ : Kd.R (Kd.int .i64) 3 w32 w.heap.size (fun k_ => some k_ ≠ (v307 : Value).ownBlock ∧ some k_ ≠ (v310 : Value).ownBlock) (.slice (some ⟨go29, 0, none⟩) x7_2.length co30) y326 := (by rw [hw, Ny326.out]; exact HP31.1); clear HP31; have n0_ := m_ (Kd.R_after (v := (.slice (some ⟨go29, 0, none⟩) x7_2.length co30)) (v1 := (.slice (some ⟨go29, 0, none⟩) x7_2.length co30)) (ok := (fun k_ => some k_ ≠ (v310 : Value).ownBlock)) (by (with_reducible repeat (first | apply Kd.R_alloc | apply Kd.R_drewN | apply Kd.R_drew)); exact HO_5.out) hg (.inl rfl)); have n1_ := m_ (Kd.R_after (v := (.slice (some ⟨go29, 0, none⟩) x7_2.length co30)) (v1 := (.slice (some ⟨go29, 0, none⟩) x7_2.length co30)) (ok := (fun k_ => some k_ ≠ (v307 : Value).ownBlock)) (by (with_reducible repeat (first | apply Kd.R_alloc | apply Kd.R_drewN | apply Kd.R_drew)); exact HO_6.out) hg (.inl rfl)); have n2_ := m_ (hp_); have n3_ := m_ (blk_grown (by exact BK305.out) hg (Kd.R_ne HO_7.out BK305.out (by decide))); have n4_ := m_ ((by rw [hw]; exact below_set (HB.out) GB29.out : Below w.heap.size w w32)); clear HO_5; clear HO_6; clear HO_7; clear BK305; clear HB; have HO_5 := n0_; have HO_6 := n1_; have HO_7 := n2_; have BK305 := n3_; have HB := n4_; clear n0_ n1_ n2_ n3_ n4_; clear hg hw hp_))
          repeat (go_quiet (first | ((with_reducible refine gate_store (t := 3) (p := 61) rfl ?_); (try (rw [drewN_self wr]; generalize hq_ : World.drewN wr _ = wr; replace HO_5 := m_ (Kd.R_at hq_ HO_5.out); replace HO_6 := m_ (Kd.R_at hq_ HO_6.out); replace HO_7 := m_ (Kd.R_at hq_ HO_7.out); replace BK305 := m_ (blk_at hq_ BK305.out); replace HB := m_ (below_at hq_ HB.out); clear hq_; (try (have HP31 := Kd.R_putg HO_7.out ((ji26) : Int) (wrap64 ((rd x7_2 (ji26)) + x9_2)))))); refine store_event (t := 3) (p := 61) (v := ?vo_w32) (w1 := (wr.setCell ⟨go29, ((ji26) : Int).toNat, none⟩ (.int .i64 (wrap64 ((rd x7_2 (ji26)) + x9_2))))) ?hg ?ho ?hn ?hr ?_; (case ho => rfl); (case hg => rfl); (case hn => rfl); (case hr => first | (go_simp; done) | (go_simp; rfl)); intro w32 hw; have hg : wr.grownBy w32 (some go29) := (by rw [hw]; exact HP31.2); have hp_ : Kd.R (Kd.int .i64) 3 w32 w.heap.size (fun k_ => some k_ ≠ (v307 : Value).ownBlock ∧ some k_ ≠ (v310 : Value).ownBlock) (.slice (some ⟨go29, 0, none⟩) x7_2.length co30) y326 := (by rw [hw, Ny326.out]; exact HP31.1); clear HP31; have n0_ := m_ (Kd.R_after (v := (.slice (some ⟨go29, 0, none⟩) x7_2.length co30)) (v1 := (.slice (some ⟨go29, 0, none⟩) x7_2.length co30)) (ok := (fun k_ => some k_ ≠ (v310 : Value).ownBlock)) (by (with_reducible repeat (first | apply Kd.R_alloc | apply Kd.R_drewN | apply Kd.R_drew)); exact HO_5.out) hg (.inl rfl)); have n1_ := m_ (Kd.R_after (v := (.slice (some ⟨go29, 0, none⟩) x7_2.length co30)) (v1 := (.slice (some ⟨go29, 0, none⟩) x7_2.length co30)) (ok := (fun k_ => some k_ ≠ (v307 : Value).ownBlock)) (by (with_reducible repeat (first | apply Kd.R_alloc | apply Kd.R_drewN | apply Kd.R_drew)); exact HO_6.out) hg (.inl rfl)); have n2_ := m_ (hp_); have n3_ := m_ (blk_grown (by exact BK305.out) hg (Kd.R_ne HO_7.out BK305.out (by decide))); have n4_ := m_ ((by rw [hw]; exact below_set (HB.out) GB29.out : Below w.heap.size w w32)); clear HO_5; clear HO_6; clear HO_7; clear BK305; clear HB; have HO_5 := n0_; have HO_6 := n1_; have HO_7 := n2_; have BK305 := n3_; have HB := n4_; clear n0_ n1_ n2_ n3_ n4_; clear hg hw hp_)); try go_wp2_with (first | ((with_reducible refine gate_store (t := 3) (p := 61) rfl ?_); (try (rw [drewN_self wr]; generalize hq_ : World.drewN wr _ = wr; replace HO_5 := m_ (Kd.R_at hq_ HO_5.out); replace HO_6 := m_ (Kd.R_at hq_ HO_6.out); replace HO_7 := m_ (Kd.R_at hq_ HO_7.out); replace BK305 := m_ (blk_at hq_ BK305.out); replace HB := m_ (below_at hq_ HB.out); clear hq_; (try (have HP31 := Kd.R_putg HO_7.out ((ji26) : Int) (wrap64 ((rd x7_2 (ji26)) + x9_2)))))); refine store_event (t := 3) (p := 61) (v := ?vo_w32) (w1 := (wr.setCell ⟨go29, ((ji26) : Int).toNat, none⟩ (.int .i64 (wrap64 ((rd x7_2 (ji26)) + x9_2))))) ?hg ?ho ?hn ?hr ?_; (case ho => rfl); (case hg => rfl); (case hn => rfl); (case hr => first | (go_simp; done) | (go_simp; rfl)); intro w32 hw; have hg : wr.grownBy w32 (some go29) := (by rw [hw]; exact HP31.2); have hp_ : Kd.R (Kd.int .i64) 3 w32 w.heap.size (fun k_ => some k_ ≠ (v307 : Value).ownBlock ∧ some k_ ≠ (v310 : Value).ownBlock) (.slice (some ⟨go29, 0, none⟩) x7_2.length co30) y326 := (by rw [hw, Ny326.out]; exact HP31.1); clear HP31; have n0_ := m_ (Kd.R_after (v := (.slice (some ⟨go29, 0, none⟩) x7_2.length co30)) (v1 := (.slice (some ⟨go29, 0, none⟩) x7_2.length co30)) (ok := (fun k_ => some k_ ≠ (v310 : Value).ownBlock)) (by (with_reducible repeat (first | apply Kd.R_alloc | apply Kd.R_drewN | apply Kd.R_drew)); exact HO_5.out) hg (.inl rfl)); have n1_ := m_ (Kd.R_after (v := (.slice (some ⟨go29, 0, none⟩) x7_2.length co30)) (v1 := (.slice (some ⟨go29, 0, none⟩) x7_2.length co30)) (ok := (fun k_ => some k_ ≠ (v307 : Value).ownBlock)) (by (with_reducible repeat (first | apply Kd.R_alloc | apply Kd.R_drewN | apply Kd.R_drew)); exact HO_6.out) hg (.inl rfl)); have n2_ := m_ (hp_); have n3_ := m_ (blk_grown (by exact BK305.out) hg (Kd.R_ne HO_7.out BK305.out (by decide))); have n4_ := m_ ((by rw [hw]; exact below_set (HB.out) GB29.out : Below w.heap.size w w32)); clear HO_5; clear HO_6; clear HO_7; clear BK305; clear HB; have HO_5 := n0_; have HO_6 := n1_; have HO_7 := n2_; have BK305 := n3_; have HB := n4_; clear n0_ n1_ n2_ n3_ n4_; clear hg hw hp_)))
          go_roundg k2
          case measure => have := HK1.out; have := HK2.out; omega
          case rel => exact ⟨(y326), (wrap64 (x8_1 + 1)), (by first | rfl | (simp; done) | (simp [*]; done)), H', ⟨by have := HK1.out; have := HK2.out; omega⟩, ⟨by (with_reducible repeat (first | apply Kd.R_alloc | apply Kd.R_drewN | apply Kd.R_drew)); exact HO_5.out⟩, ⟨by (with_reducible repeat (first | apply Kd.R_alloc | apply Kd.R_drewN | apply Kd.R_drew)); exact HO_6.out⟩, ⟨by (with_reducible repeat (first | apply Kd.R_alloc | apply Kd.R_drewN | apply Kd.R_drew)); exact HO_7.out⟩, ⟨by exact BK305.out⟩, ⟨by repeat (with_reducible first | exact HB.out | apply bs_ GE305 | apply below_drew1 | apply pw_below_drewN)⟩⟩
         ·rw [if_neg c28] at H
          exact absurd H (by simp)
        ·rw [if_neg c27] at H
         exact absurd H (by simp)
    ·rw [if_neg c11] at H
     have c11b0 : decide (x8_1 < 4) = false := decide_eq_false c11
     clear c11
     by_cases c33 : 8 ≤ (x7_1.length : Int)
     ·rw [if_pos c33] at H
      have c33b0 := eq_true c33
      have c33b1 : decide (8 ≤ (x7_1.length : Int)) = true := decide_eq_true c33
      clear c33
      obtain ⟨y315, hy315⟩ : ∃ y_ : List Int, y_ = (x7_1.take 8) := ⟨_, rfl⟩
      replace H : ((overfallref01_Value.f k1 y315).bind fun bt319 => (some (bt319.1, bt319.2))) = some (r1, r2) := by first | (rw [hy315]; with_reducible exact H) | (have H2_ := (Option.bind_some _ _).symm.trans H; rw [hy315]; with_reducible exact H2_) | (have H2_ := (Option.bind_some _ _).symm.trans H; with_reducible exact H2_) | with_reducible exact H | (rw [hy315]; exact H) | exact H
      have Ny315 := Aside0.mk hy315
      clear hy315
      replace H := Option.bind_eq_some_iff.mp H
      obtain ⟨⟨t319, t320⟩, A340, H⟩ := H
      replace H : (some (t319, t320)) = some (r1, r2) := H
      have A34 := Aside0.mk A340
      clear A340
      simp only [Option.some.injEq, Prod.mk.injEq] at H
      obtain ⟨rfl, rfl⟩ := H
      obtain ⟨Ao36, co36, eo36⟩ := Kd.R_slice HO_7.out
      subst eo36
      have q35 : (8 : Int) ≤ ((x7_1.length : Int) : Int) := of_decide_eq_true (by first | (with_reducible assumption) | assumption)
      obtain ⟨i035, hi035, _, hsz35, _⟩ := info_parts info3
      have hroom35 : x7_1.length ≤ co36 := (Kd.R_reads' HO_7.out).2.1
      have hC35 : Kd.C (Kd.int .i64) _ Ao36 x7_1.length x7_1 := (Kd.R_reads' HO_7.out).2.2
      have hcut35 := cut_to (P := Try.prog) 64 3 .i64 Try.underlying64 hi035 Ao36 x7_1.length co36 8 (by omega) q35 hroom35
      have hr35 := Kd.C_take (m := 8) hC35 (by omega)
      have hy35 : y315.length = (8 : Int).toNat := (by rw [Ny315.out, List.length_take]; omega)
      rw [← Ny315.out] at hr35
      rw [← hy35] at hcut35
      have HR318 := Aside0.mk hr35
      have HC318 := m_ (show y315.length ≤ co36 from by omega)
      clear hr35 hC35 hroom35 hi035 hsz35
      have KY35 := Aside0.mk hy35
      clear hy35
      have KL35 := m_ (show 8 ≤ x7_1.length from by omega)
      replace q35 := eq_true q35
      go_wp2_with (first | (go_at_call 35; (with_reducible refine (overfallref01_Value.calls k1 _ _ y315 t319 t320 _ ?side1 ?side2 A34.out).mono ?_); (case side1 => repeat (first | exact (by repeat (first | (with_reducible exact HR318.out) | (with_reducible refine Kd.C_alloc ?_ _) | (with_reducible refine Kd.C_drewN ?_ _) | (with_reducible refine Kd.C_drew ?_) | exact HR318.out)) | (with_reducible refine Kd.C_alloc ?_ _) | (with_reducible refine Kd.C_drewN ?_ _) | (with_reducible refine Kd.C_drew ?_))); (case side2 => exact HC318.out); rintro e w37 ⟨rfl, hb⟩; replace HO_5 := m_ (Kd.R_below (by (with_reducible repeat (first | apply Kd.R_alloc | apply Kd.R_drewN | apply Kd.R_drew)); exact HO_5.out) hb); replace HO_6 := m_ (Kd.R_below (by (with_reducible repeat (first | apply Kd.R_alloc | apply Kd.R_drewN | apply Kd.R_drew)); exact HO_6.out) hb); replace HO_7 := m_ (Kd.R_below (by (with_reducible repeat (first | apply Kd.R_alloc | apply Kd.R_drewN | apply Kd.R_drew)); exact HO_7.out) hb); replace BK305 := bb_ BK305 hb; replace HR318 := m_ (Kd.C_below (by repeat (first | (with_reducible exact HR318.out) | (with_reducible refine Kd.C_alloc ?_ _) | (with_reducible refine Kd.C_drewN ?_ _) | (with_reducible refine Kd.C_drew ?_) | exact HR318.out)) hb); replace HB := st_ (by repeat (with_reducible first | exact HB.out | apply bs_ GE305 | apply below_drew1 | apply pw_below_drewN)) hb; (try clear hb); obtain ⟨hcz38_0, hcz38_1, hfz38_0, hfz38_1⟩ := cf2 BK305))
      repeat (go_quiet (first | (go_at_call 35; (with_reducible refine (overfallref01_Value.calls k1 _ _ y315 t319 t320 _ ?side1 ?side2 A34.out).mono ?_); (case side1 => repeat (first | exact (by repeat (first | (with_reducible exact HR318.out) | (with_reducible refine Kd.C_alloc ?_ _) | (with_reducible refine Kd.C_drewN ?_ _) | (with_reducible refine Kd.C_drew ?_) | exact HR318.out)) | (with_reducible refine Kd.C_alloc ?_ _) | (with_reducible refine Kd.C_drewN ?_ _) | (with_reducible refine Kd.C_drew ?_))); (case side2 => exact HC318.out); rintro e w37 ⟨rfl, hb⟩; replace HO_5 := m_ (Kd.R_below (by (with_reducible repeat (first | apply Kd.R_alloc | apply Kd.R_drewN | apply Kd.R_drew)); exact HO_5.out) hb); replace HO_6 := m_ (Kd.R_below (by (with_reducible repeat (first | apply Kd.R_alloc | apply Kd.R_drewN | apply Kd.R_drew)); exact HO_6.out) hb); replace HO_7 := m_ (Kd.R_below (by (with_reducible repeat (first | apply Kd.R_alloc | apply Kd.R_drewN | apply Kd.R_drew)); exact HO_7.out) hb); replace BK305 := bb_ BK305 hb; replace HR318 := m_ (Kd.C_below (by repeat (first | (with_reducible exact HR318.out) | (with_reducible refine Kd.C_alloc ?_ _) | (with_reducible refine Kd.C_drewN ?_ _) | (with_reducible refine Kd.C_drew ?_) | exact HR318.out)) hb); replace HB := st_ (by repeat (with_reducible first | exact HB.out | apply bs_ GE305 | apply below_drew1 | apply pw_below_drewN)) hb; (try clear hb); obtain ⟨hcz38_0, hcz38_1, hfz38_0, hfz38_1⟩ := cf2 BK305)); try go_wp2_with (first | (go_at_call 35; (with_reducible refine (overfallref01_Value.calls k1 _ _ y315 t319 t320 _ ?side1 ?side2 A34.out).mono ?_); (case side1 => repeat (first | exact (by repeat (first | (with_reducible exact HR318.out) | (with_reducible refine Kd.C_alloc ?_ _) | (with_reducible refine Kd.C_drewN ?_ _) | (with_reducible refine Kd.C_drew ?_) | exact HR318.out)) | (with_reducible refine Kd.C_alloc ?_ _) | (with_reducible refine Kd.C_drewN ?_ _) | (with_reducible refine Kd.C_drew ?_))); (case side2 => exact HC318.out); rintro e w37 ⟨rfl, hb⟩; replace HO_5 := m_ (Kd.R_below (by (with_reducible repeat (first | apply Kd.R_alloc | apply Kd.R_drewN | apply Kd.R_drew)); exact HO_5.out) hb); replace HO_6 := m_ (Kd.R_below (by (with_reducible repeat (first | apply Kd.R_alloc | apply Kd.R_drewN | apply Kd.R_drew)); exact HO_6.out) hb); replace HO_7 := m_ (Kd.R_below (by (with_reducible repeat (first | apply Kd.R_alloc | apply Kd.R_drewN | apply Kd.R_drew)); exact HO_7.out) hb); replace BK305 := bb_ BK305 hb; replace HR318 := m_ (Kd.C_below (by repeat (first | (with_reducible exact HR318.out) | (with_reducible refine Kd.C_alloc ?_ _) | (with_reducible refine Kd.C_drewN ?_ _) | (with_reducible refine Kd.C_drew ?_) | exact HR318.out)) hb); replace HB := st_ (by repeat (with_reducible first | exact HB.out | apply bs_ GE305 | apply below_drew1 | apply pw_below_drewN)) hb; (try clear hb); obtain ⟨hcz38_0, hcz38_1, hfz38_0, hfz38_1⟩ := cf2 BK305)))
      refine bodyPost_ret (results_cell_row rfl _ _ gb305 50 #[.int .u64 t319, .int .u64 t320] (0, 0) _ rfl (by apply put2_; exact BK305.out) Try.underlying50 rfl (by kernel_rfl)) rfl ?_
      exact ⟨by first | rfl | (simp [errW_none, errW_some] <;> rfl) | (simp [*, errW_none, errW_some] <;> rfl), by repeat (with_reducible first | exact HB.out | apply bs_ GE305 | apply below_drew1 | apply pw_below_drewN)⟩
     ·rw [if_neg c33] at H
      exact absurd H (by simp)
 ·rw [if_neg c5] at H
  exact absurd H (by simp)

/-! ### overfallref02_Mul: function 13 -/
def overfallref02_Mul.f (k : Nat) (a0 : Int) (a1 : Int) : Option (Int) := (overfallref02_Size.f a0).bind fun bt327 => ((overfallref02_Size.f a1).bind fun bt331 => ((overfallref01_Mul.f k bt327.2.1 bt331.2.1).bind fun bt335 => ((overfallref02_Back.f k bt335.1 bt335.2 (bt327.2.2 != bt331.2.2)).bind fun t337 => (some t337))))
theorem overfallref02_Mul.mono : ∀ a0 a1 k, LeO (overfallref02_Mul.f k a0 a1) (overfallref02_Mul.f (k + 1) a0 a1) := by
 intro a0 a1 k
 unfold overfallref02_Mul.f
 repeat' first
   | (with_reducible exact overfallref01_Mul.mono _ _ _)
   | (with_reducible exact overfallref02_Back.mono _ _ _ _)
   | (with_reducible exact LeO.refl _)
   | (with_reducible exact LeO.none _)
   | (with_reducible refine LeO.ite ?_ ?_)
   | (with_reducible refine LeO.bind ?_ (fun _ => ?_))
   | exact overfallref01_Mul.mono _ _ _
   | exact overfallref02_Back.mono _ _ _ _
   | exact LeO.none _
   | refine LeO.ite ?_ ?_
   | refine LeO.bind ?_ (fun _ => ?_)
set_option maxHeartbeats 8000000 in
set_option maxRecDepth 100000 in
theorem overfallref02_Mul.calls (k : Nat) (a0 : Int) (a1 : Int) (r : Int) (w : World) (h : overfallref02_Mul.f k a0 a1 = some r) :
  Calls Try.prog 13 #[.int .i64 a0, .int .i64 a1] w fun e w' => e = .returned (.int .i64 r) ∧ Below w.heap.size w w' := by
 have hu50 := Try.underlying50
 have HB := m_ (Below.refl w.heap.size w)
 have H : ((overfallref02_Size.f a0).bind fun bt327 => ((overfallref02_Size.f a1).bind fun bt331 => ((overfallref01_Mul.f k bt327.2.1 bt331.2.1).bind fun bt335 => ((overfallref02_Back.f k bt335.1 bt335.2 (bt327.2.2 != bt331.2.2)).bind fun t337 => (some t337))))) = some r := h
 clear h
 replace H := Option.bind_eq_some_iff.mp H
 obtain ⟨⟨t327, t328, t329⟩, A30, H⟩ := H
 replace H : ((overfallref02_Size.f a1).bind fun bt331 => ((overfallref01_Mul.f k t328 bt331.2.1).bind fun bt335 => ((overfallref02_Back.f k bt335.1 bt335.2 (t329 != bt331.2.2)).bind fun t337 => (some t337)))) = some r := H
 have A3 := Aside0.mk A30
 clear A30
 replace H := Option.bind_eq_some_iff.mp H
 obtain ⟨⟨t331, t332, t333⟩, A40, H⟩ := H
 replace H : ((overfallref01_Mul.f k t328 t332).bind fun bt335 => ((overfallref02_Back.f k bt335.1 bt335.2 (t329 != t333)).bind fun t337 => (some t337))) = some r := H
 have A4 := Aside0.mk A40
 clear A40
 replace H := Option.bind_eq_some_iff.mp H
 obtain ⟨⟨t335, t336⟩, A50, H⟩ := H
 replace H : ((overfallref02_Back.f k t335 t336 (t329 != t333)).bind fun t337 => (some t337)) = some r := H
 have A5 := Aside0.mk A50
 clear A50
 replace H := Option.bind_eq_some_iff.mp H
 obtain ⟨t337, A60, H⟩ := H
 replace H : (some t337) = some r := H
 have A6 := Aside0.mk A60
 clear A60
 obtain rfl := Option.some.inj H
 go_enter Try.func13, Try.ntmps13
 go_wp2_with (first | ((with_reducible refine gate_callee (f := 22) rfl ?_); refine goesL_ (some 11) rfl rfl Try.func22 (by kernel_rfl) rfl #[.int .i64 a0] rfl (by first | rfl | (simp only [List.map_toArray, List.map_cons, List.map_nil]; first | done | rfl)) ?_; (with_reducible refine (overfallref02_Size.calls a0 t327 t328 t329 _ A3.out).mono ?_); rintro e w7 ⟨rfl, hb⟩; refine ⟨_, rfl, ?_⟩; replace HB := st_ (by repeat (with_reducible first | exact HB.out)) hb; (try clear hb)) | ((with_reducible refine gate_dst (N := 5) rfl ?_); refine box_event ?hg (N := 5) ?hd (cs := #[.int .u64 0, .int .u64 0]) (t := 50) ?hr ?_; (case hd => rfl); (case hg => rfl); (case hr => first | (go_simp; done) | (go_simp; rfl)); intro gb330 hg w8 hbox hb; have BK330 := m_ (hbox); have GW330 := ge_ (by repeat (with_reducible first | exact HB.out)) hg; have GE330 := GW330; replace HB := st_ (by repeat (with_reducible first | exact HB.out)) hb; clear hb hbox hg; obtain ⟨hcz9_0, hcz9_1, hfz9_0, hfz9_1⟩ := cf2 BK330) | ((with_reducible refine gate_callee (f := 22) rfl ?_); refine goesL_ (some 16) rfl rfl Try.func22 (by kernel_rfl) rfl #[.int .i64 a1] rfl (by first | rfl | (simp only [List.map_toArray, List.map_cons, List.map_nil]; first | done | rfl)) ?_; (with_reducible refine (overfallref02_Size.calls a1 t331 t332 t333 _ A4.out).mono ?_); rintro e w10 ⟨rfl, hb⟩; refine ⟨_, rfl, ?_⟩; replace BK330 := m_ (blk_below (g := gb330) (o := .cells #[.int .u64 t327, .int .u64 t328] 50 (0, 0)) (by apply put2_; exact BK330.out) hb); replace HB := st_ (by repeat (with_reducible first | exact HB.out | apply bs_ GE330)) hb; (try clear hb)) | ((with_reducible refine gate_dst (N := 7) rfl ?_); refine box_event ?hg (N := 7) ?hd (cs := #[.int .u64 0, .int .u64 0]) (t := 50) ?hr ?_; (case hd => rfl); (case hg => rfl); (case hr => first | (go_simp; done) | (go_simp; rfl)); intro gb334 hg w11 hbox hb; have BK334 := m_ (hbox); have GW334 := ge_ (by repeat (with_reducible first | exact HB.out | apply bs_ GE330)) hg; have GE334 := GW334; have NB330_334 := nl_ BK330 hg; have NB334_330 := ng_ BK330 hg; replace BK330 := bb_ BK330 hb; replace HB := st_ (by repeat (with_reducible first | exact HB.out | apply bs_ GE330)) hb; clear hb hbox hg; have hnb12 := NB334_330.out; have hnc12 := NB330_334.out; obtain ⟨hcz13_0, hcz13_1, hfz13_0, hfz13_1⟩ := cf2 BK334; obtain ⟨hcz14_0, hcz14_1, hfz14_0, hfz14_1⟩ := cf2 BK330) | ((with_reducible refine gate_callee (f := 30) rfl ?_); refine goesL_ (some 23) rfl rfl Try.func30 (by kernel_rfl) rfl #[.int .u64 t328, .int .u64 t332] rfl (by first | rfl | (simp only [List.map_toArray, List.map_cons, List.map_nil]; first | done | rfl)) ?_; (with_reducible refine (overfallref01_Mul.calls k t328 t332 t335 t336 _ A5.out).mono ?_); rintro e w15 ⟨rfl, hb⟩; refine ⟨_, rfl, ?_⟩; replace BK330 := m_ (blk_below (g := gb330) (o := .cells #[.int .u64 t327, .int .u64 t328] 50 (0, 0)) (by refine far2_ NB330_334 ?_; exact BK330.out) hb); replace BK334 := m_ (blk_below (g := gb334) (o := .cells #[.int .u64 t331, .int .u64 t332] 50 (0, 0)) (by apply put2_; exact BK334.out) hb); replace HB := st_ (by repeat (with_reducible first | exact HB.out | apply bs_ GE330 | apply bs_ GE334)) hb; (try clear hb)) | ((with_reducible refine gate_callee (f := 24) rfl ?_); refine goesL_ (some 27) rfl rfl Try.func24 (by kernel_rfl) rfl #[.agg #[.int .u64 t335, .int .u64 t336], .bool (t329 != t333)] rfl (by first | rfl | (simp only [List.map_toArray, List.map_cons, List.map_nil]; first | done | rfl)) ?_; (with_reducible refine (overfallref02_Back.calls k t335 t336 (t329 != t333) t337 _ A6.out).mono ?_); rintro e w16 ⟨rfl, hb⟩; refine ⟨_, rfl, ?_⟩; replace BK330 := bb_ BK330 hb; replace BK334 := bb_ BK334 hb; replace HB := st_ (by repeat (with_reducible first | exact HB.out | apply bs_ GE330 | apply bs_ GE334)) hb; (try clear hb)))
 go_ret
 exact ⟨by first | rfl | (simp [errW_none, errW_some] <;> rfl) | (simp [*, errW_none, errW_some] <;> rfl), by repeat (with_reducible first | exact HB.out | apply bs_ GE330 | apply bs_ GE334)⟩

end Go.Proofs.Ytiiffgmbkajkhaa.L

-- Laid by a program of this claim's session (wip/tools/myprint.py) over the kit's printer.
import Derived.Test.YtiiffgmbkajkhaaLx0
import Derived.Test.YtiiffgmbkajkhaaLx7
namespace Go.Proofs.Ytiiffgmbkajkhaa.L
open Go.RowKit Go.Proofs.YtiiffgmbkajkhaaW.PrintWords Go.Proofs.YtiiffgmbkajkhaaW.PrintLast Go.Proofs.YtiiffgmbkajkhaaW.PrintMore
attribute [local go_sem] max2_int min2_int max_two min_two max_three min_three max_four min_four   -- for this text's walks alone
set_option linter.unusedVariables false
set_option linter.unusedSimpArgs false

/-! ### overfallref01_Add: function 23 -/
def overfallref01_Add.l0 : Nat → List Int → List Int → Int → Int → Option (Int × Int × Bool)
 | 0, _, _, _, _ => none
 | k + 1, x6, x7, x8, x9 => if x9 < 8 then (if 0 ≤ x9 then (if x9 < (x6.length : Int) then (if x9 < (x7.length : Int) then (overfallref01_Add.l0 k (x6.set (x9 : Int).toNat (Int.tmod (wrap64 ((wrap64 ((rd x6 x9) + (rd x7 x9))) + x8)) 65536)) x7 (wrap64 (Int.tdiv (wrap64 ((wrap64 ((rd x6 x9) + (rd x7 x9))) + x8)) 65536)) (wrap64 (x9 + 1))) else (none)) else (none)) else (none)) else ((overfallref01_Value.f k x6).bind fun bt260 => (some (bt260.1, bt260.2, decide (x8 > 0))))
def overfallref01_Add.f (k : Nat) (a0_0 : Int) (a0_1 : Int) (a1_0 : Int) (a1_1 : Int) : Option (Int × Int × Bool) := (overfallref01_Digits.f k a0_0 a0_1).bind fun t251 => ((overfallref01_Digits.f k a1_0 a1_1).bind fun t254 => (overfallref01_Add.l0 k t251 t254 0 0))
theorem overfallref01_Add.mono_l : ∀ k, (∀ y0 y1 y2 y3, LeO (overfallref01_Add.l0 k y0 y1 y2 y3) (overfallref01_Add.l0 (k + 1) y0 y1 y2 y3))
 | 0 => fun _ _ _ _ r h => by simp [overfallref01_Add.l0] at h
 | k + 1 => by
  have ih0 := overfallref01_Add.mono_l k
  ·intro y0 y1 y2 y3
   unfold overfallref01_Add.l0
   repeat' first
   | (with_reducible exact ih0 _ _ _ _)
   | (with_reducible exact overfallref01_Digits.mono _ _ _)
   | (with_reducible exact overfallref01_Value.mono _ _)
   | (with_reducible exact LeO.refl _)
   | (with_reducible exact LeO.none _)
   | (with_reducible refine LeO.ite ?_ ?_)
   | (with_reducible refine LeO.bind ?_ (fun _ => ?_))
   | exact ih0 _ _ _ _
   | exact overfallref01_Digits.mono _ _ _
   | exact overfallref01_Value.mono _ _
   | exact LeO.none _
   | refine LeO.ite ?_ ?_
   | refine LeO.bind ?_ (fun _ => ?_)
theorem overfallref01_Add.mono : ∀ a0 a1 a2 a3 k, LeO (overfallref01_Add.f k a0 a1 a2 a3) (overfallref01_Add.f (k + 1) a0 a1 a2 a3) := by
 intro a0 a1 a2 a3 k
 have ih0 := overfallref01_Add.mono_l k
 unfold overfallref01_Add.f
 repeat' first
   | (with_reducible exact ih0 _ _ _ _)
   | (with_reducible exact overfallref01_Digits.mono _ _ _)
   | (with_reducible exact overfallref01_Value.mono _ _)
   | (with_reducible exact LeO.refl _)
   | (with_reducible exact LeO.none _)
   | (with_reducible refine LeO.ite ?_ ?_)
   | (with_reducible refine LeO.bind ?_ (fun _ => ?_))
   | exact ih0 _ _ _ _
   | exact overfallref01_Digits.mono _ _ _
   | exact overfallref01_Value.mono _ _
   | exact LeO.none _
   | refine LeO.ite ?_ ?_
   | refine LeO.bind ?_ (fun _ => ?_)
def overfallref01_Add.T6 : Bool × List (List Nat × List Nat) := (true, [([], []), ([], []), ([0, 1], [0, 1]), ([2], [2]), ([], []), ([], []), ([4, 5], [4, 5]), ([6], [6]), ([3, 7], [3, 7]), ([], []), ([8, 9], [8, 9]), ([10, 0, 1, 2, 3, 4, 5, 6, 7, 8, 9, 10], [10])])
def overfallref01_Add.B6 : List Nat := [0, 0, 3, 7, 0, 0, 48, 112, 255, 0, 1023, 2047]
theorem overfallref01_Add.tab6 : rtab .any (opsOf Try.f23 6) = overfallref01_Add.T6 := by kernel_rfl
theorem overfallref01_Add.bits6 : waitsOk overfallref01_Add.T6.2 overfallref01_Add.B6 = true := by kernel_rfl
set_option maxHeartbeats 8000000 in
set_option maxRecDepth 100000 in
theorem overfallref01_Add.calls (k : Nat) (a0_0 : Int) (a0_1 : Int) (a1_0 : Int) (a1_1 : Int) (r1 : Int) (r2 : Int) (r3 : Bool) (w : World) (h : overfallref01_Add.f k a0_0 a0_1 a1_0 a1_1 = some (r1, r2, r3)) :
  Calls Try.prog 23 #[.agg #[.int .u64 a0_0, .int .u64 a0_1], .agg #[.int .u64 a1_0, .int .u64 a1_1]] w fun e w' => e = .returned (.tuple #[.agg #[.int .u64 r1, .int .u64 r2], .bool r3]) ∧ Below w.heap.size w w' := by
 have hu50 := Try.underlying50
 have HB := m_ (Below.refl w.heap.size w)
 have H : ((overfallref01_Digits.f k a0_0 a0_1).bind fun t251 => ((overfallref01_Digits.f k a1_0 a1_1).bind fun t254 => (overfallref01_Add.l0 k t251 t254 0 0))) = some (r1, r2, r3) := h
 clear h
 replace H := Option.bind_eq_some_iff.mp H
 obtain ⟨t251, A30, H⟩ := H
 replace H : ((overfallref01_Digits.f k a1_0 a1_1).bind fun t254 => (overfallref01_Add.l0 k t251 t254 0 0)) = some (r1, r2, r3) := H
 have A3 := Aside0.mk A30
 clear A30
 replace H := Option.bind_eq_some_iff.mp H
 obtain ⟨t254, A40, H⟩ := H
 replace H : (overfallref01_Add.l0 k t251 t254 0 0) = some (r1, r2, r3) := H
 have A4 := Aside0.mk A40
 clear A40
 have H' := Aside0.mk H
 clear H
 go_enter Try.func23, Try.ntmps23
 try go_wp2_with (first | ((with_reducible refine gate_dst (N := 2) rfl ?_); refine box_event ?hg (N := 2) ?hd (cs := #[.int .u64 a0_0, .int .u64 a0_1]) (t := 50) ?hr ?_; (case hd => rfl); (case hg => rfl); (case hr => first | (go_simp; done) | (go_simp; rfl)); intro gb248 hg w5 hbox hb; have BK248 := m_ (hbox); have GW248 := ge_ (by repeat (with_reducible first | exact HB.out)) hg; have GE248 := GW248; replace HB := st_ (by repeat (with_reducible first | exact HB.out)) hb; clear hb hbox hg) | ((with_reducible refine gate_dst (N := 3) rfl ?_); refine box_event ?hg (N := 3) ?hd (cs := #[.int .u64 a1_0, .int .u64 a1_1]) (t := 50) ?hr ?_; (case hd => rfl); (case hg => rfl); (case hr => first | (go_simp; done) | (go_simp; rfl)); intro gb249 hg w6 hbox hb; have BK249 := m_ (hbox); have GW249 := ge_ (by repeat (with_reducible first | exact HB.out | apply bs_ GE248)) hg; have GE249 := GW249; have NB248_249 := nl_ BK248 hg; have NB249_248 := ng_ BK248 hg; replace BK248 := bb_ BK248 hb; replace HB := st_ (by repeat (with_reducible first | exact HB.out | apply bs_ GE248)) hb; clear hb hbox hg) | ((with_reducible refine gate_dst (N := 4) rfl ?_); refine box_event ?hg (N := 4) ?hd (cs := #[.int .u64 0, .int .u64 0]) (t := 50) ?hr ?_; (case hd => rfl); (case hg => rfl); (case hr => first | (go_simp; done) | (go_simp; rfl)); intro gb250 hg w7 hbox hb; have BK250 := m_ (hbox); have GW250 := ge_ (by repeat (with_reducible first | exact HB.out | apply bs_ GE248 | apply bs_ GE249)) hg; have GE250 := GW250; have NB248_250 := nl_ BK248 hg; have NB250_248 := ng_ BK248 hg; have NB249_250 := nl_ BK249 hg; have NB250_249 := ng_ BK249 hg; replace BK248 := bb_ BK248 hb; replace BK249 := bb_ BK249 hb; replace HB := st_ (by repeat (with_reducible first | exact HB.out | apply bs_ GE248 | apply bs_ GE249)) hb; clear hb hbox hg))
 replace BK248 := m_ (blk_drew BK248.out)
 replace BK249 := m_ (blk_drew BK249.out)
 replace BK250 := m_ (blk_drew BK250.out)
 replace HB := m_ (below_drew1 HB.out)
 refine start_ (n := 6) (S := fun w' => w'.cell? ⟨gb248, 0, none⟩ = some (.int .u64 a0_0) ∧ w'.cell? ⟨gb248, 1, none⟩ = some (.int .u64 a0_1) ∧ w'.cell? ⟨gb249, 0, none⟩ = some (.int .u64 a1_0) ∧ w'.cell? ⟨gb249, 1, none⟩ = some (.int .u64 a1_1)) (ds := []) #[false, false, false, false, false, false] (by kernel_rfl) rfl rfl ⟨(blk_cell BK248.out 0).trans rfl, (blk_cell BK248.out 1).trans rfl, (blk_cell BK249.out 0).trans rfl, (blk_cell BK249.out 1).trans rfl⟩ (fun hHeld => ?_)
 generalize w7.drew = w8 at BK248 BK249 BK250 HB hHeld ⊢
 refine take_ (i := 0) (N := some 11) (v := ?_) (a' := ?_) #[true, false, false, false, false, false] rfl rfl (by kernel_rfl) (fun _ _ _ h => h) (Or.inl ⟨by rfl, ?_⟩) hHeld ?_ ?_
 rotate_left
 ·rintro w' ⟨s0, s1, s2, s3⟩
  go_simp
  with_reducible rfl
 rotate_left
 ·simp only [Act.put, sa_, s0_, ss_, i64_w, i32_w]
  rfl
 refine take_ (i := 2) (N := some 13) (v := ?_) (a' := ?_) #[true, false, true, false, false, false] rfl rfl (by kernel_rfl) (fun _ _ _ h => h) (Or.inl ⟨by rfl, ?_⟩) hHeld ?_ ?_
 rotate_left
 ·rintro w' ⟨s0, s1, s2, s3⟩
  go_simp
  with_reducible rfl
 rotate_left
 ·simp only [Act.put, sa_, s0_, ss_, i64_w, i32_w]
  rfl
 refine one_ (i := 1) (N := some 12) #[true, true, true, false, false, false] rfl rfl (by kernel_rfl) (by decide) (fun K hK => ?_)
 refine goes_ Try.func34 (by kernel_rfl) rfl #[.agg #[.int .u64 a0_0, .int .u64 a0_1]] (by rfl) rfl rfl (by first | rfl | (simp only [List.map_toArray, List.map_cons, List.map_nil]; first | done | rfl)) ?_
 with_reducible refine (overfallref01_Digits.calls k a0_0 a0_1 t251 _ A3.out).mono ?_
 rintro e w9 ⟨v252, rfl, ho0, hb⟩
 refine ⟨_, rfl, ?_⟩
 have HO253 := m_ (Kd.R_lower ho0 (below_size (by repeat (with_reducible first | exact HB.out | apply bs_ GE248 | apply bs_ GE249 | apply bs_ GE250))))
 replace BK248 := bb_ BK248 hb
 replace BK249 := bb_ BK249 hb
 replace BK250 := bb_ BK250 hb
 replace HB := st_ (by repeat (with_reducible first | exact HB.out | apply bs_ GE248 | apply bs_ GE249 | apply bs_ GE250)) hb
 (try clear hb)
 (try clear hb2)
 (try clear hk)
 (try clear hi)
 (try clear ho0)
 refine hK.out _ _ ⟨(blk_cell BK248.out 0).trans rfl, (blk_cell BK248.out 1).trans rfl, (blk_cell BK249.out 0).trans rfl, (blk_cell BK249.out 1).trans rfl⟩ (fun hHeld => ?_)
 clear hK K
 refine norm_ (a' := ?_) ?_ ?_
 rotate_left
 ·show Act.put _ (some 12) _ = _
  simp only [Act.put, sa_, s0_, ss_, i64_w, i32_w]
  rfl
 refine one_ (i := 3) (N := some 14) #[true, true, true, true, false, false] rfl rfl (by kernel_rfl) (by decide) (fun K hK => ?_)
 refine goes_ Try.func34 (by kernel_rfl) rfl #[.agg #[.int .u64 a1_0, .int .u64 a1_1]] (by rfl) rfl rfl (by first | rfl | (simp only [List.map_toArray, List.map_cons, List.map_nil]; first | done | rfl)) ?_
 with_reducible refine (overfallref01_Digits.calls k a1_0 a1_1 t254 _ A4.out).mono ?_
 rintro e w10 ⟨v255, rfl, ho0, hb⟩
 refine ⟨_, rfl, ?_⟩
 have HO256 := m_ (Kd.R_lower (Kd.R_new' ho0 (Kd.R_lt (by (with_reducible repeat (first | apply Kd.R_alloc | apply Kd.R_drewN | apply Kd.R_drew)); exact HO253.out))) (below_size (by repeat (with_reducible first | exact HB.out | apply bs_ GE248 | apply bs_ GE249 | apply bs_ GE250))))
 replace HO253 := m_ (Kd.R_elder' (by (with_reducible repeat (first | apply Kd.R_alloc | apply Kd.R_drewN | apply Kd.R_drew)); exact HO253.out) (Kd.R_base ho0) hb)
 replace BK248 := bb_ BK248 hb
 replace BK249 := bb_ BK249 hb
 replace BK250 := bb_ BK250 hb
 replace HB := st_ (by repeat (with_reducible first | exact HB.out | apply bs_ GE248 | apply bs_ GE249 | apply bs_ GE250)) hb
 (try clear hb)
 (try clear hb2)
 (try clear hk)
 (try clear hi)
 (try clear ho0)
 refine hK.out _ _ ⟨(blk_cell BK248.out 0).trans rfl, (blk_cell BK248.out 1).trans rfl, (blk_cell BK249.out 0).trans rfl, (blk_cell BK249.out 1).trans rfl⟩ (fun hHeld => ?_)
 clear hK K
 refine norm_ (a' := ?_) ?_ ?_
 rotate_left
 ·show Act.put _ (some 14) _ = _
  simp only [Act.put, sa_, s0_, ss_, i64_w, i32_w]
  rfl
 refine pure_ (i := 4) (N := some 6) (v := ?_) (a' := ?_) #[true, true, true, true, true, false] rfl rfl (by kernel_rfl) (fun _ _ _ h => h) (Or.inl ⟨by rfl, ?_⟩) ?_ ?_
 rotate_left
 ·intro w'
  go_simp
  with_reducible rfl
 rotate_left
 ·simp only [Act.put, sa_, s0_, ss_, i64_w, i32_w]
  rfl
 refine pure_ (i := 5) (N := some 7) (v := ?_) (a' := ?_) #[true, true, true, true, true, true] rfl rfl (by kernel_rfl) (fun _ _ _ h => h) (Or.inl ⟨by rfl, ?_⟩) ?_ ?_
 rotate_left
 ·intro w'
  go_simp
  with_reducible rfl
 rotate_left
 ·simp only [Act.put, sa_, s0_, ss_, i64_w, i32_w]
  rfl
 refine done_ (by kernel_rfl) ?_
 try go_wp2
 go_loopg [8, 9] k (fun kq v8 v9 w' => ∃ (x6_1 : List Int) (x8_1 : Int) (x9_1 : Int), v8 = .int .i64 x8_1 ∧ v9 = .int .i64 x9_1 ∧ Aside0 (overfallref01_Add.l0 kq x6_1 t254 x8_1 x9_1 = some (r1, r2, r3)) ∧ Aside0 (kq ≤ k) ∧ Aside0 (Kd.R (Kd.int .i64) 3 w' w.heap.size (fun k_ => some k_ ≠ (v255 : Value).ownBlock) v252 x6_1) ∧ Aside0 (Kd.R (Kd.int .i64) 3 w' w.heap.size (fun k_ => some k_ ≠ (v252 : Value).ownBlock) v255 t254) ∧ Aside0 (w'.heap[gb248]? = some (.cells #[.int .u64 a0_0, .int .u64 a0_1] 50 (0, 0))) ∧ Aside0 (w'.heap[gb249]? = some (.cells #[.int .u64 a1_0, .int .u64 a1_1] 50 (0, 0))) ∧ Aside0 (w'.heap[gb250]? = some (.cells #[.int .u64 0, .int .u64 0] 50 (0, 0))) ∧ Aside0 (Below w.heap.size w w'))
 case atStart => exact ⟨(t251), (0), (0), (by first | rfl | (simp; done) | (simp [*]; done)), (by first | rfl | (simp; done) | (simp [*]; done)), H', ⟨Nat.le_refl _⟩, ⟨by (with_reducible repeat (first | apply Kd.R_alloc | apply Kd.R_drewN | apply Kd.R_drew)); exact Kd.R_mono HO253.out (fun _ hk => hk.2)⟩, ⟨by (with_reducible repeat (first | apply Kd.R_alloc | apply Kd.R_drewN | apply Kd.R_drew)); exact Kd.R_mono HO256.out (fun _ hk => hk.2)⟩, ⟨by exact BK248.out⟩, ⟨by exact BK249.out⟩, ⟨by exact BK250.out⟩, ⟨by repeat (with_reducible first | exact HB.out | apply bs_ GE248 | apply bs_ GE249 | apply bs_ GE250)⟩⟩
 case round =>
  clear H'
  try clear c2
  try clear p2
  try clear c3
  obtain ⟨x6_1, x8_1, x9_1, rfl, rfl, HA, HK1, HO_6, HO_7, BK248, BK249, BK250, HB⟩ := hrel
  cases gk with
  | zero => exact absurd HA.out (by simp [overfallref01_Add.l0])
  | succ k1 =>
   have H := HA.out
   clear HA
   simp only [overfallref01_Add.l0] at H
   by_cases c11 : x9_1 < 8
   ·rw [if_pos c11] at H
    have c11b0 : decide (x9_1 < 8) = true := decide_eq_true c11
    clear c11
    by_cases c12 : 0 ≤ x9_1
    ·rw [if_pos c12] at H
     have c12b0 : decide (0 ≤ x9_1) = true := decide_eq_true c12
     clear c12
     by_cases c13 : x9_1 < (x6_1.length : Int)
     ·rw [if_pos c13] at H
      have c13b0 : decide (x9_1 < (x6_1.length : Int)) = true := decide_eq_true c13
      clear c13
      by_cases c14 : x9_1 < (t254.length : Int)
      ·rw [if_pos c14] at H
       have c14b0 : decide (x9_1 < (t254.length : Int)) = true := decide_eq_true c14
       clear c14
       obtain ⟨y259, hy259⟩ : ∃ y_ : List Int, y_ = (x6_1.set (x9_1 : Int).toNat (Int.tmod (wrap64 ((wrap64 ((rd x6_1 x9_1) + (rd t254 x9_1))) + x8_1)) 65536)) := ⟨_, rfl⟩
       replace H : (overfallref01_Add.l0 k1 y259 t254 (wrap64 (Int.tdiv (wrap64 ((wrap64 ((rd x6_1 x9_1) + (rd t254 x9_1))) + x8_1)) 65536)) (wrap64 (x9_1 + 1))) = some (r1, r2, r3) := by first | (rw [hy259]; with_reducible exact H) | (have H2_ := (Option.bind_some _ _).symm.trans H; rw [hy259]; with_reducible exact H2_) | (have H2_ := (Option.bind_some _ _).symm.trans H; with_reducible exact H2_) | with_reducible exact H | (rw [hy259]; exact H) | exact H
       have Ny259 := Aside0.mk hy259
       clear hy259
       have H' := Aside0.mk H
       clear H
       try go_wp2
       replace HO_6 := m_ (Kd.R_drew HO_6.out)
       replace HO_7 := m_ (Kd.R_drew HO_7.out)
       replace BK248 := m_ (blk_drew BK248.out)
       replace BK249 := m_ (blk_drew BK249.out)
       replace BK250 := m_ (blk_drew BK250.out)
       replace HB := m_ (below_drew1 HB.out)
       obtain ⟨Ao17, co17, eo17⟩ := Kd.R_slice HO_6.out
       (first | subst eo17 | (injection eo17 with f1_ f2_ f3_; have f4_ := f1_.symm; have f5_ := f3_.symm; clear f1_ f2_ f3_; subst f4_; subst f5_))
       have p257 : 0 ≤ (x9_1 : Int) := of_decide_eq_true (by first | (with_reducible assumption) | assumption)
       have q257 : x9_1 < (x6_1.length : Int) := of_decide_eq_true (by first | (with_reducible assumption) | assumption)
       obtain ⟨ad257, e257, hx257_0⟩ := Kd.at_int (Kd.R_reads' HO_6.out).2.2 x9_1 p257 q257
       cases e257
       replace p257 := eq_true p257
       replace q257 := eq_true q257
       obtain ⟨Ao18, co18, eo18⟩ := Kd.R_slice HO_7.out
       (first | subst eo18 | (injection eo18 with f1_ f2_ f3_; have f4_ := f1_.symm; have f5_ := f3_.symm; clear f1_ f2_ f3_; subst f4_; subst f5_))
       have p258 : 0 ≤ (x9_1 : Int) := of_decide_eq_true (by first | (with_reducible assumption) | assumption)
       have q258 : x9_1 < (t254.length : Int) := of_decide_eq_true (by first | (with_reducible assumption) | assumption)
       obtain ⟨ad258, e258, hx258_0⟩ := Kd.at_int (Kd.R_reads' HO_7.out).2.2 x9_1 p258 q258
       cases e258
       replace p258 := eq_true p258
       replace q258 := eq_true q258
       refine start_ (n := 12) (S := fun w' => w'.cell? (ad257.add (x9_1).toNat) = some (.int .i64 (rd x6_1 x9_1)) ∧ w'.cell? (ad258.add (x9_1).toNat) = some (.int .i64 (rd t254 x9_1))) (ds := []) #[false, false, false, false, false, false, false, false, false, false, false, false] (by kernel_rfl) rfl rfl ⟨hx257_0, hx258_0⟩ (fun hHeld => ?_); refine with_tabW overfallref01_Add.tab6 overfallref01_Add.bits6 (fun HT_ HW_ => ?_)
       generalize wr.drew = w16 at HO_6 HO_7 BK248 BK249 BK250 HB hx257_0 hx258_0 hHeld ⊢
       refine pure_ (i := 0) (N := some 19) (v := ?_) (a' := ?_) #[true, false, false, false, false, false, false, false, false, false, false, false] rfl rfl (any_of HT_.out (by kernel_rfl)) (fun _ _ _ h => h) (Or.inl ⟨by rfl, ?_⟩) ?_ ?_
       rotate_left
       ·intro w'
        go_simp
        with_reducible rfl
       rotate_left
       ·simp only [Act.put, sa_, s0_, ss_, i64_w, i32_w]
        rfl
       refine pure_ (i := 1) (N := some 20) (v := ?_) (a' := ?_) #[true, true, false, false, false, false, false, false, false, false, false, false] rfl rfl (any_of HT_.out (by kernel_rfl)) (fun _ _ _ h => h) (Or.inl ⟨by rfl, ?_⟩) ?_ ?_
       rotate_left
       ·intro w'
        go_simp
        with_reducible rfl
       rotate_left
       ·simp only [Act.put, sa_, s0_, ss_, i64_w, i32_w]
        rfl
       refine pure_ (i := 2) (N := some 21) (v := ?_) (a' := ?_) #[true, true, true, false, false, false, false, false, false, false, false, false] rfl rfl (any_of HT_.out (by kernel_rfl)) (fun _ _ _ h => h) (Or.inl ⟨by rfl, ?_⟩) ?_ ?_
       rotate_left
       ·intro w'
        go_simp
        with_reducible rfl
       rotate_left
       ·simp only [Act.put, sa_, s0_, ss_, i64_w, i32_w]
        rfl
       refine pure_ (i := 4) (N := some 23) (v := ?_) (a' := ?_) #[true, true, true, false, true, false, false, false, false, false, false, false] rfl rfl (any_of HT_.out (by kernel_rfl)) (fun _ _ _ h => h) (Or.inl ⟨by rfl, ?_⟩) ?_ ?_
       rotate_left
       ·intro w'
        go_simp
        with_reducible rfl
       rotate_left
       ·simp only [Act.put, sa_, s0_, ss_, i64_w, i32_w]
        rfl
       refine pure_ (i := 5) (N := some 24) (v := ?_) (a' := ?_) #[true, true, true, false, true, true, false, false, false, false, false, false] rfl rfl (any_of HT_.out (by kernel_rfl)) (fun _ _ _ h => h) (Or.inl ⟨by rfl, ?_⟩) ?_ ?_
       rotate_left
       ·intro w'
        go_simp
        with_reducible rfl
       rotate_left
       ·simp only [Act.put, sa_, s0_, ss_, i64_w, i32_w]
        rfl
       refine pure_ (i := 6) (N := some 25) (v := ?_) (a' := ?_) #[true, true, true, false, true, true, true, false, false, false, false, false] rfl rfl (any_of HT_.out (by kernel_rfl)) (fun _ _ _ h => h) (Or.inl ⟨by rfl, ?_⟩) ?_ ?_
       rotate_left
       ·intro w'
        go_simp
        with_reducible rfl
       rotate_left
       ·simp only [Act.put, sa_, s0_, ss_, i64_w, i32_w]
        rfl
       refine pure_ (i := 9) (N := some 28) (v := ?_) (a' := ?_) #[true, true, true, false, true, true, true, false, false, true, false, false] rfl rfl (any_of HT_.out (by kernel_rfl)) (fun _ _ _ h => h) (Or.inl ⟨by rfl, ?_⟩) ?_ ?_
       rotate_left
       ·intro w'
        go_simp
        with_reducible rfl
       rotate_left
       ·simp only [Act.put, sa_, s0_, ss_, i64_w, i32_w]
        rfl
       refine take_ (i := 3) (N := some 22) (v := ?_) (a' := ?_) #[true, true, true, true, true, true, true, false, false, true, false, false] rfl rfl (take_ofW HT_.out HW_.out (by kernel_rfl)) (fun _ _ _ h => h) (Or.inl ⟨by rfl, ?_⟩) hHeld ?_ ?_
       rotate_left
       ·rintro w' ⟨s0, s1⟩
        go_simp
        with_reducible rfl
       rotate_left
       ·simp only [Act.put, sa_, s0_, ss_, i64_w, i32_w]
        rfl
       refine take_ (i := 7) (N := some 26) (v := ?_) (a' := ?_) #[true, true, true, true, true, true, true, true, false, true, false, false] rfl rfl (take_ofW HT_.out HW_.out (by kernel_rfl)) (fun _ _ _ h => h) (Or.inl ⟨by rfl, ?_⟩) hHeld ?_ ?_
       rotate_left
       ·rintro w' ⟨s0, s1⟩
        go_simp
        with_reducible rfl
       rotate_left
       ·simp only [Act.put, sa_, s0_, ss_, i64_w, i32_w]
        rfl
       refine pure_ (i := 8) (N := some 27) (v := ?_) (a' := ?_) #[true, true, true, true, true, true, true, true, true, true, false, false] rfl rfl (any_of HT_.out (by kernel_rfl)) (fun _ _ _ h => h) (Or.inl ⟨by rfl, ?_⟩) ?_ ?_
       rotate_left
       ·intro w'
        go_simp
        with_reducible rfl
       rotate_left
       ·simp only [Act.put, sa_, s0_, ss_, i64_w, i32_w]
        rfl
       refine pure_ (i := 10) (N := some 29) (v := ?_) (a' := ?_) #[true, true, true, true, true, true, true, true, true, true, true, false] rfl rfl (any_of HT_.out (by kernel_rfl)) (fun _ _ _ h => h) (Or.inl ⟨by rfl, ?_⟩) ?_ ?_
       rotate_left
       ·intro w'
        go_simp
        with_reducible rfl
       rotate_left
       ·simp only [Act.put, sa_, s0_, ss_, i64_w, i32_w]
        rfl
       refine pure_ (i := 11) (N := some 10) (v := ?_) (a' := ?_) #[true, true, true, true, true, true, true, true, true, true, true, true] rfl rfl (any_of HT_.out (by kernel_rfl)) (fun _ _ _ h => h) (Or.inl ⟨by rfl, ?_⟩) ?_ ?_
       rotate_left
       ·intro w'
        go_simp
        with_reducible rfl
       rotate_left
       ·simp only [Act.put, sa_, s0_, ss_, i64_w, i32_w]
        rfl
       refine done_ (done_of HT_.out (by kernel_rfl)) ?_
       have p15 : 0 ≤ (x9_1 : Int) := of_decide_eq_true (by first | (with_reducible assumption) | assumption)
       have q15 : (x9_1 : Int) < ((x6_1.length : Int) : Int) := of_decide_eq_true (by first | (with_reducible assumption) | assumption)
       obtain ⟨go15, co15, eo15, gb15, gl15, cl15, HG15⟩ := Kd.R_form HO_6.out (by omega)
       (first | cases eo15 | (injection eo15 with ea_ en_ ec_; (first | subst ea_ | (injection ea_ with ea_; subst ea_)); subst ec_; clear en_))
       have GB15 := Aside0.mk gb15
       have GG15 := Aside0.mk HG15
       clear gb15 gl15 HG15
       (first | simp only [add_plain] at hx257_0 | skip)
       obtain ⟨hx15_0, hf15_0⟩ := Kd.R_celln 0 HO_6.out (x9_1 : Int) p15 q15
       replace p15 := eq_true p15
       replace q15 := eq_true q15
       obtain ⟨hy19_, hz19_⟩ := Kd.R_celln 0 HO_6.out (x9_1 : Int) (of_decide_eq_true (by first | (with_reducible assumption) | assumption)) (of_decide_eq_true (by first | (with_reducible assumption) | assumption))
       have HP19 := Kd.R_putg HO_6.out (x9_1 : Int) (Int.tmod (wrap64 ((wrap64 ((rd x6_1 x9_1) + (rd t254 x9_1))) + x8_1)) 65536)
       try go_wp2_with (first | ((with_reducible refine gate_store (t := 3) (p := 36) rfl ?_); refine store_event (t := 3) (p := 36) (v := ?vo_w20) (w1 := (w16.setCell ⟨go15, (x9_1 : Int).toNat, none⟩ (.int .i64 (Int.tmod (wrap64 ((wrap64 ((rd x6_1 x9_1) + (rd t254 x9_1))) + x8_1)) 65536)))) ?hg ?ho ?hn ?hr ?_; (case ho => rfl); (case hg => rfl); (case hn => rfl); (case hr => first | (go_simp; done) | (go_simp; rfl)); intro w20 hw; have hg : w16.grownBy w20 (some go15) := (by rw [hw]; exact HP19.2); have hp_ : Kd.R (Kd.int .i64) 3 w20 w.heap.size (fun k_ => some k_ ≠ (.slice (some ad258) t254.length co18 : Value).ownBlock) (.slice (some ⟨go15, 0, none⟩) x6_1.length co17) y259 := (by rw [hw, Ny259.out]; exact HP19.1); clear HP19; have n0_ := m_ (hp_); have n1_ := m_ (Kd.R_after (v := (.slice (some ⟨go15, 0, none⟩) x6_1.length co17)) (v1 := (.slice (some ⟨go15, 0, none⟩) x6_1.length co17)) (ok := (fun _ => True)) (by (with_reducible repeat (first | apply Kd.R_alloc | apply Kd.R_drewN | apply Kd.R_drew)); exact Kd.R_mono HO_7.out (fun _ hk => ⟨trivial, hk⟩)) hg (.inl rfl)); have n2_ := m_ (blk_grown (by exact BK248.out) hg (Kd.R_ne HO_6.out BK248.out (by decide))); have n3_ := m_ (blk_grown (by exact BK249.out) hg (Kd.R_ne HO_6.out BK249.out (by decide))); have n4_ := m_ (blk_grown (by exact BK250.out) hg (Kd.R_ne HO_6.out BK250.out (by decide))); have n5_ := m_ ((by rw [hw]; exact below_set (HB.out) GB15.out : Below w.heap.size w w20)); clear HO_6; clear HO_7; clear BK248; clear BK249; clear BK250; clear HB; have HO_6 := n0_; have HO_7 := n1_; have BK248 := n2_; have BK249 := n3_; have BK250 := n4_; have HB := n5_; clear n0_ n1_ n2_ n3_ n4_ n5_; clear hg hw hp_))
       go_roundg k1
       case measure => have := HK1.out; omega
       case rel => exact ⟨(y259), (wrap64 (Int.tdiv (wrap64 ((wrap64 ((rd x6_1 x9_1) + (rd t254 x9_1))) + x8_1)) 65536)), (wrap64 (x9_1 + 1)), (by first | rfl | (simp; done) | (simp [*]; done)), (by first | rfl | (simp; done) | (simp [*]; done)), H', ⟨by have := HK1.out; omega⟩, ⟨by (with_reducible repeat (first | apply Kd.R_alloc | apply Kd.R_drewN | apply Kd.R_drew)); exact HO_6.out⟩, ⟨by (with_reducible repeat (first | apply Kd.R_alloc | apply Kd.R_drewN | apply Kd.R_drew)); exact Kd.R_mono HO_7.out (fun _ hk => hk.2)⟩, ⟨by exact BK248.out⟩, ⟨by exact BK249.out⟩, ⟨by exact BK250.out⟩, ⟨by repeat (with_reducible first | exact HB.out | apply bs_ GE248 | apply bs_ GE249 | apply bs_ GE250)⟩⟩
      ·rw [if_neg c14] at H
       exact absurd H (by simp)
     ·rw [if_neg c13] at H
      exact absurd H (by simp)
    ·rw [if_neg c12] at H
     exact absurd H (by simp)
   ·rw [if_neg c11] at H
    have c11b0 : decide (x9_1 < 8) = false := decide_eq_false c11
    clear c11
    replace H := Option.bind_eq_some_iff.mp H
    obtain ⟨⟨t260, t261⟩, A210, H⟩ := H
    replace H : (some (t260, t261, decide (x8_1 > 0))) = some (r1, r2, r3) := H
    have A21 := Aside0.mk A210
    clear A210
    simp only [Option.some.injEq, Prod.mk.injEq] at H
    obtain ⟨rfl, rfl, rfl⟩ := H
    obtain ⟨Ao22, co22, eo22⟩ := Kd.R_slice HO_6.out
    subst eo22
    go_wp2_with (first | ((with_reducible refine gate_callee (f := 35) rfl ?_); refine goesL_ (some 38) rfl rfl Try.func35 (by kernel_rfl) rfl #[.slice Ao22 x6_1.length co22] rfl (by first | rfl | (simp only [List.map_toArray, List.map_cons, List.map_nil]; first | done | rfl)) ?_; (with_reducible refine (overfallref01_Value.calls k1 _ _ x6_1 t260 t261 _ ?side1 ?side2 A21.out).mono ?_); (case side1 => repeat (first | exact (Kd.R_reads' HO_6.out).2.2 | (with_reducible refine Kd.C_alloc ?_ _) | (with_reducible refine Kd.C_drewN ?_ _) | (with_reducible refine Kd.C_drew ?_))); (case side2 => exact (Kd.R_reads' HO_6.out).2.1); rintro e w23 ⟨rfl, hb⟩; refine ⟨_, rfl, ?_⟩; replace HO_6 := m_ (Kd.R_below (by (with_reducible repeat (first | apply Kd.R_alloc | apply Kd.R_drewN | apply Kd.R_drew)); exact HO_6.out) hb); replace HO_7 := m_ (Kd.R_below (by (with_reducible repeat (first | apply Kd.R_alloc | apply Kd.R_drewN | apply Kd.R_drew)); exact HO_7.out) hb); replace BK248 := bb_ BK248 hb; replace BK249 := bb_ BK249 hb; replace BK250 := bb_ BK250 hb; replace HB := st_ (by repeat (with_reducible first | exact HB.out | apply bs_ GE248 | apply bs_ GE249 | apply bs_ GE250)) hb; (try clear hb); have hnb24 := NB250_248.out; have hnc24 := NB248_250.out; have hnb25 := NB250_249.out; have hnc25 := NB249_250.out; obtain ⟨hcz26_0, hcz26_1, hfz26_0, hfz26_1⟩ := cf2 BK250))
    refine bodyPost_ret (results_ct rfl _ _ gb250 50 #[.int .u64 t260, .int .u64 t261] (0, 0) _ rfl (by apply put2_; exact BK250.out) Try.underlying50 rfl (by kernel_rfl)) rfl ?_
    exact ⟨by first | rfl | (simp [errW_none, errW_some] <;> rfl) | (simp [*, errW_none, errW_some] <;> rfl), by repeat (with_reducible first | exact HB.out | apply bs_ GE248 | apply bs_ GE249 | apply bs_ GE250)⟩

/-! ### overfallref02_Back: function 24 -/
def overfallref02_Back.j0 : Nat → Bool → Bool → Int → Int → Option (Int)
 | 0, _, _, _, _ => none
 | k + 1, x1, x12, x263000, x263001 => if x12 = true then (if x1 = true then (some (-9223372036854775808)) else (some 9223372036854775807)) else (if x1 = true then (some (wrap64 (-(wrap64 (x263001))))) else (some (wrap64 (x263001))))
def overfallref02_Back.f (k : Nat) (a0_0 : Int) (a0_1 : Int) (a1 : Bool) : Option (Int) := if a0_0 > 0 then (overfallref02_Back.j0 k a1 true a0_0 a0_1) else (overfallref02_Back.j0 k a1 (decide (a0_1 ≥ 9223372036854775808)) a0_0 a0_1)
theorem overfallref02_Back.mono_l : ∀ k, (∀ y0 y1 y2 y3, LeO (overfallref02_Back.j0 k y0 y1 y2 y3) (overfallref02_Back.j0 (k + 1) y0 y1 y2 y3))
 | 0 => fun _ _ _ _ r h => by simp [overfallref02_Back.j0] at h
 | k + 1 => by
  have ih0 := overfallref02_Back.mono_l k
  ·intro y0 y1 y2 y3
   unfold overfallref02_Back.j0
   repeat' first
   | (with_reducible exact ih0 _ _ _ _)
   | (with_reducible exact LeO.refl _)
   | (with_reducible exact LeO.none _)
   | (with_reducible refine LeO.ite ?_ ?_)
   | (with_reducible refine LeO.bind ?_ (fun _ => ?_))
   | exact ih0 _ _ _ _
   | exact LeO.none _
   | refine LeO.ite ?_ ?_
   | refine LeO.bind ?_ (fun _ => ?_)
theorem overfallref02_Back.mono : ∀ a0 a1 a2 k, LeO (overfallref02_Back.f k a0 a1 a2) (overfallref02_Back.f (k + 1) a0 a1 a2) := by
 intro a0 a1 a2 k
 have ih0 := overfallref02_Back.mono_l k
 unfold overfallref02_Back.f
 repeat' first
   | (with_reducible exact ih0 _ _ _ _)
   | (with_reducible exact LeO.refl _)
   | (with_reducible exact LeO.none _)
   | (with_reducible refine LeO.ite ?_ ?_)
   | (with_reducible refine LeO.bind ?_ (fun _ => ?_))
   | exact ih0 _ _ _ _
   | exact LeO.none _
   | refine LeO.ite ?_ ?_
   | refine LeO.bind ?_ (fun _ => ?_)
set_option maxHeartbeats 8000000 in
set_option maxRecDepth 100000 in
theorem overfallref02_Back.calls (k : Nat) (a0_0 : Int) (a0_1 : Int) (a1 : Bool) (r : Int) (w : World) (h : overfallref02_Back.f k a0_0 a0_1 a1 = some r) :
  Calls Try.prog 24 #[.agg #[.int .u64 a0_0, .int .u64 a0_1], .bool a1] w fun e w' => e = .returned (.int .i64 r) ∧ Below w.heap.size w w' := by
 have hu50 := Try.underlying50
 have HB := m_ (Below.refl w.heap.size w)
 have H : (if a0_0 > 0 then (overfallref02_Back.j0 k a1 true a0_0 a0_1) else (overfallref02_Back.j0 k a1 (decide (a0_1 ≥ 9223372036854775808)) a0_0 a0_1)) = some r := h
 clear h
 have HC3 := Aside0.mk H
 clear H
 go_enter Try.func24, Try.ntmps24
 go_upto_region 1 with (first | ((with_reducible refine gate_dst (N := 2) rfl ?_); refine box_event ?hg (N := 2) ?hd (cs := #[.int .u64 a0_0, .int .u64 a0_1]) (t := 50) ?hr ?_; (case hd => rfl); (case hg => rfl); (case hr => first | (go_simp; done) | (go_simp; rfl)); intro gb262 hg w4 hbox hb; have BK262 := m_ (hbox); have GW262 := ge_ (by repeat (with_reducible first | exact HB.out)) hg; have GE262 := GW262; replace HB := st_ (by repeat (with_reducible first | exact HB.out)) hb; clear hb hbox hg))
 (try simp only [Act.put, sa_, s0_, ss_])
 go_cut [12] (fun v12 wc => ∃ (kq : Nat) (x12_2 : Bool), v12 = .bool x12_2 ∧ Aside0 (overfallref02_Back.j0 kq a1 x12_2 a0_0 a0_1 = some r) ∧ Aside0 (kq ≤ k) ∧ Aside0 (wc.heap[gb262]? = some (.cells #[.int .u64 a0_0, .int .u64 a0_1] 50 (0, 0))) ∧ Aside0 (Below w.heap.size w wc))
 case first =>
  have H := HC3.out
  clear HC3
  by_cases c5 : a0_0 > 0
  ·rw [if_pos c5] at H
   have c5b0 : decide (0 < a0_0) = true := decide_eq_true c5
   clear c5
   (first | rw [c5b0] | (simp only [i64_w, i32_w]; rw [c5b0]) | skip)
   have H' := Aside0.mk H
   clear H
   obtain ⟨hcz6_0, hcz6_1, hfz6_0, hfz6_1⟩ := cf2 BK262
   go_wp2
   go_meet
   case rel => exact ⟨_, (true), (by first | rfl | (simp; done) | (simp [*]; done)), H', ⟨by first | omega | exact Nat.le_refl _⟩, ⟨by exact BK262.out⟩, ⟨by repeat (with_reducible first | exact HB.out | apply bs_ GE262)⟩⟩
  ·rw [if_neg c5] at H
   have c5b0 : decide (0 < a0_0) = false := decide_eq_false c5
   clear c5
   (first | rw [c5b0] | (simp only [i64_w, i32_w]; rw [c5b0]) | skip)
   have H' := Aside0.mk H
   clear H
   obtain ⟨hcz7_0, hcz7_1, hfz7_0, hfz7_1⟩ := cf2 BK262
   go_wp2
   go_meet
   case rel => exact ⟨_, (decide (a0_1 ≥ 9223372036854775808)), (by first | rfl | (simp; done) | (simp [*]; done)), H', ⟨by first | omega | exact Nat.le_refl _⟩, ⟨by exact BK262.out⟩, ⟨by repeat (with_reducible first | exact HB.out | apply bs_ GE262)⟩⟩
 case rest =>
  clear HC3
  try clear c2
  try clear p2
  try clear c5
  try clear c5b0
  try clear hcz6_0
  try clear hcz6_1
  try clear hcz7_0
  try clear hcz7_1
  try clear hfz6_0
  try clear hfz6_1
  try clear hfz7_0
  try clear hfz7_1
  (try clear BK262); (try clear HB)
  obtain ⟨kq, x12_2, rfl, HA, HJ2, BK262, HB⟩ := hcut
  cases kq with
  | zero => exact absurd HA.out (by simp [overfallref02_Back.j0])
  | succ kj2 =>
   have H := HA.out
   clear HA
   simp only [overfallref02_Back.j0] at H
   by_cases c8 : x12_2 = true
   ·subst c8
    have H1 : (if a1 = true then (some (-9223372036854775808)) else (some 9223372036854775807)) = some r := by rw [if_pos rfl] at H; exact H
    clear H
    have H := H1
    clear H1
    by_cases c9 : a1 = true
    ·subst c9
     have H1 : (some (-9223372036854775808)) = some r := by rw [if_pos rfl] at H; exact H
     clear H
     have H := H1
     clear H1
     obtain rfl := Option.some.inj H
     go_wp2
     go_ret
     exact ⟨by first | rfl | (simp [errW_none, errW_some] <;> rfl) | (simp [*, errW_none, errW_some] <;> rfl), by repeat (with_reducible first | exact HB.out | apply bs_ GE262)⟩
    ·replace c9 := Bool.eq_false_iff.mpr c9
     subst c9
     have H1 : (some 9223372036854775807) = some r := by rw [if_neg (show ¬ (false = true) by decide)] at H; exact H
     clear H
     have H := H1
     clear H1
     obtain rfl := Option.some.inj H
     go_wp2
     go_ret
     exact ⟨by first | rfl | (simp [errW_none, errW_some] <;> rfl) | (simp [*, errW_none, errW_some] <;> rfl), by repeat (with_reducible first | exact HB.out | apply bs_ GE262)⟩
   ·replace c8 := Bool.eq_false_iff.mpr c8
    subst c8
    have H1 : (if a1 = true then (some (wrap64 (-(wrap64 (a0_1))))) else (some (wrap64 (a0_1)))) = some r := by rw [if_neg (show ¬ (false = true) by decide)] at H; exact H
    clear H
    have H := H1
    clear H1
    by_cases c10 : a1 = true
    ·subst c10
     have H1 : (some (wrap64 (-(wrap64 (a0_1))))) = some r := by rw [if_pos rfl] at H; exact H
     clear H
     have H := H1
     clear H1
     obtain rfl := Option.some.inj H
     obtain ⟨hcz11_0, hcz11_1, hfz11_0, hfz11_1⟩ := cf2 BK262
     go_wp2
     go_ret
     exact ⟨by first | rfl | (simp [errW_none, errW_some] <;> rfl) | (simp [*, errW_none, errW_some] <;> rfl), by repeat (with_reducible first | exact HB.out | apply bs_ GE262)⟩
    ·replace c10 := Bool.eq_false_iff.mpr c10
     subst c10
     have H1 : (some (wrap64 (a0_1))) = some r := by rw [if_neg (show ¬ (false = true) by decide)] at H; exact H
     clear H
     have H := H1
     clear H1
     obtain rfl := Option.some.inj H
     obtain ⟨hcz12_0, hcz12_1, hfz12_0, hfz12_1⟩ := cf2 BK262
     go_wp2
     go_ret
     exact ⟨by first | rfl | (simp [errW_none, errW_some] <;> rfl) | (simp [*, errW_none, errW_some] <;> rfl), by repeat (with_reducible first | exact HB.out | apply bs_ GE262)⟩

/-! ### overfallref01_Less: function 25 -/
def overfallref01_Less.f (a0_0 : Int) (a0_1 : Int) (a1_0 : Int) (a1_1 : Int) : Option (Bool) := if a0_0 < a1_0 then (some true) else (if a0_0 = a1_0 then (some (decide (a0_1 < a1_1))) else (some false))
set_option maxHeartbeats 8000000 in
set_option maxRecDepth 100000 in
theorem overfallref01_Less.calls (a0_0 : Int) (a0_1 : Int) (a1_0 : Int) (a1_1 : Int) (r : Bool) (w : World) (h : overfallref01_Less.f a0_0 a0_1 a1_0 a1_1 = some r) :
  Calls Try.prog 25 #[.agg #[.int .u64 a0_0, .int .u64 a0_1], .agg #[.int .u64 a1_0, .int .u64 a1_1]] w fun e w' => e = .returned (.bool r) ∧ Below w.heap.size w w' := by
 have hu50 := Try.underlying50
 have HB := m_ (Below.refl w.heap.size w)
 have H : (if a0_0 < a1_0 then (some true) else (if a0_0 = a1_0 then (some (decide (a0_1 < a1_1))) else (some false))) = some r := h
 clear h
 by_cases c3 : a0_0 < a1_0
 ·rw [if_pos c3] at H
  have c3b0 : decide (a0_0 < a1_0) = true := decide_eq_true c3
  clear c3
  obtain rfl := Option.some.inj H
  go_enter Try.func25, Try.ntmps25
  go_wp2_with (first | ((with_reducible refine gate_dst (N := 2) rfl ?_); refine box_event ?hg (N := 2) ?hd (cs := #[.int .u64 a0_0, .int .u64 a0_1]) (t := 50) ?hr ?_; (case hd => rfl); (case hg => rfl); (case hr => first | (go_simp; done) | (go_simp; rfl)); intro gb263 hg w4 hbox hb; have BK263 := m_ (hbox); have GW263 := ge_ (by repeat (with_reducible first | exact HB.out)) hg; have GE263 := GW263; replace HB := st_ (by repeat (with_reducible first | exact HB.out)) hb; clear hb hbox hg) | ((with_reducible refine gate_dst (N := 3) rfl ?_); refine box_event ?hg (N := 3) ?hd (cs := #[.int .u64 a1_0, .int .u64 a1_1]) (t := 50) ?hr ?_; (case hd => rfl); (case hg => rfl); (case hr => first | (go_simp; done) | (go_simp; rfl)); intro gb264 hg w5 hbox hb; have BK264 := m_ (hbox); have GW264 := ge_ (by repeat (with_reducible first | exact HB.out | apply bs_ GE263)) hg; have GE264 := GW264; have NB263_264 := nl_ BK263 hg; have NB264_263 := ng_ BK263 hg; replace BK263 := bb_ BK263 hb; replace HB := st_ (by repeat (with_reducible first | exact HB.out | apply bs_ GE263)) hb; clear hb hbox hg; have hnb6 := NB263_264.out; have hnc6 := NB264_263.out; obtain ⟨hcz7_0, hcz7_1, hfz7_0, hfz7_1⟩ := cf2 BK263; obtain ⟨hcz8_0, hcz8_1, hfz8_0, hfz8_1⟩ := cf2 BK264))
  go_ret
  exact ⟨by first | rfl | (simp [errW_none, errW_some] <;> rfl) | (simp [*, errW_none, errW_some] <;> rfl), by repeat (with_reducible first | exact HB.out | apply bs_ GE263 | apply bs_ GE264)⟩
 ·rw [if_neg c3] at H
  have c3b0 : decide (a0_0 < a1_0) = false := decide_eq_false c3
  clear c3
  by_cases c9 : a0_0 = a1_0
  ·rw [if_pos c9] at H
   have c9b0 : (a0_0 == a1_0) = true := beq_iff_eq.mpr c9
   have c9b1 : (a0_0 != a1_0) = false := bne_eq_false_iff_eq.mpr c9
   clear c9
   obtain rfl := Option.some.inj H
   go_enter Try.func25, Try.ntmps25
   go_wp2_with (first | ((with_reducible refine gate_dst (N := 2) rfl ?_); refine box_event ?hg (N := 2) ?hd (cs := #[.int .u64 a0_0, .int .u64 a0_1]) (t := 50) ?hr ?_; (case hd => rfl); (case hg => rfl); (case hr => first | (go_simp; done) | (go_simp; rfl)); intro gb263 hg w10 hbox hb; have BK263 := m_ (hbox); have GW263 := ge_ (by repeat (with_reducible first | exact HB.out)) hg; have GE263 := GW263; replace HB := st_ (by repeat (with_reducible first | exact HB.out)) hb; clear hb hbox hg) | ((with_reducible refine gate_dst (N := 3) rfl ?_); refine box_event ?hg (N := 3) ?hd (cs := #[.int .u64 a1_0, .int .u64 a1_1]) (t := 50) ?hr ?_; (case hd => rfl); (case hg => rfl); (case hr => first | (go_simp; done) | (go_simp; rfl)); intro gb264 hg w11 hbox hb; have BK264 := m_ (hbox); have GW264 := ge_ (by repeat (with_reducible first | exact HB.out | apply bs_ GE263)) hg; have GE264 := GW264; have NB263_264 := nl_ BK263 hg; have NB264_263 := ng_ BK263 hg; replace BK263 := bb_ BK263 hb; replace HB := st_ (by repeat (with_reducible first | exact HB.out | apply bs_ GE263)) hb; clear hb hbox hg; have hnb12 := NB263_264.out; have hnc12 := NB264_263.out; obtain ⟨hcz13_0, hcz13_1, hfz13_0, hfz13_1⟩ := cf2 BK263; obtain ⟨hcz14_0, hcz14_1, hfz14_0, hfz14_1⟩ := cf2 BK264))
   go_ret
   exact ⟨by first | rfl | (simp [errW_none, errW_some] <;> rfl) | (simp [*, errW_none, errW_some] <;> rfl), by repeat (with_reducible first | exact HB.out | apply bs_ GE263 | apply bs_ GE264)⟩
  ·rw [if_neg c9] at H
   have c9b0 : (a0_0 == a1_0) = false := beq_eq_false_iff_ne.mpr c9
   have c9b1 : (a0_0 != a1_0) = true := bne_iff_ne.mpr c9
   obtain rfl := Option.some.inj H
   go_enter Try.func25, Try.ntmps25
   go_wp2_with (first | ((with_reducible refine gate_dst (N := 2) rfl ?_); refine box_event ?hg (N := 2) ?hd (cs := #[.int .u64 a0_0, .int .u64 a0_1]) (t := 50) ?hr ?_; (case hd => rfl); (case hg => rfl); (case hr => first | (go_simp; done) | (go_simp; rfl)); intro gb263 hg w15 hbox hb; have BK263 := m_ (hbox); have GW263 := ge_ (by repeat (with_reducible first | exact HB.out)) hg; have GE263 := GW263; replace HB := st_ (by repeat (with_reducible first | exact HB.out)) hb; clear hb hbox hg) | ((with_reducible refine gate_dst (N := 3) rfl ?_); refine box_event ?hg (N := 3) ?hd (cs := #[.int .u64 a1_0, .int .u64 a1_1]) (t := 50) ?hr ?_; (case hd => rfl); (case hg => rfl); (case hr => first | (go_simp; done) | (go_simp; rfl)); intro gb264 hg w16 hbox hb; have BK264 := m_ (hbox); have GW264 := ge_ (by repeat (with_reducible first | exact HB.out | apply bs_ GE263)) hg; have GE264 := GW264; have NB263_264 := nl_ BK263 hg; have NB264_263 := ng_ BK263 hg; replace BK263 := bb_ BK263 hb; replace HB := st_ (by repeat (with_reducible first | exact HB.out | apply bs_ GE263)) hb; clear hb hbox hg; have hnb17 := NB263_264.out; have hnc17 := NB264_263.out; obtain ⟨hcz18_0, hcz18_1, hfz18_0, hfz18_1⟩ := cf2 BK263; obtain ⟨hcz19_0, hcz19_1, hfz19_0, hfz19_1⟩ := cf2 BK264))
   go_ret
   exact ⟨by first | rfl | (simp [errW_none, errW_some] <;> rfl) | (simp [*, errW_none, errW_some] <;> rfl), by repeat (with_reducible first | exact HB.out | apply bs_ GE263 | apply bs_ GE264)⟩

end Go.Proofs.Ytiiffgmbkajkhaa.L

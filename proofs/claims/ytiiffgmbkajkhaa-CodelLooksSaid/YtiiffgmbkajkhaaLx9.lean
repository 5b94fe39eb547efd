-- Laid by a program of this claim's session (wip/tools/myprint.py) over the kit's printer.
import Derived.Test.YtiiffgmbkajkhaaLx0
import Derived.Test.YtiiffgmbkajkhaaLx7
import Derived.Test.YtiiffgmbkajkhaaLx8
namespace Go.Proofs.Ytiiffgmbkajkhaa.L
open Go.RowKit Go.Proofs.YtiiffgmbkajkhaaW.PrintWords Go.Proofs.YtiiffgmbkajkhaaW.PrintLast Go.Proofs.YtiiffgmbkajkhaaW.PrintMore
attribute [local go_sem] max2_int min2_int max_two min_two max_three min_three max_four min_four   -- for this text's walks alone
set_option linter.unusedVariables false
set_option linter.unusedSimpArgs false

/-! ### overfallref01_Sub: function 26 -/
def overfallref01_Sub.l0 : Nat → List Int → List Int → Int → Int → Option (Int × Int × Bool)
 | 0, _, _, _, _ => none
 | k + 1, x6, x7, x8, x9 => if x9 < 8 then (if 0 ≤ x9 then (if x9 < (x6.length : Int) then (if x9 < (x7.length : Int) then (if (wrap64 ((wrap64 ((rd x6 x9) - (rd x7 x9))) - x8)) < 0 then (overfallref01_Sub.l0 k (x6.set (x9 : Int).toNat (wrap64 ((wrap64 ((wrap64 ((rd x6 x9) - (rd x7 x9))) - x8)) + 65536))) x7 1 (wrap64 (x9 + 1))) else (overfallref01_Sub.l0 k (x6.set (x9 : Int).toNat (wrap64 ((wrap64 ((rd x6 x9) - (rd x7 x9))) - x8))) x7 0 (wrap64 (x9 + 1)))) else (none)) else (none)) else (none)) else ((overfallref01_Value.f k x6).bind fun bt278 => (some (bt278.1, bt278.2, decide (x8 > 0))))
def overfallref01_Sub.f (k : Nat) (a0_0 : Int) (a0_1 : Int) (a1_0 : Int) (a1_1 : Int) : Option (Int × Int × Bool) := (overfallref01_Digits.f k a0_0 a0_1).bind fun t268 => ((overfallref01_Digits.f k a1_0 a1_1).bind fun t271 => (overfallref01_Sub.l0 k t268 t271 0 0))
theorem overfallref01_Sub.mono_l : ∀ k, (∀ y0 y1 y2 y3, LeO (overfallref01_Sub.l0 k y0 y1 y2 y3) (overfallref01_Sub.l0 (k + 1) y0 y1 y2 y3))
 | 0 => fun _ _ _ _ r h => by simp [overfallref01_Sub.l0] at h
 | k + 1 => by
  have ih0 := overfallref01_Sub.mono_l k
  ·intro y0 y1 y2 y3
   unfold overfallref01_Sub.l0
   repeat' first
   | (with_reducible exact ih0 _ _ _ _)
   | (with_reducible exact overfallref01_Digits.mono _ _ _)
   | (with_reducible exact overfallref01_Value.mono _ _)
   | (with_reducible exact LeO.refl _)
   | (with_reducible exact LeO.none _)
   | (with_reducible refine LeO.ite ?_ ?_)
   | (with_reducible refine LeO.bind ?_ (fun _ => ?_))
   | exact ih0 _ _ _ _
   | exact overfallref01_Digits.mono _ _ _
   | exact overfallref01_Value.mono _ _
   | exact LeO.none _
   | refine LeO.ite ?_ ?_
   | refine LeO.bind ?_ (fun _ => ?_)
theorem overfallref01_Sub.mono : ∀ a0 a1 a2 a3 k, LeO (overfallref01_Sub.f k a0 a1 a2 a3) (overfallref01_Sub.f (k + 1) a0 a1 a2 a3) := by
 intro a0 a1 a2 a3 k
 have ih0 := overfallref01_Sub.mono_l k
 unfold overfallref01_Sub.f
 repeat' first
   | (with_reducible exact ih0 _ _ _ _)
   | (with_reducible exact overfallref01_Digits.mono _ _ _)
   | (with_reducible exact overfallref01_Value.mono _ _)
   | (with_reducible exact LeO.refl _)
   | (with_reducible exact LeO.none _)
   | (with_reducible refine LeO.ite ?_ ?_)
   | (with_reducible refine LeO.bind ?_ (fun _ => ?_))
   | exact ih0 _ _ _ _
   | exact overfallref01_Digits.mono _ _ _
   | exact overfallref01_Value.mono _ _
   | exact LeO.none _
   | refine LeO.ite ?_ ?_
   | refine LeO.bind ?_ (fun _ => ?_)
def overfallref01_Sub.T6 : Bool × List (List Nat × List Nat) := (true, [([], []), ([], []), ([0, 1], [0, 1]), ([2], [2]), ([], []), ([], []), ([4, 5], [4, 5]), ([6], [6]), ([3, 7], [3, 7]), ([], []), ([8, 9], [8, 9]), ([10, 0, 1, 2, 3, 4, 5, 6, 7, 8, 9, 10], [10])])
def overfallref01_Sub.B6 : List Nat := [0, 0, 3, 7, 0, 0, 48, 112, 255, 0, 1023, 2047]
theorem overfallref01_Sub.tab6 : rtab .any (opsOf Try.f26 6) = overfallref01_Sub.T6 := by kernel_rfl
theorem overfallref01_Sub.bits6 : waitsOk overfallref01_Sub.T6.2 overfallref01_Sub.B6 = true := by kernel_rfl
set_option maxHeartbeats 8000000 in
set_option maxRecDepth 100000 in
theorem overfallref01_Sub.calls (k : Nat) (a0_0 : Int) (a0_1 : Int) (a1_0 : Int) (a1_1 : Int) (r1 : Int) (r2 : Int) (r3 : Bool) (w : World) (h : overfallref01_Sub.f k a0_0 a0_1 a1_0 a1_1 = some (r1, r2, r3)) :
  Calls Try.prog 26 #[.agg #[.int .u64 a0_0, .int .u64 a0_1], .agg #[.int .u64 a1_0, .int .u64 a1_1]] w fun e w' => e = .returned (.tuple #[.agg #[.int .u64 r1, .int .u64 r2], .bool r3]) ∧ Below w.heap.size w w' := by
 have hu50 := Try.underlying50
 have HB := m_ (Below.refl w.heap.size w)
 have H : ((overfallref01_Digits.f k a0_0 a0_1).bind fun t268 => ((overfallref01_Digits.f k a1_0 a1_1).bind fun t271 => (overfallref01_Sub.l0 k t268 t271 0 0))) = some (r1, r2, r3) := h
 clear h
 replace H := Option.bind_eq_some_iff.mp H
 obtain ⟨t268, A30, H⟩ := H
 replace H : ((overfallref01_Digits.f k a1_0 a1_1).bind fun t271 => (overfallref01_Sub.l0 k t268 t271 0 0)) = some (r1, r2, r3) := H
 have A3 := Aside0.mk A30
 clear A30
 replace H := Option.bind_eq_some_iff.mp H
 obtain ⟨t271, A40, H⟩ := H
 replace H : (overfallref01_Sub.l0 k t268 t271 0 0) = some (r1, r2, r3) := H
 have A4 := Aside0.mk A40
 clear A40
 have H' := Aside0.mk H
 clear H
 go_enter Try.func26, Try.ntmps26
 try go_wp2_with (first | ((with_reducible refine gate_dst (N := 2) rfl ?_); refine box_event ?hg (N := 2) ?hd (cs := #[.int .u64 a0_0, .int .u64 a0_1]) (t := 50) ?hr ?_; (case hd => rfl); (case hg => rfl); (case hr => first | (go_simp; done) | (go_simp; rfl)); intro gb265 hg w5 hbox hb; have BK265 := m_ (hbox); have GW265 := ge_ (by repeat (with_reducible first | exact HB.out)) hg; have GE265 := GW265; replace HB := st_ (by repeat (with_reducible first | exact HB.out)) hb; clear hb hbox hg) | ((with_reducible refine gate_dst (N := 3) rfl ?_); refine box_event ?hg (N := 3) ?hd (cs := #[.int .u64 a1_0, .int .u64 a1_1]) (t := 50) ?hr ?_; (case hd => rfl); (case hg => rfl); (case hr => first | (go_simp; done) | (go_simp; rfl)); intro gb266 hg w6 hbox hb; have BK266 := m_ (hbox); have GW266 := ge_ (by repeat (with_reducible first | exact HB.out | apply bs_ GE265)) hg; have GE266 := GW266; have NB265_266 := nl_ BK265 hg; have NB266_265 := ng_ BK265 hg; replace BK265 := bb_ BK265 hb; replace HB := st_ (by repeat (with_reducible first | exact HB.out | apply bs_ GE265)) hb; clear hb hbox hg) | ((with_reducible refine gate_dst (N := 4) rfl ?_); refine box_event ?hg (N := 4) ?hd (cs := #[.int .u64 0, .int .u64 0]) (t := 50) ?hr ?_; (case hd => rfl); (case hg => rfl); (case hr => first | (go_simp; done) | (go_simp; rfl)); intro gb267 hg w7 hbox hb; have BK267 := m_ (hbox); have GW267 := ge_ (by repeat (with_reducible first | exact HB.out | apply bs_ GE265 | apply bs_ GE266)) hg; have GE267 := GW267; have NB265_267 := nl_ BK265 hg; have NB267_265 := ng_ BK265 hg; have NB266_267 := nl_ BK266 hg; have NB267_266 := ng_ BK266 hg; replace BK265 := bb_ BK265 hb; replace BK266 := bb_ BK266 hb; replace HB := st_ (by repeat (with_reducible first | exact HB.out | apply bs_ GE265 | apply bs_ GE266)) hb; clear hb hbox hg))
 replace BK265 := m_ (blk_drew BK265.out)
 replace BK266 := m_ (blk_drew BK266.out)
 replace BK267 := m_ (blk_drew BK267.out)
 replace HB := m_ (below_drew1 HB.out)
 refine start_ (n := 6) (S := fun w' => w'.cell? ⟨gb265, 0, none⟩ = some (.int .u64 a0_0) ∧ w'.cell? ⟨gb265, 1, none⟩ = some (.int .u64 a0_1) ∧ w'.cell? ⟨gb266, 0, none⟩ = some (.int .u64 a1_0) ∧ w'.cell? ⟨gb266, 1, none⟩ = some (.int .u64 a1_1)) (ds := []) #[false, false, false, false, false, false] (by kernel_rfl) rfl rfl ⟨(blk_cell BK265.out 0).trans rfl, (blk_cell BK265.out 1).trans rfl, (blk_cell BK266.out 0).trans rfl, (blk_cell BK266.out 1).trans rfl⟩ (fun hHeld => ?_)
 generalize w7.drew = w8 at BK265 BK266 BK267 HB hHeld ⊢
 refine take_ (i := 0) (N := some 11) (v := ?_) (a' := ?_) #[true, false, false, false, false, false] rfl rfl (by kernel_rfl) (fun _ _ _ h => h) (Or.inl ⟨by rfl, ?_⟩) hHeld ?_ ?_
 rotate_left
 ·rintro w' ⟨s0, s1, s2, s3⟩
  go_simp
  with_reducible rfl
 rotate_left
 ·simp only [Act.put, sa_, s0_, ss_, i64_w, i32_w]
  rfl
 refine take_ (i := 2) (N := some 13) (v := ?_) (a' := ?_) #[true, false, true, false, false, false] rfl rfl (by kernel_rfl) (fun _ _ _ h => h) (Or.inl ⟨by rfl, ?_⟩) hHeld ?_ ?_
 rotate_left
 ·rintro w' ⟨s0, s1, s2, s3⟩
  go_simp
  with_reducible rfl
 rotate_left
 ·simp only [Act.put, sa_, s0_, ss_, i64_w, i32_w]
  rfl
 refine one_ (i := 1) (N := some 12) #[true, true, true, false, false, false] rfl rfl (by kernel_rfl) (by decide) (fun K hK => ?_)
 refine goes_ Try.func34 (by kernel_rfl) rfl #[.agg #[.int .u64 a0_0, .int .u64 a0_1]] (by rfl) rfl rfl (by first | rfl | (simp only [List.map_toArray, List.map_cons, List.map_nil]; first | done | rfl)) ?_
 with_reducible refine (overfallref01_Digits.calls k a0_0 a0_1 t268 _ A3.out).mono ?_
 rintro e w9 ⟨v269, rfl, ho0, hb⟩
 refine ⟨_, rfl, ?_⟩
 have HO270 := m_ (Kd.R_lower ho0 (below_size (by repeat (with_reducible first | exact HB.out | apply bs_ GE265 | apply bs_ GE266 | apply bs_ GE267))))
 replace BK265 := bb_ BK265 hb
 replace BK266 := bb_ BK266 hb
 replace BK267 := bb_ BK267 hb
 replace HB := st_ (by repeat (with_reducible first | exact HB.out | apply bs_ GE265 | apply bs_ GE266 | apply bs_ GE267)) hb
 (try clear hb)
 (try clear hb2)
 (try clear hk)
 (try clear hi)
 (try clear ho0)
 refine hK.out _ _ ⟨(blk_cell BK265.out 0).trans rfl, (blk_cell BK265.out 1).trans rfl, (blk_cell BK266.out 0).trans rfl, (blk_cell BK266.out 1).trans rfl⟩ (fun hHeld => ?_)
 clear hK K
 refine norm_ (a' := ?_) ?_ ?_
 rotate_left
 ·show Act.put _ (some 12) _ = _
  simp only [Act.put, sa_, s0_, ss_, i64_w, i32_w]
  rfl
 refine one_ (i := 3) (N := some 14) #[true, true, true, true, false, false] rfl rfl (by kernel_rfl) (by decide) (fun K hK => ?_)
 refine goes_ Try.func34 (by kernel_rfl) rfl #[.agg #[.int .u64 a1_0, .int .u64 a1_1]] (by rfl) rfl rfl (by first | rfl | (simp only [List.map_toArray, List.map_cons, List.map_nil]; first | done | rfl)) ?_
 with_reducible refine (overfallref01_Digits.calls k a1_0 a1_1 t271 _ A4.out).mono ?_
 rintro e w10 ⟨v272, rfl, ho0, hb⟩
 refine ⟨_, rfl, ?_⟩
 have HO273 := m_ (Kd.R_lower (Kd.R_new' ho0 (Kd.R_lt (by (with_reducible repeat (first | apply Kd.R_alloc | apply Kd.R_drewN | apply Kd.R_drew)); exact HO270.out))) (below_size (by repeat (with_reducible first | exact HB.out | apply bs_ GE265 | apply bs_ GE266 | apply bs_ GE267))))
 replace HO270 := m_ (Kd.R_elder' (by (with_reducible repeat (first | apply Kd.R_alloc | apply Kd.R_drewN | apply Kd.R_drew)); exact HO270.out) (Kd.R_base ho0) hb)
 replace BK265 := bb_ BK265 hb
 replace BK266 := bb_ BK266 hb
 replace BK267 := bb_ BK267 hb
 replace HB := st_ (by repeat (with_reducible first | exact HB.out | apply bs_ GE265 | apply bs_ GE266 | apply bs_ GE267)) hb
 (try clear hb)
 (try clear hb2)
 (try clear hk)
 (try clear hi)
 (try clear ho0)
 refine hK.out _ _ ⟨(blk_cell BK265.out 0).trans rfl, (blk_cell BK265.out 1).trans rfl, (blk_cell BK266.out 0).trans rfl, (blk_cell BK266.out 1).trans rfl⟩ (fun hHeld => ?_)
 clear hK K
 refine norm_ (a' := ?_) ?_ ?_
 rotate_left
 ·show Act.put _ (some 14) _ = _
  simp only [Act.put, sa_, s0_, ss_, i64_w, i32_w]
  rfl
 refine pure_ (i := 4) (N := some 6) (v := ?_) (a' := ?_) #[true, true, true, true, true, false] rfl rfl (by kernel_rfl) (fun _ _ _ h => h) (Or.inl ⟨by rfl, ?_⟩) ?_ ?_
 rotate_left
 ·intro w'
  go_simp
  with_reducible rfl
 rotate_left
 ·simp only [Act.put, sa_, s0_, ss_, i64_w, i32_w]
  rfl
 refine pure_ (i := 5) (N := some 7) (v := ?_) (a' := ?_) #[true, true, true, true, true, true] rfl rfl (by kernel_rfl) (fun _ _ _ h => h) (Or.inl ⟨by rfl, ?_⟩) ?_ ?_
 rotate_left
 ·intro w'
  go_simp
  with_reducible rfl
 rotate_left
 ·simp only [Act.put, sa_, s0_, ss_, i64_w, i32_w]
  rfl
 refine done_ (by kernel_rfl) ?_
 try go_wp2
 go_loopg [8, 9] k (fun kq v8 v9 w' => ∃ (x6_1 : List Int) (x8_1 : Int) (x9_1 : Int), v8 = .int .i64 x8_1 ∧ v9 = .int .i64 x9_1 ∧ Aside0 (overfallref01_Sub.l0 kq x6_1 t271 x8_1 x9_1 = some (r1, r2, r3)) ∧ Aside0 (kq ≤ k) ∧ Aside0 (Kd.R (Kd.int .i64) 3 w' w.heap.size (fun k_ => some k_ ≠ (v272 : Value).ownBlock) v269 x6_1) ∧ Aside0 (Kd.R (Kd.int .i64) 3 w' w.heap.size (fun k_ => some k_ ≠ (v269 : Value).ownBlock) v272 t271) ∧ Aside0 (w'.heap[gb265]? = some (.cells #[.int .u64 a0_0, .int .u64 a0_1] 50 (0, 0))) ∧ Aside0 (w'.heap[gb266]? = some (.cells #[.int .u64 a1_0, .int .u64 a1_1] 50 (0, 0))) ∧ Aside0 (w'.heap[gb267]? = some (.cells #[.int .u64 0, .int .u64 0] 50 (0, 0))) ∧ Aside0 (Below w.heap.size w w'))
 case atStart => exact ⟨(t268), (0), (0), (by first | rfl | (simp; done) | (simp [*]; done)), (by first | rfl | (simp; done) | (simp [*]; done)), H', ⟨Nat.le_refl _⟩, ⟨by (with_reducible repeat (first | apply Kd.R_alloc | apply Kd.R_drewN | apply Kd.R_drew)); exact Kd.R_mono HO270.out (fun _ hk => hk.2)⟩, ⟨by (with_reducible repeat (first | apply Kd.R_alloc | apply Kd.R_drewN | apply Kd.R_drew)); exact Kd.R_mono HO273.out (fun _ hk => hk.2)⟩, ⟨by exact BK265.out⟩, ⟨by exact BK266.out⟩, ⟨by exact BK267.out⟩, ⟨by repeat (with_reducible first | exact HB.out | apply bs_ GE265 | apply bs_ GE266 | apply bs_ GE267)⟩⟩
 case round =>
  clear H'
  try clear c2
  try clear p2
  try clear c3
  obtain ⟨x6_1, x8_1, x9_1, rfl, rfl, HA, HK1, HO_6, HO_7, BK265, BK266, BK267, HB⟩ := hrel
  cases gk with
  | zero => exact absurd HA.out (by simp [overfallref01_Sub.l0])
  | succ k1 =>
   have H := HA.out
   clear HA
   simp only [overfallref01_Sub.l0] at H
   by_cases c11 : x9_1 < 8
   ·rw [if_pos c11] at H
    have c11b0 : decide (x9_1 < 8) = true := decide_eq_true c11
    clear c11
    by_cases c12 : 0 ≤ x9_1
    ·rw [if_pos c12] at H
     have c12b0 : decide (0 ≤ x9_1) = true := decide_eq_true c12
     clear c12
     by_cases c13 : x9_1 < (x6_1.length : Int)
     ·rw [if_pos c13] at H
      have c13b0 : decide (x9_1 < (x6_1.length : Int)) = true := decide_eq_true c13
      clear c13
      by_cases c14 : x9_1 < (t271.length : Int)
      ·rw [if_pos c14] at H
       have c14b0 : decide (x9_1 < (t271.length : Int)) = true := decide_eq_true c14
       clear c14
       by_cases c15 : (wrap64 ((wrap64 ((rd x6_1 x9_1) - (rd t271 x9_1))) - x8_1)) < 0
       ·rw [if_pos c15] at H
        have c15b0 : decide ((wrap64 ((wrap64 ((rd x6_1 x9_1) - (rd t271 x9_1))) - x8_1)) < 0) = true := decide_eq_true c15
        clear c15
        obtain ⟨y276, hy276⟩ : ∃ y_ : List Int, y_ = (x6_1.set (x9_1 : Int).toNat (wrap64 ((wrap64 ((wrap64 ((rd x6_1 x9_1) - (rd t271 x9_1))) - x8_1)) + 65536))) := ⟨_, rfl⟩
        replace H : (overfallref01_Sub.l0 k1 y276 t271 1 (wrap64 (x9_1 + 1))) = some (r1, r2, r3) := by first | (rw [hy276]; with_reducible exact H) | (have H2_ := (Option.bind_some _ _).symm.trans H; rw [hy276]; with_reducible exact H2_) | (have H2_ := (Option.bind_some _ _).symm.trans H; with_reducible exact H2_) | with_reducible exact H | (rw [hy276]; exact H) | exact H
        have Ny276 := Aside0.mk hy276
        clear hy276
        have H' := Aside0.mk H
        clear H
        try go_wp2
        replace HO_6 := m_ (Kd.R_drew HO_6.out)
        replace HO_7 := m_ (Kd.R_drew HO_7.out)
        replace BK265 := m_ (blk_drew BK265.out)
        replace BK266 := m_ (blk_drew BK266.out)
        replace BK267 := m_ (blk_drew BK267.out)
        replace HB := m_ (below_drew1 HB.out)
        obtain ⟨Ao18, co18, eo18⟩ := Kd.R_slice HO_6.out
        (first | subst eo18 | (injection eo18 with f1_ f2_ f3_; have f4_ := f1_.symm; have f5_ := f3_.symm; clear f1_ f2_ f3_; subst f4_; subst f5_))
        have p274 : 0 ≤ (x9_1 : Int) := of_decide_eq_true (by first | (with_reducible assumption) | assumption)
        have q274 : x9_1 < (x6_1.length : Int) := of_decide_eq_true (by first | (with_reducible assumption) | assumption)
        obtain ⟨ad274, e274, hx274_0⟩ := Kd.at_int (Kd.R_reads' HO_6.out).2.2 x9_1 p274 q274
        cases e274
        replace p274 := eq_true p274
        replace q274 := eq_true q274
        obtain ⟨Ao19, co19, eo19⟩ := Kd.R_slice HO_7.out
        (first | subst eo19 | (injection eo19 with f1_ f2_ f3_; have f4_ := f1_.symm; have f5_ := f3_.symm; clear f1_ f2_ f3_; subst f4_; subst f5_))
        have p275 : 0 ≤ (x9_1 : Int) := of_decide_eq_true (by first | (with_reducible assumption) | assumption)
        have q275 : x9_1 < (t271.length : Int) := of_decide_eq_true (by first | (with_reducible assumption) | assumption)
        obtain ⟨ad275, e275, hx275_0⟩ := Kd.at_int (Kd.R_reads' HO_7.out).2.2 x9_1 p275 q275
        cases e275
        replace p275 := eq_true p275
        replace q275 := eq_true q275
        refine start_ (n := 12) (S := fun w' => w'.cell? (ad274.add (x9_1).toNat) = some (.int .i64 (rd x6_1 x9_1)) ∧ w'.cell? (ad275.add (x9_1).toNat) = some (.int .i64 (rd t271 x9_1))) (ds := []) #[false, false, false, false, false, false, false, false, false, false, false, false] (by kernel_rfl) rfl rfl ⟨hx274_0, hx275_0⟩ (fun hHeld => ?_); refine with_tabW overfallref01_Sub.tab6 overfallref01_Sub.bits6 (fun HT_ HW_ => ?_)
        generalize wr.drew = w17 at HO_6 HO_7 BK265 BK266 BK267 HB hx274_0 hx275_0 hHeld ⊢
        refine pure_ (i := 0) (N := some 19) (v := ?_) (a' := ?_) #[true, false, false, false, false, false, false, false, false, false, false, false] rfl rfl (any_of HT_.out (by kernel_rfl)) (fun _ _ _ h => h) (Or.inl ⟨by rfl, ?_⟩) ?_ ?_
        rotate_left
        ·intro w'
         go_simp
         with_reducible rfl
        rotate_left
        ·simp only [Act.put, sa_, s0_, ss_, i64_w, i32_w]
         rfl
        refine pure_ (i := 1) (N := some 20) (v := ?_) (a' := ?_) #[true, true, false, false, false, false, false, false, false, false, false, false] rfl rfl (any_of HT_.out (by kernel_rfl)) (fun _ _ _ h => h) (Or.inl ⟨by rfl, ?_⟩) ?_ ?_
        rotate_left
        ·intro w'
         go_simp
         with_reducible rfl
        rotate_left
        ·simp only [Act.put, sa_, s0_, ss_, i64_w, i32_w]
         rfl
        refine pure_ (i := 2) (N := some 21) (v := ?_) (a' := ?_) #[true, true, true, false, false, false, false, false, false, false, false, false] rfl rfl (any_of HT_.out (by kernel_rfl)) (fun _ _ _ h => h) (Or.inl ⟨by rfl, ?_⟩) ?_ ?_
        rotate_left
        ·intro w'
         go_simp
         with_reducible rfl
        rotate_left
        ·simp only [Act.put, sa_, s0_, ss_, i64_w, i32_w]
         rfl
        refine pure_ (i := 4) (N := some 23) (v := ?_) (a' := ?_) #[true, true, true, false, true, false, false, false, false, false, false, false] rfl rfl (any_of HT_.out (by kernel_rfl)) (fun _ _ _ h => h) (Or.inl ⟨by rfl, ?_⟩) ?_ ?_
        rotate_left
        ·intro w'
         go_simp
         with_reducible rfl
        rotate_left
        ·simp only [Act.put, sa_, s0_, ss_, i64_w, i32_w]
         rfl
        refine pure_ (i := 5) (N := some 24) (v := ?_) (a' := ?_) #[true, true, true, false, true, true, false, false, false, false, false, false] rfl rfl (any_of HT_.out (by kernel_rfl)) (fun _ _ _ h => h) (Or.inl ⟨by rfl, ?_⟩) ?_ ?_
        rotate_left
        ·intro w'
         go_simp
         with_reducible rfl
        rotate_left
        ·simp only [Act.put, sa_, s0_, ss_, i64_w, i32_w]
         rfl
        refine pure_ (i := 6) (N := some 25) (v := ?_) (a' := ?_) #[true, true, true, false, true, true, true, false, false, false, false, false] rfl rfl (any_of HT_.out (by kernel_rfl)) (fun _ _ _ h => h) (Or.inl ⟨by rfl, ?_⟩) ?_ ?_
        rotate_left
        ·intro w'
         go_simp
         with_reducible rfl
        rotate_left
        ·simp only [Act.put, sa_, s0_, ss_, i64_w, i32_w]
         rfl
        refine pure_ (i := 9) (N := some 28) (v := ?_) (a' := ?_) #[true, true, true, false, true, true, true, false, false, true, false, false] rfl rfl (any_of HT_.out (by kernel_rfl)) (fun _ _ _ h => h) (Or.inl ⟨by rfl, ?_⟩) ?_ ?_
        rotate_left
        ·intro w'
         go_simp
         with_reducible rfl
        rotate_left
        ·simp only [Act.put, sa_, s0_, ss_, i64_w, i32_w]
         rfl
        refine take_ (i := 3) (N := some 22) (v := ?_) (a' := ?_) #[true, true, true, true, true, true, true, false, false, true, false, false] rfl rfl (take_ofW HT_.out HW_.out (by kernel_rfl)) (fun _ _ _ h => h) (Or.inl ⟨by rfl, ?_⟩) hHeld ?_ ?_
        rotate_left
        ·rintro w' ⟨s0, s1⟩
         go_simp
         with_reducible rfl
        rotate_left
        ·simp only [Act.put, sa_, s0_, ss_, i64_w, i32_w]
         rfl
        refine take_ (i := 7) (N := some 26) (v := ?_) (a' := ?_) #[true, true, true, true, true, true, true, true, false, true, false, false] rfl rfl (take_ofW HT_.out HW_.out (by kernel_rfl)) (fun _ _ _ h => h) (Or.inl ⟨by rfl, ?_⟩) hHeld ?_ ?_
        rotate_left
        ·rintro w' ⟨s0, s1⟩
         go_simp
         with_reducible rfl
        rotate_left
        ·simp only [Act.put, sa_, s0_, ss_, i64_w, i32_w]
         rfl
        refine pure_ (i := 8) (N := some 27) (v := ?_) (a' := ?_) #[true, true, true, true, true, true, true, true, true, true, false, false] rfl rfl (any_of HT_.out (by kernel_rfl)) (fun _ _ _ h => h) (Or.inl ⟨by rfl, ?_⟩) ?_ ?_
        rotate_left
        ·intro w'
         go_simp
         with_reducible rfl
        rotate_left
        ·simp only [Act.put, sa_, s0_, ss_, i64_w, i32_w]
         rfl
        refine pure_ (i := 10) (N := some 29) (v := ?_) (a' := ?_) #[true, true, true, true, true, true, true, true, true, true, true, false] rfl rfl (any_of HT_.out (by kernel_rfl)) (fun _ _ _ h => h) (Or.inl ⟨by rfl, ?_⟩) ?_ ?_
        rotate_left
        ·intro w'
         go_simp
         with_reducible rfl
        rotate_left
        ·simp only [Act.put, sa_, s0_, ss_, i64_w, i32_w]
         rfl
        refine pure_ (i := 11) (N := some 10) (v := ?_) (a' := ?_) #[true, true, true, true, true, true, true, true, true, true, true, true] rfl rfl (any_of HT_.out (by kernel_rfl)) (fun _ _ _ h => h) (Or.inl ⟨by rfl, ?_⟩) ?_ ?_
        rotate_left
        ·intro w'
         go_simp
         with_reducible rfl
        rotate_left
        ·simp only [Act.put, sa_, s0_, ss_, i64_w, i32_w]
         rfl
        refine done_ (done_of HT_.out (by kernel_rfl)) ?_
        have p16 : 0 ≤ (x9_1 : Int) := of_decide_eq_true (by first | (with_reducible assumption) | assumption)
        have q16 : (x9_1 : Int) < ((x6_1.length : Int) : Int) := of_decide_eq_true (by first | (with_reducible assumption) | assumption)
        obtain ⟨go16, co16, eo16, gb16, gl16, cl16, HG16⟩ := Kd.R_form HO_6.out (by omega)
        (first | cases eo16 | (injection eo16 with ea_ en_ ec_; (first | subst ea_ | (injection ea_ with ea_; subst ea_)); subst ec_; clear en_))
        have GB16 := Aside0.mk gb16
        have GG16 := Aside0.mk HG16
        clear gb16 gl16 HG16
        (first | simp only [add_plain] at hx274_0 | skip)
        obtain ⟨hx16_0, hf16_0⟩ := Kd.R_celln 0 HO_6.out (x9_1 : Int) p16 q16
        replace p16 := eq_true p16
        replace q16 := eq_true q16
        obtain ⟨hy20_, hz20_⟩ := Kd.R_celln 0 HO_6.out (x9_1 : Int) (of_decide_eq_true (by first | (with_reducible assumption) | assumption)) (of_decide_eq_true (by first | (with_reducible assumption) | assumption))
        have HP20 := Kd.R_putg HO_6.out (x9_1 : Int) (wrap64 ((wrap64 ((wrap64 ((rd x6_1 x9_1) - (rd t271 x9_1))) - x8_1)) + 65536))
        try go_wp2_with (first | ((with_reducible refine gate_store (t := 3) (p := 37) rfl ?_); refine store_event (t := 3) (p := 37) (v := ?vo_w21) (w1 := (w17.setCell ⟨go16, (x9_1 : Int).toNat, none⟩ (.int .i64 (wrap64 ((wrap64 ((wrap64 ((rd x6_1 x9_1) - (rd t271 x9_1))) - x8_1)) + 65536))))) ?hg ?ho ?hn ?hr ?_; (case ho => rfl); (case hg => rfl); (case hn => rfl); (case hr => first | (go_simp; done) | (go_simp; rfl)); intro w21 hw; have hg : w17.grownBy w21 (some go16) := (by rw [hw]; exact HP20.2); have hp_ : Kd.R (Kd.int .i64) 3 w21 w.heap.size (fun k_ => some k_ ≠ (.slice (some ad275) t271.length co19 : Value).ownBlock) (.slice (some ⟨go16, 0, none⟩) x6_1.length co18) y276 := (by rw [hw, Ny276.out]; exact HP20.1); clear HP20; have n0_ := m_ (hp_); have n1_ := m_ (Kd.R_after (v := (.slice (some ⟨go16, 0, none⟩) x6_1.length co18)) (v1 := (.slice (some ⟨go16, 0, none⟩) x6_1.length co18)) (ok := (fun _ => True)) (by (with_reducible repeat (first | apply Kd.R_alloc | apply Kd.R_drewN | apply Kd.R_drew)); exact Kd.R_mono HO_7.out (fun _ hk => ⟨trivial, hk⟩)) hg (.inl rfl)); have n2_ := m_ (blk_grown (by exact BK265.out) hg (Kd.R_ne HO_6.out BK265.out (by decide))); have n3_ := m_ (blk_grown (by exact BK266.out) hg (Kd.R_ne HO_6.out BK266.out (by decide))); have n4_ := m_ (blk_grown (by exact BK267.out) hg (Kd.R_ne HO_6.out BK267.out (by decide))); have n5_ := m_ ((by rw [hw]; exact below_set (HB.out) GB16.out : Below w.heap.size w w21)); clear HO_6; clear HO_7; clear BK265; clear BK266; clear BK267; clear HB; have HO_6 := n0_; have HO_7 := n1_; have BK265 := n2_; have BK266 := n3_; have BK267 := n4_; have HB := n5_; clear n0_ n1_ n2_ n3_ n4_ n5_; clear hg hw hp_))
        go_roundg k1
        case measure => have := HK1.out; omega
        case rel => exact ⟨(y276), (1), (wrap64 (x9_1 + 1)), (by first | rfl | (simp; done) | (simp [*]; done)), (by first | rfl | (simp; done) | (simp [*]; done)), H', ⟨by have := HK1.out; omega⟩, ⟨by (with_reducible repeat (first | apply Kd.R_alloc | apply Kd.R_drewN | apply Kd.R_drew)); exact HO_6.out⟩, ⟨by (with_reducible repeat (first | apply Kd.R_alloc | apply Kd.R_drewN | apply Kd.R_drew)); exact Kd.R_mono HO_7.out (fun _ hk => hk.2)⟩, ⟨by exact BK265.out⟩, ⟨by exact BK266.out⟩, ⟨by exact BK267.out⟩, ⟨by repeat (with_reducible first | exact HB.out | apply bs_ GE265 | apply bs_ GE266 | apply bs_ GE267)⟩⟩
       ·rw [if_neg c15] at H
        have c15b0 : decide ((wrap64 ((wrap64 ((rd x6_1 x9_1) - (rd t271 x9_1))) - x8_1)) < 0) = false := decide_eq_false c15
        clear c15
        obtain ⟨y277, hy277⟩ : ∃ y_ : List Int, y_ = (x6_1.set (x9_1 : Int).toNat (wrap64 ((wrap64 ((rd x6_1 x9_1) - (rd t271 x9_1))) - x8_1))) := ⟨_, rfl⟩
        replace H : (overfallref01_Sub.l0 k1 y277 t271 0 (wrap64 (x9_1 + 1))) = some (r1, r2, r3) := by first | (rw [hy277]; with_reducible exact H) | (have H2_ := (Option.bind_some _ _).symm.trans H; rw [hy277]; with_reducible exact H2_) | (have H2_ := (Option.bind_some _ _).symm.trans H; with_reducible exact H2_) | with_reducible exact H | (rw [hy277]; exact H) | exact H
        have Ny277 := Aside0.mk hy277
        clear hy277
        have H' := Aside0.mk H
        clear H
        try go_wp2
        replace HO_6 := m_ (Kd.R_drew HO_6.out)
        replace HO_7 := m_ (Kd.R_drew HO_7.out)
        replace BK265 := m_ (blk_drew BK265.out)
        replace BK266 := m_ (blk_drew BK266.out)
        replace BK267 := m_ (blk_drew BK267.out)
        replace HB := m_ (below_drew1 HB.out)
        obtain ⟨Ao24, co24, eo24⟩ := Kd.R_slice HO_6.out
        (first | subst eo24 | (injection eo24 with f1_ f2_ f3_; have f4_ := f1_.symm; have f5_ := f3_.symm; clear f1_ f2_ f3_; subst f4_; subst f5_))
        have p274 : 0 ≤ (x9_1 : Int) := of_decide_eq_true (by first | (with_reducible assumption) | assumption)
        have q274 : x9_1 < (x6_1.length : Int) := of_decide_eq_true (by first | (with_reducible assumption) | assumption)
        obtain ⟨ad274, e274, hx274_0⟩ := Kd.at_int (Kd.R_reads' HO_6.out).2.2 x9_1 p274 q274
        cases e274
        replace p274 := eq_true p274
        replace q274 := eq_true q274
        obtain ⟨Ao25, co25, eo25⟩ := Kd.R_slice HO_7.out
        (first | subst eo25 | (injection eo25 with f1_ f2_ f3_; have f4_ := f1_.symm; have f5_ := f3_.symm; clear f1_ f2_ f3_; subst f4_; subst f5_))
        have p275 : 0 ≤ (x9_1 : Int) := of_decide_eq_true (by first | (with_reducible assumption) | assumption)
        have q275 : x9_1 < (t271.length : Int) := of_decide_eq_true (by first | (with_reducible assumption) | assumption)
        obtain ⟨ad275, e275, hx275_0⟩ := Kd.at_int (Kd.R_reads' HO_7.out).2.2 x9_1 p275 q275
        cases e275
        replace p275 := eq_true p275
        replace q275 := eq_true q275
        refine start_ (n := 12) (S := fun w' => w'.cell? (ad274.add (x9_1).toNat) = some (.int .i64 (rd x6_1 x9_1)) ∧ w'.cell? (ad275.add (x9_1).toNat) = some (.int .i64 (rd t271 x9_1))) (ds := []) #[false, false, false, false, false, false, false, false, false, false, false, false] (by kernel_rfl) rfl rfl ⟨hx274_0, hx275_0⟩ (fun hHeld => ?_); refine with_tabW overfallref01_Sub.tab6 overfallref01_Sub.bits6 (fun HT_ HW_ => ?_)
        generalize wr.drew = w23 at HO_6 HO_7 BK265 BK266 BK267 HB hx274_0 hx275_0 hHeld ⊢
        refine pure_ (i := 0) (N := some 19) (v := ?_) (a' := ?_) #[true, false, false, false, false, false, false, false, false, false, false, false] rfl rfl (any_of HT_.out (by kernel_rfl)) (fun _ _ _ h => h) (Or.inl ⟨by rfl, ?_⟩) ?_ ?_
        rotate_left
        ·intro w'
         go_simp
         with_reducible rfl
        rotate_left
        ·simp only [Act.put, sa_, s0_, ss_, i64_w, i32_w]
         rfl
        refine pure_ (i := 1) (N := some 20) (v := ?_) (a' := ?_) #[true, true, false, false, false, false, false, false, false, false, false, false] rfl rfl (any_of HT_.out (by kernel_rfl)) (fun _ _ _ h => h) (Or.inl ⟨by rfl, ?_⟩) ?_ ?_
        rotate_left
        ·intro w'
         go_simp
         with_reducible rfl
        rotate_left
        ·simp only [Act.put, sa_, s0_, ss_, i64_w, i32_w]
         rfl
        refine pure_ (i := 2) (N := some 21) (v := ?_) (a' := ?_) #[true, true, true, false, false, false, false, false, false, false, false, false] rfl rfl (any_of HT_.out (by kernel_rfl)) (fun _ _ _ h => h) (Or.inl ⟨by rfl, ?_⟩) ?_ ?_
        rotate_left
        ·intro w'
         go_simp
         with_reducible rfl
        rotate_left
        ·simp only [Act.put, sa_, s0_, ss_, i64_w, i32_w]
         rfl
        refine pure_ (i := 4) (N := some 23) (v := ?_) (a' := ?_) #[true, true, true, false, true, false, false, false, false, false, false, false] rfl rfl (any_of HT_.out (by kernel_rfl)) (fun _ _ _ h => h) (Or.inl ⟨by rfl, ?_⟩) ?_ ?_
        rotate_left
        ·intro w'
         go_simp
         with_reducible rfl
        rotate_left
        ·simp only [Act.put, sa_, s0_, ss_, i64_w, i32_w]
         rfl
        refine pure_ (i := 5) (N := some 24) (v := ?_) (a' := ?_) #[true, true, true, false, true, true, false, false, false, false, false, false] rfl rfl (any_of HT_.out (by kernel_rfl)) (fun _ _ _ h => h) (Or.inl ⟨by rfl, ?_⟩) ?_ ?_
        rotate_left
        ·intro w'
         go_simp
         with_reducible rfl
        rotate_left
        ·simp only [Act.put, sa_, s0_, ss_, i64_w, i32_w]
         rfl
        refine pure_ (i := 6) (N := some 25) (v := ?_) (a' := ?_) #[true, true, true, false, true, true, true, false, false, false, false, false] rfl rfl (any_of HT_.out (by kernel_rfl)) (fun _ _ _ h => h) (Or.inl ⟨by rfl, ?_⟩) ?_ ?_
        rotate_left
        ·intro w'
         go_simp
         with_reducible rfl
        rotate_left
        ·simp only [Act.put, sa_, s0_, ss_, i64_w, i32_w]
         rfl
        refine pure_ (i := 9) (N := some 28) (v := ?_) (a' := ?_) #[true, true, true, false, true, true, true, false, false, true, false, false] rfl rfl (any_of HT_.out (by kernel_rfl)) (fun _ _ _ h => h) (Or.inl ⟨by rfl, ?_⟩) ?_ ?_
        rotate_left
        ·intro w'
         go_simp
         with_reducible rfl
        rotate_left
        ·simp only [Act.put, sa_, s0_, ss_, i64_w, i32_w]
         rfl
        refine take_ (i := 3) (N := some 22) (v := ?_) (a' := ?_) #[true, true, true, true, true, true, true, false, false, true, false, false] rfl rfl (take_ofW HT_.out HW_.out (by kernel_rfl)) (fun _ _ _ h => h) (Or.inl ⟨by rfl, ?_⟩) hHeld ?_ ?_
        rotate_left
        ·rintro w' ⟨s0, s1⟩
         go_simp
         with_reducible rfl
        rotate_left
        ·simp only [Act.put, sa_, s0_, ss_, i64_w, i32_w]
         rfl
        refine take_ (i := 7) (N := some 26) (v := ?_) (a' := ?_) #[true, true, true, true, true, true, true, true, false, true, false, false] rfl rfl (take_ofW HT_.out HW_.out (by kernel_rfl)) (fun _ _ _ h => h) (Or.inl ⟨by rfl, ?_⟩) hHeld ?_ ?_
        rotate_left
        ·rintro w' ⟨s0, s1⟩
         go_simp
         with_reducible rfl
        rotate_left
        ·simp only [Act.put, sa_, s0_, ss_, i64_w, i32_w]
         rfl
        refine pure_ (i := 8) (N := some 27) (v := ?_) (a' := ?_) #[true, true, true, true, true, true, true, true, true, true, false, false] rfl rfl (any_of HT_.out (by kernel_rfl)) (fun _ _ _ h => h) (Or.inl ⟨by rfl, ?_⟩) ?_ ?_
        rotate_left
        ·intro w'
         go_simp
         with_reducible rfl
        rotate_left
        ·simp only [Act.put, sa_, s0_, ss_, i64_w, i32_w]
         rfl
        refine pure_ (i := 10) (N := some 29) (v := ?_) (a' := ?_) #[true, true, true, true, true, true, true, true, true, true, true, false] rfl rfl (any_of HT_.out (by kernel_rfl)) (fun _ _ _ h => h) (Or.inl ⟨by rfl, ?_⟩) ?_ ?_
        rotate_left
        ·intro w'
         go_simp
         with_reducible rfl
        rotate_left
        ·simp only [Act.put, sa_, s0_, ss_, i64_w, i32_w]
         rfl
        refine pure_ (i := 11) (N := some 10) (v := ?_) (a' := ?_) #[true, true, true, true, true, true, true, true, true, true, true, true] rfl rfl (any_of HT_.out (by kernel_rfl)) (fun _ _ _ h => h) (Or.inl ⟨by rfl, ?_⟩) ?_ ?_
        rotate_left
        ·intro w'
         go_simp
         with_reducible rfl
        rotate_left
        ·simp only [Act.put, sa_, s0_, ss_, i64_w, i32_w]
         rfl
        refine done_ (done_of HT_.out (by kernel_rfl)) ?_
        have p22 : 0 ≤ (x9_1 : Int) := of_decide_eq_true (by first | (with_reducible assumption) | assumption)
        have q22 : (x9_1 : Int) < ((x6_1.length : Int) : Int) := of_decide_eq_true (by first | (with_reducible assumption) | assumption)
        obtain ⟨go22, co22, eo22, gb22, gl22, cl22, HG22⟩ := Kd.R_form HO_6.out (by omega)
        (first | cases eo22 | (injection eo22 with ea_ en_ ec_; (first | subst ea_ | (injection ea_ with ea_; subst ea_)); subst ec_; clear en_))
        have GB22 := Aside0.mk gb22
        have GG22 := Aside0.mk HG22
        clear gb22 gl22 HG22
        (first | simp only [add_plain] at hx274_0 | skip)
        obtain ⟨hx22_0, hf22_0⟩ := Kd.R_celln 0 HO_6.out (x9_1 : Int) p22 q22
        replace p22 := eq_true p22
        replace q22 := eq_true q22
        obtain ⟨hy26_, hz26_⟩ := Kd.R_celln 0 HO_6.out (x9_1 : Int) (of_decide_eq_true (by first | (with_reducible assumption) | assumption)) (of_decide_eq_true (by first | (with_reducible assumption) | assumption))
        have HP26 := Kd.R_putg HO_6.out (x9_1 : Int) (wrap64 ((wrap64 ((rd x6_1 x9_1) - (rd t271 x9_1))) - x8_1))
        try go_wp2_with (first | ((with_reducible refine gate_store (t := 3) (p := 37) rfl ?_); refine store_event (t := 3) (p := 37) (v := ?vo_w27) (w1 := (w23.setCell ⟨go22, (x9_1 : Int).toNat, none⟩ (.int .i64 (wrap64 ((wrap64 ((rd x6_1 x9_1) - (rd t271 x9_1))) - x8_1))))) ?hg ?ho ?hn ?hr ?_; (case ho => rfl); (case hg => rfl); (case hn => rfl); (case hr => first | (go_simp; done) | (go_simp; rfl)); intro w27 hw; have hg : w23.grownBy w27 (some go22) := (by rw [hw]; exact HP26.2); have hp_ : Kd.R (Kd.int .i64) 3 w27 w.heap.size (fun k_ => some k_ ≠ (.slice (some ad275) t271.length co25 : Value).ownBlock) (.slice (some ⟨go22, 0, none⟩) x6_1.length co24) y277 := (by rw [hw, Ny277.out]; exact HP26.1); clear HP26; have n0_ := m_ (hp_); have n1_ := m_ (Kd.R_after (v := (.slice (some ⟨go22, 0, none⟩) x6_1.length co24)) (v1 := (.slice (some ⟨go22, 0, none⟩) x6_1.length co24)) (ok := (fun _ => True)) (by (with_reducible repeat (first | apply Kd.R_alloc | apply Kd.R_drewN | apply Kd.R_drew)); exact Kd.R_mono HO_7.out (fun _ hk => ⟨trivial, hk⟩)) hg (.inl rfl)); have n2_ := m_ (blk_grown (by exact BK265.out) hg (Kd.R_ne HO_6.out BK265.out (by decide))); have n3_ := m_ (blk_grown (by exact BK266.out) hg (Kd.R_ne HO_6.out BK266.out (by decide))); have n4_ := m_ (blk_grown (by exact BK267.out) hg (Kd.R_ne HO_6.out BK267.out (by decide))); have n5_ := m_ ((by rw [hw]; exact below_set (HB.out) GB22.out : Below w.heap.size w w27)); clear HO_6; clear HO_7; clear BK265; clear BK266; clear BK267; clear HB; have HO_6 := n0_; have HO_7 := n1_; have BK265 := n2_; have BK266 := n3_; have BK267 := n4_; have HB := n5_; clear n0_ n1_ n2_ n3_ n4_ n5_; clear hg hw hp_))
        go_roundg k1
        case measure => have := HK1.out; omega
        case rel => exact ⟨(y277), (0), (wrap64 (x9_1 + 1)), (by first | rfl | (simp; done) | (simp [*]; done)), (by first | rfl | (simp; done) | (simp [*]; done)), H', ⟨by have := HK1.out; omega⟩, ⟨by (with_reducible repeat (first | apply Kd.R_alloc | apply Kd.R_drewN | apply Kd.R_drew)); exact HO_6.out⟩, ⟨by (with_reducible repeat (first | apply Kd.R_alloc | apply Kd.R_drewN | apply Kd.R_drew)); exact Kd.R_mono HO_7.out (fun _ hk => hk.2)⟩, ⟨by exact BK265.out⟩, ⟨by exact BK266.out⟩, ⟨by exact BK267.out⟩, ⟨by repeat (with_reducible first | exact HB.out | apply bs_ GE265 | apply bs_ GE266 | apply bs_ GE267)⟩⟩
      ·rw [if_neg c14] at H
       exact absurd H (by simp)
     ·rw [if_neg c13] at H
      exact absurd H (by simp)
    ·rw [if_neg c12] at H
     exact absurd H (by simp)
   ·rw [if_neg c11] at H
    have c11b0 : decide (x9_1 < 8) = false := decide_eq_false c11
    clear c11
    replace H := Option.bind_eq_some_iff.mp H
    obtain ⟨⟨t278, t279⟩, A280, H⟩ := H
    replace H : (some (t278, t279, decide (x8_1 > 0))) = some (r1, r2, r3) := H
    have A28 := Aside0.mk A280
    clear A280
    simp only [Option.some.injEq, Prod.mk.injEq] at H
    obtain ⟨rfl, rfl, rfl⟩ := H
    obtain ⟨Ao29, co29, eo29⟩ := Kd.R_slice HO_6.out
    subst eo29
    go_wp2_with (first | ((with_reducible refine gate_callee (f := 35) rfl ?_); refine goesL_ (some 39) rfl rfl Try.func35 (by kernel_rfl) rfl #[.slice Ao29 x6_1.length co29] rfl (by first | rfl | (simp only [List.map_toArray, List.map_cons, List.map_nil]; first | done | rfl)) ?_; (with_reducible refine (overfallref01_Value.calls k1 _ _ x6_1 t278 t279 _ ?side1 ?side2 A28.out).mono ?_); (case side1 => repeat (first | exact (Kd.R_reads' HO_6.out).2.2 | (with_reducible refine Kd.C_alloc ?_ _) | (with_reducible refine Kd.C_drewN ?_ _) | (with_reducible refine Kd.C_drew ?_))); (case side2 => exact (Kd.R_reads' HO_6.out).2.1); rintro e w30 ⟨rfl, hb⟩; refine ⟨_, rfl, ?_⟩; replace HO_6 := m_ (Kd.R_below (by (with_reducible repeat (first | apply Kd.R_alloc | apply Kd.R_drewN | apply Kd.R_drew)); exact HO_6.out) hb); replace HO_7 := m_ (Kd.R_below (by (with_reducible repeat (first | apply Kd.R_alloc | apply Kd.R_drewN | apply Kd.R_drew)); exact HO_7.out) hb); replace BK265 := bb_ BK265 hb; replace BK266 := bb_ BK266 hb; replace BK267 := bb_ BK267 hb; replace HB := st_ (by repeat (with_reducible first | exact HB.out | apply bs_ GE265 | apply bs_ GE266 | apply bs_ GE267)) hb; (try clear hb); have hnb31 := NB267_265.out; have hnc31 := NB265_267.out; have hnb32 := NB267_266.out; have hnc32 := NB266_267.out; obtain ⟨hcz33_0, hcz33_1, hfz33_0, hfz33_1⟩ := cf2 BK267))
    refine bodyPost_ret (results_ct rfl _ _ gb267 50 #[.int .u64 t278, .int .u64 t279] (0, 0) _ rfl (by apply put2_; exact BK267.out) Try.underlying50 rfl (by kernel_rfl)) rfl ?_
    exact ⟨by first | rfl | (simp [errW_none, errW_some] <;> rfl) | (simp [*, errW_none, errW_some] <;> rfl), by repeat (with_reducible first | exact HB.out | apply bs_ GE265 | apply bs_ GE266 | apply bs_ GE267)⟩

/-! ### overfallref02_Add: function 10 -/
def overfallref02_Add.f (k : Nat) (a0 : Int) (a1 : Int) : Option (Int) := (overfallref02_Size.f a0).bind fun bt280 => ((overfallref02_Size.f a1).bind fun bt284 => (if (bt280.2.2 == bt284.2.2) = true then ((overfallref01_Add.f k bt280.1 bt280.2.1 bt284.1 bt284.2.1).bind fun bt288 => ((overfallref02_Back.f k bt288.1 bt288.2.1 bt280.2.2).bind fun t292 => (some t292))) else ((overfallref01_Less.f bt280.1 bt280.2.1 bt284.1 bt284.2.1).bind fun t293 => (if t293 = true then ((overfallref01_Sub.f k bt284.1 bt284.2.1 bt280.1 bt280.2.1).bind fun bt294 => ((overfallref02_Back.f k bt294.1 bt294.2.1 bt284.2.2).bind fun t298 => (some t298))) else ((overfallref01_Sub.f k bt280.1 bt280.2.1 bt284.1 bt284.2.1).bind fun bt299 => ((overfallref02_Back.f k bt299.1 bt299.2.1 bt280.2.2).bind fun t303 => (some t303)))))))
theorem overfallref02_Add.mono : ∀ a0 a1 k, LeO (overfallref02_Add.f k a0 a1) (overfallref02_Add.f (k + 1) a0 a1) := by
 intro a0 a1 k
 unfold overfallref02_Add.f
 repeat' first
   | (with_reducible exact overfallref01_Add.mono _ _ _ _ _)
   | (with_reducible exact overfallref01_Sub.mono _ _ _ _ _)
   | (with_reducible exact overfallref02_Back.mono _ _ _ _)
   | (with_reducible exact LeO.refl _)
   | (with_reducible exact LeO.none _)
   | (with_reducible refine LeO.ite ?_ ?_)
   | (with_reducible refine LeO.bind ?_ (fun _ => ?_))
   | exact overfallref01_Add.mono _ _ _ _ _
   | exact overfallref01_Sub.mono _ _ _ _ _
   | exact overfallref02_Back.mono _ _ _ _
   | exact LeO.none _
   | refine LeO.ite ?_ ?_
   | refine LeO.bind ?_ (fun _ => ?_)
set_option maxHeartbeats 8000000 in
set_option maxRecDepth 100000 in
theorem overfallref02_Add.calls (k : Nat) (a0 : Int) (a1 : Int) (r : Int) (w : World) (h : overfallref02_Add.f k a0 a1 = some r) :
  Calls Try.prog 10 #[.int .i64 a0, .int .i64 a1] w fun e w' => e = .returned (.int .i64 r) ∧ Below w.heap.size w w' := by
 have hu50 := Try.underlying50
 have HB := m_ (Below.refl w.heap.size w)
 have H : ((overfallref02_Size.f a0).bind fun bt280 => ((overfallref02_Size.f a1).bind fun bt284 => (if (bt280.2.2 == bt284.2.2) = true then ((overfallref01_Add.f k bt280.1 bt280.2.1 bt284.1 bt284.2.1).bind fun bt288 => ((overfallref02_Back.f k bt288.1 bt288.2.1 bt280.2.2).bind fun t292 => (some t292))) else ((overfallref01_Less.f bt280.1 bt280.2.1 bt284.1 bt284.2.1).bind fun t293 => (if t293 = true then ((overfallref01_Sub.f k bt284.1 bt284.2.1 bt280.1 bt280.2.1).bind fun bt294 => ((overfallref02_Back.f k bt294.1 bt294.2.1 bt284.2.2).bind fun t298 => (some t298))) else ((overfallref01_Sub.f k bt280.1 bt280.2.1 bt284.1 bt284.2.1).bind fun bt299 => ((overfallref02_Back.f k bt299.1 bt299.2.1 bt280.2.2).bind fun t303 => (some t303)))))))) = some r := h
 clear h
 replace H := Option.bind_eq_some_iff.mp H
 obtain ⟨⟨t280, t281, t282⟩, A30, H⟩ := H
 replace H : ((overfallref02_Size.f a1).bind fun bt284 => (if (t282 == bt284.2.2) = true then ((overfallref01_Add.f k t280 t281 bt284.1 bt284.2.1).bind fun bt288 => ((overfallref02_Back.f k bt288.1 bt288.2.1 t282).bind fun t292 => (some t292))) else ((overfallref01_Less.f t280 t281 bt284.1 bt284.2.1).bind fun t293 => (if t293 = true then ((overfallref01_Sub.f k bt284.1 bt284.2.1 t280 t281).bind fun bt294 => ((overfallref02_Back.f k bt294.1 bt294.2.1 bt284.2.2).bind fun t298 => (some t298))) else ((overfallref01_Sub.f k t280 t281 bt284.1 bt284.2.1).bind fun bt299 => ((overfallref02_Back.f k bt299.1 bt299.2.1 t282).bind fun t303 => (some t303))))))) = some r := H
 have A3 := Aside0.mk A30
 clear A30
 replace H := Option.bind_eq_some_iff.mp H
 obtain ⟨⟨t284, t285, t286⟩, A40, H⟩ := H
 replace H : (if (t282 == t286) = true then ((overfallref01_Add.f k t280 t281 t284 t285).bind fun bt288 => ((overfallref02_Back.f k bt288.1 bt288.2.1 t282).bind fun t292 => (some t292))) else ((overfallref01_Less.f t280 t281 t284 t285).bind fun t293 => (if t293 = true then ((overfallref01_Sub.f k t284 t285 t280 t281).bind fun bt294 => ((overfallref02_Back.f k bt294.1 bt294.2.1 t286).bind fun t298 => (some t298))) else ((overfallref01_Sub.f k t280 t281 t284 t285).bind fun bt299 => ((overfallref02_Back.f k bt299.1 bt299.2.1 t282).bind fun t303 => (some t303)))))) = some r := H
 have A4 := Aside0.mk A40
 clear A40
 by_cases c5 : (t282 == t286) = true
 ·rw [if_pos c5] at H
  have c5b0 : (t282 == t286) = true := c5
  (try (have c5b1 : decide (t282 = t286) = true := by simpa using c5))
  (try (have c5b2 : (t282 == t286) = true := by simpa using c5))
  clear c5
  replace H := Option.bind_eq_some_iff.mp H
  obtain ⟨⟨t288, t289, t290⟩, A60, H⟩ := H
  replace H : ((overfallref02_Back.f k t288 t289 t282).bind fun t292 => (some t292)) = some r := H
  have A6 := Aside0.mk A60
  clear A60
  replace H := Option.bind_eq_some_iff.mp H
  obtain ⟨t292, A70, H⟩ := H
  replace H : (some t292) = some r := H
  have A7 := Aside0.mk A70
  clear A70
  obtain rfl := Option.some.inj H
  go_enter Try.func10, Try.ntmps10
  go_wp2_with (first | ((with_reducible refine gate_callee (f := 22) rfl ?_); refine goesL_ (some 17) rfl rfl Try.func22 (by kernel_rfl) rfl #[.int .i64 a0] rfl (by first | rfl | (simp only [List.map_toArray, List.map_cons, List.map_nil]; first | done | rfl)) ?_; (with_reducible refine (overfallref02_Size.calls a0 t280 t281 t282 _ A3.out).mono ?_); rintro e w8 ⟨rfl, hb⟩; refine ⟨_, rfl, ?_⟩; replace HB := st_ (by repeat (with_reducible first | exact HB.out)) hb; (try clear hb)) | ((with_reducible refine gate_dst (N := 5) rfl ?_); refine box_event ?hg (N := 5) ?hd (cs := #[.int .u64 0, .int .u64 0]) (t := 50) ?hr ?_; (case hd => rfl); (case hg => rfl); (case hr => first | (go_simp; done) | (go_simp; rfl)); intro gb283 hg w9 hbox hb; have BK283 := m_ (hbox); have GW283 := ge_ (by repeat (with_reducible first | exact HB.out)) hg; have GE283 := GW283; replace HB := st_ (by repeat (with_reducible first | exact HB.out)) hb; clear hb hbox hg; obtain ⟨hcz10_0, hcz10_1, hfz10_0, hfz10_1⟩ := cf2 BK283) | ((with_reducible refine gate_callee (f := 22) rfl ?_); refine goesL_ (some 22) rfl rfl Try.func22 (by kernel_rfl) rfl #[.int .i64 a1] rfl (by first | rfl | (simp only [List.map_toArray, List.map_cons, List.map_nil]; first | done | rfl)) ?_; (with_reducible refine (overfallref02_Size.calls a1 t284 t285 t286 _ A4.out).mono ?_); rintro e w11 ⟨rfl, hb⟩; refine ⟨_, rfl, ?_⟩; replace BK283 := m_ (blk_below (g := gb283) (o := .cells #[.int .u64 t280, .int .u64 t281] 50 (0, 0)) (by apply put2_; exact BK283.out) hb); replace HB := st_ (by repeat (with_reducible first | exact HB.out | apply bs_ GE283)) hb; (try clear hb)) | ((with_reducible refine gate_dst (N := 7) rfl ?_); refine box_event ?hg (N := 7) ?hd (cs := #[.int .u64 0, .int .u64 0]) (t := 50) ?hr ?_; (case hd => rfl); (case hg => rfl); (case hr => first | (go_simp; done) | (go_simp; rfl)); intro gb287 hg w12 hbox hb; have BK287 := m_ (hbox); have GW287 := ge_ (by repeat (with_reducible first | exact HB.out | apply bs_ GE283)) hg; have GE287 := GW287; have NB283_287 := nl_ BK283 hg; have NB287_283 := ng_ BK283 hg; replace BK283 := bb_ BK283 hb; replace HB := st_ (by repeat (with_reducible first | exact HB.out | apply bs_ GE283)) hb; clear hb hbox hg; have hnb13 := NB287_283.out; have hnc13 := NB283_287.out; obtain ⟨hcz14_0, hcz14_1, hfz14_0, hfz14_1⟩ := cf2 BK287; obtain ⟨hcz15_0, hcz15_1, hfz15_0, hfz15_1⟩ := cf2 BK283) | ((with_reducible refine gate_callee (f := 23) rfl ?_); refine goesL_ (some 31) rfl rfl Try.func23 (by kernel_rfl) rfl #[.agg #[.int .u64 t280, .int .u64 t281], .agg #[.int .u64 t284, .int .u64 t285]] rfl (by first | rfl | (simp only [List.map_toArray, List.map_cons, List.map_nil]; first | done | rfl)) ?_; (with_reducible refine (overfallref01_Add.calls k t280 t281 t284 t285 t288 t289 t290 _ A6.out).mono ?_); rintro e w16 ⟨rfl, hb⟩; refine ⟨_, rfl, ?_⟩; replace BK283 := m_ (blk_below (g := gb283) (o := .cells #[.int .u64 t280, .int .u64 t281] 50 (0, 0)) (by refine far2_ NB283_287 ?_; exact BK283.out) hb); replace BK287 := m_ (blk_below (g := gb287) (o := .cells #[.int .u64 t284, .int .u64 t285] 50 (0, 0)) (by apply put2_; exact BK287.out) hb); replace HB := st_ (by repeat (with_reducible first | exact HB.out | apply bs_ GE283 | apply bs_ GE287)) hb; (try clear hb)) | ((with_reducible refine gate_dst (N := 9) rfl ?_); refine box_event ?hg (N := 9) ?hd (cs := #[.int .u64 0, .int .u64 0]) (t := 50) ?hr ?_; (case hd => rfl); (case hg => rfl); (case hr => first | (go_simp; done) | (go_simp; rfl)); intro gb291 hg w17 hbox hb; have BK291 := m_ (hbox); have GW291 := ge_ (by repeat (with_reducible first | exact HB.out | apply bs_ GE283 | apply bs_ GE287)) hg; have GE291 := GW291; have NB283_291 := nl_ BK283 hg; have NB291_283 := ng_ BK283 hg; have NB287_291 := nl_ BK287 hg; have NB291_287 := ng_ BK287 hg; replace BK283 := bb_ BK283 hb; replace BK287 := bb_ BK287 hb; replace HB := st_ (by repeat (with_reducible first | exact HB.out | apply bs_ GE283 | apply bs_ GE287)) hb; clear hb hbox hg; have hnb18 := NB291_283.out; have hnc18 := NB283_291.out; have hnb19 := NB291_287.out; have hnc19 := NB287_291.out; obtain ⟨hcz20_0, hcz20_1, hfz20_0, hfz20_1⟩ := cf2 BK291) | ((with_reducible refine gate_callee (f := 24) rfl ?_); refine goesL_ (some 36) rfl rfl Try.func24 (by kernel_rfl) rfl #[.agg #[.int .u64 t288, .int .u64 t289], .bool t282] rfl (by first | rfl | (simp only [List.map_toArray, List.map_cons, List.map_nil]; first | done | rfl)) ?_; (with_reducible refine (overfallref02_Back.calls k t288 t289 t282 t292 _ A7.out).mono ?_); rintro e w21 ⟨rfl, hb⟩; refine ⟨_, rfl, ?_⟩; replace BK283 := m_ (blk_below (g := gb283) (o := .cells #[.int .u64 t280, .int .u64 t281] 50 (0, 0)) (by refine far2_ NB283_291 ?_; exact BK283.out) hb); replace BK287 := m_ (blk_below (g := gb287) (o := .cells #[.int .u64 t284, .int .u64 t285] 50 (0, 0)) (by refine far2_ NB287_291 ?_; exact BK287.out) hb); replace BK291 := m_ (blk_below (g := gb291) (o := .cells #[.int .u64 t288, .int .u64 t289] 50 (0, 0)) (by apply put2_; exact BK291.out) hb); replace HB := st_ (by repeat (with_reducible first | exact HB.out | apply bs_ GE283 | apply bs_ GE287 | apply bs_ GE291)) hb; (try clear hb)))
  go_ret
  exact ⟨by first | rfl | (simp [errW_none, errW_some] <;> rfl) | (simp [*, errW_none, errW_some] <;> rfl), by repeat (with_reducible first | exact HB.out | apply bs_ GE283 | apply bs_ GE287 | apply bs_ GE291)⟩
 ·rw [if_neg c5] at H
  have c5b0 : (t282 == t286) = false := by simpa using c5
  (try (have c5b1 : decide (t282 = t286) = false := by simpa using c5))
  (try (have c5b2 : (t282 == t286) = false := by simpa using c5))
  (try (have c5b3 : ¬ (t282 = t286) := by simpa using c5))
  clear c5
  replace H := Option.bind_eq_some_iff.mp H
  obtain ⟨t293, A220, H⟩ := H
  replace H : (if t293 = true then ((overfallref01_Sub.f k t284 t285 t280 t281).bind fun bt294 => ((overfallref02_Back.f k bt294.1 bt294.2.1 t286).bind fun t298 => (some t298))) else ((overfallref01_Sub.f k t280 t281 t284 t285).bind fun bt299 => ((overfallref02_Back.f k bt299.1 bt299.2.1 t282).bind fun t303 => (some t303)))) = some r := H
  have A22 := Aside0.mk A220
  clear A220
  by_cases c23 : t293 = true
  ·subst c23
   have H1 : ((overfallref01_Sub.f k t284 t285 t280 t281).bind fun bt294 => ((overfallref02_Back.f k bt294.1 bt294.2.1 t286).bind fun t298 => (some t298))) = some r := by rw [if_pos rfl] at H; exact H
   clear H
   have H := H1
   clear H1
   replace H := Option.bind_eq_some_iff.mp H
   obtain ⟨⟨t294, t295, t296⟩, A240, H⟩ := H
   replace H : ((overfallref02_Back.f k t294 t295 t286).bind fun t298 => (some t298)) = some r := H
   have A24 := Aside0.mk A240
   clear A240
   replace H := Option.bind_eq_some_iff.mp H
   obtain ⟨t298, A250, H⟩ := H
   replace H : (some t298) = some r := H
   have A25 := Aside0.mk A250
   clear A250
   obtain rfl := Option.some.inj H
   go_enter Try.func10, Try.ntmps10
   go_wp2_with (first | ((with_reducible refine gate_callee (f := 22) rfl ?_); refine goesL_ (some 17) rfl rfl Try.func22 (by kernel_rfl) rfl #[.int .i64 a0] rfl (by first | rfl | (simp only [List.map_toArray, List.map_cons, List.map_nil]; first | done | rfl)) ?_; (with_reducible refine (overfallref02_Size.calls a0 t280 t281 t282 _ A3.out).mono ?_); rintro e w26 ⟨rfl, hb⟩; refine ⟨_, rfl, ?_⟩; replace HB := st_ (by repeat (with_reducible first | exact HB.out)) hb; (try clear hb)) | ((with_reducible refine gate_dst (N := 5) rfl ?_); refine box_event ?hg (N := 5) ?hd (cs := #[.int .u64 0, .int .u64 0]) (t := 50) ?hr ?_; (case hd => rfl); (case hg => rfl); (case hr => first | (go_simp; done) | (go_simp; rfl)); intro gb283 hg w27 hbox hb; have BK283 := m_ (hbox); have GW283 := ge_ (by repeat (with_reducible first | exact HB.out)) hg; have GE283 := GW283; replace HB := st_ (by repeat (with_reducible first | exact HB.out)) hb; clear hb hbox hg; obtain ⟨hcz28_0, hcz28_1, hfz28_0, hfz28_1⟩ := cf2 BK283) | ((with_reducible refine gate_callee (f := 22) rfl ?_); refine goesL_ (some 22) rfl rfl Try.func22 (by kernel_rfl) rfl #[.int .i64 a1] rfl (by first | rfl | (simp only [List.map_toArray, List.map_cons, List.map_nil]; first | done | rfl)) ?_; (with_reducible refine (overfallref02_Size.calls a1 t284 t285 t286 _ A4.out).mono ?_); rintro e w29 ⟨rfl, hb⟩; refine ⟨_, rfl, ?_⟩; replace BK283 := m_ (blk_below (g := gb283) (o := .cells #[.int .u64 t280, .int .u64 t281] 50 (0, 0)) (by apply put2_; exact BK283.out) hb); replace HB := st_ (by repeat (with_reducible first | exact HB.out | apply bs_ GE283)) hb; (try clear hb)) | ((with_reducible refine gate_dst (N := 7) rfl ?_); refine box_event ?hg (N := 7) ?hd (cs := #[.int .u64 0, .int .u64 0]) (t := 50) ?hr ?_; (case hd => rfl); (case hg => rfl); (case hr => first | (go_simp; done) | (go_simp; rfl)); intro gb287 hg w30 hbox hb; have BK287 := m_ (hbox); have GW287 := ge_ (by repeat (with_reducible first | exact HB.out | apply bs_ GE283)) hg; have GE287 := GW287; have NB283_287 := nl_ BK283 hg; have NB287_283 := ng_ BK283 hg; replace BK283 := bb_ BK283 hb; replace HB := st_ (by repeat (with_reducible first | exact HB.out | apply bs_ GE283)) hb; clear hb hbox hg; have hnb31 := NB287_283.out; have hnc31 := NB283_287.out; obtain ⟨hcz32_0, hcz32_1, hfz32_0, hfz32_1⟩ := cf2 BK287; obtain ⟨hcz33_0, hcz33_1, hfz33_0, hfz33_1⟩ := cf2 BK283) | ((with_reducible refine gate_callee (f := 25) rfl ?_); refine goesL_ (some 39) rfl rfl Try.func25 (by kernel_rfl) rfl #[.agg #[.int .u64 t280, .int .u64 t281], .agg #[.int .u64 t284, .int .u64 t285]] rfl (by first | rfl | (simp only [List.map_toArray, List.map_cons, List.map_nil]; first | done | rfl)) ?_; (with_reducible refine (overfallref01_Less.calls t280 t281 t284 t285 true _ A22.out).mono ?_); rintro e w34 ⟨rfl, hb⟩; refine ⟨_, rfl, ?_⟩; replace BK283 := m_ (blk_below (g := gb283) (o := .cells #[.int .u64 t280, .int .u64 t281] 50 (0, 0)) (by refine far2_ NB283_287 ?_; exact BK283.out) hb); replace BK287 := m_ (blk_below (g := gb287) (o := .cells #[.int .u64 t284, .int .u64 t285] 50 (0, 0)) (by apply put2_; exact BK287.out) hb); replace HB := st_ (by repeat (with_reducible first | exact HB.out | apply bs_ GE283 | apply bs_ GE287)) hb; (try clear hb); obtain ⟨hcz35_0, hcz35_1, hfz35_0, hfz35_1⟩ := cf2 BK287; obtain ⟨hcz36_0, hcz36_1, hfz36_0, hfz36_1⟩ := cf2 BK283) | ((with_reducible refine gate_callee (f := 26) rfl ?_); refine goesL_ (some 43) rfl rfl Try.func26 (by kernel_rfl) rfl #[.agg #[.int .u64 t284, .int .u64 t285], .agg #[.int .u64 t280, .int .u64 t281]] rfl (by first | rfl | (simp only [List.map_toArray, List.map_cons, List.map_nil]; first | done | rfl)) ?_; (with_reducible refine (overfallref01_Sub.calls k t284 t285 t280 t281 t294 t295 t296 _ A24.out).mono ?_); rintro e w37 ⟨rfl, hb⟩; refine ⟨_, rfl, ?_⟩; replace BK283 := bb_ BK283 hb; replace BK287 := bb_ BK287 hb; replace HB := st_ (by repeat (with_reducible first | exact HB.out | apply bs_ GE283 | apply bs_ GE287)) hb; (try clear hb)) | ((with_reducible refine gate_dst (N := 11) rfl ?_); refine box_event ?hg (N := 11) ?hd (cs := #[.int .u64 0, .int .u64 0]) (t := 50) ?hr ?_; (case hd => rfl); (case hg => rfl); (case hr => first | (go_simp; done) | (go_simp; rfl)); intro gb297 hg w38 hbox hb; have BK297 := m_ (hbox); have GW297 := ge_ (by repeat (with_reducible first | exact HB.out | apply bs_ GE283 | apply bs_ GE287)) hg; have GE297 := GW297; have NB283_297 := nl_ BK283 hg; have NB297_283 := ng_ BK283 hg; have NB287_297 := nl_ BK287 hg; have NB297_287 := ng_ BK287 hg; replace BK283 := bb_ BK283 hb; replace BK287 := bb_ BK287 hb; replace HB := st_ (by repeat (with_reducible first | exact HB.out | apply bs_ GE283 | apply bs_ GE287)) hb; clear hb hbox hg; have hnb39 := NB297_283.out; have hnc39 := NB283_297.out; have hnb40 := NB297_287.out; have hnc40 := NB287_297.out; obtain ⟨hcz41_0, hcz41_1, hfz41_0, hfz41_1⟩ := cf2 BK297) | ((with_reducible refine gate_callee (f := 24) rfl ?_); refine goesL_ (some 48) rfl rfl Try.func24 (by kernel_rfl) rfl #[.agg #[.int .u64 t294, .int .u64 t295], .bool t286] rfl (by first | rfl | (simp only [List.map_toArray, List.map_cons, List.map_nil]; first | done | rfl)) ?_; (with_reducible refine (overfallref02_Back.calls k t294 t295 t286 t298 _ A25.out).mono ?_); rintro e w42 ⟨rfl, hb⟩; refine ⟨_, rfl, ?_⟩; replace BK283 := m_ (blk_below (g := gb283) (o := .cells #[.int .u64 t280, .int .u64 t281] 50 (0, 0)) (by refine far2_ NB283_297 ?_; exact BK283.out) hb); replace BK287 := m_ (blk_below (g := gb287) (o := .cells #[.int .u64 t284, .int .u64 t285] 50 (0, 0)) (by refine far2_ NB287_297 ?_; exact BK287.out) hb); replace BK297 := m_ (blk_below (g := gb297) (o := .cells #[.int .u64 t294, .int .u64 t295] 50 (0, 0)) (by apply put2_; exact BK297.out) hb); replace HB := st_ (by repeat (with_reducible first | exact HB.out | apply bs_ GE283 | apply bs_ GE287 | apply bs_ GE297)) hb; (try clear hb)))
   go_ret
   exact ⟨by first | rfl | (simp [errW_none, errW_some] <;> rfl) | (simp [*, errW_none, errW_some] <;> rfl), by repeat (with_reducible first | exact HB.out | apply bs_ GE283 | apply bs_ GE287 | apply bs_ GE297)⟩
  ·replace c23 := Bool.eq_false_iff.mpr c23
   subst c23
   have H1 : ((overfallref01_Sub.f k t280 t281 t284 t285).bind fun bt299 => ((overfallref02_Back.f k bt299.1 bt299.2.1 t282).bind fun t303 => (some t303))) = some r := by rw [if_neg (show ¬ (false = true) by decide)] at H; exact H
   clear H
   have H := H1
   clear H1
   replace H := Option.bind_eq_some_iff.mp H
   obtain ⟨⟨t299, t300, t301⟩, A430, H⟩ := H
   replace H : ((overfallref02_Back.f k t299 t300 t282).bind fun t303 => (some t303)) = some r := H
   have A43 := Aside0.mk A430
   clear A430
   replace H := Option.bind_eq_some_iff.mp H
   obtain ⟨t303, A440, H⟩ := H
   replace H : (some t303) = some r := H
   have A44 := Aside0.mk A440
   clear A440
   obtain rfl := Option.some.inj H
   go_enter Try.func10, Try.ntmps10
   go_wp2_with (first | ((with_reducible refine gate_callee (f := 22) rfl ?_); refine goesL_ (some 17) rfl rfl Try.func22 (by kernel_rfl) rfl #[.int .i64 a0] rfl (by first | rfl | (simp only [List.map_toArray, List.map_cons, List.map_nil]; first | done | rfl)) ?_; (with_reducible refine (overfallref02_Size.calls a0 t280 t281 t282 _ A3.out).mono ?_); rintro e w45 ⟨rfl, hb⟩; refine ⟨_, rfl, ?_⟩; replace HB := st_ (by repeat (with_reducible first | exact HB.out)) hb; (try clear hb)) | ((with_reducible refine gate_dst (N := 5) rfl ?_); refine box_event ?hg (N := 5) ?hd (cs := #[.int .u64 0, .int .u64 0]) (t := 50) ?hr ?_; (case hd => rfl); (case hg => rfl); (case hr => first | (go_simp; done) | (go_simp; rfl)); intro gb283 hg w46 hbox hb; have BK283 := m_ (hbox); have GW283 := ge_ (by repeat (with_reducible first | exact HB.out)) hg; have GE283 := GW283; replace HB := st_ (by repeat (with_reducible first | exact HB.out)) hb; clear hb hbox hg; obtain ⟨hcz47_0, hcz47_1, hfz47_0, hfz47_1⟩ := cf2 BK283) | ((with_reducible refine gate_callee (f := 22) rfl ?_); refine goesL_ (some 22) rfl rfl Try.func22 (by kernel_rfl) rfl #[.int .i64 a1] rfl (by first | rfl | (simp only [List.map_toArray, List.map_cons, List.map_nil]; first | done | rfl)) ?_; (with_reducible refine (overfallref02_Size.calls a1 t284 t285 t286 _ A4.out).mono ?_); rintro e w48 ⟨rfl, hb⟩; refine ⟨_, rfl, ?_⟩; replace BK283 := m_ (blk_below (g := gb283) (o := .cells #[.int .u64 t280, .int .u64 t281] 50 (0, 0)) (by apply put2_; exact BK283.out) hb); replace HB := st_ (by repeat (with_reducible first | exact HB.out | apply bs_ GE283)) hb; (try clear hb)) | ((with_reducible refine gate_dst (N := 7) rfl ?_); refine box_event ?hg (N := 7) ?hd (cs := #[.int .u64 0, .int .u64 0]) (t := 50) ?hr ?_; (case hd => rfl); (case hg => rfl); (case hr => first | (go_simp; done) | (go_simp; rfl)); intro gb287 hg w49 hbox hb; have BK287 := m_ (hbox); have GW287 := ge_ (by repeat (with_reducible first | exact HB.out | apply bs_ GE283)) hg; have GE287 := GW287; have NB283_287 := nl_ BK283 hg; have NB287_283 := ng_ BK283 hg; replace BK283 := bb_ BK283 hb; replace HB := st_ (by repeat (with_reducible first | exact HB.out | apply bs_ GE283)) hb; clear hb hbox hg; have hnb50 := NB287_283.out; have hnc50 := NB283_287.out; obtain ⟨hcz51_0, hcz51_1, hfz51_0, hfz51_1⟩ := cf2 BK287; obtain ⟨hcz52_0, hcz52_1, hfz52_0, hfz52_1⟩ := cf2 BK283) | ((with_reducible refine gate_callee (f := 25) rfl ?_); refine goesL_ (some 39) rfl rfl Try.func25 (by kernel_rfl) rfl #[.agg #[.int .u64 t280, .int .u64 t281], .agg #[.int .u64 t284, .int .u64 t285]] rfl (by first | rfl | (simp only [List.map_toArray, List.map_cons, List.map_nil]; first | done | rfl)) ?_; (with_reducible refine (overfallref01_Less.calls t280 t281 t284 t285 false _ A22.out).mono ?_); rintro e w53 ⟨rfl, hb⟩; refine ⟨_, rfl, ?_⟩; replace BK283 := m_ (blk_below (g := gb283) (o := .cells #[.int .u64 t280, .int .u64 t281] 50 (0, 0)) (by refine far2_ NB283_287 ?_; exact BK283.out) hb); replace BK287 := m_ (blk_below (g := gb287) (o := .cells #[.int .u64 t284, .int .u64 t285] 50 (0, 0)) (by apply put2_; exact BK287.out) hb); replace HB := st_ (by repeat (with_reducible first | exact HB.out | apply bs_ GE283 | apply bs_ GE287)) hb; (try clear hb); obtain ⟨hcz54_0, hcz54_1, hfz54_0, hfz54_1⟩ := cf2 BK283; obtain ⟨hcz55_0, hcz55_1, hfz55_0, hfz55_1⟩ := cf2 BK287) | ((with_reducible refine gate_callee (f := 26) rfl ?_); refine goesL_ (some 52) rfl rfl Try.func26 (by kernel_rfl) rfl #[.agg #[.int .u64 t280, .int .u64 t281], .agg #[.int .u64 t284, .int .u64 t285]] rfl (by first | rfl | (simp only [List.map_toArray, List.map_cons, List.map_nil]; first | done | rfl)) ?_; (with_reducible refine (overfallref01_Sub.calls k t280 t281 t284 t285 t299 t300 t301 _ A43.out).mono ?_); rintro e w56 ⟨rfl, hb⟩; refine ⟨_, rfl, ?_⟩; replace BK283 := bb_ BK283 hb; replace BK287 := bb_ BK287 hb; replace HB := st_ (by repeat (with_reducible first | exact HB.out | apply bs_ GE283 | apply bs_ GE287)) hb; (try clear hb)) | ((with_reducible refine gate_dst (N := 13) rfl ?_); refine box_event ?hg (N := 13) ?hd (cs := #[.int .u64 0, .int .u64 0]) (t := 50) ?hr ?_; (case hd => rfl); (case hg => rfl); (case hr => first | (go_simp; done) | (go_simp; rfl)); intro gb302 hg w57 hbox hb; have BK302 := m_ (hbox); have GW302 := ge_ (by repeat (with_reducible first | exact HB.out | apply bs_ GE283 | apply bs_ GE287)) hg; have GE302 := GW302; have NB283_302 := nl_ BK283 hg; have NB302_283 := ng_ BK283 hg; have NB287_302 := nl_ BK287 hg; have NB302_287 := ng_ BK287 hg; replace BK283 := bb_ BK283 hb; replace BK287 := bb_ BK287 hb; replace HB := st_ (by repeat (with_reducible first | exact HB.out | apply bs_ GE283 | apply bs_ GE287)) hb; clear hb hbox hg; have hnb58 := NB302_283.out; have hnc58 := NB283_302.out; have hnb59 := NB302_287.out; have hnc59 := NB287_302.out; obtain ⟨hcz60_0, hcz60_1, hfz60_0, hfz60_1⟩ := cf2 BK302) | ((with_reducible refine gate_callee (f := 24) rfl ?_); refine goesL_ (some 57) rfl rfl Try.func24 (by kernel_rfl) rfl #[.agg #[.int .u64 t299, .int .u64 t300], .bool t282] rfl (by first | rfl | (simp only [List.map_toArray, List.map_cons, List.map_nil]; first | done | rfl)) ?_; (with_reducible refine (overfallref02_Back.calls k t299 t300 t282 t303 _ A44.out).mono ?_); rintro e w61 ⟨rfl, hb⟩; refine ⟨_, rfl, ?_⟩; replace BK283 := m_ (blk_below (g := gb283) (o := .cells #[.int .u64 t280, .int .u64 t281] 50 (0, 0)) (by refine far2_ NB283_302 ?_; exact BK283.out) hb); replace BK287 := m_ (blk_below (g := gb287) (o := .cells #[.int .u64 t284, .int .u64 t285] 50 (0, 0)) (by refine far2_ NB287_302 ?_; exact BK287.out) hb); replace BK302 := m_ (blk_below (g := gb302) (o := .cells #[.int .u64 t299, .int .u64 t300] 50 (0, 0)) (by apply put2_; exact BK302.out) hb); replace HB := st_ (by repeat (with_reducible first | exact HB.out | apply bs_ GE283 | apply bs_ GE287 | apply bs_ GE302)) hb; (try clear hb)))
   go_ret
   exact ⟨by first | rfl | (simp [errW_none, errW_some] <;> rfl) | (simp [*, errW_none, errW_some] <;> rfl), by repeat (with_reducible first | exact HB.out | apply bs_ GE283 | apply bs_ GE287 | apply bs_ GE302)⟩

/-! ### overfallref02_Sub: function 12 -/
def overfallref02_Sub.f (k : Nat) (a0 : Int) (a1 : Int) : Option (Int) := if a1 = (-9223372036854775808) then (if a0 ≥ 0 then (some 9223372036854775807) else (some (wrap64 (a0 - a1)))) else ((overfallref02_Add.f k a0 (wrap64 (-a1))).bind fun t304 => (some t304))
theorem overfallref02_Sub.mono : ∀ a0 a1 k, LeO (overfallref02_Sub.f k a0 a1) (overfallref02_Sub.f (k + 1) a0 a1) := by
 intro a0 a1 k
 unfold overfallref02_Sub.f
 repeat' first
   | (with_reducible exact overfallref02_Add.mono _ _ _)
   | (with_reducible exact LeO.refl _)
   | (with_reducible exact LeO.none _)
   | (with_reducible refine LeO.ite ?_ ?_)
   | (with_reducible refine LeO.bind ?_ (fun _ => ?_))
   | exact overfallref02_Add.mono _ _ _
   | exact LeO.none _
   | refine LeO.ite ?_ ?_
   | refine LeO.bind ?_ (fun _ => ?_)
set_option maxHeartbeats 8000000 in
set_option maxRecDepth 100000 in
theorem overfallref02_Sub.calls (k : Nat) (a0 : Int) (a1 : Int) (r : Int) (w : World) (h : overfallref02_Sub.f k a0 a1 = some r) :
  Calls Try.prog 12 #[.int .i64 a0, .int .i64 a1] w fun e w' => e = .returned (.int .i64 r) ∧ Below w.heap.size w w' := by
 have HB := m_ (Below.refl w.heap.size w)
 have H : (if a1 = (-9223372036854775808) then (if a0 ≥ 0 then (some 9223372036854775807) else (some (wrap64 (a0 - a1)))) else ((overfallref02_Add.f k a0 (wrap64 (-a1))).bind fun t304 => (some t304))) = some r := h
 clear h
 by_cases c3 : a1 = (-9223372036854775808)
 ·rw [if_pos c3] at H
  have c3b0 : (a1 == (-9223372036854775808)) = true := beq_iff_eq.mpr c3
  have c3b1 : (a1 != (-9223372036854775808)) = false := bne_eq_false_iff_eq.mpr c3
  clear c3
  by_cases c4 : a0 ≥ 0
  ·rw [if_pos c4] at H
   have c4b0 : decide (0 ≤ a0) = true := decide_eq_true c4
   clear c4
   obtain rfl := Option.some.inj H
   go_enter Try.func12, Try.ntmps12
   go_wp2
   go_ret
   exact ⟨by first | rfl | (simp [errW_none, errW_some] <;> rfl) | (simp [*, errW_none, errW_some] <;> rfl), by repeat (with_reducible first | exact HB.out)⟩
  ·rw [if_neg c4] at H
   have c4b0 : decide (0 ≤ a0) = false := decide_eq_false c4
   clear c4
   obtain rfl := Option.some.inj H
   go_enter Try.func12, Try.ntmps12
   go_wp2
   go_ret
   exact ⟨by first | rfl | (simp [errW_none, errW_some] <;> rfl) | (simp [*, errW_none, errW_some] <;> rfl), by repeat (with_reducible first | exact HB.out)⟩
 ·rw [if_neg c3] at H
  have c3b0 : (a1 == (-9223372036854775808)) = false := beq_eq_false_iff_ne.mpr c3
  have c3b1 : (a1 != (-9223372036854775808)) = true := bne_iff_ne.mpr c3
  replace H := Option.bind_eq_some_iff.mp H
  obtain ⟨t304, A50, H⟩ := H
  replace H : (some t304) = some r := H
  have A5 := Aside0.mk A50
  clear A50
  obtain rfl := Option.some.inj H
  go_enter Try.func12, Try.ntmps12
  go_wp2_with (first | ((with_reducible refine gate_callee (f := 10) rfl ?_); refine goesL_ (some 15) rfl rfl Try.func10 (by kernel_rfl) rfl #[.int .i64 a0, .int .i64 (wrap64 (-a1))] rfl (by first | rfl | (simp only [List.map_toArray, List.map_cons, List.map_nil]; first | done | rfl)) ?_; (with_reducible refine (overfallref02_Add.calls k a0 (wrap64 (-a1)) t304 _ A5.out).mono ?_); rintro e w6 ⟨rfl, hb⟩; refine ⟨_, rfl, ?_⟩; replace HB := st_ (by repeat (with_reducible first | exact HB.out)) hb; (try clear hb)))
  go_ret
  exact ⟨by first | rfl | (simp [errW_none, errW_some] <;> rfl) | (simp [*, errW_none, errW_some] <;> rfl), by repeat (with_reducible first | exact HB.out)⟩

end Go.Proofs.Ytiiffgmbkajkhaa.L

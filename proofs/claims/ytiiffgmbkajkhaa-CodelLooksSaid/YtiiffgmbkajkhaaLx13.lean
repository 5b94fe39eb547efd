-- Laid by a program of this claim's session (wip/tools/myprint.py) over the kit's printer.
import Derived.Test.YtiiffgmbkajkhaaLx0
import Derived.Test.YtiiffgmbkajkhaaLx2
import Derived.Test.YtiiffgmbkajkhaaLx9
import Derived.Test.YtiiffgmbkajkhaaLx12
namespace Go.Proofs.Ytiiffgmbkajkhaa.L
open Go.RowKit Go.Proofs.YtiiffgmbkajkhaaW.PrintWords Go.Proofs.YtiiffgmbkajkhaaW.PrintLast Go.Proofs.YtiiffgmbkajkhaaW.PrintMore
attribute [local go_sem] max2_int min2_int max_two min_two max_three min_three max_four min_four   -- for this text's walks alone
set_option linter.unusedVariables false
set_option linter.unusedSimpArgs false

/-! ### overfallref08_More: function 19 -/
def overfallref08_More.f (k : Nat) (a0_0 : Bool) (a0_1 : Int) (a0_2 : Bool) (a0_3 : Int) (a0_4 : Int) (a0_5 : Int) (a1 : Int) (a2 : Int) (a3 : Int) (a4 : Int) (a5 : Int) : Option (Bool × Int × Bool × Int × Int × Int × Int) := (overfallref08_Note.f k a0_0 a0_1 a0_2 a0_3 a0_4 a0_5 a1 a2 a3 a4 a5).bind fun bt382 => (if bt382.2.2.2.2.2.2 = true then ((overfallref03_Law.f k a2 bt382.2.2.2.2.1).bind fun t389 => ((overfallref02_Add.f k bt382.2.2.2.1 t389).bind fun t390 => (if a3 ≥ t390 then ((overfallref08_more.f bt382.2.2.2.2.1).bind fun t391 => (some (bt382.1, bt382.2.1, bt382.2.2.1, t390, t391, bt382.2.2.2.2.2.1, 1))) else (some (bt382.1, bt382.2.1, bt382.2.2.1, t390, bt382.2.2.2.2.1, bt382.2.2.2.2.2.1, 0))))) else (some (bt382.1, bt382.2.1, false, bt382.2.2.2.1, bt382.2.2.2.2.1, bt382.2.2.2.2.2.1, 0)))
theorem overfallref08_More.mono : ∀ a0 a1 a2 a3 a4 a5 a6 a7 a8 a9 a10 k, LeO (overfallref08_More.f k a0 a1 a2 a3 a4 a5 a6 a7 a8 a9 a10) (overfallref08_More.f (k + 1) a0 a1 a2 a3 a4 a5 a6 a7 a8 a9 a10) := by
 intro a0 a1 a2 a3 a4 a5 a6 a7 a8 a9 a10 k
 unfold overfallref08_More.f
 repeat' first
   | (with_reducible exact overfallref02_Add.mono _ _ _)
   | (with_reducible exact overfallref03_Law.mono _ _ _)
   | (with_reducible exact overfallref08_Note.mono _ _ _ _ _ _ _ _ _ _ _ _)
   | (with_reducible exact LeO.refl _)
   | (with_reducible exact LeO.none _)
   | (with_reducible refine LeO.ite ?_ ?_)
   | (with_reducible refine LeO.bind ?_ (fun _ => ?_))
   | exact overfallref02_Add.mono _ _ _
   | exact overfallref03_Law.mono _ _ _
   | exact overfallref08_Note.mono _ _ _ _ _ _ _ _ _ _ _ _
   | exact LeO.none _
   | refine LeO.ite ?_ ?_
   | refine LeO.bind ?_ (fun _ => ?_)
def overfallref08_More.T5 : Bool × List (List Nat × List Nat) := (true, [([], []), ([0], [0]), ([], []), ([], []), ([3], [3]), ([2, 4], [2, 4]), ([1, 5, 5], [1, 5]), ([0, 1, 2, 3, 4, 5, 6], []), ([7, 6, 6, 0, 1, 2, 3, 4, 5, 6], [6, 7])])
def overfallref08_More.B5 : List Nat := [0, 1, 0, 0, 8, 28, 63, 127, 255]
theorem overfallref08_More.tab5 : rtab .any (opsOf Try.f19 5) = overfallref08_More.T5 := by kernel_rfl
theorem overfallref08_More.bits5 : waitsOk overfallref08_More.T5.2 overfallref08_More.B5 = true := by kernel_rfl
set_option maxHeartbeats 8000000 in
set_option maxRecDepth 100000 in
theorem overfallref08_More.calls (k : Nat) (a0_0 : Bool) (a0_1 : Int) (a0_2 : Bool) (a0_3 : Int) (a0_4 : Int) (a0_5 : Int) (a1 : Int) (a2 : Int) (a3 : Int) (a4 : Int) (a5 : Int) (r1 : Bool) (r2 : Int) (r3 : Bool) (r4 : Int) (r5 : Int) (r6 : Int) (r7 : Int) (w : World) (h : overfallref08_More.f k a0_0 a0_1 a0_2 a0_3 a0_4 a0_5 a1 a2 a3 a4 a5 = some (r1, r2, r3, r4, r5, r6, r7)) :
  Calls Try.prog 19 #[.agg #[.bool a0_0, .int .i64 a0_1, .bool a0_2, .int .i64 a0_3, .int .u64 a0_4, .int .u64 a0_5], .int .i64 a1, .int .i64 a2, .int .i64 a3, .int .i64 a4, .int .i64 a5] w fun e w' => e = .returned (.tuple #[.agg #[.bool r1, .int .i64 r2, .bool r3, .int .i64 r4, .int .u64 r5, .int .u64 r6], .int .i64 r7]) ∧ Below w.heap.size w w' := by
 have hu41 := Try.underlying41
 have HB := m_ (Below.refl w.heap.size w)
 have H : ((overfallref08_Note.f k a0_0 a0_1 a0_2 a0_3 a0_4 a0_5 a1 a2 a3 a4 a5).bind fun bt382 => (if bt382.2.2.2.2.2.2 = true then ((overfallref03_Law.f k a2 bt382.2.2.2.2.1).bind fun t389 => ((overfallref02_Add.f k bt382.2.2.2.1 t389).bind fun t390 => (if a3 ≥ t390 then ((overfallref08_more.f bt382.2.2.2.2.1).bind fun t391 => (some (bt382.1, bt382.2.1, bt382.2.2.1, t390, t391, bt382.2.2.2.2.2.1, 1))) else (some (bt382.1, bt382.2.1, bt382.2.2.1, t390, bt382.2.2.2.2.1, bt382.2.2.2.2.2.1, 0))))) else (some (bt382.1, bt382.2.1, false, bt382.2.2.2.1, bt382.2.2.2.2.1, bt382.2.2.2.2.2.1, 0)))) = some (r1, r2, r3, r4, r5, r6, r7) := h
 clear h
 replace H := Option.bind_eq_some_iff.mp H
 obtain ⟨⟨t382, t383, t384, t385, t386, t387, t388⟩, A70, H⟩ := H
 replace H : (if t388 = true then ((overfallref03_Law.f k a2 t386).bind fun t389 => ((overfallref02_Add.f k t385 t389).bind fun t390 => (if a3 ≥ t390 then ((overfallref08_more.f t386).bind fun t391 => (some (t382, t383, t384, t390, t391, t387, 1))) else (some (t382, t383, t384, t390, t386, t387, 0))))) else (some (t382, t383, false, t385, t386, t387, 0))) = some (r1, r2, r3, r4, r5, r6, r7) := H
 have A7 := Aside0.mk A70
 clear A70
 by_cases c8 : t388 = true
 ·subst c8
  have H1 : ((overfallref03_Law.f k a2 t386).bind fun t389 => ((overfallref02_Add.f k t385 t389).bind fun t390 => (if a3 ≥ t390 then ((overfallref08_more.f t386).bind fun t391 => (some (t382, t383, t384, t390, t391, t387, 1))) else (some (t382, t383, t384, t390, t386, t387, 0))))) = some (r1, r2, r3, r4, r5, r6, r7) := by rw [if_pos rfl] at H; exact H
  clear H
  have H := H1
  clear H1
  replace H := Option.bind_eq_some_iff.mp H
  obtain ⟨t389, A90, H⟩ := H
  replace H : ((overfallref02_Add.f k t385 t389).bind fun t390 => (if a3 ≥ t390 then ((overfallref08_more.f t386).bind fun t391 => (some (t382, t383, t384, t390, t391, t387, 1))) else (some (t382, t383, t384, t390, t386, t387, 0)))) = some (r1, r2, r3, r4, r5, r6, r7) := H
  have A9 := Aside0.mk A90
  clear A90
  replace H := Option.bind_eq_some_iff.mp H
  obtain ⟨t390, A100, H⟩ := H
  replace H : (if a3 ≥ t390 then ((overfallref08_more.f t386).bind fun t391 => (some (t382, t383, t384, t390, t391, t387, 1))) else (some (t382, t383, t384, t390, t386, t387, 0))) = some (r1, r2, r3, r4, r5, r6, r7) := H
  have A10 := Aside0.mk A100
  clear A100
  by_cases c11 : a3 ≥ t390
  ·rw [if_pos c11] at H
   have c11b0 : decide (t390 ≤ a3) = true := decide_eq_true c11
   clear c11
   replace H := Option.bind_eq_some_iff.mp H
   obtain ⟨t391, A120, H⟩ := H
   replace H : (some (t382, t383, t384, t390, t391, t387, 1)) = some (r1, r2, r3, r4, r5, r6, r7) := H
   have A12 := Aside0.mk A120
   clear A120
   simp only [Option.some.injEq, Prod.mk.injEq] at H
   obtain ⟨rfl, rfl, rfl, rfl, rfl, rfl, rfl⟩ := H
   go_enter Try.func19, Try.ntmps19
   try go_wp2_with (first | ((with_reducible refine gate_dst (N := 6) rfl ?_); refine box_event ?hg (N := 6) ?hd (cs := #[.bool a0_0, .int .i64 a0_1, .bool a0_2, .int .i64 a0_3, .int .u64 a0_4, .int .u64 a0_5]) (t := 41) ?hr ?_; (case hd => rfl); (case hg => rfl); (case hr => first | (go_simp; done) | (go_simp; rfl)); intro gb380 hg w13 hbox hb; have BK380 := m_ (hbox); have GW380 := ge_ (by repeat (with_reducible first | exact HB.out | apply below_drew1 | apply pw_below_drewN)) hg; have GE380 := GW380; replace HB := st_ (by repeat (with_reducible first | exact HB.out | apply below_drew1 | apply pw_below_drewN)) hb; clear hb hbox hg) | ((with_reducible refine gate_dst (N := 12) rfl ?_); refine box_event ?hg (N := 12) ?hd (cs := #[.bool false, .int .i64 0, .bool false, .int .i64 0, .int .u64 0, .int .u64 0]) (t := 41) ?hr ?_; (case hd => rfl); (case hg => rfl); (case hr => first | (go_simp; done) | (go_simp; rfl)); intro gb381 hg w14 hbox hb; have BK381 := m_ (hbox); have GW381 := ge_ (by repeat (with_reducible first | exact HB.out | apply bs_ GE380 | apply below_drew1 | apply pw_below_drewN)) hg; have GE381 := GW381; have NB380_381 := nl_ BK380 hg; have NB381_380 := ng_ BK380 hg; replace BK380 := bb_ BK380 hb; replace HB := st_ (by repeat (with_reducible first | exact HB.out | apply bs_ GE380 | apply below_drew1 | apply pw_below_drewN)) hb; clear hb hbox hg; have hnb15 := NB380_381.out; have hnc15 := NB381_380.out; obtain ⟨hcz16_0, hcz16_1, hcz16_2, hcz16_3, hcz16_4, hcz16_5, hfz16_0, hfz16_1, hfz16_2, hfz16_3, hfz16_4, hfz16_5⟩ := cf6 BK380) | ((with_reducible refine gate_callee (f := 20) rfl ?_); refine goesL_ (some 22) rfl rfl Try.func20 (by kernel_rfl) rfl #[.agg #[.bool a0_0, .int .i64 a0_1, .bool a0_2, .int .i64 a0_3, .int .u64 a0_4, .int .u64 a0_5], .int .i64 a1, .int .i64 a2, .int .i64 a3, .int .i64 a4, .int .i64 a5] rfl (by first | rfl | (simp only [List.map_toArray, List.map_cons, List.map_nil]; first | done | rfl)) ?_; (with_reducible refine (overfallref08_Note.calls k a0_0 a0_1 a0_2 a0_3 a0_4 a0_5 a1 a2 a3 a4 a5 t382 t383 t384 t385 t386 t387 true _ A7.out).mono ?_); rintro e w17 ⟨rfl, hb⟩; refine ⟨_, rfl, ?_⟩; replace BK380 := bb_ BK380 hb; replace BK381 := bb_ BK381 hb; replace HB := st_ (by repeat (with_reducible first | exact HB.out | apply bs_ GE380 | apply bs_ GE381 | apply below_drew1 | apply pw_below_drewN)) hb; (try clear hb); obtain ⟨hcz18_0, hcz18_1, hcz18_2, hcz18_3, hcz18_4, hcz18_5, hfz18_0, hfz18_1, hfz18_2, hfz18_3, hfz18_4, hfz18_5⟩ := cf6 BK380))
   have n0_ : Aside0 (((((((w17.setCell ⟨gb380, 0, none⟩ (.bool t382)).setCell ⟨gb380, 1, none⟩ (.int .i64 t383)).setCell ⟨gb380, 2, none⟩ (.bool t384)).setCell ⟨gb380, 3, none⟩ (.int .i64 t385)).setCell ⟨gb380, 4, none⟩ (.int .u64 t386)).setCell ⟨gb380, 5, none⟩ (.int .u64 t387)).heap[gb380]? = some (.cells #[.bool t382, .int .i64 t383, .bool t384, .int .i64 t385, .int .u64 t386, .int .u64 t387] 41 (0, 0))) := ⟨by apply put6_; exact BK380.out⟩
   have n1_ : Aside0 (((((((w17.setCell ⟨gb380, 0, none⟩ (.bool t382)).setCell ⟨gb380, 1, none⟩ (.int .i64 t383)).setCell ⟨gb380, 2, none⟩ (.bool t384)).setCell ⟨gb380, 3, none⟩ (.int .i64 t385)).setCell ⟨gb380, 4, none⟩ (.int .u64 t386)).setCell ⟨gb380, 5, none⟩ (.int .u64 t387)).heap[gb381]? = some (.cells #[.bool false, .int .i64 0, .bool false, .int .i64 0, .int .u64 0, .int .u64 0] 41 (0, 0))) := ⟨by refine far6_ NB381_380 ?_; exact BK381.out⟩
   have n2_ : Aside0 (Below w.heap.size w ((((((w17.setCell ⟨gb380, 0, none⟩ (.bool t382)).setCell ⟨gb380, 1, none⟩ (.int .i64 t383)).setCell ⟨gb380, 2, none⟩ (.bool t384)).setCell ⟨gb380, 3, none⟩ (.int .i64 t385)).setCell ⟨gb380, 4, none⟩ (.int .u64 t386)).setCell ⟨gb380, 5, none⟩ (.int .u64 t387))) := ⟨by repeat (with_reducible first | exact HB.out | apply bs_ GE380 | apply bs_ GE381 | apply below_drew1 | apply pw_below_drewN)⟩
   (try clear BK380)
   (try clear BK381)
   (try clear HB)
   generalize ((((((w17.setCell ⟨gb380, 0, none⟩ (.bool t382)).setCell ⟨gb380, 1, none⟩ (.int .i64 t383)).setCell ⟨gb380, 2, none⟩ (.bool t384)).setCell ⟨gb380, 3, none⟩ (.int .i64 t385)).setCell ⟨gb380, 4, none⟩ (.int .u64 t386)).setCell ⟨gb380, 5, none⟩ (.int .u64 t387)) = w19 at n0_ n1_ n2_ ⊢
   have BK380 := n0_
   have BK381 := n1_
   have HB := n2_
   clear n0_ n1_ n2_
   replace BK380 := m_ (blk_drew BK380.out)
   replace BK381 := m_ (blk_drew BK381.out)
   replace HB := m_ (below_drew1 HB.out)
   refine start_ (n := 9) (S := fun w' => w'.cell? ⟨gb380, 0, none⟩ = some (.bool t382) ∧ w'.cell? ⟨gb380, 1, none⟩ = some (.int .i64 t383) ∧ w'.cell? ⟨gb380, 2, none⟩ = some (.bool t384) ∧ w'.cell? ⟨gb380, 3, none⟩ = some (.int .i64 t385) ∧ w'.cell? ⟨gb380, 4, none⟩ = some (.int .u64 t386) ∧ w'.cell? ⟨gb380, 5, none⟩ = some (.int .u64 t387)) (ds := [8]) #[false, false, false, false, false, false, false, false, false] (by kernel_rfl) rfl rfl ⟨(blk_cell BK380.out 0).trans rfl, (blk_cell BK380.out 1).trans rfl, (blk_cell BK380.out 2).trans rfl, (blk_cell BK380.out 3).trans rfl, (blk_cell BK380.out 4).trans rfl, (blk_cell BK380.out 5).trans rfl⟩ (fun hHeld => ?_); refine with_tabW overfallref08_More.tab5 overfallref08_More.bits5 (fun HT_ HW_ => ?_)
   generalize w19.drew = w20 at BK380 BK381 HB hHeld ⊢
   refine pure_ (i := 0) (N := some 29) (v := ?_) (a' := ?_) #[true, false, false, false, false, false, false, false, false] rfl rfl (any_of HT_.out (by kernel_rfl)) (fun _ _ _ h => h) (Or.inl ⟨by rfl, ?_⟩) ?_ ?_
   rotate_left
   ·intro w'
    go_simp
    with_reducible rfl
   rotate_left
   ·simp only [Act.put, sa_, s0_, ss_, i64_w, i32_w]
    rfl
   refine pure_ (i := 2) (N := some 31) (v := ?_) (a' := ?_) #[true, false, true, false, false, false, false, false, false] rfl rfl (any_of HT_.out (by kernel_rfl)) (fun _ _ _ h => h) (Or.inl ⟨by rfl, ?_⟩) ?_ ?_
   rotate_left
   ·intro w'
    go_simp
    with_reducible rfl
   rotate_left
   ·simp only [Act.put, sa_, s0_, ss_, i64_w, i32_w]
    rfl
   refine pure_ (i := 3) (N := some 32) (v := ?_) (a' := ?_) #[true, false, true, true, false, false, false, false, false] rfl rfl (any_of HT_.out (by kernel_rfl)) (fun _ _ _ h => h) (Or.inl ⟨by rfl, ?_⟩) ?_ ?_
   rotate_left
   ·intro w'
    go_simp
    with_reducible rfl
   rotate_left
   ·simp only [Act.put, sa_, s0_, ss_, i64_w, i32_w]
    rfl
   refine take_ (i := 1) (N := some 30) (v := ?_) (a' := ?_) #[true, true, true, true, false, false, false, false, false] rfl rfl (take_ofW HT_.out HW_.out (by kernel_rfl)) (fun _ _ _ h => h) (Or.inl ⟨by rfl, ?_⟩) hHeld ?_ ?_
   rotate_left
   ·rintro w' ⟨s0, s1, s2, s3, s4, s5⟩
    go_simp
    with_reducible rfl
   rotate_left
   ·simp only [Act.put, sa_, s0_, ss_, i64_w, i32_w]
    rfl
   refine take_ (i := 4) (N := some 33) (v := ?_) (a' := ?_) #[true, true, true, true, true, false, false, false, false] rfl rfl (take_ofW HT_.out HW_.out (by kernel_rfl)) (fun _ _ _ h => h) (Or.inl ⟨by rfl, ?_⟩) hHeld ?_ ?_
   rotate_left
   ·rintro w' ⟨s0, s1, s2, s3, s4, s5⟩
    go_simp
    with_reducible rfl
   rotate_left
   ·simp only [Act.put, sa_, s0_, ss_, i64_w, i32_w]
    rfl
   refine one_ (i := 5) (N := some 34) #[true, true, true, true, true, true, false, false, false] rfl rfl (one_of HT_.out (by kernel_rfl)) (by decide) (fun K hK => ?_)
   refine goes_ Try.func14 (by kernel_rfl) rfl #[.int .i64 a2, .int .u64 t386] (by rfl) rfl rfl (by first | rfl | (simp only [List.map_toArray, List.map_cons, List.map_nil]; first | done | rfl)) ?_
   with_reducible refine (overfallref03_Law.calls k a2 t386 t389 _ A9.out).mono ?_
   rintro e w21 ⟨rfl, hb⟩
   refine ⟨_, rfl, ?_⟩
   replace BK380 := bb_ BK380 hb
   replace BK381 := bb_ BK381 hb
   replace HB := st_ (by repeat (with_reducible first | exact HB.out | apply bs_ GE380 | apply bs_ GE381 | apply below_drew1 | apply pw_below_drewN)) hb
   (try clear hb)
   (try clear hb2)
   (try clear hk)
   (try clear hi)
   refine hK.out _ _ ⟨(blk_cell BK380.out 0).trans rfl, (blk_cell BK380.out 1).trans rfl, (blk_cell BK380.out 2).trans rfl, (blk_cell BK380.out 3).trans rfl, (blk_cell BK380.out 4).trans rfl, (blk_cell BK380.out 5).trans rfl⟩ (fun hHeld => ?_)
   clear hK K
   refine norm_ (a' := ?_) ?_ ?_
   rotate_left
   ·show Act.put _ (some 34) _ = _
    simp only [Act.put, sa_, s0_, ss_, i64_w, i32_w]
    rfl
   refine one_ (i := 6) (N := some 35) #[true, true, true, true, true, true, true, false, false] rfl rfl (one_of HT_.out (by kernel_rfl)) (by decide) (fun K hK => ?_)
   refine goes_ Try.func10 (by kernel_rfl) rfl #[.int .i64 t385, .int .i64 t389] (by rfl) rfl rfl (by first | rfl | (simp only [List.map_toArray, List.map_cons, List.map_nil]; first | done | rfl)) ?_
   with_reducible refine (overfallref02_Add.calls k t385 t389 t390 _ A10.out).mono ?_
   rintro e w22 ⟨rfl, hb⟩
   refine ⟨_, rfl, ?_⟩
   replace BK380 := bb_ BK380 hb
   replace BK381 := bb_ BK381 hb
   replace HB := st_ (by repeat (with_reducible first | exact HB.out | apply bs_ GE380 | apply bs_ GE381 | apply below_drew1 | apply pw_below_drewN)) hb
   (try clear hb)
   (try clear hb2)
   (try clear hk)
   (try clear hi)
   refine hK.out _ _ ⟨(blk_cell BK380.out 0).trans rfl, (blk_cell BK380.out 1).trans rfl, (blk_cell BK380.out 2).trans rfl, (blk_cell BK380.out 3).trans rfl, (blk_cell BK380.out 4).trans rfl, (blk_cell BK380.out 5).trans rfl⟩ (fun hHeld => ?_)
   clear hK K
   refine norm_ (a' := ?_) ?_ ?_
   rotate_left
   ·show Act.put _ (some 35) _ = _
    simp only [Act.put, sa_, s0_, ss_, i64_w, i32_w]
    rfl
   refine pure_ (i := 7) (N := some 36) (v := ?_) (a' := ?_) #[true, true, true, true, true, true, true, true, false] rfl rfl (any_of HT_.out (by kernel_rfl)) (fun _ _ _ h => h) (Or.inl ⟨by rfl, ?_⟩) ?_ ?_
   rotate_left
   ·intro w'
    go_simp
    with_reducible rfl
   rotate_left
   ·simp only [Act.put, sa_, s0_, ss_, i64_w, i32_w]
    rfl
   refine last_ (i := 8) (N := none) #[true, true, true, true, true, true, true, true, true] rfl rfl (one_of HT_.out (by kernel_rfl)) (by decide) (fun K hK => ?_)
   have hs23 : w22.cell? ⟨gb380, 3, none⟩ = some (.int .i64 t385) := (blk_cell BK380.out 3).trans rfl
   have hfs23 := blk_frozen BK380.out 3
   have hns23_1 := NB381_380.out
   have hms23_1 := NB380_381.out
   refine skip_ (w1 := ?_) (by rfl) rfl ?_ ?_
   rotate_left
   ·go_simp
    rfl
   refine hK.out _ _ ?_
   clear hK K
   refine done_ (done_of HT_.out (by kernel_rfl)) ?_
   obtain ⟨hcz24_0, hcz24_1, hcz24_2, hcz24_3, hcz24_4, hcz24_5, hfz24_0, hfz24_1, hfz24_2, hfz24_3, hfz24_4, hfz24_5⟩ := cf6 BK380
   try go_wp2_with (first | ((with_reducible refine gate_callee (f := 33) rfl ?_); refine goesL_ (some 43) rfl rfl Try.func33 (by kernel_rfl) rfl #[.int .u64 t386] rfl (by first | rfl | (simp only [List.map_toArray, List.map_cons, List.map_nil]; first | done | rfl)) ?_; (with_reducible refine (overfallref08_more.calls t386 t391 _ A12.out).mono ?_); rintro e w' ⟨rfl, ⟨nd, rfl⟩⟩; refine ⟨_, rfl, ?_⟩; obtain ⟨hcz25_0, hcz25_1, hcz25_2, hcz25_3, hcz25_4, hcz25_5, hfz25_0, hfz25_1, hfz25_2, hfz25_3, hfz25_4, hfz25_5⟩ := cf6 BK381))
   refine bodyPost_ret (results_ct rfl _ _ gb381 41 #[.bool t382, .int .i64 t383, .bool t384, .int .i64 t390, .int .u64 t391, .int .u64 t387] (0, 0) _ rfl (by apply put6_; refine far2_ NB381_380 ?_; exact BK381.out) Try.underlying41 rfl (by kernel_rfl)) rfl ?_
   exact ⟨by first | rfl | (simp [errW_none, errW_some] <;> rfl) | (simp [*, errW_none, errW_some] <;> rfl), by repeat (with_reducible first | exact HB.out | apply bs_ GE380 | apply bs_ GE381 | apply below_drew1 | apply pw_below_drewN)⟩
  ·rw [if_neg c11] at H
   have c11b0 : decide (t390 ≤ a3) = false := decide_eq_false c11
   clear c11
   simp only [Option.some.injEq, Prod.mk.injEq] at H
   obtain ⟨rfl, rfl, rfl, rfl, rfl, rfl, rfl⟩ := H
   go_enter Try.func19, Try.ntmps19
   try go_wp2_with (first | ((with_reducible refine gate_dst (N := 6) rfl ?_); refine box_event ?hg (N := 6) ?hd (cs := #[.bool a0_0, .int .i64 a0_1, .bool a0_2, .int .i64 a0_3, .int .u64 a0_4, .int .u64 a0_5]) (t := 41) ?hr ?_; (case hd => rfl); (case hg => rfl); (case hr => first | (go_simp; done) | (go_simp; rfl)); intro gb380 hg w26 hbox hb; have BK380 := m_ (hbox); have GW380 := ge_ (by repeat (with_reducible first | exact HB.out | apply below_drew1 | apply pw_below_drewN)) hg; have GE380 := GW380; replace HB := st_ (by repeat (with_reducible first | exact HB.out | apply below_drew1 | apply pw_below_drewN)) hb; clear hb hbox hg) | ((with_reducible refine gate_dst (N := 12) rfl ?_); refine box_event ?hg (N := 12) ?hd (cs := #[.bool false, .int .i64 0, .bool false, .int .i64 0, .int .u64 0, .int .u64 0]) (t := 41) ?hr ?_; (case hd => rfl); (case hg => rfl); (case hr => first | (go_simp; done) | (go_simp; rfl)); intro gb381 hg w27 hbox hb; have BK381 := m_ (hbox); have GW381 := ge_ (by repeat (with_reducible first | exact HB.out | apply bs_ GE380 | apply below_drew1 | apply pw_below_drewN)) hg; have GE381 := GW381; have NB380_381 := nl_ BK380 hg; have NB381_380 := ng_ BK380 hg; replace BK380 := bb_ BK380 hb; replace HB := st_ (by repeat (with_reducible first | exact HB.out | apply bs_ GE380 | apply below_drew1 | apply pw_below_drewN)) hb; clear hb hbox hg; have hnb28 := NB380_381.out; have hnc28 := NB381_380.out; obtain ⟨hcz29_0, hcz29_1, hcz29_2, hcz29_3, hcz29_4, hcz29_5, hfz29_0, hfz29_1, hfz29_2, hfz29_3, hfz29_4, hfz29_5⟩ := cf6 BK380) | ((with_reducible refine gate_callee (f := 20) rfl ?_); refine goesL_ (some 22) rfl rfl Try.func20 (by kernel_rfl) rfl #[.agg #[.bool a0_0, .int .i64 a0_1, .bool a0_2, .int .i64 a0_3, .int .u64 a0_4, .int .u64 a0_5], .int .i64 a1, .int .i64 a2, .int .i64 a3, .int .i64 a4, .int .i64 a5] rfl (by first | rfl | (simp only [List.map_toArray, List.map_cons, List.map_nil]; first | done | rfl)) ?_; (with_reducible refine (overfallref08_Note.calls k a0_0 a0_1 a0_2 a0_3 a0_4 a0_5 a1 a2 a3 a4 a5 t382 t383 t384 t385 t386 t387 true _ A7.out).mono ?_); rintro e w30 ⟨rfl, hb⟩; refine ⟨_, rfl, ?_⟩; replace BK380 := bb_ BK380 hb; replace BK381 := bb_ BK381 hb; replace HB := st_ (by repeat (with_reducible first | exact HB.out | apply bs_ GE380 | apply bs_ GE381 | apply below_drew1 | apply pw_below_drewN)) hb; (try clear hb); obtain ⟨hcz31_0, hcz31_1, hcz31_2, hcz31_3, hcz31_4, hcz31_5, hfz31_0, hfz31_1, hfz31_2, hfz31_3, hfz31_4, hfz31_5⟩ := cf6 BK380))
   have n0_ : Aside0 (((((((w30.setCell ⟨gb380, 0, none⟩ (.bool t382)).setCell ⟨gb380, 1, none⟩ (.int .i64 t383)).setCell ⟨gb380, 2, none⟩ (.bool t384)).setCell ⟨gb380, 3, none⟩ (.int .i64 t385)).setCell ⟨gb380, 4, none⟩ (.int .u64 t386)).setCell ⟨gb380, 5, none⟩ (.int .u64 t387)).heap[gb380]? = some (.cells #[.bool t382, .int .i64 t383, .bool t384, .int .i64 t385, .int .u64 t386, .int .u64 t387] 41 (0, 0))) := ⟨by apply put6_; exact BK380.out⟩
   have n1_ : Aside0 (((((((w30.setCell ⟨gb380, 0, none⟩ (.bool t382)).setCell ⟨gb380, 1, none⟩ (.int .i64 t383)).setCell ⟨gb380, 2, none⟩ (.bool t384)).setCell ⟨gb380, 3, none⟩ (.int .i64 t385)).setCell ⟨gb380, 4, none⟩ (.int .u64 t386)).setCell ⟨gb380, 5, none⟩ (.int .u64 t387)).heap[gb381]? = some (.cells #[.bool false, .int .i64 0, .bool false, .int .i64 0, .int .u64 0, .int .u64 0] 41 (0, 0))) := ⟨by refine far6_ NB381_380 ?_; exact BK381.out⟩
   have n2_ : Aside0 (Below w.heap.size w ((((((w30.setCell ⟨gb380, 0, none⟩ (.bool t382)).setCell ⟨gb380, 1, none⟩ (.int .i64 t383)).setCell ⟨gb380, 2, none⟩ (.bool t384)).setCell ⟨gb380, 3, none⟩ (.int .i64 t385)).setCell ⟨gb380, 4, none⟩ (.int .u64 t386)).setCell ⟨gb380, 5, none⟩ (.int .u64 t387))) := ⟨by repeat (with_reducible first | exact HB.out | apply bs_ GE380 | apply bs_ GE381 | apply below_drew1 | apply pw_below_drewN)⟩
   (try clear BK380)
   (try clear BK381)
   (try clear HB)
   generalize ((((((w30.setCell ⟨gb380, 0, none⟩ (.bool t382)).setCell ⟨gb380, 1, none⟩ (.int .i64 t383)).setCell ⟨gb380, 2, none⟩ (.bool t384)).setCell ⟨gb380, 3, none⟩ (.int .i64 t385)).setCell ⟨gb380, 4, none⟩ (.int .u64 t386)).setCell ⟨gb380, 5, none⟩ (.int .u64 t387)) = w32 at n0_ n1_ n2_ ⊢
   have BK380 := n0_
   have BK381 := n1_
   have HB := n2_
   clear n0_ n1_ n2_
   replace BK380 := m_ (blk_drew BK380.out)
   replace BK381 := m_ (blk_drew BK381.out)
   replace HB := m_ (below_drew1 HB.out)
   refine start_ (n := 9) (S := fun w' => w'.cell? ⟨gb380, 0, none⟩ = some (.bool t382) ∧ w'.cell? ⟨gb380, 1, none⟩ = some (.int .i64 t383) ∧ w'.cell? ⟨gb380, 2, none⟩ = some (.bool t384) ∧ w'.cell? ⟨gb380, 3, none⟩ = some (.int .i64 t385) ∧ w'.cell? ⟨gb380, 4, none⟩ = some (.int .u64 t386) ∧ w'.cell? ⟨gb380, 5, none⟩ = some (.int .u64 t387)) (ds := [8]) #[false, false, false, false, false, false, false, false, false] (by kernel_rfl) rfl rfl ⟨(blk_cell BK380.out 0).trans rfl, (blk_cell BK380.out 1).trans rfl, (blk_cell BK380.out 2).trans rfl, (blk_cell BK380.out 3).trans rfl, (blk_cell BK380.out 4).trans rfl, (blk_cell BK380.out 5).trans rfl⟩ (fun hHeld => ?_); refine with_tabW overfallref08_More.tab5 overfallref08_More.bits5 (fun HT_ HW_ => ?_)
   generalize w32.drew = w33 at BK380 BK381 HB hHeld ⊢
   refine pure_ (i := 0) (N := some 29) (v := ?_) (a' := ?_) #[true, false, false, false, false, false, false, false, false] rfl rfl (any_of HT_.out (by kernel_rfl)) (fun _ _ _ h => h) (Or.inl ⟨by rfl, ?_⟩) ?_ ?_
   rotate_left
   ·intro w'
    go_simp
    with_reducible rfl
   rotate_left
   ·simp only [Act.put, sa_, s0_, ss_, i64_w, i32_w]
    rfl
   refine pure_ (i := 2) (N := some 31) (v := ?_) (a' := ?_) #[true, false, true, false, false, false, false, false, false] rfl rfl (any_of HT_.out (by kernel_rfl)) (fun _ _ _ h => h) (Or.inl ⟨by rfl, ?_⟩) ?_ ?_
   rotate_left
   ·intro w'
    go_simp
    with_reducible rfl
   rotate_left
   ·simp only [Act.put, sa_, s0_, ss_, i64_w, i32_w]
    rfl
   refine pure_ (i := 3) (N := some 32) (v := ?_) (a' := ?_) #[true, false, true, true, false, false, false, false, false] rfl rfl (any_of HT_.out (by kernel_rfl)) (fun _ _ _ h => h) (Or.inl ⟨by rfl, ?_⟩) ?_ ?_
   rotate_left
   ·intro w'
    go_simp
    with_reducible rfl
   rotate_left
   ·simp only [Act.put, sa_, s0_, ss_, i64_w, i32_w]
    rfl
   refine take_ (i := 1) (N := some 30) (v := ?_) (a' := ?_) #[true, true, true, true, false, false, false, false, false] rfl rfl (take_ofW HT_.out HW_.out (by kernel_rfl)) (fun _ _ _ h => h) (Or.inl ⟨by rfl, ?_⟩) hHeld ?_ ?_
   rotate_left
   ·rintro w' ⟨s0, s1, s2, s3, s4, s5⟩
    go_simp
    with_reducible rfl
   rotate_left
   ·simp only [Act.put, sa_, s0_, ss_, i64_w, i32_w]
    rfl
   refine take_ (i := 4) (N := some 33) (v := ?_) (a' := ?_) #[true, true, true, true, true, false, false, false, false] rfl rfl (take_ofW HT_.out HW_.out (by kernel_rfl)) (fun _ _ _ h => h) (Or.inl ⟨by rfl, ?_⟩) hHeld ?_ ?_
   rotate_left
   ·rintro w' ⟨s0, s1, s2, s3, s4, s5⟩
    go_simp
    with_reducible rfl
   rotate_left
   ·simp only [Act.put, sa_, s0_, ss_, i64_w, i32_w]
    rfl
   refine one_ (i := 5) (N := some 34) #[true, true, true, true, true, true, false, false, false] rfl rfl (one_of HT_.out (by kernel_rfl)) (by decide) (fun K hK => ?_)
   refine goes_ Try.func14 (by kernel_rfl) rfl #[.int .i64 a2, .int .u64 t386] (by rfl) rfl rfl (by first | rfl | (simp only [List.map_toArray, List.map_cons, List.map_nil]; first | done | rfl)) ?_
   with_reducible refine (overfallref03_Law.calls k a2 t386 t389 _ A9.out).mono ?_
   rintro e w34 ⟨rfl, hb⟩
   refine ⟨_, rfl, ?_⟩
   replace BK380 := bb_ BK380 hb
   replace BK381 := bb_ BK381 hb
   replace HB := st_ (by repeat (with_reducible first | exact HB.out | apply bs_ GE380 | apply bs_ GE381 | apply below_drew1 | apply pw_below_drewN)) hb
   (try clear hb)
   (try clear hb2)
   (try clear hk)
   (try clear hi)
   refine hK.out _ _ ⟨(blk_cell BK380.out 0).trans rfl, (blk_cell BK380.out 1).trans rfl, (blk_cell BK380.out 2).trans rfl, (blk_cell BK380.out 3).trans rfl, (blk_cell BK380.out 4).trans rfl, (blk_cell BK380.out 5).trans rfl⟩ (fun hHeld => ?_)
   clear hK K
   refine norm_ (a' := ?_) ?_ ?_
   rotate_left
   ·show Act.put _ (some 34) _ = _
    simp only [Act.put, sa_, s0_, ss_, i64_w, i32_w]
    rfl
   refine one_ (i := 6) (N := some 35) #[true, true, true, true, true, true, true, false, false] rfl rfl (one_of HT_.out (by kernel_rfl)) (by decide) (fun K hK => ?_)
   refine goes_ Try.func10 (by kernel_rfl) rfl #[.int .i64 t385, .int .i64 t389] (by rfl) rfl rfl (by first | rfl | (simp only [List.map_toArray, List.map_cons, List.map_nil]; first | done | rfl)) ?_
   with_reducible refine (overfallref02_Add.calls k t385 t389 t390 _ A10.out).mono ?_
   rintro e w35 ⟨rfl, hb⟩
   refine ⟨_, rfl, ?_⟩
   replace BK380 := bb_ BK380 hb
   replace BK381 := bb_ BK381 hb
   replace HB := st_ (by repeat (with_reducible first | exact HB.out | apply bs_ GE380 | apply bs_ GE381 | apply below_drew1 | apply pw_below_drewN)) hb
   (try clear hb)
   (try clear hb2)
   (try clear hk)
   (try clear hi)
   refine hK.out _ _ ⟨(blk_cell BK380.out 0).trans rfl, (blk_cell BK380.out 1).trans rfl, (blk_cell BK380.out 2).trans rfl, (blk_cell BK380.out 3).trans rfl, (blk_cell BK380.out 4).trans rfl, (blk_cell BK380.out 5).trans rfl⟩ (fun hHeld => ?_)
   clear hK K
   refine norm_ (a' := ?_) ?_ ?_
   rotate_left
   ·show Act.put _ (some 35) _ = _
    simp only [Act.put, sa_, s0_, ss_, i64_w, i32_w]
    rfl
   refine pure_ (i := 7) (N := some 36) (v := ?_) (a' := ?_) #[true, true, true, true, true, true, true, true, false] rfl rfl (any_of HT_.out (by kernel_rfl)) (fun _ _ _ h => h) (Or.inl ⟨by rfl, ?_⟩) ?_ ?_
   rotate_left
   ·intro w'
    go_simp
    with_reducible rfl
   rotate_left
   ·simp only [Act.put, sa_, s0_, ss_, i64_w, i32_w]
    rfl
   refine last_ (i := 8) (N := none) #[true, true, true, true, true, true, true, true, true] rfl rfl (one_of HT_.out (by kernel_rfl)) (by decide) (fun K hK => ?_)
   have hs36 : w35.cell? ⟨gb380, 3, none⟩ = some (.int .i64 t385) := (blk_cell BK380.out 3).trans rfl
   have hfs36 := blk_frozen BK380.out 3
   have hns36_1 := NB381_380.out
   have hms36_1 := NB380_381.out
   refine skip_ (w1 := ?_) (by rfl) rfl ?_ ?_
   rotate_left
   ·go_simp
    rfl
   refine hK.out _ _ ?_
   clear hK K
   refine done_ (done_of HT_.out (by kernel_rfl)) ?_
   obtain ⟨hcz37_0, hcz37_1, hcz37_2, hcz37_3, hcz37_4, hcz37_5, hfz37_0, hfz37_1, hfz37_2, hfz37_3, hfz37_4, hfz37_5⟩ := cf6 BK380
   obtain ⟨hcz38_0, hcz38_1, hcz38_2, hcz38_3, hcz38_4, hcz38_5, hfz38_0, hfz38_1, hfz38_2, hfz38_3, hfz38_4, hfz38_5⟩ := cf6 BK381
   try go_wp2
   refine bodyPost_ret (results_ct rfl _ _ gb381 41 #[.bool t382, .int .i64 t383, .bool t384, .int .i64 t390, .int .u64 t386, .int .u64 t387] (0, 0) _ rfl (by apply put6_; refine blk_far ?_ NB381_380.out _; exact BK381.out) Try.underlying41 rfl (by kernel_rfl)) rfl ?_
   exact ⟨by first | rfl | (simp [errW_none, errW_some] <;> rfl) | (simp [*, errW_none, errW_some] <;> rfl), by repeat (with_reducible first | exact HB.out | apply bs_ GE380 | apply bs_ GE381 | apply below_drew1 | apply pw_below_drewN)⟩
 ·replace c8 := Bool.eq_false_iff.mpr c8
  subst c8
  have H1 : (some (t382, t383, false, t385, t386, t387, 0)) = some (r1, r2, r3, r4, r5, r6, r7) := by rw [if_neg (show ¬ (false = true) by decide)] at H; exact H
  clear H
  have H := H1
  clear H1
  simp only [Option.some.injEq, Prod.mk.injEq] at H
  obtain ⟨rfl, rfl, rfl, rfl, rfl, rfl, rfl⟩ := H
  go_enter Try.func19, Try.ntmps19
  have mk_ : True := trivial
  go_wp2_with (first | ((first | (with_reducible refine gate_dst (N := 27) rfl ?_) | (with_reducible refine gate_dst (N := 28) rfl ?_) | (with_reducible refine gate_dst (N := 29) rfl ?_) | (with_reducible refine gate_dst (N := 32) rfl ?_)); clear mk_; generalize hq_ : World.setCell (World.setCell (World.setCell (World.setCell (World.setCell (World.setCell (w43) _ _) _ _) _ _) _ _) _ _) _ _ = wq; have n0_ : Aside0 (wq.heap[gb380]? = some (.cells #[.bool t382, .int .i64 t383, .bool t384, .int .i64 t385, .int .u64 t386, .int .u64 t387] 41 (0, 0))) := ⟨by rw [← hq_]; apply put6_; exact BK380.out⟩; have n1_ : Aside0 (wq.heap[gb381]? = some (.cells #[.bool false, .int .i64 0, .bool false, .int .i64 0, .int .u64 0, .int .u64 0] 41 (0, 0))) := ⟨by rw [← hq_]; refine far6_ NB381_380 ?_; exact BK381.out⟩; have n2_ : Aside0 (Below w.heap.size w wq) := ⟨by rw [← hq_]; repeat (first | (with_reducible first | exact HB.out | refine below_set ?_ GE380.out | refine below_set ?_ GE381.out) | exact HB.out)⟩; clear BK380 BK381 HB hq_; have BK380 := n0_; have BK381 := n1_; have HB := n2_; clear n0_ n1_ n2_; have hcq380_0 : wq.cell? ⟨gb380, 0, none⟩ = some (.bool t382) := (blk_cell BK380.out 0).trans rfl; have hfq380_0 := blk_frozen BK380.out 0; have hcq380_1 : wq.cell? ⟨gb380, 1, none⟩ = some (.int .i64 t383) := (blk_cell BK380.out 1).trans rfl; have hfq380_1 := blk_frozen BK380.out 1; have hcq380_2 : wq.cell? ⟨gb380, 2, none⟩ = some (.bool t384) := (blk_cell BK380.out 2).trans rfl; have hfq380_2 := blk_frozen BK380.out 2; have hcq380_3 : wq.cell? ⟨gb380, 3, none⟩ = some (.int .i64 t385) := (blk_cell BK380.out 3).trans rfl; have hfq380_3 := blk_frozen BK380.out 3; have hcq380_4 : wq.cell? ⟨gb380, 4, none⟩ = some (.int .u64 t386) := (blk_cell BK380.out 4).trans rfl; have hfq380_4 := blk_frozen BK380.out 4; have hcq380_5 : wq.cell? ⟨gb380, 5, none⟩ = some (.int .u64 t387) := (blk_cell BK380.out 5).trans rfl; have hfq380_5 := blk_frozen BK380.out 5; have hcq381_0 : wq.cell? ⟨gb381, 0, none⟩ = some (.bool false) := (blk_cell BK381.out 0).trans rfl; have hfq381_0 := blk_frozen BK381.out 0; have hcq381_1 : wq.cell? ⟨gb381, 1, none⟩ = some (.int .i64 0) := (blk_cell BK381.out 1).trans rfl; have hfq381_1 := blk_frozen BK381.out 1; have hcq381_2 : wq.cell? ⟨gb381, 2, none⟩ = some (.bool false) := (blk_cell BK381.out 2).trans rfl; have hfq381_2 := blk_frozen BK381.out 2; have hcq381_3 : wq.cell? ⟨gb381, 3, none⟩ = some (.int .i64 0) := (blk_cell BK381.out 3).trans rfl; have hfq381_3 := blk_frozen BK381.out 3; have hcq381_4 : wq.cell? ⟨gb381, 4, none⟩ = some (.int .u64 0) := (blk_cell BK381.out 4).trans rfl; have hfq381_4 := blk_frozen BK381.out 4; have hcq381_5 : wq.cell? ⟨gb381, 5, none⟩ = some (.int .u64 0) := (blk_cell BK381.out 5).trans rfl; have hfq381_5 := blk_frozen BK381.out 5) | ((with_reducible refine gate_dst (N := 6) rfl ?_); refine box_event ?hg (N := 6) ?hd (cs := #[.bool a0_0, .int .i64 a0_1, .bool a0_2, .int .i64 a0_3, .int .u64 a0_4, .int .u64 a0_5]) (t := 41) ?hr ?_; (case hd => rfl); (case hg => rfl); (case hr => first | (go_simp; done) | (go_simp; rfl)); intro gb380 hg w39 hbox hb; have BK380 := m_ (hbox); have GW380 := ge_ (by repeat (with_reducible first | exact HB.out | apply below_drew1 | apply pw_below_drewN)) hg; have GE380 := GW380; replace HB := st_ (by repeat (with_reducible first | exact HB.out | apply below_drew1 | apply pw_below_drewN)) hb; clear hb hbox hg) | ((with_reducible refine gate_dst (N := 12) rfl ?_); refine box_event ?hg (N := 12) ?hd (cs := #[.bool false, .int .i64 0, .bool false, .int .i64 0, .int .u64 0, .int .u64 0]) (t := 41) ?hr ?_; (case hd => rfl); (case hg => rfl); (case hr => first | (go_simp; done) | (go_simp; rfl)); intro gb381 hg w40 hbox hb; have BK381 := m_ (hbox); have GW381 := ge_ (by repeat (with_reducible first | exact HB.out | apply bs_ GE380 | apply below_drew1 | apply pw_below_drewN)) hg; have GE381 := GW381; have NB380_381 := nl_ BK380 hg; have NB381_380 := ng_ BK380 hg; replace BK380 := bb_ BK380 hb; replace HB := st_ (by repeat (with_reducible first | exact HB.out | apply bs_ GE380 | apply below_drew1 | apply pw_below_drewN)) hb; clear hb hbox hg; have hnb41 := NB380_381.out; have hnc41 := NB381_380.out; obtain ⟨hcz42_0, hcz42_1, hcz42_2, hcz42_3, hcz42_4, hcz42_5, hfz42_0, hfz42_1, hfz42_2, hfz42_3, hfz42_4, hfz42_5⟩ := cf6 BK380) | ((with_reducible refine gate_callee (f := 20) rfl ?_); refine goesL_ (some 22) rfl rfl Try.func20 (by kernel_rfl) rfl #[.agg #[.bool a0_0, .int .i64 a0_1, .bool a0_2, .int .i64 a0_3, .int .u64 a0_4, .int .u64 a0_5], .int .i64 a1, .int .i64 a2, .int .i64 a3, .int .i64 a4, .int .i64 a5] rfl (by first | rfl | (simp only [List.map_toArray, List.map_cons, List.map_nil]; first | done | rfl)) ?_; (with_reducible refine (overfallref08_Note.calls k a0_0 a0_1 a0_2 a0_3 a0_4 a0_5 a1 a2 a3 a4 a5 t382 t383 t384 t385 t386 t387 false _ A7.out).mono ?_); rintro e w43 ⟨rfl, hb⟩; refine ⟨_, rfl, ?_⟩; replace BK380 := bb_ BK380 hb; replace BK381 := bb_ BK381 hb; replace HB := st_ (by repeat (with_reducible first | exact HB.out | apply bs_ GE380 | apply bs_ GE381 | apply below_drew1 | apply pw_below_drewN)) hb; (try clear hb); obtain ⟨hcz44_0, hcz44_1, hcz44_2, hcz44_3, hcz44_4, hcz44_5, hfz44_0, hfz44_1, hfz44_2, hfz44_3, hfz44_4, hfz44_5⟩ := cf6 BK380; obtain ⟨hcz45_0, hcz45_1, hcz45_2, hcz45_3, hcz45_4, hcz45_5, hfz45_0, hfz45_1, hfz45_2, hfz45_3, hfz45_4, hfz45_5⟩ := cf6 BK381))
  refine bodyPost_ret (results_ct rfl _ _ gb381 41 #[.bool t382, .int .i64 t383, .bool false, .int .i64 t385, .int .u64 t386, .int .u64 t387] (0, 0) _ rfl (by apply put6_; refine blk_far ?_ NB381_380.out _; exact BK381.out) Try.underlying41 rfl (by kernel_rfl)) rfl ?_
  exact ⟨by first | rfl | (simp [errW_none, errW_some] <;> rfl) | (simp [*, errW_none, errW_some] <;> rfl), by repeat (with_reducible first | exact HB.out | apply bs_ GE380 | apply bs_ GE381 | apply below_drew1 | apply pw_below_drewN)⟩

/-! ### codel_State_Note: function 21 -/
def codel_State_Note.f (k : Nat) (a0_0 : Bool) (a0_1 : Int) (a0_2 : Bool) (a0_3 : Int) (a0_4 : Int) (a0_5 : Int) (a1_0 : Int) (a1_1 : Int) (a2 : Int) (a3 : Int) (a4 : Int) : Option (Bool × Int × Bool × Int × Int × Int) := (codel_State_note.f k a0_0 a0_1 a0_2 a0_3 a0_4 a0_5 a1_0 a1_1 a2 a3 a4).bind fun bt395 => (some (bt395.1, bt395.2.1, bt395.2.2.1, bt395.2.2.2.1, bt395.2.2.2.2.1, bt395.2.2.2.2.2.1))
theorem codel_State_Note.mono : ∀ a0 a1 a2 a3 a4 a5 a6 a7 a8 a9 a10 k, LeO (codel_State_Note.f k a0 a1 a2 a3 a4 a5 a6 a7 a8 a9 a10) (codel_State_Note.f (k + 1) a0 a1 a2 a3 a4 a5 a6 a7 a8 a9 a10) := by
 intro a0 a1 a2 a3 a4 a5 a6 a7 a8 a9 a10 k
 unfold codel_State_Note.f
 repeat' first
   | (with_reducible exact codel_State_note.mono _ _ _ _ _ _ _ _ _ _ _ _)
   | (with_reducible exact LeO.refl _)
   | (with_reducible exact LeO.none _)
   | (with_reducible refine LeO.ite ?_ ?_)
   | (with_reducible refine LeO.bind ?_ (fun _ => ?_))
   | exact codel_State_note.mono _ _ _ _ _ _ _ _ _ _ _ _
   | exact LeO.none _
   | refine LeO.ite ?_ ?_
   | refine LeO.bind ?_ (fun _ => ?_)
set_option maxHeartbeats 8000000 in
set_option maxRecDepth 100000 in
theorem codel_State_Note.calls (k : Nat) (a0_0 : Bool) (a0_1 : Int) (a0_2 : Bool) (a0_3 : Int) (a0_4 : Int) (a0_5 : Int) (a1_0 : Int) (a1_1 : Int) (a2 : Int) (a3 : Int) (a4 : Int) (r1 : Bool) (r2 : Int) (r3 : Bool) (r4 : Int) (r5 : Int) (r6 : Int) (w : World) (h : codel_State_Note.f k a0_0 a0_1 a0_2 a0_3 a0_4 a0_5 a1_0 a1_1 a2 a3 a4 = some (r1, r2, r3, r4, r5, r6)) :
  Calls Try.prog 21 #[.agg #[.bool a0_0, .int .i64 a0_1, .bool a0_2, .int .i64 a0_3, .int .u64 a0_4, .int .u64 a0_5], .agg #[.int .i64 a1_0, .int .i64 a1_1], .int .i64 a2, .int .i64 a3, .int .i64 a4] w fun e w' => e = .returned (.agg #[.bool r1, .int .i64 r2, .bool r3, .int .i64 r4, .int .u64 r5, .int .u64 r6]) ∧ Below w.heap.size w w' := by
 have hu24 := Try.underlying24
 have hu26 := Try.underlying26
 have HB := m_ (Below.refl w.heap.size w)
 have H : ((codel_State_note.f k a0_0 a0_1 a0_2 a0_3 a0_4 a0_5 a1_0 a1_1 a2 a3 a4).bind fun bt395 => (some (bt395.1, bt395.2.1, bt395.2.2.1, bt395.2.2.2.1, bt395.2.2.2.2.1, bt395.2.2.2.2.2.1))) = some (r1, r2, r3, r4, r5, r6) := h
 clear h
 replace H := Option.bind_eq_some_iff.mp H
 obtain ⟨⟨t395, t396, t397, t398, t399, t400, t401⟩, A60, H⟩ := H
 replace H : (some (t395, t396, t397, t398, t399, t400)) = some (r1, r2, r3, r4, r5, r6) := H
 have A6 := Aside0.mk A60
 clear A60
 simp only [Option.some.injEq, Prod.mk.injEq] at H
 obtain ⟨rfl, rfl, rfl, rfl, rfl, rfl⟩ := H
 go_enter Try.func21, Try.ntmps21
 have mk_ : True := trivial
 go_wp2_with (first | ((first | (with_reducible refine gate_dst (N := 20) rfl ?_)); clear mk_; generalize hq_ : World.setCell (World.setCell (World.setCell (World.setCell (World.setCell (World.setCell (w15) _ _) _ _) _ _) _ _) _ _) _ _ = wq; have n0_ : Aside0 (wq.heap[gb392]? = some (.cells #[.bool t395, .int .i64 t396, .bool t397, .int .i64 t398, .int .u64 t399, .int .u64 t400] 24 (0, 0))) := ⟨by rw [← hq_]; apply put6_; exact BK392.out⟩; have n1_ : Aside0 (wq.heap[gb393]? = some (.cells #[.int .i64 a1_0, .int .i64 a1_1] 26 (0, 0))) := ⟨by rw [← hq_]; refine far6_ NB393_392 ?_; exact BK393.out⟩; have n2_ : Aside0 (wq.heap[gb394]? = some (.cells #[.bool false, .int .i64 0, .bool false, .int .i64 0, .int .u64 0, .int .u64 0] 24 (0, 0))) := ⟨by rw [← hq_]; refine far6_ NB394_392 ?_; exact BK394.out⟩; have n3_ : Aside0 (Below w.heap.size w wq) := ⟨by rw [← hq_]; repeat (first | (with_reducible first | exact HB.out | refine below_set ?_ GE392.out | refine below_set ?_ GE393.out | refine below_set ?_ GE394.out) | exact HB.out)⟩; clear BK392 BK393 BK394 HB hq_; have BK392 := n0_; have BK393 := n1_; have BK394 := n2_; have HB := n3_; clear n0_ n1_ n2_ n3_; have hcq392_0 : wq.cell? ⟨gb392, 0, none⟩ = some (.bool t395) := (blk_cell BK392.out 0).trans rfl; have hfq392_0 := blk_frozen BK392.out 0; have hcq392_1 : wq.cell? ⟨gb392, 1, none⟩ = some (.int .i64 t396) := (blk_cell BK392.out 1).trans rfl; have hfq392_1 := blk_frozen BK392.out 1; have hcq392_2 : wq.cell? ⟨gb392, 2, none⟩ = some (.bool t397) := (blk_cell BK392.out 2).trans rfl; have hfq392_2 := blk_frozen BK392.out 2; have hcq392_3 : wq.cell? ⟨gb392, 3, none⟩ = some (.int .i64 t398) := (blk_cell BK392.out 3).trans rfl; have hfq392_3 := blk_frozen BK392.out 3; have hcq392_4 : wq.cell? ⟨gb392, 4, none⟩ = some (.int .u64 t399) := (blk_cell BK392.out 4).trans rfl; have hfq392_4 := blk_frozen BK392.out 4; have hcq392_5 : wq.cell? ⟨gb392, 5, none⟩ = some (.int .u64 t400) := (blk_cell BK392.out 5).trans rfl; have hfq392_5 := blk_frozen BK392.out 5; have hcq393_0 : wq.cell? ⟨gb393, 0, none⟩ = some (.int .i64 a1_0) := (blk_cell BK393.out 0).trans rfl; have hfq393_0 := blk_frozen BK393.out 0; have hcq393_1 : wq.cell? ⟨gb393, 1, none⟩ = some (.int .i64 a1_1) := (blk_cell BK393.out 1).trans rfl; have hfq393_1 := blk_frozen BK393.out 1; have hcq394_0 : wq.cell? ⟨gb394, 0, none⟩ = some (.bool false) := (blk_cell BK394.out 0).trans rfl; have hfq394_0 := blk_frozen BK394.out 0; have hcq394_1 : wq.cell? ⟨gb394, 1, none⟩ = some (.int .i64 0) := (blk_cell BK394.out 1).trans rfl; have hfq394_1 := blk_frozen BK394.out 1; have hcq394_2 : wq.cell? ⟨gb394, 2, none⟩ = some (.bool false) := (blk_cell BK394.out 2).trans rfl; have hfq394_2 := blk_frozen BK394.out 2; have hcq394_3 : wq.cell? ⟨gb394, 3, none⟩ = some (.int .i64 0) := (blk_cell BK394.out 3).trans rfl; have hfq394_3 := blk_frozen BK394.out 3; have hcq394_4 : wq.cell? ⟨gb394, 4, none⟩ = some (.int .u64 0) := (blk_cell BK394.out 4).trans rfl; have hfq394_4 := blk_frozen BK394.out 4; have hcq394_5 : wq.cell? ⟨gb394, 5, none⟩ = some (.int .u64 0) := (blk_cell BK394.out 5).trans rfl; have hfq394_5 := blk_frozen BK394.out 5) | ((with_reducible refine gate_dst (N := 5) rfl ?_); refine box_event ?hg (N := 5) ?hd (cs := #[.bool a0_0, .int .i64 a0_1, .bool a0_2, .int .i64 a0_3, .int .u64 a0_4, .int .u64 a0_5]) (t := 24) ?hr ?_; (case hd => rfl); (case hg => rfl); (case hr => first | (go_simp; done) | (go_simp; rfl)); intro gb392 hg w7 hbox hb; have BK392 := m_ (hbox); have GW392 := ge_ (by repeat (with_reducible first | exact HB.out)) hg; have GE392 := GW392; replace HB := st_ (by repeat (with_reducible first | exact HB.out)) hb; clear hb hbox hg) | ((with_reducible refine gate_dst (N := 6) rfl ?_); refine box_event ?hg (N := 6) ?hd (cs := #[.int .i64 a1_0, .int .i64 a1_1]) (t := 26) ?hr ?_; (case hd => rfl); (case hg => rfl); (case hr => first | (go_simp; done) | (go_simp; rfl)); intro gb393 hg w8 hbox hb; have BK393 := m_ (hbox); have GW393 := ge_ (by repeat (with_reducible first | exact HB.out | apply bs_ GE392)) hg; have GE393 := GW393; have NB392_393 := nl_ BK392 hg; have NB393_392 := ng_ BK392 hg; replace BK392 := bb_ BK392 hb; replace HB := st_ (by repeat (with_reducible first | exact HB.out | apply bs_ GE392)) hb; clear hb hbox hg) | ((with_reducible refine gate_dst (N := 10) rfl ?_); refine box_event ?hg (N := 10) ?hd (cs := #[.bool false, .int .i64 0, .bool false, .int .i64 0, .int .u64 0, .int .u64 0]) (t := 24) ?hr ?_; (case hd => rfl); (case hg => rfl); (case hr => first | (go_simp; done) | (go_simp; rfl)); intro gb394 hg w9 hbox hb; have BK394 := m_ (hbox); have GW394 := ge_ (by repeat (with_reducible first | exact HB.out | apply bs_ GE392 | apply bs_ GE393)) hg; have GE394 := GW394; have NB392_394 := nl_ BK392 hg; have NB394_392 := ng_ BK392 hg; have NB393_394 := nl_ BK393 hg; have NB394_393 := ng_ BK393 hg; replace BK392 := bb_ BK392 hb; replace BK393 := bb_ BK393 hb; replace HB := st_ (by repeat (with_reducible first | exact HB.out | apply bs_ GE392 | apply bs_ GE393)) hb; clear hb hbox hg; have hnb10 := NB392_393.out; have hnc10 := NB393_392.out; have hnb11 := NB392_394.out; have hnc11 := NB394_392.out; obtain ⟨hcz12_0, hcz12_1, hcz12_2, hcz12_3, hcz12_4, hcz12_5, hfz12_0, hfz12_1, hfz12_2, hfz12_3, hfz12_4, hfz12_5⟩ := cf6 BK392; have hnb13 := NB393_394.out; have hnc13 := NB394_393.out; obtain ⟨hcz14_0, hcz14_1, hfz14_0, hfz14_1⟩ := cf2 BK393) | ((with_reducible refine gate_callee (f := 27) rfl ?_); refine goesL_ (some 17) rfl rfl Try.func27 (by kernel_rfl) rfl #[.agg #[.bool a0_0, .int .i64 a0_1, .bool a0_2, .int .i64 a0_3, .int .u64 a0_4, .int .u64 a0_5], .agg #[.int .i64 a1_0, .int .i64 a1_1], .int .i64 a2, .int .i64 a3, .int .i64 a4] rfl (by first | rfl | (simp only [List.map_toArray, List.map_cons, List.map_nil]; first | done | rfl)) ?_; (with_reducible refine (codel_State_note.calls k a0_0 a0_1 a0_2 a0_3 a0_4 a0_5 a1_0 a1_1 a2 a3 a4 t395 t396 t397 t398 t399 t400 t401 _ A6.out).mono ?_); rintro e w15 ⟨rfl, hb⟩; refine ⟨_, rfl, ?_⟩; replace BK392 := bb_ BK392 hb; replace BK393 := bb_ BK393 hb; replace BK394 := bb_ BK394 hb; replace HB := st_ (by repeat (with_reducible first | exact HB.out | apply bs_ GE392 | apply bs_ GE393 | apply bs_ GE394)) hb; (try clear hb); obtain ⟨hcz16_0, hcz16_1, hcz16_2, hcz16_3, hcz16_4, hcz16_5, hfz16_0, hfz16_1, hfz16_2, hfz16_3, hfz16_4, hfz16_5⟩ := cf6 BK392; obtain ⟨hcz17_0, hcz17_1, hcz17_2, hcz17_3, hcz17_4, hcz17_5, hfz17_0, hfz17_1, hfz17_2, hfz17_3, hfz17_4, hfz17_5⟩ := cf6 BK394))
 refine bodyPost_ret (results_cell_row rfl _ _ gb394 24 #[.bool t395, .int .i64 t396, .bool t397, .int .i64 t398, .int .u64 t399, .int .u64 t400] (0, 0) _ rfl (by apply put6_; exact BK394.out) Try.underlying24 rfl (by kernel_rfl)) rfl ?_
 exact ⟨by first | rfl | (simp [errW_none, errW_some] <;> rfl) | (simp [*, errW_none, errW_some] <;> rfl), by repeat (with_reducible first | exact HB.out | apply bs_ GE392 | apply bs_ GE393 | apply bs_ GE394)⟩

end Go.Proofs.Ytiiffgmbkajkhaa.L

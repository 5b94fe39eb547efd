-- Laid by a program of this claim's session (wip/tools/myprint.py) over the kit's printer.
import Derived.Test.YtdgbehbiigggmaaGx0
import Derived.Test.YtdgbehbiigggmaaGx2
import Derived.Test.YtdgbehbiigggmaaGx4
import Derived.Test.YtdgbehbiigggmaaGx11
namespace Go.Proofs.Ytdgbehbiigggmaa.G
open Go.RowKit Go.Proofs.YtdgbehbiigggmaaW.PrintWords Go.Proofs.YtdgbehbiigggmaaW.PrintLast Go.Proofs.YtdgbehbiigggmaaW.PrintMore
attribute [local go_sem] max2_int min2_int max_two min_two max_three min_three max_four min_four   -- for this text's walks alone
set_option linter.unusedVariables false
set_option linter.unusedSimpArgs false

attribute [local go_sem high] eqA29
/-! ### overfalllaw01_WideShifts: function 5 -/
def overfalllaw01_WideShifts.f (k : Nat) (a0_0 : Int) (a0_1 : Int) (a1 : Int) : Option (Bool) := (overfalllaw01_awake.f k).bind fun t283 => (if t283 = true then ((wide_Num_Left.f a0_0 a0_1 a1).bind fun bt284 => ((overfalllaw01_own.f bt284.1 bt284.2).bind fun bt286 => ((overfalllaw01_own.f a0_0 a0_1).bind fun bt288 => ((overfallref01_Left.f k bt288.1 bt288.2 a1).bind fun bt290 => (if (bt286.1 == bt290.1 && (bt286.2 == bt290.2)) = true then ((wide_Num_Right.f a0_0 a0_1 a1).bind fun bt292 => ((overfalllaw01_own.f bt292.1 bt292.2).bind fun bt294 => ((overfalllaw01_own.f a0_0 a0_1).bind fun bt296 => ((overfallref01_Right.f k bt296.1 bt296.2 a1).bind fun bt298 => (some (bt294.1 == bt298.1 && (bt294.2 == bt298.2))))))) else (none)))))) else (none))
theorem overfalllaw01_WideShifts.mono : ∀ a0 a1 a2 k, LeO (overfalllaw01_WideShifts.f k a0 a1 a2) (overfalllaw01_WideShifts.f (k + 1) a0 a1 a2) := by
  intro a0 a1 a2 k
  unfold overfalllaw01_WideShifts.f
  repeat' first
      | (with_reducible exact overfalllaw01_awake.mono _)
      | (with_reducible exact overfallref01_Left.mono _ _ _ _)
      | (with_reducible exact overfallref01_Right.mono _ _ _ _)
      | (with_reducible exact LeO.refl _)
      | (with_reducible exact LeO.none _)
      | (with_reducible refine LeO.ite ?_ ?_)
      | (with_reducible refine LeO.bind ?_ (fun _ => ?_))
      | exact overfalllaw01_awake.mono _
      | exact overfallref01_Left.mono _ _ _ _
      | exact overfallref01_Right.mono _ _ _ _
      | exact LeO.none _
      | refine LeO.ite ?_ ?_
      | refine LeO.bind ?_ (fun _ => ?_)
def overfalllaw01_WideShifts.T3 : Bool × List (List Nat × List Nat) := (true, [([], []), ([], []), ([0, 1], [0, 1]), ([2, 2], [2]), ([], []), ([4, 3], [4]), ([], []), ([5, 6, 5], [5, 6]), ([3, 7], [3, 7]), ([8, 7], [8]), ([9], [9]), ([9], [9]), ([10, 11, 9, 9], [9, 10, 11]), ([12, 12, 9], [9, 12]), ([9], [9]), ([14, 13, 9], [9, 14]), ([9], [9]), ([15, 16, 15, 9], [9, 15, 16]), ([13, 17, 9], [9, 13, 17]), ([9, 18], [9, 18]), ([19, 17, 0, 1, 2, 3, 4, 5, 6, 7, 8, 9, 10, 11, 12, 13, 14, 15, 16, 17, 18, 19], [19])])
def overfalllaw01_WideShifts.B3 : List Nat := [0, 0, 3, 7, 0, 31, 0, 127, 255, 511, 1023, 1023, 4095, 8191, 1023, 32767, 1023, 131071, 262143, 524287, 1048575]
theorem overfalllaw01_WideShifts.tab3 : rtab .any (opsOf Try.f5 3) = overfalllaw01_WideShifts.T3 := by kernel_rfl
theorem overfalllaw01_WideShifts.bits3 : waitsOk overfalllaw01_WideShifts.T3.2 overfalllaw01_WideShifts.B3 = true := by kernel_rfl
set_option maxHeartbeats 8000000 in
set_option maxRecDepth 100000 in
theorem overfalllaw01_WideShifts.calls (k : Nat) (a0_0 : Int) (a0_1 : Int) (a1 : Int) (r : Bool) (w : World) (h : overfalllaw01_WideShifts.f k a0_0 a0_1 a1 = some r) :
    Calls Try.prog 5 #[.agg #[.int .u64 a0_0, .int .u64 a0_1], .int .i64 a1] w fun e w' => e = .returned (.bool r) ∧ Below w.heap.size w w' := by
  have hu25 := Try.underlying25
  have HB := Aside0.mk (Below.refl w.heap.size w)
  have H : ((overfalllaw01_awake.f k).bind fun t283 => (if t283 = true then ((wide_Num_Left.f a0_0 a0_1 a1).bind fun bt284 => ((overfalllaw01_own.f bt284.1 bt284.2).bind fun bt286 => ((overfalllaw01_own.f a0_0 a0_1).bind fun bt288 => ((overfallref01_Left.f k bt288.1 bt288.2 a1).bind fun bt290 => (if (bt286.1 == bt290.1 && (bt286.2 == bt290.2)) = true then ((wide_Num_Right.f a0_0 a0_1 a1).bind fun bt292 => ((overfalllaw01_own.f bt292.1 bt292.2).bind fun bt294 => ((overfalllaw01_own.f a0_0 a0_1).bind fun bt296 => ((overfallref01_Right.f k bt296.1 bt296.2 a1).bind fun bt298 => (some (bt294.1 == bt298.1 && (bt294.2 == bt298.2))))))) else (none)))))) else (none))) = some r := h
  clear h
  replace H := Option.bind_eq_some_iff.mp H
  obtain ⟨t283, A30, H⟩ := H
  replace H : (if t283 = true then ((wide_Num_Left.f a0_0 a0_1 a1).bind fun bt284 => ((overfalllaw01_own.f bt284.1 bt284.2).bind fun bt286 => ((overfalllaw01_own.f a0_0 a0_1).bind fun bt288 => ((overfallref01_Left.f k bt288.1 bt288.2 a1).bind fun bt290 => (if (bt286.1 == bt290.1 && (bt286.2 == bt290.2)) = true then ((wide_Num_Right.f a0_0 a0_1 a1).bind fun bt292 => ((overfalllaw01_own.f bt292.1 bt292.2).bind fun bt294 => ((overfalllaw01_own.f a0_0 a0_1).bind fun bt296 => ((overfallref01_Right.f k bt296.1 bt296.2 a1).bind fun bt298 => (some (bt294.1 == bt298.1 && (bt294.2 == bt298.2))))))) else (none)))))) else (none)) = some r := H
  have A3 := Aside0.mk A30
  clear A30
  by_cases c4 : t283 = true
  · subst c4
    have H1 : ((wide_Num_Left.f a0_0 a0_1 a1).bind fun bt284 => ((overfalllaw01_own.f bt284.1 bt284.2).bind fun bt286 => ((overfalllaw01_own.f a0_0 a0_1).bind fun bt288 => ((overfallref01_Left.f k bt288.1 bt288.2 a1).bind fun bt290 => (if (bt286.1 == bt290.1 && (bt286.2 == bt290.2)) = true then ((wide_Num_Right.f a0_0 a0_1 a1).bind fun bt292 => ((overfalllaw01_own.f bt292.1 bt292.2).bind fun bt294 => ((overfalllaw01_own.f a0_0 a0_1).bind fun bt296 => ((overfallref01_Right.f k bt296.1 bt296.2 a1).bind fun bt298 => (some (bt294.1 == bt298.1 && (bt294.2 == bt298.2))))))) else (none)))))) = some r := by rw [if_pos rfl] at H; exact H
    clear H
    have H := H1
    clear H1
    replace H := Option.bind_eq_some_iff.mp H
    obtain ⟨⟨t284, t285⟩, A50, H⟩ := H
    replace H : ((overfalllaw01_own.f t284 t285).bind fun bt286 => ((overfalllaw01_own.f a0_0 a0_1).bind fun bt288 => ((overfallref01_Left.f k bt288.1 bt288.2 a1).bind fun bt290 => (if (bt286.1 == bt290.1 && (bt286.2 == bt290.2)) = true then ((wide_Num_Right.f a0_0 a0_1 a1).bind fun bt292 => ((overfalllaw01_own.f bt292.1 bt292.2).bind fun bt294 => ((overfalllaw01_own.f a0_0 a0_1).bind fun bt296 => ((overfallref01_Right.f k bt296.1 bt296.2 a1).bind fun bt298 => (some (bt294.1 == bt298.1 && (bt294.2 == bt298.2))))))) else (none))))) = some r := H
    have A5 := Aside0.mk A50
    clear A50
    replace H := Option.bind_eq_some_iff.mp H
    obtain ⟨⟨t286, t287⟩, A60, H⟩ := H
    replace H : ((overfalllaw01_own.f a0_0 a0_1).bind fun bt288 => ((overfallref01_Left.f k bt288.1 bt288.2 a1).bind fun bt290 => (if (t286 == bt290.1 && (t287 == bt290.2)) = true then ((wide_Num_Right.f a0_0 a0_1 a1).bind fun bt292 => ((overfalllaw01_own.f bt292.1 bt292.2).bind fun bt294 => ((overfalllaw01_own.f a0_0 a0_1).bind fun bt296 => ((overfallref01_Right.f k bt296.1 bt296.2 a1).bind fun bt298 => (some (bt294.1 == bt298.1 && (bt294.2 == bt298.2))))))) else (none)))) = some r := H
    have A6 := Aside0.mk A60
    clear A60
    replace H := Option.bind_eq_some_iff.mp H
    obtain ⟨⟨t288, t289⟩, A70, H⟩ := H
    replace H : ((overfallref01_Left.f k t288 t289 a1).bind fun bt290 => (if (t286 == bt290.1 && (t287 == bt290.2)) = true then ((wide_Num_Right.f a0_0 a0_1 a1).bind fun bt292 => ((overfalllaw01_own.f bt292.1 bt292.2).bind fun bt294 => ((overfalllaw01_own.f a0_0 a0_1).bind fun bt296 => ((overfallref01_Right.f k bt296.1 bt296.2 a1).bind fun bt298 => (some (bt294.1 == bt298.1 && (bt294.2 == bt298.2))))))) else (none))) = some r := H
    have A7 := Aside0.mk A70
    clear A70
    replace H := Option.bind_eq_some_iff.mp H
    obtain ⟨⟨t290, t291⟩, A80, H⟩ := H
    replace H : (if (t286 == t290 && (t287 == t291)) = true then ((wide_Num_Right.f a0_0 a0_1 a1).bind fun bt292 => ((overfalllaw01_own.f bt292.1 bt292.2).bind fun bt294 => ((overfalllaw01_own.f a0_0 a0_1).bind fun bt296 => ((overfallref01_Right.f k bt296.1 bt296.2 a1).bind fun bt298 => (some (bt294.1 == bt298.1 && (bt294.2 == bt298.2))))))) else (none)) = some r := H
    have A8 := Aside0.mk A80
    clear A80
    by_cases c9 : (t286 == t290 && (t287 == t291)) = true
    · rw [if_pos c9] at H
      have c9b0 : (t286 == t290 && (t287 == t291)) = true := c9
      (try (have c9b1 : decide (t286 = t290 && (t287 == t291)) = true := by simpa using c9))
      (try (have c9b2 : (t286 == t290 && (t287 == t291)) = true := by simpa using c9))
      clear c9
      replace H := Option.bind_eq_some_iff.mp H
      obtain ⟨⟨t292, t293⟩, A100, H⟩ := H
      replace H : ((overfalllaw01_own.f t292 t293).bind fun bt294 => ((overfalllaw01_own.f a0_0 a0_1).bind fun bt296 => ((overfallref01_Right.f k bt296.1 bt296.2 a1).bind fun bt298 => (some (bt294.1 == bt298.1 && (bt294.2 == bt298.2)))))) = some r := H
      have A10 := Aside0.mk A100
      clear A100
      replace H := Option.bind_eq_some_iff.mp H
      obtain ⟨⟨t294, t295⟩, A110, H⟩ := H
      replace H : ((overfalllaw01_own.f a0_0 a0_1).bind fun bt296 => ((overfallref01_Right.f k bt296.1 bt296.2 a1).bind fun bt298 => (some (t294 == bt298.1 && (t295 == bt298.2))))) = some r := H
      have A11 := Aside0.mk A110
      clear A110
      replace H := Option.bind_eq_some_iff.mp H
      obtain ⟨⟨t296, t297⟩, A120, H⟩ := H
      replace H : ((overfallref01_Right.f k t296 t297 a1).bind fun bt298 => (some (t294 == bt298.1 && (t295 == bt298.2)))) = some r := H
      have A12 := Aside0.mk A120
      clear A120
      replace H := Option.bind_eq_some_iff.mp H
      obtain ⟨⟨t298, t299⟩, A130, H⟩ := H
      replace H : (some (t294 == t298 && (t295 == t299))) = some r := H
      have A13 := Aside0.mk A130
      clear A130
      obtain rfl := Option.some.inj H
      go_enter Try.func5, Try.ntmps5
      try go_wp2_with (first | ((with_reducible refine gate_dst (N := 2) rfl ?_); refine box_event ?hg (N := 2) ?hd (cs := #[.int .u64 a0_0, .int .u64 a0_1]) (t := 25) ?hr ?_; (case hd => rfl); (case hg => rfl); (case hr => first | (go_simp; done) | (go_simp; rfl)); intro gb282 hg w14 hbox hb; have n0_ := Aside0.mk (below_step (by repeat (first | (with_reducible first | exact HB.out | apply below_alloc | apply pw_below_drewN | apply below_drew1) | exact HB.out)) hb); have n1_ := Aside0.mk (hbox); have n2_ := Aside0.mk ((by rw [hg]; exact (below_size (by repeat (first | (with_reducible first | exact HB.out | apply below_alloc | apply pw_below_drewN | apply below_drew1) | exact HB.out))) : w.heap.size ≤ gb282)); have n3_ := Aside0.mk ((by rw [hg]; exact (below_size (by repeat (first | (with_reducible first | exact HB.out | apply below_alloc | apply pw_below_drewN | apply below_drew1) | exact HB.out))) : w.heap.size ≤ gb282)); clear HB; have HB := n0_; have BK282 := n1_; have GW282 := n2_; have GE282 := n3_; clear n0_ n1_ n2_ n3_; clear hb hbox hg) | ((with_reducible refine gate_callee (f := 11) rfl ?_); refine goesL_ (some 5) rfl rfl Try.func11 (by kernel_rfl) rfl #[] rfl (by (try simp only [List.map_toArray, List.map_cons, List.map_nil]); first | done | rfl | (simp only [List.length_drop, List.length_take]; rfl)) ?_; (with_reducible refine (overfalllaw01_awake.calls k  true _ A3.out).mono ?_); rintro e w15 ⟨rfl, hb⟩; refine ⟨_, rfl, ?_⟩; have n0_ := Aside0.mk (blk_below (g := gb282) (o := .cells #[.int .u64 a0_0, .int .u64 a0_1] 25 (0, 0)) (by exact BK282.out) hb); have n1_ := Aside0.mk (below_step (by repeat (first | (with_reducible first | exact HB.out | apply below_alloc | apply pw_below_drewN | apply below_drew1 | refine below_set ?_ GE282.out) | exact HB.out)) hb); clear BK282; clear HB; have BK282 := n0_; have HB := n1_; clear n0_ n1_; (try clear hb); (try clear hb2); (try clear hk); (try clear hi)))
      have n0_ := Aside0.mk (blk_drew BK282.out)
      have n1_ := Aside0.mk (below_drew1 HB.out)
      clear BK282
      clear HB
      have BK282 := n0_
      have HB := n1_
      clear n0_ n1_
      refine start_ (n := 21) (S := fun w' => w'.cell? ⟨gb282, 0, none⟩ = some (.int .u64 a0_0) ∧ w'.cell? ⟨gb282, 1, none⟩ = some (.int .u64 a0_1)) (ds := []) #[false, false, false, false, false, false, false, false, false, false, false, false, false, false, false, false, false, false, false, false, false] (by kernel_rfl) rfl rfl ⟨(blk_cell BK282.out 0).trans rfl, (blk_cell BK282.out 1).trans rfl⟩ (fun hHeld => ?_); refine with_tabW overfalllaw01_WideShifts.tab3 overfalllaw01_WideShifts.bits3 (fun HT_ HW_ => ?_)
      generalize w15.drew = w16 at BK282 HB hHeld ⊢
      refine pure_ (i := 1) (N := some 8) (v := ?_) (a' := ?_) #[false, true, false, false, false, false, false, false, false, false, false, false, false, false, false, false, false, false, false, false, false] rfl rfl (any_of HT_.out (by kernel_rfl)) (fun _ _ _ h => h) (Or.inl ⟨by rfl, ?_⟩) ?_ ?_
      rotate_left
      · intro w'
        go_simp
        with_reducible rfl
      rotate_left
      · simp only [Act.put, List.setIfInBounds_toArray, List.set_cons_zero, List.set_cons_succ, i64_w, i32_w]
        rfl
      refine pure_ (i := 6) (N := some 13) (v := ?_) (a' := ?_) #[false, true, false, false, false, false, true, false, false, false, false, false, false, false, false, false, false, false, false, false, false] rfl rfl (any_of HT_.out (by kernel_rfl)) (fun _ _ _ h => h) (Or.inl ⟨by rfl, ?_⟩) ?_ ?_
      rotate_left
      · intro w'
        go_simp
        with_reducible rfl
      rotate_left
      · simp only [Act.put, List.setIfInBounds_toArray, List.set_cons_zero, List.set_cons_succ, i64_w, i32_w]
        rfl
      refine take_ (i := 0) (N := some 7) (v := ?_) (a' := ?_) #[true, true, false, false, false, false, true, false, false, false, false, false, false, false, false, false, false, false, false, false, false] rfl rfl (take_ofW HT_.out HW_.out (by kernel_rfl)) (fun _ _ _ h => h) (Or.inl ⟨by rfl, ?_⟩) hHeld ?_ ?_
      rotate_left
      · rintro w' ⟨s0, s1⟩
        go_simp
        with_reducible rfl
      rotate_left
      · simp only [Act.put, List.setIfInBounds_toArray, List.set_cons_zero, List.set_cons_succ, i64_w, i32_w]
        rfl
      refine take_ (i := 4) (N := some 11) (v := ?_) (a' := ?_) #[true, true, false, false, true, false, true, false, false, false, false, false, false, false, false, false, false, false, false, false, false] rfl rfl (take_ofW HT_.out HW_.out (by kernel_rfl)) (fun _ _ _ h => h) (Or.inl ⟨by rfl, ?_⟩) hHeld ?_ ?_
      rotate_left
      · rintro w' ⟨s0, s1⟩
        go_simp
        with_reducible rfl
      rotate_left
      · simp only [Act.put, List.setIfInBounds_toArray, List.set_cons_zero, List.set_cons_succ, i64_w, i32_w]
        rfl
      refine one_ (i := 2) (N := some 9) #[true, true, true, false, true, false, true, false, false, false, false, false, false, false, false, false, false, false, false, false, false] rfl rfl (one_of HT_.out (by kernel_rfl)) (by decide) (fun K hK => ?_)
      refine goes_ Try.func19 (by kernel_rfl) rfl #[.agg #[.int .u64 a0_0, .int .u64 a0_1], .int .i64 a1] (by rfl) rfl rfl (by (try simp only [List.map_toArray, List.map_cons, List.map_nil]); first | done | rfl | (simp only [List.length_drop, List.length_take]; rfl)) ?_
      with_reducible refine (wide_Num_Left.calls a0_0 a0_1 a1 t284 t285 _ A5.out).mono ?_
      rintro e w17 ⟨rfl, hb⟩
      refine ⟨_, rfl, ?_⟩
      have n0_ := Aside0.mk (blk_below (g := gb282) (o := .cells #[.int .u64 a0_0, .int .u64 a0_1] 25 (0, 0)) (by exact BK282.out) hb)
      have n1_ := Aside0.mk (below_step (by repeat (first | (with_reducible first | exact HB.out | apply below_alloc | apply pw_below_drewN | apply below_drew1 | refine below_set ?_ GE282.out) | exact HB.out)) hb)
      clear BK282
      clear HB
      have BK282 := n0_
      have HB := n1_
      clear n0_ n1_
      (try clear hb)
      (try clear hb2)
      (try clear hk)
      (try clear hi)
      refine hK.out _ _ ⟨(blk_cell BK282.out 0).trans rfl, (blk_cell BK282.out 1).trans rfl⟩ (fun hHeld => ?_)
      clear hK K
      refine norm_ (a' := ?_) ?_ ?_
      rotate_left
      · show Act.put _ (some 9) _ = _
        simp only [Act.put, List.setIfInBounds_toArray, List.set_cons_zero, List.set_cons_succ, i64_w, i32_w]
        rfl
      refine one_ (i := 3) (N := some 10) #[true, true, true, true, true, false, true, false, false, false, false, false, false, false, false, false, false, false, false, false, false] rfl rfl (one_of HT_.out (by kernel_rfl)) (by decide) (fun K hK => ?_)
      refine goes_ Try.func14 (by kernel_rfl) rfl #[.agg #[.int .u64 t284, .int .u64 t285]] (by rfl) rfl rfl (by (try simp only [List.map_toArray, List.map_cons, List.map_nil]); first | done | rfl | (simp only [List.length_drop, List.length_take]; rfl)) ?_
      with_reducible refine (overfalllaw01_own.calls t284 t285 t286 t287 _ A6.out).mono ?_
      rintro e w18 ⟨rfl, hb⟩
      refine ⟨_, rfl, ?_⟩
      have n0_ := Aside0.mk (blk_below (g := gb282) (o := .cells #[.int .u64 a0_0, .int .u64 a0_1] 25 (0, 0)) (by exact BK282.out) hb)
      have n1_ := Aside0.mk (below_step (by repeat (first | (with_reducible first | exact HB.out | apply below_alloc | apply pw_below_drewN | apply below_drew1 | refine below_set ?_ GE282.out) | exact HB.out)) hb)
      clear BK282
      clear HB
      have BK282 := n0_
      have HB := n1_
      clear n0_ n1_
      (try clear hb)
      (try clear hb2)
      (try clear hk)
      (try clear hi)
      refine hK.out _ _ ⟨(blk_cell BK282.out 0).trans rfl, (blk_cell BK282.out 1).trans rfl⟩ (fun hHeld => ?_)
      clear hK K
      refine norm_ (a' := ?_) ?_ ?_
      rotate_left
      · show Act.put _ (some 10) _ = _
        simp only [Act.put, List.setIfInBounds_toArray, List.set_cons_zero, List.set_cons_succ, i64_w, i32_w]
        rfl
      refine one_ (i := 5) (N := some 12) #[true, true, true, true, true, true, true, false, false, false, false, false, false, false, false, false, false, false, false, false, false] rfl rfl (one_of HT_.out (by kernel_rfl)) (by decide) (fun K hK => ?_)
      refine goes_ Try.func14 (by kernel_rfl) rfl #[.agg #[.int .u64 a0_0, .int .u64 a0_1]] (by rfl) rfl rfl (by (try simp only [List.map_toArray, List.map_cons, List.map_nil]); first | done | rfl | (simp only [List.length_drop, List.length_take]; rfl)) ?_
      with_reducible refine (overfalllaw01_own.calls a0_0 a0_1 t288 t289 _ A7.out).mono ?_
      rintro e w19 ⟨rfl, hb⟩
      refine ⟨_, rfl, ?_⟩
      have n0_ := Aside0.mk (blk_below (g := gb282) (o := .cells #[.int .u64 a0_0, .int .u64 a0_1] 25 (0, 0)) (by exact BK282.out) hb)
      have n1_ := Aside0.mk (below_step (by repeat (first | (with_reducible first | exact HB.out | apply below_alloc | apply pw_below_drewN | apply below_drew1 | refine below_set ?_ GE282.out) | exact HB.out)) hb)
      clear BK282
      clear HB
      have BK282 := n0_
      have HB := n1_
      clear n0_ n1_
      (try clear hb)
      (try clear hb2)
      (try clear hk)
      (try clear hi)
      refine hK.out _ _ ⟨(blk_cell BK282.out 0).trans rfl, (blk_cell BK282.out 1).trans rfl⟩ (fun hHeld => ?_)
      clear hK K
      refine norm_ (a' := ?_) ?_ ?_
      rotate_left
      · show Act.put _ (some 12) _ = _
        simp only [Act.put, List.setIfInBounds_toArray, List.set_cons_zero, List.set_cons_succ, i64_w, i32_w]
        rfl
      refine one_ (i := 7) (N := some 14) #[true, true, true, true, true, true, true, true, false, false, false, false, false, false, false, false, false, false, false, false, false] rfl rfl (one_of HT_.out (by kernel_rfl)) (by decide) (fun K hK => ?_)
      refine goes_ Try.func20 (by kernel_rfl) rfl #[.agg #[.int .u64 t288, .int .u64 t289], .int .i64 a1] (by rfl) rfl rfl (by (try simp only [List.map_toArray, List.map_cons, List.map_nil]); first | done | rfl | (simp only [List.length_drop, List.length_take]; rfl)) ?_
      with_reducible refine (overfallref01_Left.calls k t288 t289 a1 t290 t291 _ A8.out).mono ?_
      rintro e w20 ⟨rfl, hb⟩
      refine ⟨_, rfl, ?_⟩
      have n0_ := Aside0.mk (blk_below (g := gb282) (o := .cells #[.int .u64 a0_0, .int .u64 a0_1] 25 (0, 0)) (by exact BK282.out) hb)
      have n1_ := Aside0.mk (below_step (by repeat (first | (with_reducible first | exact HB.out | apply below_alloc | apply pw_below_drewN | apply below_drew1 | refine below_set ?_ GE282.out) | exact HB.out)) hb)
      clear BK282
      clear HB
      have BK282 := n0_
      have HB := n1_
      clear n0_ n1_
      (try clear hb)
      (try clear hb2)
      (try clear hk)
      (try clear hi)
      refine hK.out _ _ ⟨(blk_cell BK282.out 0).trans rfl, (blk_cell BK282.out 1).trans rfl⟩ (fun hHeld => ?_)
      clear hK K
      refine norm_ (a' := ?_) ?_ ?_
      rotate_left
      · show Act.put _ (some 14) _ = _
        simp only [Act.put, List.setIfInBounds_toArray, List.set_cons_zero, List.set_cons_succ, i64_w, i32_w]
        rfl
      refine pure_ (i := 8) (N := some 15) (v := ?_) (a' := ?_) #[true, true, true, true, true, true, true, true, true, false, false, false, false, false, false, false, false, false, false, false, false] rfl rfl (any_of HT_.out (by kernel_rfl)) (fun _ _ _ h => h) (Or.inl ⟨by rfl, ?_⟩) ?_ ?_
      rotate_left
      · intro w'
        go_simp
        with_reducible rfl
      rotate_left
      · simp only [Act.put, List.setIfInBounds_toArray, List.set_cons_zero, List.set_cons_succ, i64_w, i32_w]
        rfl
      refine pure_ (i := 9) (N := some 16) (v := ?_) (a' := ?_) #[true, true, true, true, true, true, true, true, true, true, false, false, false, false, false, false, false, false, false, false, false] rfl rfl (any_of HT_.out (by kernel_rfl)) (fun _ _ _ h => h) (Or.inl ⟨by rfl, ?_⟩) ?_ ?_
      rotate_left
      · intro w'
        go_simp
        with_reducible rfl
      rotate_left
      · simp only [Act.put, List.setIfInBounds_toArray, List.set_cons_zero, List.set_cons_succ, i64_w, i32_w]
        rfl
      refine pure_ (i := 11) (N := some 18) (v := ?_) (a' := ?_) #[true, true, true, true, true, true, true, true, true, true, false, true, false, false, false, false, false, false, false, false, false] rfl rfl (any_of HT_.out (by kernel_rfl)) (fun _ _ _ h => h) (Or.inl ⟨by rfl, ?_⟩) ?_ ?_
      rotate_left
      · intro w'
        go_simp
        with_reducible rfl
      rotate_left
      · simp only [Act.put, List.setIfInBounds_toArray, List.set_cons_zero, List.set_cons_succ, i64_w, i32_w]
        rfl
      refine pure_ (i := 16) (N := some 23) (v := ?_) (a' := ?_) #[true, true, true, true, true, true, true, true, true, true, false, true, false, false, false, false, true, false, false, false, false] rfl rfl (any_of HT_.out (by kernel_rfl)) (fun _ _ _ h => h) (Or.inl ⟨by rfl, ?_⟩) ?_ ?_
      rotate_left
      · intro w'
        go_simp
        with_reducible rfl
      rotate_left
      · simp only [Act.put, List.setIfInBounds_toArray, List.set_cons_zero, List.set_cons_succ, i64_w, i32_w]
        rfl
      refine take_ (i := 10) (N := some 17) (v := ?_) (a' := ?_) #[true, true, true, true, true, true, true, true, true, true, true, true, false, false, false, false, true, false, false, false, false] rfl rfl (take_ofW HT_.out HW_.out (by kernel_rfl)) (fun _ _ _ h => h) (Or.inl ⟨by rfl, ?_⟩) hHeld ?_ ?_
      rotate_left
      · rintro w' ⟨s0, s1⟩
        go_simp
        with_reducible rfl
      rotate_left
      · simp only [Act.put, List.setIfInBounds_toArray, List.set_cons_zero, List.set_cons_succ, i64_w, i32_w]
        rfl
      refine take_ (i := 14) (N := some 21) (v := ?_) (a' := ?_) #[true, true, true, true, true, true, true, true, true, true, true, true, false, false, true, false, true, false, false, false, false] rfl rfl (take_ofW HT_.out HW_.out (by kernel_rfl)) (fun _ _ _ h => h) (Or.inl ⟨by rfl, ?_⟩) hHeld ?_ ?_
      rotate_left
      · rintro w' ⟨s0, s1⟩
        go_simp
        with_reducible rfl
      rotate_left
      · simp only [Act.put, List.setIfInBounds_toArray, List.set_cons_zero, List.set_cons_succ, i64_w, i32_w]
        rfl
      refine one_ (i := 12) (N := some 19) #[true, true, true, true, true, true, true, true, true, true, true, true, true, false, true, false, true, false, false, false, false] rfl rfl (one_of HT_.out (by kernel_rfl)) (by decide) (fun K hK => ?_)
      refine goes_ Try.func21 (by kernel_rfl) rfl #[.agg #[.int .u64 a0_0, .int .u64 a0_1], .int .i64 a1] (by rfl) rfl rfl (by (try simp only [List.map_toArray, List.map_cons, List.map_nil]); first | done | rfl | (simp only [List.length_drop, List.length_take]; rfl)) ?_
      with_reducible refine (wide_Num_Right.calls a0_0 a0_1 a1 t292 t293 _ A10.out).mono ?_
      rintro e w21 ⟨rfl, hb⟩
      refine ⟨_, rfl, ?_⟩
      have n0_ := Aside0.mk (blk_below (g := gb282) (o := .cells #[.int .u64 a0_0, .int .u64 a0_1] 25 (0, 0)) (by exact BK282.out) hb)
      have n1_ := Aside0.mk (below_step (by repeat (first | (with_reducible first | exact HB.out | apply below_alloc | apply pw_below_drewN | apply below_drew1 | refine below_set ?_ GE282.out) | exact HB.out)) hb)
      clear BK282
      clear HB
      have BK282 := n0_
      have HB := n1_
      clear n0_ n1_
      (try clear hb)
      (try clear hb2)
      (try clear hk)
      (try clear hi)
      refine hK.out _ _ ⟨(blk_cell BK282.out 0).trans rfl, (blk_cell BK282.out 1).trans rfl⟩ (fun hHeld => ?_)
      clear hK K
      refine norm_ (a' := ?_) ?_ ?_
      rotate_left
      · show Act.put _ (some 19) _ = _
        simp only [Act.put, List.setIfInBounds_toArray, List.set_cons_zero, List.set_cons_succ, i64_w, i32_w]
        rfl
      refine one_ (i := 13) (N := some 20) #[true, true, true, true, true, true, true, true, true, true, true, true, true, true, true, false, true, false, false, false, false] rfl rfl (one_of HT_.out (by kernel_rfl)) (by decide) (fun K hK => ?_)
      refine goes_ Try.func14 (by kernel_rfl) rfl #[.agg #[.int .u64 t292, .int .u64 t293]] (by rfl) rfl rfl (by (try simp only [List.map_toArray, List.map_cons, List.map_nil]); first | done | rfl | (simp only [List.length_drop, List.length_take]; rfl)) ?_
      with_reducible refine (overfalllaw01_own.calls t292 t293 t294 t295 _ A11.out).mono ?_
      rintro e w22 ⟨rfl, hb⟩
      refine ⟨_, rfl, ?_⟩
      have n0_ := Aside0.mk (blk_below (g := gb282) (o := .cells #[.int .u64 a0_0, .int .u64 a0_1] 25 (0, 0)) (by exact BK282.out) hb)
      have n1_ := Aside0.mk (below_step (by repeat (first | (with_reducible first | exact HB.out | apply below_alloc | apply pw_below_drewN | apply below_drew1 | refine below_set ?_ GE282.out) | exact HB.out)) hb)
      clear BK282
      clear HB
      have BK282 := n0_
      have HB := n1_
      clear n0_ n1_
      (try clear hb)
      (try clear hb2)
      (try clear hk)
      (try clear hi)
      refine hK.out _ _ ⟨(blk_cell BK282.out 0).trans rfl, (blk_cell BK282.out 1).trans rfl⟩ (fun hHeld => ?_)
      clear hK K
      refine norm_ (a' := ?_) ?_ ?_
      rotate_left
      · show Act.put _ (some 20) _ = _
        simp only [Act.put, List.setIfInBounds_toArray, List.set_cons_zero, List.set_cons_succ, i64_w, i32_w]
        rfl
      refine one_ (i := 15) (N := some 22) #[true, true, true, true, true, true, true, true, true, true, true, true, true, true, true, true, true, false, false, false, false] rfl rfl (one_of HT_.out (by kernel_rfl)) (by decide) (fun K hK => ?_)
      refine goes_ Try.func14 (by kernel_rfl) rfl #[.agg #[.int .u64 a0_0, .int .u64 a0_1]] (by rfl) rfl rfl (by (try simp only [List.map_toArray, List.map_cons, List.map_nil]); first | done | rfl | (simp only [List.length_drop, List.length_take]; rfl)) ?_
      with_reducible refine (overfalllaw01_own.calls a0_0 a0_1 t296 t297 _ A12.out).mono ?_
      rintro e w23 ⟨rfl, hb⟩
      refine ⟨_, rfl, ?_⟩
      have n0_ := Aside0.mk (blk_below (g := gb282) (o := .cells #[.int .u64 a0_0, .int .u64 a0_1] 25 (0, 0)) (by exact BK282.out) hb)
      have n1_ := Aside0.mk (below_step (by repeat (first | (with_reducible first | exact HB.out | apply below_alloc | apply pw_below_drewN | apply below_drew1 | refine below_set ?_ GE282.out) | exact HB.out)) hb)
      clear BK282
      clear HB
      have BK282 := n0_
      have HB := n1_
      clear n0_ n1_
      (try clear hb)
      (try clear hb2)
      (try clear hk)
      (try clear hi)
      refine hK.out _ _ ⟨(blk_cell BK282.out 0).trans rfl, (blk_cell BK282.out 1).trans rfl⟩ (fun hHeld => ?_)
      clear hK K
      refine norm_ (a' := ?_) ?_ ?_
      rotate_left
      · show Act.put _ (some 22) _ = _
        simp only [Act.put, List.setIfInBounds_toArray, List.set_cons_zero, List.set_cons_succ, i64_w, i32_w]
        rfl
      refine one_ (i := 17) (N := some 24) #[true, true, true, true, true, true, true, true, true, true, true, true, true, true, true, true, true, true, false, false, false] rfl rfl (one_of HT_.out (by kernel_rfl)) (by decide) (fun K hK => ?_)
      refine goes_ Try.func22 (by kernel_rfl) rfl #[.agg #[.int .u64 t296, .int .u64 t297], .int .i64 a1] (by rfl) rfl rfl (by (try simp only [List.map_toArray, List.map_cons, List.map_nil]); first | done | rfl | (simp only [List.length_drop, List.length_take]; rfl)) ?_
      with_reducible refine (overfallref01_Right.calls k t296 t297 a1 t298 t299 _ A13.out).mono ?_
      rintro e w24 ⟨rfl, hb⟩
      refine ⟨_, rfl, ?_⟩
      have n0_ := Aside0.mk (blk_below (g := gb282) (o := .cells #[.int .u64 a0_0, .int .u64 a0_1] 25 (0, 0)) (by exact BK282.out) hb)
      have n1_ := Aside0.mk (below_step (by repeat (first | (with_reducible first | exact HB.out | apply below_alloc | apply pw_below_drewN | apply below_drew1 | refine below_set ?_ GE282.out) | exact HB.out)) hb)
      clear BK282
      clear HB
      have BK282 := n0_
      have HB := n1_
      clear n0_ n1_
      (try clear hb)
      (try clear hb2)
      (try clear hk)
      (try clear hi)
      refine hK.out _ _ ⟨(blk_cell BK282.out 0).trans rfl, (blk_cell BK282.out 1).trans rfl⟩ (fun hHeld => ?_)
      clear hK K
      refine norm_ (a' := ?_) ?_ ?_
      rotate_left
      · show Act.put _ (some 24) _ = _
        simp only [Act.put, List.setIfInBounds_toArray, List.set_cons_zero, List.set_cons_succ, i64_w, i32_w]
        rfl
      refine pure_ (i := 18) (N := some 25) (v := ?_) (a' := ?_) #[true, true, true, true, true, true, true, true, true, true, true, true, true, true, true, true, true, true, true, false, false] rfl rfl (any_of HT_.out (by kernel_rfl)) (fun _ _ _ h => h) (Or.inl ⟨by rfl, ?_⟩) ?_ ?_
      rotate_left
      · intro w'
        go_simp
        with_reducible rfl
      rotate_left
      · simp only [Act.put, List.setIfInBounds_toArray, List.set_cons_zero, List.set_cons_succ, i64_w, i32_w]
        rfl
      refine pure_ (i := 19) (N := some 26) (v := ?_) (a' := ?_) #[true, true, true, true, true, true, true, true, true, true, true, true, true, true, true, true, true, true, true, true, false] rfl rfl (any_of HT_.out (by kernel_rfl)) (fun _ _ _ h => h) (Or.inl ⟨by rfl, ?_⟩) ?_ ?_
      rotate_left
      · intro w'
        go_simp
        with_reducible rfl
      rotate_left
      · simp only [Act.put, List.setIfInBounds_toArray, List.set_cons_zero, List.set_cons_succ, i64_w, i32_w]
        rfl
      refine pure_ (i := 20) (N := some 4) (v := ?_) (a' := ?_) #[true, true, true, true, true, true, true, true, true, true, true, true, true, true, true, true, true, true, true, true, true] rfl rfl (any_of HT_.out (by kernel_rfl)) (fun _ _ _ h => h) (Or.inl ⟨by rfl, ?_⟩) ?_ ?_
      rotate_left
      · intro w'
        go_simp
        with_reducible rfl
      rotate_left
      · simp only [Act.put, List.setIfInBounds_toArray, List.set_cons_zero, List.set_cons_succ, i64_w, i32_w]
        rfl
      refine done_ (done_of HT_.out (by kernel_rfl)) ?_
      try go_wp2
      go_ret
      exact ⟨by first | rfl | (simp [errW_none, errW_some] <;> rfl) | (simp [*, errW_none, errW_some] <;> rfl), by repeat (first | (with_reducible first | exact HB.out | apply below_alloc | apply pw_below_drewN | apply below_drew1 | refine below_set ?_ GE282.out) | exact HB.out)⟩
    · rw [if_neg c9] at H
      exact absurd H (by simp)
  · replace c4 := Bool.eq_false_iff.mpr c4
    subst c4
    have H1 : (none) = some r := by rw [if_neg (show ¬ (false = true) by decide)] at H; exact H
    clear H
    have H := H1
    clear H1
    exact absurd H (by simp)

-- NOT PRINTED: function 42 (bits_Sub64)

/-! ### wide_Num_Sub: function 23 -/
def wide_Num_Sub.f (a0_0 : Int) (a0_1 : Int) (a1_0 : Int) (a1_1 : Int) : Option (Int × Int × Bool) :=
  if (0 ≤ a0_0 ∧ a0_0 ≤ 18446744073709551615) ∧ (0 ≤ a0_1 ∧ a0_1 ≤ 18446744073709551615) ∧ (0 ≤ a1_0 ∧ a1_0 ≤ 18446744073709551615) ∧ (0 ≤ a1_1 ∧ a1_1 ≤ 18446744073709551615) then
    some ((a0_0 - a1_0 - (if a0_1 < a1_1 then 1 else 0)) % 18446744073709551616, (a0_1 - a1_1) % 18446744073709551616, decide (a0_0 < a1_0 + (if a0_1 < a1_1 then 1 else 0)))
  else none
def wide_Num_Sub.sub64Entry : Array Value → Sem Value := fun args => do
  let (x, y, b) ← Extern.MathBitsCarry.three "Sub64" args
  pure (Extern.MathBitsCarry.pair ((x + Extern.MathBitsCarry.m64 - y - b) % Extern.MathBitsCarry.m64) (if x < y + b then 1 else 0))
theorem wide_Num_Sub.run_sub64 {P : Program} (x y c : Int) (hx : 0 ≤ x) (hx1 : x ≤ 18446744073709551615) (hy : 0 ≤ y) (hy1 : y ≤ 18446744073709551615) (hc0 : 0 ≤ c) (hc : c ≤ 1) (w : World) :
    (wide_Num_Sub.sub64Entry #[.int .u64 x, .int .u64 y, .int .u64 c]).run P w =
      .ok (.tuple #[.int .u64 ((x - y - c) % 18446744073709551616), .int .u64 (if x < y + c then 1 else 0)]) w := by
  have key : ∀ k : Nat, k ≤ 1 → (wide_Num_Sub.sub64Entry #[.int .u64 x, .int .u64 y, .int .u64 (k : Int)]).run P w =
      .ok (Extern.MathBitsCarry.pair ((x.toNat + Extern.MathBitsCarry.m64 - y.toNat - k) % Extern.MathBitsCarry.m64) (if x.toNat < y.toNat + k then 1 else 0)) w := by
    intro k hk
    have : k = 0 ∨ k = 1 := by omega
    rcases this with rfl | rfl <;> rfl
  obtain ⟨k, rfl⟩ := Int.eq_ofNat_of_zero_le hc0
  rw [key k (by omega)]
  obtain ⟨X, rfl⟩ := Int.eq_ofNat_of_zero_le hx
  obtain ⟨Y, rfl⟩ := Int.eq_ofNat_of_zero_le hy
  simp only [Extern.MathBitsCarry.pair, Extern.MathBitsCarry.m64, Int.toNat_natCast]
  have e1 : ((((X + 2 ^ 64 - Y - k) % 2 ^ 64 : Nat)) : Int) = ((X : Int) - Y - k) % 18446744073709551616 := by omega
  have e2 : (((if X < Y + k then 1 else 0 : Nat)) : Int) = if (X : Int) < Y + k then 1 else 0 := by split <;> split <;> omega
  simp only [Int.ofNat_eq_natCast, e1, e2]
theorem wide_Num_Sub.entry (x y c : Int) (hx : 0 ≤ x) (hx1 : x ≤ 18446744073709551615) (hy : 0 ≤ y) (hy1 : y ≤ 18446744073709551615) (hc0 : 0 ≤ c) (hc : c ≤ 1) (w : World) :
    (callFunc 42 #[.int .u64 x, .int .u64 y, .int .u64 c]).run Try.prog w =
      .ok (.value (.tuple #[.int .u64 ((x - y - c) % 18446744073709551616), .int .u64 (if x < y + c then 1 else 0)])) w := by
  rw [run_callFunc_extern (e := wide_Num_Sub.sub64Entry) Try.func42 (by kernel_rfl) (by kernel_rfl) (by kernel_rfl) (by kernel_rfl), wide_Num_Sub.run_sub64 x y c hx hx1 hy hy1 hc0 hc w]
  rfl
set_option maxHeartbeats 8000000 in
set_option maxRecDepth 100000 in
theorem wide_Num_Sub.walk (a0_0 a0_1 a1_0 a1_1 s0 c0 s1 c1 : Int) (w : World)
    (e1 : ∀ w, (callFunc 42 #[.int .u64 a0_1, .int .u64 a1_1, .int .u64 0]).run Try.prog w = .ok (.value (.tuple #[.int .u64 s0, .int .u64 c0])) w)
    (e2 : ∀ w, (callFunc 42 #[.int .u64 a0_0, .int .u64 a1_0, .int .u64 c0]).run Try.prog w = .ok (.value (.tuple #[.int .u64 s1, .int .u64 c1])) w) :
    Calls Try.prog 23 #[.agg #[.int .u64 a0_0, .int .u64 a0_1], .agg #[.int .u64 a1_0, .int .u64 a1_1]] w fun e w' => e = .returned (.tuple #[.agg #[.int .u64 s1, .int .u64 s0], .bool (c1 != 0)]) ∧ Below w.heap.size w w' := by
  go_enter Try.func23, Try.ntmps23
  go_wp2
  refine bodyPost_ret (v := .tuple #[.agg #[.int .u64 s1, .int .u64 s0], .bool (c1 != 0)]) (by simp [results, Try.results23, go_sem]) rfl ⟨rfl, ?_⟩
  exact (((Below.refl _ _).alloc (Nat.le_refl _) _).alloc (by simp) _).alloc (by simp; omega) _
theorem wide_Num_Sub.calls (a0_0 : Int) (a0_1 : Int) (a1_0 : Int) (a1_1 : Int) (r1 : Int) (r2 : Int) (r3 : Bool) (w : World) (h : wide_Num_Sub.f a0_0 a0_1 a1_0 a1_1 = some (r1, r2, r3)) :
    Calls Try.prog 23 #[.agg #[.int .u64 a0_0, .int .u64 a0_1], .agg #[.int .u64 a1_0, .int .u64 a1_1]] w fun e w' => e = .returned (.tuple #[.agg #[.int .u64 r1, .int .u64 r2], .bool r3]) ∧ Below w.heap.size w w' := by
  unfold wide_Num_Sub.f at h
  split at h
  · rename_i hb
    obtain ⟨⟨b0, b1⟩, ⟨b2, b3⟩, ⟨b4, b5⟩, b6, b7⟩ := hb
    simp only [Option.some.injEq, Prod.mk.injEq] at h
    obtain ⟨rfl, rfl, rfl⟩ := h
    have hk := wide_Num_Sub.walk a0_0 a0_1 a1_0 a1_1 _ _ _ _ w (fun w => by simpa using wide_Num_Sub.entry a0_1 a1_1 0 b2 b3 b6 b7 (by omega) (by omega) w) (fun w => wide_Num_Sub.entry a0_0 a1_0 _ b0 b1 b4 b5 (by split <;> omega) (by split <;> omega) w)
    refine hk.mono fun e w' ⟨he, hw⟩ => ⟨?_, hw⟩
    rw [he]
    congr 6
    rw [Bool.eq_iff_iff]
    split <;> simp_all
  · simp at h

end Go.Proofs.Ytdgbehbiigggmaa.G

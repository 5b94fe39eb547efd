-- Laid by a program of this claim's session (wip/tools/myprint.py) over the kit's printer.
import Derived.Test.YtiiffgmbkajkhaaAx0
import Derived.Test.YtiiffgmbkajkhaaAx7
namespace Go.Proofs.Ytiiffgmbkajkhaa.A
open Go.RowKit Go.Proofs.YtiiffgmbkajkhaaW.PrintWords Go.Proofs.YtiiffgmbkajkhaaW.PrintLast Go.Proofs.YtiiffgmbkajkhaaW.PrintMore
attribute [local go_sem] max2_int min2_int max_two min_two max_three min_three max_four min_four   -- for this text's walks alone
set_option linter.unusedVariables false
set_option linter.unusedSimpArgs false

/-! ### overfallref03_Fits: function 39 -/
def overfallref03_Fits.f (k : Nat) (a0 : Int) (a1 : Int) (a2_0 : Int) (a2_1 : Int) : Option (Bool) := (overfallref01_Mul.f k a0 a0).bind fun bt266 => (if a1 > 1 then ((overfallref01_Mul.f k bt266.2 a1).bind fun bt269 => ((overfallref01_Mul.f k bt266.1 a1).bind fun bt271 => ((overfallref01_Add.f k bt269.1 bt269.2 bt271.2 0).bind fun bt275 => (if bt271.1 > 0 then (some false) else (if bt275.2.2 = true then (some false) else ((overfallref01_Less.f a2_0 a2_1 bt275.1 bt275.2.1).bind fun t279 => (some (!t279)))))))) else ((overfallref01_Less.f a2_0 a2_1 bt266.1 bt266.2).bind fun t280 => (some (!t280))))
theorem overfallref03_Fits.mono : ∀ a0 a1 a2 a3 k, LeO (overfallref03_Fits.f k a0 a1 a2 a3) (overfallref03_Fits.f (k + 1) a0 a1 a2 a3) := by
 intro a0 a1 a2 a3 k
 unfold overfallref03_Fits.f
 repeat' first
   | (with_reducible exact overfallref01_Add.mono _ _ _ _ _)
   | (with_reducible exact overfallref01_Mul.mono _ _ _)
   | (with_reducible exact LeO.refl _)
   | (with_reducible exact LeO.none _)
   | (with_reducible refine LeO.ite ?_ ?_)
   | (with_reducible refine LeO.bind ?_ (fun _ => ?_))
   | exact overfallref01_Add.mono _ _ _ _ _
   | exact overfallref01_Mul.mono _ _ _
   | exact LeO.none _
   | refine LeO.ite ?_ ?_
   | refine LeO.bind ?_ (fun _ => ?_)
def overfallref03_Fits.T3 : Bool × List (List Nat × List Nat) := (true, [([], []), ([0], [0]), ([], []), ([1, 2], [1, 2]), ([], []), ([4], [4]), ([], []), ([5, 6, 3], [5, 6]), ([], []), ([], []), ([8, 3, 7, 0, 1, 2, 3, 8, 9], [3, 8]), ([9, 7, 10, 0, 1, 2, 3, 4, 5, 6, 7, 8, 9, 10], [7, 9])])
def overfallref03_Fits.B3 : List Nat := [0, 1, 0, 7, 0, 16, 0, 127, 0, 0, 1023, 2047]
theorem overfallref03_Fits.tab3 : rtab .any (opsOf Try.f39 3) = overfallref03_Fits.T3 := by kernel_rfl
theorem overfallref03_Fits.bits3 : waitsOk overfallref03_Fits.T3.2 overfallref03_Fits.B3 = true := by kernel_rfl
set_option maxHeartbeats 8000000 in
set_option maxRecDepth 100000 in
theorem overfallref03_Fits.calls (k : Nat) (a0 : Int) (a1 : Int) (a2_0 : Int) (a2_1 : Int) (r : Bool) (w : World) (h : overfallref03_Fits.f k a0 a1 a2_0 a2_1 = some r) :
  Calls Try.prog 39 #[.int .u64 a0, .int .u64 a1, .agg #[.int .u64 a2_0, .int .u64 a2_1]] w fun e w' => e = .returned (.bool r) ∧ Below w.heap.size w w' := by
 have hu50 := Try.underlying50
 have HB := Aside0.mk (Below.refl w.heap.size w)
 have H : ((overfallref01_Mul.f k a0 a0).bind fun bt266 => (if a1 > 1 then ((overfallref01_Mul.f k bt266.2 a1).bind fun bt269 => ((overfallref01_Mul.f k bt266.1 a1).bind fun bt271 => ((overfallref01_Add.f k bt269.1 bt269.2 bt271.2 0).bind fun bt275 => (if bt271.1 > 0 then (some false) else (if bt275.2.2 = true then (some false) else ((overfallref01_Less.f a2_0 a2_1 bt275.1 bt275.2.1).bind fun t279 => (some (!t279)))))))) else ((overfallref01_Less.f a2_0 a2_1 bt266.1 bt266.2).bind fun t280 => (some (!t280))))) = some r := h
 clear h
 replace H := Option.bind_eq_some_iff.mp H
 obtain ⟨⟨t266, t267⟩, A40, H⟩ := H
 replace H : (if a1 > 1 then ((overfallref01_Mul.f k t267 a1).bind fun bt269 => ((overfallref01_Mul.f k t266 a1).bind fun bt271 => ((overfallref01_Add.f k bt269.1 bt269.2 bt271.2 0).bind fun bt275 => (if bt271.1 > 0 then (some false) else (if bt275.2.2 = true then (some false) else ((overfallref01_Less.f a2_0 a2_1 bt275.1 bt275.2.1).bind fun t279 => (some (!t279)))))))) else ((overfallref01_Less.f a2_0 a2_1 t266 t267).bind fun t280 => (some (!t280)))) = some r := H
 have A4 := Aside0.mk A40
 clear A40
 by_cases c5 : a1 > 1
 ·rw [if_pos c5] at H
  have c5b0 : decide (1 < a1) = true := decide_eq_true c5
  clear c5
  replace H := Option.bind_eq_some_iff.mp H
  obtain ⟨⟨t269, t270⟩, A60, H⟩ := H
  replace H : ((overfallref01_Mul.f k t266 a1).bind fun bt271 => ((overfallref01_Add.f k t269 t270 bt271.2 0).bind fun bt275 => (if bt271.1 > 0 then (some false) else (if bt275.2.2 = true then (some false) else ((overfallref01_Less.f a2_0 a2_1 bt275.1 bt275.2.1).bind fun t279 => (some (!t279))))))) = some r := H
  have A6 := Aside0.mk A60
  clear A60
  replace H := Option.bind_eq_some_iff.mp H
  obtain ⟨⟨t271, t272⟩, A70, H⟩ := H
  replace H : ((overfallref01_Add.f k t269 t270 t272 0).bind fun bt275 => (if t271 > 0 then (some false) else (if bt275.2.2 = true then (some false) else ((overfallref01_Less.f a2_0 a2_1 bt275.1 bt275.2.1).bind fun t279 => (some (!t279)))))) = some r := H
  have A7 := Aside0.mk A70
  clear A70
  replace H := Option.bind_eq_some_iff.mp H
  obtain ⟨⟨t275, t276, t277⟩, A80, H⟩ := H
  replace H : (if t271 > 0 then (some false) else (if t277 = true then (some false) else ((overfallref01_Less.f a2_0 a2_1 t275 t276).bind fun t279 => (some (!t279))))) = some r := H
  have A8 := Aside0.mk A80
  clear A80
  by_cases c9 : t271 > 0
  ·rw [if_pos c9] at H
   have c9b0 : decide (0 < t271) = true := decide_eq_true c9
   clear c9
   obtain rfl := Option.some.inj H
   go_enter Try.func39, Try.ntmps39
   try go_wp2_with (first | ((with_reducible refine gate_dst (N := 5) rfl ?_); refine box_event ?hg (N := 5) ?hd (cs := #[.int .u64 a2_0, .int .u64 a2_1]) (t := 50) ?hr ?_; (case hd => rfl); (case hg => rfl); (case hr => first | (go_simp; done) | (go_simp; rfl)); intro gb265 hg w10 hbox hb; have n0_ := Aside0.mk (below_step (by repeat (first | (with_reducible first | exact HB.out | apply below_alloc | apply pw_below_drewN | apply below_drew1) | exact HB.out)) hb); have n1_ := Aside0.mk (hbox); have n2_ := Aside0.mk ((by rw [hg]; exact (below_size (by repeat (first | (with_reducible first | exact HB.out | apply below_alloc | apply pw_below_drewN | apply below_drew1) | exact HB.out))) : w.heap.size ≤ gb265)); have n3_ := Aside0.mk ((by rw [hg]; exact (below_size (by repeat (first | (with_reducible first | exact HB.out | apply below_alloc | apply pw_below_drewN | apply below_drew1) | exact HB.out))) : w.heap.size ≤ gb265)); clear HB; have HB := n0_; have BK265 := n1_; have GW265 := n2_; have GE265 := n3_; clear n0_ n1_ n2_ n3_; clear hb hbox hg) | ((with_reducible refine gate_callee (f := 30) rfl ?_); refine goesL_ (some 14) rfl rfl Try.func30 (by kernel_rfl) rfl #[.int .u64 a0, .int .u64 a0] rfl (by (try simp only [List.map_toArray, List.map_cons, List.map_nil]); first | done | rfl | (simp only [List.length_drop, List.length_take]; rfl)) ?_; (with_reducible refine (overfallref01_Mul.calls k a0 a0 t266 t267 _ A4.out).mono ?_); rintro e w11 ⟨rfl, hb⟩; refine ⟨_, rfl, ?_⟩; have n0_ := Aside0.mk (blk_below (by exact BK265.out) hb); have n1_ := Aside0.mk (below_step (by repeat (first | (with_reducible first | exact HB.out | apply below_alloc | apply pw_below_drewN | apply below_drew1 | refine below_set ?_ GE265.out) | exact HB.out)) hb); clear BK265; clear HB; have BK265 := n0_; have HB := n1_; clear n0_ n1_; (try clear hb); (try clear hb2); (try clear hk); (try clear hi)) | ((with_reducible refine gate_dst (N := 7) rfl ?_); refine box_event ?hg (N := 7) ?hd (cs := #[.int .u64 0, .int .u64 0]) (t := 50) ?hr ?_; (case hd => rfl); (case hg => rfl); (case hr => first | (go_simp; done) | (go_simp; rfl)); intro gb268 hg w12 hbox hb; have n0_ := Aside0.mk (blk_below (by exact BK265.out) hb); have n1_ := Aside0.mk (below_step (by repeat (first | (with_reducible first | exact HB.out | apply below_alloc | apply pw_below_drewN | apply below_drew1 | refine below_set ?_ GE265.out) | exact HB.out)) hb); have n2_ := Aside0.mk (hbox); have n3_ := Aside0.mk ((by rw [hg]; exact (below_size (by repeat (first | (with_reducible first | exact HB.out | apply below_alloc | apply pw_below_drewN | apply below_drew1 | refine below_set ?_ GE265.out) | exact HB.out))) : w.heap.size ≤ gb268)); have n4_ := Aside0.mk ((by rw [hg]; exact (below_size (by repeat (first | (with_reducible first | exact HB.out | apply below_alloc | apply pw_below_drewN | apply below_drew1 | refine below_set ?_ GE265.out) | exact HB.out))) : w.heap.size ≤ gb268)); have n5_ := Aside0.mk ((by rw [hg]; exact Nat.ne_of_lt (blk_lt (by exact BK265.out)) : gb265 ≠ gb268)); have n6_ := Aside0.mk ((by rw [hg]; exact Nat.ne_of_gt (blk_lt (by exact BK265.out)) : gb268 ≠ gb265)); clear BK265; clear HB; have BK265 := n0_; have HB := n1_; have BK268 := n2_; have GW268 := n3_; have GE268 := n4_; have NB265_268 := n5_; have NB268_265 := n6_; clear n0_ n1_ n2_ n3_ n4_ n5_ n6_; clear hb hbox hg; have hnb13 := NB268_265.out; have hnc13 := NB265_268.out; have hcz14_0 : w12.cell? ⟨gb268, 0, none⟩ = some (.int .u64 0) := (blk_cell BK268.out 0).trans rfl; have hcz14_1 : w12.cell? ⟨gb268, 1, none⟩ = some (.int .u64 0) := (blk_cell BK268.out 1).trans rfl; have hfz14_0 := blk_frozen BK268.out 0; have hfz14_1 := blk_frozen BK268.out 1))
   have n0_ : Aside0 (((w12.setCell ⟨gb268, 0, none⟩ (.int .u64 t266)).setCell ⟨gb268, 1, none⟩ (.int .u64 t267)).heap[gb265]? = some (.cells #[.int .u64 a2_0, .int .u64 a2_1] 50 (0, 0))) := ⟨by refine blk_far ?_ NB265_268.out _; refine blk_far ?_ NB265_268.out _; exact BK265.out⟩
   have n1_ : Aside0 (((w12.setCell ⟨gb268, 0, none⟩ (.int .u64 t266)).setCell ⟨gb268, 1, none⟩ (.int .u64 t267)).heap[gb268]? = some (.cells #[.int .u64 t266, .int .u64 t267] 50 (0, 0))) := ⟨by refine blk_put (cs := #[.int .u64 t266, .int .u64 0]) ?_ 1 _ rfl; refine blk_put (cs := #[.int .u64 0, .int .u64 0]) ?_ 0 _ rfl; exact BK268.out⟩
   have n2_ : Aside0 (Below w.heap.size w ((w12.setCell ⟨gb268, 0, none⟩ (.int .u64 t266)).setCell ⟨gb268, 1, none⟩ (.int .u64 t267))) := ⟨by repeat (first | (with_reducible first | exact HB.out | apply below_alloc | apply pw_below_drewN | apply below_drew1 | refine below_set ?_ GE265.out | refine below_set ?_ GE268.out) | exact HB.out)⟩
   (try clear BK265)
   (try clear BK268)
   (try clear HB)
   generalize ((w12.setCell ⟨gb268, 0, none⟩ (.int .u64 t266)).setCell ⟨gb268, 1, none⟩ (.int .u64 t267)) = w15 at n0_ n1_ n2_ ⊢
   have BK265 := n0_
   have BK268 := n1_
   have HB := n2_
   clear n0_ n1_ n2_
   have n0_ := Aside0.mk (blk_drew BK265.out)
   have n1_ := Aside0.mk (blk_drew BK268.out)
   have n2_ := Aside0.mk (below_drew1 HB.out)
   clear BK265
   clear BK268
   clear HB
   have BK265 := n0_
   have BK268 := n1_
   have HB := n2_
   clear n0_ n1_ n2_
   refine start_ (n := 12) (S := fun w' => True) (ds := []) #[false, false, false, false, false, false, false, false, false, false, false, false] (by kernel_rfl) rfl rfl trivial (fun hHeld => ?_); refine with_tabW overfallref03_Fits.tab3 overfallref03_Fits.bits3 (fun HT_ HW_ => ?_)
   generalize w15.drew = w16 at BK265 BK268 HB hHeld ⊢
   refine pure_ (i := 0) (N := some 17) (v := ?_) (a' := ?_) #[true, false, false, false, false, false, false, false, false, false, false, false] rfl rfl (any_of HT_.out (by kernel_rfl)) (fun _ _ _ h => h) (Or.inl ⟨by rfl, ?_⟩) ?_ ?_
   rotate_left
   ·intro w'
    go_simp
    with_reducible rfl
   rotate_left
   ·simp only [Act.put, List.setIfInBounds_toArray, List.set_cons_zero, List.set_cons_succ, i64_w, i32_w]
    rfl
   refine pure_ (i := 2) (N := some 19) (v := ?_) (a' := ?_) #[true, false, true, false, false, false, false, false, false, false, false, false] rfl rfl (any_of HT_.out (by kernel_rfl)) (fun _ _ _ h => h) (Or.inl ⟨by rfl, ?_⟩) ?_ ?_
   rotate_left
   ·intro w'
    go_simp
    with_reducible rfl
   rotate_left
   ·simp only [Act.put, List.setIfInBounds_toArray, List.set_cons_zero, List.set_cons_succ, i64_w, i32_w]
    rfl
   refine pure_ (i := 4) (N := some 21) (v := ?_) (a' := ?_) #[true, false, true, false, true, false, false, false, false, false, false, false] rfl rfl (any_of HT_.out (by kernel_rfl)) (fun _ _ _ h => h) (Or.inl ⟨by rfl, ?_⟩) ?_ ?_
   rotate_left
   ·intro w'
    go_simp
    with_reducible rfl
   rotate_left
   ·simp only [Act.put, List.setIfInBounds_toArray, List.set_cons_zero, List.set_cons_succ, i64_w, i32_w]
    rfl
   refine pure_ (i := 6) (N := some 23) (v := ?_) (a' := ?_) #[true, false, true, false, true, false, true, false, false, false, false, false] rfl rfl (any_of HT_.out (by kernel_rfl)) (fun _ _ _ h => h) (Or.inl ⟨by rfl, ?_⟩) ?_ ?_
   rotate_left
   ·intro w'
    go_simp
    with_reducible rfl
   rotate_left
   ·simp only [Act.put, List.setIfInBounds_toArray, List.set_cons_zero, List.set_cons_succ, i64_w, i32_w]
    rfl
   refine inv_at [1, 3, 5, 7, 8, 9, 10, 11] (fun a0_ b a w' => ∃ (gb273 : Nat) (gb274 : Nat) (m8_ : Value) (m9_ : Value), a = putSel a0_ b [(1, 18, .int .u64 t267), (3, 20, .agg #[.int .u64 t269, .int .u64 t270]), (5, 22, .int .u64 t266), (7, 24, .agg #[.int .u64 t271, .int .u64 t272]), (8, 8, m8_), (9, 9, m9_)] ∧ (w'.heap[gb265]? = some (.cells #[.int .u64 a2_0, .int .u64 a2_1] 50 (0, 0))) ∧ (w'.heap[gb268]? = some (.cells #[.int .u64 t266, .int .u64 t267] 50 (0, 0))) ∧ (Below w.heap.size w w') ∧ (b 8 = true → b 9 = true → gb274 ≠ gb273) ∧ (b 8 = true → b 9 = true → gb273 ≠ gb274) ∧ (b 8 = true → b 10 = false → w'.heap[gb273]? = some (.cells #[.int .u64 0, .int .u64 0] 50 (0, 0))) ∧ (b 8 = true → w.heap.size ≤ gb273) ∧ (b 8 = true → w.heap.size ≤ gb273) ∧ (b 8 = true → gb265 ≠ gb273) ∧ (b 8 = true → gb273 ≠ gb265) ∧ (b 8 = true → gb268 ≠ gb273) ∧ (b 8 = true → gb273 ≠ gb268) ∧ (b 9 = true → b 11 = false → w'.heap[gb274]? = some (.cells #[.int .u64 0, .int .u64 0] 50 (0, 0))) ∧ (b 9 = true → w.heap.size ≤ gb274) ∧ (b 9 = true → w.heap.size ≤ gb274) ∧ (b 9 = true → gb265 ≠ gb274) ∧ (b 9 = true → gb274 ≠ gb265) ∧ (b 9 = true → gb268 ≠ gb274) ∧ (b 9 = true → gb274 ≠ gb268) ∧ (b 10 = true → w'.heap[gb273]? = some (.cells #[.int .u64 t269, .int .u64 t270] 50 (0, 0))) ∧ (b 11 = true → w'.heap[gb274]? = some (.cells #[.int .u64 t271, .int .u64 t272] 50 (0, 0))) ∧ (b 8 = true → (m8_ : Value) = .pointer (some ⟨gb273, 0, none⟩)) ∧ (b 9 = true → (m9_ : Value) = .pointer (some ⟨gb274, 0, none⟩))) HT_.out HW_.out (by kernel_rfl) (by kernel_rfl) ?_ ?_ ?_
   ·exact ⟨0, 0, .bool false, .bool false, by simp only [putSel, Bool.false_eq_true, if_false], BK265.out, BK268.out, HB.out, fun h_ => absurd h_ (by decide), fun h_ => absurd h_ (by decide), fun h_ => absurd h_ (by decide), fun h_ => absurd h_ (by decide), fun h_ => absurd h_ (by decide), fun h_ => absurd h_ (by decide), fun h_ => absurd h_ (by decide), fun h_ => absurd h_ (by decide), fun h_ => absurd h_ (by decide), fun h_ => absurd h_ (by decide), fun h_ => absurd h_ (by decide), fun h_ => absurd h_ (by decide), fun h_ => absurd h_ (by decide), fun h_ => absurd h_ (by decide), fun h_ => absurd h_ (by decide), fun h_ => absurd h_ (by decide), fun h_ => absurd h_ (by decide), fun h_ => absurd h_ (by decide), fun h_ => absurd h_ (by decide), fun h_ => absurd h_ (by decide)⟩
   ·skip
    clear BK265 BK268 HB
    refine steps_cons ?_ ?_
    ·rintro b a w' ⟨gb273, gb274, m8_, m9_, ha, Q_BK265, Q_BK268, Q_HB, Q_NB274_273, Q_NB273_274, Q_BK273, Q_GW273, Q_GE273, Q_NB265_273, Q_NB273_265, Q_NB268_273, Q_NB273_268, Q_BK274, Q_GW274, Q_GE274, Q_NB265_274, Q_NB274_265, Q_NB268_274, Q_NB274_268, Q_BK273_e10, Q_BK274_e11, Q_X8_, Q_X9_⟩ hb_ hon hoff
     refine ⟨_, rfl, fun K hK => ?_⟩
     have e17 : a.tmps[17]? = some (.pointer (some ⟨gb268, 1, none⟩)) := by rw [ha]; exact (putSel_off rfl).trans rfl
     replace ha := Aside0.mk ha
     have BK265 := Aside0.mk Q_BK265
     have BK268 := Aside0.mk Q_BK268
     have HB := Aside0.mk Q_HB
     have hc0_ : w'.cell? ⟨gb268, 0, none⟩ = some (.int .u64 t266) := (blk_cell BK268.out 0).trans rfl
     have hc1_ : w'.cell? ⟨gb268, 1, none⟩ = some (.int .u64 t267) := (blk_cell BK268.out 1).trans rfl
     refine value_ (w1 := w') (v := .int .u64 t267) (by rfl) rfl ?_ ?_
     ·go_simp
      (try simp only [i64_w])
      try rfl
     refine hK.out _ _ ⟨gb273, gb274, m8_, m9_, (by rw [ha.out]; exact putSel_upk 0 hb_ rfl rfl rfl), Q_BK265, Q_BK268, Q_HB, Q_NB274_273, Q_NB273_274, Q_BK273, Q_GW273, Q_GE273, Q_NB265_273, Q_NB273_265, Q_NB268_273, Q_NB273_268, Q_BK274, Q_GW274, Q_GE274, Q_NB265_274, Q_NB274_265, Q_NB268_274, Q_NB274_268, fun h0_ => absurd ((hoff 10 (by kernel_rfl)).symm.trans h0_) (by decide), fun h0_ => absurd ((hoff 11 (by kernel_rfl)).symm.trans h0_) (by decide), Q_X8_, Q_X9_⟩
    refine steps_cons ?_ ?_
    ·rintro b a w' ⟨gb273, gb274, m8_, m9_, ha, Q_BK265, Q_BK268, Q_HB, Q_NB274_273, Q_NB273_274, Q_BK273, Q_GW273, Q_GE273, Q_NB265_273, Q_NB273_265, Q_NB268_273, Q_NB273_268, Q_BK274, Q_GW274, Q_GE274, Q_NB265_274, Q_NB274_265, Q_NB268_274, Q_NB274_268, Q_BK273_e10, Q_BK274_e11, Q_X8_, Q_X9_⟩ hb_ hon hoff
     refine ⟨_, rfl, fun K hK => ?_⟩
     have e18 : a.tmps[18]? = some (.int .u64 t267) := by rw [ha]; exact putSel_on (e := (1, 18, .int .u64 t267)) 0 rfl rfl (hon 1 (by kernel_rfl)) rfl
     have e19 : a.tmps[19]? = some (.int .u64 a1) := by rw [ha]; exact (putSel_off rfl).trans rfl
     replace ha := Aside0.mk ha
     have BK265 := Aside0.mk Q_BK265
     have BK268 := Aside0.mk Q_BK268
     have HB := Aside0.mk Q_HB
     refine goes_ Try.func30 (by kernel_rfl) rfl #[.int .u64 t267, .int .u64 a1] (by rfl) rfl rfl (by first | (simp only [List.map_toArray, List.map_cons, List.map_nil, Act.eval, Array.getD_eq_getD_getElem?, Option.getD_some, e18, e19]; done) | (simp only [List.map_toArray, List.map_cons, List.map_nil, Act.eval, Array.getD_eq_getD_getElem?, Option.getD_some, e18, e19]; rfl)) ?_
     with_reducible refine (overfallref01_Mul.calls k t267 a1 t269 t270 _ A6.out).mono ?_
     rintro e w17 ⟨rfl, hb⟩
     refine ⟨_, rfl, ?_⟩
     have n0_ := Aside0.mk (blk_below (by exact BK265.out) hb)
     have n1_ := Aside0.mk (blk_below (by exact BK268.out) hb)
     have n2_ := Aside0.mk (below_step (by repeat (first | (with_reducible first | exact HB.out | apply below_alloc | apply pw_below_drewN | apply below_drew1 | refine below_set ?_ GE265.out | refine below_set ?_ GE268.out) | exact HB.out)) hb)
     have z_BK273 := fun (h0_ : b 8 = true) (h1_ : b 10 = false) => (show w17.heap[gb273]? = some (.cells #[.int .u64 0, .int .u64 0] 50 (0, 0)) from by first | exact (blk_below (g := gb273) (o := .cells #[.int .u64 0, .int .u64 0] 50 (0, 0)) (by exact (Q_BK273 h0_ h1_)) hb))
     have z_BK274 := fun (h0_ : b 9 = true) (h1_ : b 11 = false) => (show w17.heap[gb274]? = some (.cells #[.int .u64 0, .int .u64 0] 50 (0, 0)) from by first | exact (blk_below (g := gb274) (o := .cells #[.int .u64 0, .int .u64 0] 50 (0, 0)) (by exact (Q_BK274 h0_ h1_)) hb))
     clear BK265
     clear BK268
     clear HB
     have BK265 := n0_
     have BK268 := n1_
     have HB := n2_
     clear n0_ n1_ n2_
     (try clear hb)
     (try clear hb2)
     (try clear hk)
     (try clear hi)
     refine hK.out _ _ ⟨gb273, gb274, m8_, m9_, (by rw [ha.out]; exact putSel_upk 1 hb_ rfl rfl rfl), (by exact BK265.out), (by exact BK268.out), (by repeat (first | (with_reducible first | exact HB.out | apply below_alloc | apply pw_below_drewN | apply below_drew1 | refine below_set ?_ GE265.out | refine below_set ?_ GE268.out) | exact HB.out)), Q_NB274_273, Q_NB273_274, z_BK273, Q_GW273, Q_GE273, Q_NB265_273, Q_NB273_265, Q_NB268_273, Q_NB273_268, z_BK274, Q_GW274, Q_GE274, Q_NB265_274, Q_NB274_265, Q_NB268_274, Q_NB274_268, fun h0_ => absurd ((hoff 10 (by kernel_rfl)).symm.trans h0_) (by decide), fun h0_ => absurd ((hoff 11 (by kernel_rfl)).symm.trans h0_) (by decide), Q_X8_, Q_X9_⟩
    refine steps_cons ?_ ?_
    ·rintro b a w' ⟨gb273, gb274, m8_, m9_, ha, Q_BK265, Q_BK268, Q_HB, Q_NB274_273, Q_NB273_274, Q_BK273, Q_GW273, Q_GE273, Q_NB265_273, Q_NB273_265, Q_NB268_273, Q_NB273_268, Q_BK274, Q_GW274, Q_GE274, Q_NB265_274, Q_NB274_265, Q_NB268_274, Q_NB274_268, Q_BK273_e10, Q_BK274_e11, Q_X8_, Q_X9_⟩ hb_ hon hoff
     refine ⟨_, rfl, fun K hK => ?_⟩
     have e21 : a.tmps[21]? = some (.pointer (some ⟨gb268, 0, none⟩)) := by rw [ha]; exact (putSel_off rfl).trans rfl
     replace ha := Aside0.mk ha
     have BK265 := Aside0.mk Q_BK265
     have BK268 := Aside0.mk Q_BK268
     have HB := Aside0.mk Q_HB
     have hc0_ : w'.cell? ⟨gb268, 0, none⟩ = some (.int .u64 t266) := (blk_cell BK268.out 0).trans rfl
     have hc1_ : w'.cell? ⟨gb268, 1, none⟩ = some (.int .u64 t267) := (blk_cell BK268.out 1).trans rfl
     refine value_ (w1 := w') (v := .int .u64 t266) (by rfl) rfl ?_ ?_
     ·go_simp
      (try simp only [i64_w])
      try rfl
     refine hK.out _ _ ⟨gb273, gb274, m8_, m9_, (by rw [ha.out]; exact putSel_upk 2 hb_ rfl rfl rfl), Q_BK265, Q_BK268, Q_HB, Q_NB274_273, Q_NB273_274, Q_BK273, Q_GW273, Q_GE273, Q_NB265_273, Q_NB273_265, Q_NB268_273, Q_NB273_268, Q_BK274, Q_GW274, Q_GE274, Q_NB265_274, Q_NB274_265, Q_NB268_274, Q_NB274_268, fun h0_ => absurd ((hoff 10 (by kernel_rfl)).symm.trans h0_) (by decide), fun h0_ => absurd ((hoff 11 (by kernel_rfl)).symm.trans h0_) (by decide), Q_X8_, Q_X9_⟩
    refine steps_cons ?_ ?_
    ·rintro b a w' ⟨gb273, gb274, m8_, m9_, ha, Q_BK265, Q_BK268, Q_HB, Q_NB274_273, Q_NB273_274, Q_BK273, Q_GW273, Q_GE273, Q_NB265_273, Q_NB273_265, Q_NB268_273, Q_NB273_268, Q_BK274, Q_GW274, Q_GE274, Q_NB265_274, Q_NB274_265, Q_NB268_274, Q_NB274_268, Q_BK273_e10, Q_BK274_e11, Q_X8_, Q_X9_⟩ hb_ hon hoff
     refine ⟨_, rfl, fun K hK => ?_⟩
     have e22 : a.tmps[22]? = some (.int .u64 t266) := by rw [ha]; exact putSel_on (e := (5, 22, .int .u64 t266)) 2 rfl rfl (hon 5 (by kernel_rfl)) rfl
     have e23 : a.tmps[23]? = some (.int .u64 a1) := by rw [ha]; exact (putSel_off rfl).trans rfl
     replace ha := Aside0.mk ha
     have BK265 := Aside0.mk Q_BK265
     have BK268 := Aside0.mk Q_BK268
     have HB := Aside0.mk Q_HB
     refine goes_ Try.func30 (by kernel_rfl) rfl #[.int .u64 t266, .int .u64 a1] (by rfl) rfl rfl (by first | (simp only [List.map_toArray, List.map_cons, List.map_nil, Act.eval, Array.getD_eq_getD_getElem?, Option.getD_some, e22, e23]; done) | (simp only [List.map_toArray, List.map_cons, List.map_nil, Act.eval, Array.getD_eq_getD_getElem?, Option.getD_some, e22, e23]; rfl)) ?_
     with_reducible refine (overfallref01_Mul.calls k t266 a1 t271 t272 _ A7.out).mono ?_
     rintro e w19 ⟨rfl, hb⟩
     refine ⟨_, rfl, ?_⟩
     have n0_ := Aside0.mk (blk_below (by exact BK265.out) hb)
     have n1_ := Aside0.mk (blk_below (by exact BK268.out) hb)
     have n2_ := Aside0.mk (below_step (by repeat (first | (with_reducible first | exact HB.out | apply below_alloc | apply pw_below_drewN | apply below_drew1 | refine below_set ?_ GE265.out | refine below_set ?_ GE268.out) | exact HB.out)) hb)
     have z_BK273 := fun (h0_ : b 8 = true) (h1_ : b 10 = false) => (show w19.heap[gb273]? = some (.cells #[.int .u64 0, .int .u64 0] 50 (0, 0)) from by first | exact (blk_below (g := gb273) (o := .cells #[.int .u64 0, .int .u64 0] 50 (0, 0)) (by exact (Q_BK273 h0_ h1_)) hb))
     have z_BK274 := fun (h0_ : b 9 = true) (h1_ : b 11 = false) => (show w19.heap[gb274]? = some (.cells #[.int .u64 0, .int .u64 0] 50 (0, 0)) from by first | exact (blk_below (g := gb274) (o := .cells #[.int .u64 0, .int .u64 0] 50 (0, 0)) (by exact (Q_BK274 h0_ h1_)) hb))
     clear BK265
     clear BK268
     clear HB
     have BK265 := n0_
     have BK268 := n1_
     have HB := n2_
     clear n0_ n1_ n2_
     (try clear hb)
     (try clear hb2)
     (try clear hk)
     (try clear hi)
     refine hK.out _ _ ⟨gb273, gb274, m8_, m9_, (by rw [ha.out]; exact putSel_upk 3 hb_ rfl rfl rfl), (by exact BK265.out), (by exact BK268.out), (by repeat (first | (with_reducible first | exact HB.out | apply below_alloc | apply pw_below_drewN | apply below_drew1 | refine below_set ?_ GE265.out | refine below_set ?_ GE268.out) | exact HB.out)), Q_NB274_273, Q_NB273_274, z_BK273, Q_GW273, Q_GE273, Q_NB265_273, Q_NB273_265, Q_NB268_273, Q_NB273_268, z_BK274, Q_GW274, Q_GE274, Q_NB265_274, Q_NB274_265, Q_NB268_274, Q_NB274_268, fun h0_ => absurd ((hoff 10 (by kernel_rfl)).symm.trans h0_) (by decide), fun h0_ => absurd ((hoff 11 (by kernel_rfl)).symm.trans h0_) (by decide), Q_X8_, Q_X9_⟩
    refine steps_cons ?_ ?_
    ·rintro b a w' ⟨gb273, gb274, m8_, m9_, ha, Q_BK265, Q_BK268, Q_HB, Q_NB274_273, Q_NB273_274, Q_BK273, Q_GW273, Q_GE273, Q_NB265_273, Q_NB273_265, Q_NB268_273, Q_NB273_268, Q_BK274, Q_GW274, Q_GE274, Q_NB265_274, Q_NB274_265, Q_NB268_274, Q_NB274_268, Q_BK273_e10, Q_BK274_e11, Q_X8_, Q_X9_⟩ hb_ hon hoff
     refine ⟨_, rfl, fun K hK => ?_⟩
     replace ha := Aside0.mk ha
     have BK265 := Aside0.mk Q_BK265
     have BK268 := Aside0.mk Q_BK268
     have HB := Aside0.mk Q_HB
     refine box_step ?hg (N := 8) ?hd (cs := #[.int .u64 0, .int .u64 0]) (t := 50) ?hr ?_; (case hd => rfl); (case hg => rfl); (case hr => first | (go_simp; done) | (go_simp; rfl))
     intro gb273 hg w17 hbox hb
     have n0_ := Aside0.mk (blk_below (by exact BK265.out) hb)
     have n1_ := Aside0.mk (blk_below (by exact BK268.out) hb)
     have n2_ := Aside0.mk (below_step (by repeat (first | (with_reducible first | exact HB.out | apply below_alloc | apply pw_below_drewN | apply below_drew1 | refine below_set ?_ GE265.out | refine below_set ?_ GE268.out) | exact HB.out)) hb)
     have n3_ := Aside0.mk (hbox)
     have n4_ := Aside0.mk ((by rw [hg]; exact (below_size (by repeat (first | (with_reducible first | exact HB.out | apply below_alloc | apply pw_below_drewN | apply below_drew1 | refine below_set ?_ GE265.out | refine below_set ?_ GE268.out) | exact HB.out))) : w.heap.size ≤ gb273))
     have n5_ := Aside0.mk ((by rw [hg]; exact (below_size (by repeat (first | (with_reducible first | exact HB.out | apply below_alloc | apply pw_below_drewN | apply below_drew1 | refine below_set ?_ GE265.out | refine below_set ?_ GE268.out) | exact HB.out))) : w.heap.size ≤ gb273))
     have n6_ := Aside0.mk ((by rw [hg]; exact Nat.ne_of_lt (blk_lt (by exact BK265.out)) : gb265 ≠ gb273))
     have n7_ := Aside0.mk ((by rw [hg]; exact Nat.ne_of_gt (blk_lt (by exact BK265.out)) : gb273 ≠ gb265))
     have n8_ := Aside0.mk ((by rw [hg]; exact Nat.ne_of_lt (blk_lt (by exact BK268.out)) : gb268 ≠ gb273))
     have n9_ := Aside0.mk ((by rw [hg]; exact Nat.ne_of_gt (blk_lt (by exact BK268.out)) : gb273 ≠ gb268))
     have z_NB274_273 := fun (h0_ : up b 8 8 = true) (h1_ : up b 8 9 = true) => (show gb274 ≠ gb273 from ((by rw [hg]; exact Nat.ne_of_lt (blk_lt (by exact (Q_BK274 h1_ (hoff 11 (by kernel_rfl))))) : gb274 ≠ gb273)))
     have z_NB273_274 := fun (h0_ : up b 8 8 = true) (h1_ : up b 8 9 = true) => (show gb273 ≠ gb274 from ((by rw [hg]; exact Nat.ne_of_gt (blk_lt (by exact (Q_BK274 h1_ (hoff 11 (by kernel_rfl))))) : gb273 ≠ gb274)))
     have z_BK274 := fun (h0_ : b 9 = true) (h1_ : b 11 = false) => (show w17.heap[gb274]? = some (.cells #[.int .u64 0, .int .u64 0] 50 (0, 0)) from by first | exact (blk_below (g := gb274) (o := .cells #[.int .u64 0, .int .u64 0] 50 (0, 0)) (by exact (Q_BK274 h0_ h1_)) hb))
     clear BK265
     clear BK268
     clear HB
     have BK265 := n0_
     have BK268 := n1_
     have HB := n2_
     have BK273 := n3_
     have GW273 := n4_
     have GE273 := n5_
     have NB265_273 := n6_
     have NB273_265 := n7_
     have NB268_273 := n8_
     have NB273_268 := n9_
     clear n0_ n1_ n2_ n3_ n4_ n5_ n6_ n7_ n8_ n9_
     clear hb hbox hg
     refine hK.out _ _ ⟨gb273, gb274, (.pointer (some ⟨gb273, 0, none⟩)), m9_, (by rw [ha.out]; exact putSel_upk 4 hb_ rfl rfl rfl), (by exact BK265.out), (by exact BK268.out), (by repeat (first | (with_reducible first | exact HB.out | apply below_alloc | apply pw_below_drewN | apply below_drew1 | refine below_set ?_ GE265.out | refine below_set ?_ GE268.out | refine below_set ?_ GE273.out) | exact HB.out)), @z_NB274_273, @z_NB273_274, fun _ _ => (by exact BK273.out), fun _ => GW273.out, fun _ => GE273.out, fun _ => NB265_273.out, fun _ => NB273_265.out, fun _ => NB268_273.out, fun _ => NB273_268.out, z_BK274, Q_GW274, Q_GE274, Q_NB265_274, Q_NB274_265, Q_NB268_274, Q_NB274_268, fun h0_ => absurd ((hoff 10 (by kernel_rfl)).symm.trans h0_) (by decide), fun h0_ => absurd ((hoff 11 (by kernel_rfl)).symm.trans h0_) (by decide), fun _ => rfl, Q_X9_⟩
    refine steps_cons ?_ ?_
    ·rintro b a w' ⟨gb273, gb274, m8_, m9_, ha, Q_BK265, Q_BK268, Q_HB, Q_NB274_273, Q_NB273_274, Q_BK273, Q_GW273, Q_GE273, Q_NB265_273, Q_NB273_265, Q_NB268_273, Q_NB273_268, Q_BK274, Q_GW274, Q_GE274, Q_NB265_274, Q_NB274_265, Q_NB268_274, Q_NB274_268, Q_BK273_e10, Q_BK274_e11, Q_X8_, Q_X9_⟩ hb_ hon hoff
     refine ⟨_, rfl, fun K hK => ?_⟩
     replace ha := Aside0.mk ha
     have BK265 := Aside0.mk Q_BK265
     have BK268 := Aside0.mk Q_BK268
     have HB := Aside0.mk Q_HB
     refine box_step ?hg (N := 9) ?hd (cs := #[.int .u64 0, .int .u64 0]) (t := 50) ?hr ?_; (case hd => rfl); (case hg => rfl); (case hr => first | (go_simp; done) | (go_simp; rfl))
     intro gb274 hg w17 hbox hb
     have n0_ := Aside0.mk (blk_below (by exact BK265.out) hb)
     have n1_ := Aside0.mk (blk_below (by exact BK268.out) hb)
     have n2_ := Aside0.mk (below_step (by repeat (first | (with_reducible first | exact HB.out | apply below_alloc | apply pw_below_drewN | apply below_drew1 | refine below_set ?_ GE265.out | refine below_set ?_ GE268.out) | exact HB.out)) hb)
     have n3_ := Aside0.mk (hbox)
     have n4_ := Aside0.mk ((by rw [hg]; exact (below_size (by repeat (first | (with_reducible first | exact HB.out | apply below_alloc | apply pw_below_drewN | apply below_drew1 | refine below_set ?_ GE265.out | refine below_set ?_ GE268.out) | exact HB.out))) : w.heap.size ≤ gb274))
     have n5_ := Aside0.mk ((by rw [hg]; exact (below_size (by repeat (first | (with_reducible first | exact HB.out | apply below_alloc | apply pw_below_drewN | apply below_drew1 | refine below_set ?_ GE265.out | refine below_set ?_ GE268.out) | exact HB.out))) : w.heap.size ≤ gb274))
     have n6_ := Aside0.mk ((by rw [hg]; exact Nat.ne_of_lt (blk_lt (by exact BK265.out)) : gb265 ≠ gb274))
     have n7_ := Aside0.mk ((by rw [hg]; exact Nat.ne_of_gt (blk_lt (by exact BK265.out)) : gb274 ≠ gb265))
     have n8_ := Aside0.mk ((by rw [hg]; exact Nat.ne_of_lt (blk_lt (by exact BK268.out)) : gb268 ≠ gb274))
     have n9_ := Aside0.mk ((by rw [hg]; exact Nat.ne_of_gt (blk_lt (by exact BK268.out)) : gb274 ≠ gb268))
     have z_NB274_273 := fun (h0_ : up b 9 8 = true) (h1_ : up b 9 9 = true) => (show gb274 ≠ gb273 from ((by rw [hg]; exact Nat.ne_of_gt (blk_lt (by exact (Q_BK273 h0_ (hoff 10 (by kernel_rfl))))) : gb274 ≠ gb273)))
     have z_NB273_274 := fun (h0_ : up b 9 8 = true) (h1_ : up b 9 9 = true) => (show gb273 ≠ gb274 from ((by rw [hg]; exact Nat.ne_of_lt (blk_lt (by exact (Q_BK273 h0_ (hoff 10 (by kernel_rfl))))) : gb273 ≠ gb274)))
     have z_BK273 := fun (h0_ : b 8 = true) (h1_ : b 10 = false) => (show w17.heap[gb273]? = some (.cells #[.int .u64 0, .int .u64 0] 50 (0, 0)) from by first | exact (blk_below (g := gb273) (o := .cells #[.int .u64 0, .int .u64 0] 50 (0, 0)) (by exact (Q_BK273 h0_ h1_)) hb))
     clear BK265
     clear BK268
     clear HB
     have BK265 := n0_
     have BK268 := n1_
     have HB := n2_
     have BK274 := n3_
     have GW274 := n4_
     have GE274 := n5_
     have NB265_274 := n6_
     have NB274_265 := n7_
     have NB268_274 := n8_
     have NB274_268 := n9_
     clear n0_ n1_ n2_ n3_ n4_ n5_ n6_ n7_ n8_ n9_
     clear hb hbox hg
     refine hK.out _ _ ⟨gb273, gb274, m8_, (.pointer (some ⟨gb274, 0, none⟩)), (by rw [ha.out]; exact putSel_upk 5 hb_ rfl rfl rfl), (by exact BK265.out), (by exact BK268.out), (by repeat (first | (with_reducible first | exact HB.out | apply below_alloc | apply pw_below_drewN | apply below_drew1 | refine below_set ?_ GE265.out | refine below_set ?_ GE268.out | refine below_set ?_ GE274.out) | exact HB.out)), @z_NB274_273, @z_NB273_274, z_BK273, Q_GW273, Q_GE273, Q_NB265_273, Q_NB273_265, Q_NB268_273, Q_NB273_268, fun _ _ => (by exact BK274.out), fun _ => GW274.out, fun _ => GE274.out, fun _ => NB265_274.out, fun _ => NB274_265.out, fun _ => NB268_274.out, fun _ => NB274_268.out, fun h0_ => absurd ((hoff 10 (by kernel_rfl)).symm.trans h0_) (by decide), fun h0_ => absurd ((hoff 11 (by kernel_rfl)).symm.trans h0_) (by decide), Q_X8_, fun _ => rfl⟩
    refine steps_cons ?_ ?_
    ·rintro b a w' ⟨gb273, gb274, m8_, m9_, ha, Q_BK265, Q_BK268, Q_HB, Q_NB274_273, Q_NB273_274, Q_BK273, Q_GW273, Q_GE273, Q_NB265_273, Q_NB273_265, Q_NB268_273, Q_NB273_268, Q_BK274, Q_GW274, Q_GE274, Q_NB265_274, Q_NB274_265, Q_NB268_274, Q_NB274_268, Q_BK273_e10, Q_BK274_e11, Q_X8_, Q_X9_⟩ hb_ hon hoff
     refine ⟨_, rfl, fun K hK => ?_⟩
     have e8 : a.tmps[8]? = some (m8_) := by rw [ha]; exact putSel_on (e := (8, 8, m8_)) 4 rfl rfl (hon 8 (by kernel_rfl)) rfl
     rw [Q_X8_ (hon 8 (by kernel_rfl))] at e8
     have e20 : a.tmps[20]? = some (.agg #[.int .u64 t269, .int .u64 t270]) := by rw [ha]; exact putSel_on (e := (3, 20, .agg #[.int .u64 t269, .int .u64 t270])) 1 rfl rfl (hon 3 (by kernel_rfl)) rfl
     replace ha := Aside0.mk ha
     have BK265 := Aside0.mk Q_BK265
     have BK268 := Aside0.mk Q_BK268
     have HB := Aside0.mk Q_HB
     have NB274_273 := Aside0.mk (Q_NB274_273 (hon 8 (by kernel_rfl)) (hon 9 (by kernel_rfl)))
     have NB273_274 := Aside0.mk (Q_NB273_274 (hon 8 (by kernel_rfl)) (hon 9 (by kernel_rfl)))
     have BK273 := Aside0.mk (Q_BK273 (hon 8 (by kernel_rfl)) hb_)
     have GW273 := Aside0.mk (Q_GW273 (hon 8 (by kernel_rfl)))
     have GE273 := Aside0.mk (Q_GE273 (hon 8 (by kernel_rfl)))
     have NB265_273 := Aside0.mk (Q_NB265_273 (hon 8 (by kernel_rfl)))
     have NB273_265 := Aside0.mk (Q_NB273_265 (hon 8 (by kernel_rfl)))
     have NB268_273 := Aside0.mk (Q_NB268_273 (hon 8 (by kernel_rfl)))
     have NB273_268 := Aside0.mk (Q_NB273_268 (hon 8 (by kernel_rfl)))
     have BK274 := Aside0.mk (Q_BK274 (hon 9 (by kernel_rfl)) (hoff 11 (by kernel_rfl)))
     have GW274 := Aside0.mk (Q_GW274 (hon 9 (by kernel_rfl)))
     have GE274 := Aside0.mk (Q_GE274 (hon 9 (by kernel_rfl)))
     have NB265_274 := Aside0.mk (Q_NB265_274 (hon 9 (by kernel_rfl)))
     have NB274_265 := Aside0.mk (Q_NB274_265 (hon 9 (by kernel_rfl)))
     have NB268_274 := Aside0.mk (Q_NB268_274 (hon 9 (by kernel_rfl)))
     have NB274_268 := Aside0.mk (Q_NB274_268 (hon 9 (by kernel_rfl)))
     have hs22 : w'.cell? ⟨gb273, 0, none⟩ = some (.int .u64 0) := (blk_cell BK273.out 0).trans rfl
     have hfs22 := blk_frozen BK273.out 0
     have hns22_0 := NB265_273.out
     have hns22_1 := NB268_273.out
     have hns22_3 := NB274_273.out
     have hms22_0 := NB273_265.out
     have hms22_1 := NB273_268.out
     have hms22_3 := NB273_274.out
     have hs23 : w'.cell? ⟨gb273, 1, none⟩ = some (.int .u64 0) := (blk_cell BK273.out 1).trans rfl
     have hfs23 := blk_frozen BK273.out 1
     have hns23_0 := NB265_273.out
     have hns23_1 := NB268_273.out
     have hns23_3 := NB274_273.out
     have hms23_0 := NB273_265.out
     have hms23_1 := NB273_268.out
     have hms23_3 := NB273_274.out
     refine skip_ (w1 := ?_) (by rfl) rfl ?_ ?_
     rotate_left
     ·go_simp
      rfl
     refine hK.out _ _ ⟨gb273, gb274, m8_, m9_, (by rw [ha.out]; exact putSel_none (v := undef) rfl), (by refine blk_far ?_ NB265_273.out _; refine blk_far ?_ NB265_273.out _; exact BK265.out), (by refine blk_far ?_ NB268_273.out _; refine blk_far ?_ NB268_273.out _; exact BK268.out), (by repeat (first | (with_reducible first | exact HB.out | apply below_alloc | apply pw_below_drewN | apply below_drew1 | refine below_set ?_ GE265.out | refine below_set ?_ GE268.out | refine below_set ?_ GE273.out | refine below_set ?_ GE274.out) | exact HB.out)), fun _ _ => NB274_273.out, fun _ _ => NB273_274.out, fun _ h1_ => absurd ((up_self b 10).symm.trans h1_) (by decide), fun _ => GW273.out, fun _ => GE273.out, fun _ => NB265_273.out, fun _ => NB273_265.out, fun _ => NB268_273.out, fun _ => NB273_268.out, fun _ _ => (by refine blk_far ?_ NB274_273.out _; refine blk_far ?_ NB274_273.out _; exact BK274.out), fun _ => GW274.out, fun _ => GE274.out, fun _ => NB265_274.out, fun _ => NB274_265.out, fun _ => NB268_274.out, fun _ => NB274_268.out, fun _ => (by refine blk_put (cs := #[.int .u64 t269, .int .u64 0]) ?_ 1 _ rfl; refine blk_put (cs := #[.int .u64 0, .int .u64 0]) ?_ 0 _ rfl; exact BK273.out), fun h0_ => absurd ((hoff 11 (by kernel_rfl)).symm.trans h0_) (by decide), Q_X8_, Q_X9_⟩
    refine steps_cons ?_ ?_
    ·rintro b a w' ⟨gb273, gb274, m8_, m9_, ha, Q_BK265, Q_BK268, Q_HB, Q_NB274_273, Q_NB273_274, Q_BK273, Q_GW273, Q_GE273, Q_NB265_273, Q_NB273_265, Q_NB268_273, Q_NB273_268, Q_BK274, Q_GW274, Q_GE274, Q_NB265_274, Q_NB274_265, Q_NB268_274, Q_NB274_268, Q_BK273_e10, Q_BK274_e11, Q_X8_, Q_X9_⟩ hb_ hon hoff
     refine ⟨_, rfl, fun K hK => ?_⟩
     have e9 : a.tmps[9]? = some (m9_) := by rw [ha]; exact putSel_on (e := (9, 9, m9_)) 5 rfl rfl (hon 9 (by kernel_rfl)) rfl
     rw [Q_X9_ (hon 9 (by kernel_rfl))] at e9
     have e24 : a.tmps[24]? = some (.agg #[.int .u64 t271, .int .u64 t272]) := by rw [ha]; exact putSel_on (e := (7, 24, .agg #[.int .u64 t271, .int .u64 t272])) 3 rfl rfl (hon 7 (by kernel_rfl)) rfl
     replace ha := Aside0.mk ha
     have BK265 := Aside0.mk Q_BK265
     have BK268 := Aside0.mk Q_BK268
     have HB := Aside0.mk Q_HB
     have NB274_273 := Aside0.mk (Q_NB274_273 (hon 8 (by kernel_rfl)) (hon 9 (by kernel_rfl)))
     have NB273_274 := Aside0.mk (Q_NB273_274 (hon 8 (by kernel_rfl)) (hon 9 (by kernel_rfl)))
     have GW273 := Aside0.mk (Q_GW273 (hon 8 (by kernel_rfl)))
     have GE273 := Aside0.mk (Q_GE273 (hon 8 (by kernel_rfl)))
     have NB265_273 := Aside0.mk (Q_NB265_273 (hon 8 (by kernel_rfl)))
     have NB273_265 := Aside0.mk (Q_NB273_265 (hon 8 (by kernel_rfl)))
     have NB268_273 := Aside0.mk (Q_NB268_273 (hon 8 (by kernel_rfl)))
     have NB273_268 := Aside0.mk (Q_NB273_268 (hon 8 (by kernel_rfl)))
     have BK274 := Aside0.mk (Q_BK274 (hon 9 (by kernel_rfl)) hb_)
     have GW274 := Aside0.mk (Q_GW274 (hon 9 (by kernel_rfl)))
     have GE274 := Aside0.mk (Q_GE274 (hon 9 (by kernel_rfl)))
     have NB265_274 := Aside0.mk (Q_NB265_274 (hon 9 (by kernel_rfl)))
     have NB274_265 := Aside0.mk (Q_NB274_265 (hon 9 (by kernel_rfl)))
     have NB268_274 := Aside0.mk (Q_NB268_274 (hon 9 (by kernel_rfl)))
     have NB274_268 := Aside0.mk (Q_NB274_268 (hon 9 (by kernel_rfl)))
     have BK273 := Aside0.mk (Q_BK273_e10 (hon 10 (by kernel_rfl)))
     have hs24 : w'.cell? ⟨gb274, 0, none⟩ = some (.int .u64 0) := (blk_cell BK274.out 0).trans rfl
     have hfs24 := blk_frozen BK274.out 0
     have hns24_0 := NB265_274.out
     have hns24_1 := NB268_274.out
     have hns24_2 := NB273_274.out
     have hms24_0 := NB274_265.out
     have hms24_1 := NB274_268.out
     have hms24_2 := NB274_273.out
     have hs25 : w'.cell? ⟨gb274, 1, none⟩ = some (.int .u64 0) := (blk_cell BK274.out 1).trans rfl
     have hfs25 := blk_frozen BK274.out 1
     have hns25_0 := NB265_274.out
     have hns25_1 := NB268_274.out
     have hns25_2 := NB273_274.out
     have hms25_0 := NB274_265.out
     have hms25_1 := NB274_268.out
     have hms25_2 := NB274_273.out
     refine skip_ (w1 := ?_) (by rfl) rfl ?_ ?_
     rotate_left
     ·go_simp
      rfl
     refine hK.out _ _ ⟨gb273, gb274, m8_, m9_, (by rw [ha.out]; exact putSel_none (v := undef) rfl), (by refine blk_far ?_ NB265_274.out _; refine blk_far ?_ NB265_274.out _; exact BK265.out), (by refine blk_far ?_ NB268_274.out _; refine blk_far ?_ NB268_274.out _; exact BK268.out), (by repeat (first | (with_reducible first | exact HB.out | apply below_alloc | apply pw_below_drewN | apply below_drew1 | refine below_set ?_ GE265.out | refine below_set ?_ GE268.out | refine below_set ?_ GE273.out | refine below_set ?_ GE274.out) | exact HB.out)), fun _ _ => NB274_273.out, fun _ _ => NB273_274.out, fun _ h1_ => absurd ((hon 10 (by kernel_rfl)).symm.trans h1_) (by decide), fun _ => GW273.out, fun _ => GE273.out, fun _ => NB265_273.out, fun _ => NB273_265.out, fun _ => NB268_273.out, fun _ => NB273_268.out, fun _ h1_ => absurd ((up_self b 11).symm.trans h1_) (by decide), fun _ => GW274.out, fun _ => GE274.out, fun _ => NB265_274.out, fun _ => NB274_265.out, fun _ => NB268_274.out, fun _ => NB274_268.out, fun _ => (by refine blk_far ?_ NB273_274.out _; refine blk_far ?_ NB273_274.out _; exact BK273.out), fun _ => (by refine blk_put (cs := #[.int .u64 t271, .int .u64 0]) ?_ 1 _ rfl; refine blk_put (cs := #[.int .u64 0, .int .u64 0]) ?_ 0 _ rfl; exact BK274.out), Q_X8_, Q_X9_⟩
    exact steps_nil
   rintro b a w25 hall ⟨gb273, gb274, m8_, m9_, ha, Q_BK265, Q_BK268, Q_HB, Q_NB274_273, Q_NB273_274, Q_BK273, Q_GW273, Q_GE273, Q_NB265_273, Q_NB273_265, Q_NB268_273, Q_NB273_268, Q_BK274, Q_GW274, Q_GE274, Q_NB265_274, Q_NB274_265, Q_NB268_274, Q_NB274_268, Q_BK273_e10, Q_BK274_e11, Q_X8_, Q_X9_⟩
   clear BK265 BK268 HB
   have hb1_ := hall 1 (by kernel_rfl)
   have hb3_ := hall 3 (by kernel_rfl)
   have hb5_ := hall 5 (by kernel_rfl)
   have hb7_ := hall 7 (by kernel_rfl)
   have hb8_ := hall 8 (by kernel_rfl)
   have hb9_ := hall 9 (by kernel_rfl)
   have hb10_ := hall 10 (by kernel_rfl)
   have hb11_ := hall 11 (by kernel_rfl)
   subst ha
   obtain rfl := Q_X8_ hb8_
   obtain rfl := Q_X9_ hb9_
   simp only [putSel, hb1_, hb3_, hb5_, hb7_, hb8_, hb9_, hb10_, hb11_, if_true, Act.put, List.setIfInBounds_toArray, List.set_cons_zero, List.set_cons_succ]
   have BK265 := Aside0.mk Q_BK265
   clear Q_BK265
   have BK268 := Aside0.mk Q_BK268
   clear Q_BK268
   have HB := Aside0.mk Q_HB
   clear Q_HB
   have NB274_273 := Aside0.mk (Q_NB274_273 hb8_ hb9_)
   clear Q_NB274_273
   have NB273_274 := Aside0.mk (Q_NB273_274 hb8_ hb9_)
   clear Q_NB273_274
   clear Q_BK273
   have GW273 := Aside0.mk (Q_GW273 hb8_)
   clear Q_GW273
   have GE273 := Aside0.mk (Q_GE273 hb8_)
   clear Q_GE273
   have NB265_273 := Aside0.mk (Q_NB265_273 hb8_)
   clear Q_NB265_273
   have NB273_265 := Aside0.mk (Q_NB273_265 hb8_)
   clear Q_NB273_265
   have NB268_273 := Aside0.mk (Q_NB268_273 hb8_)
   clear Q_NB268_273
   have NB273_268 := Aside0.mk (Q_NB273_268 hb8_)
   clear Q_NB273_268
   clear Q_BK274
   have GW274 := Aside0.mk (Q_GW274 hb9_)
   clear Q_GW274
   have GE274 := Aside0.mk (Q_GE274 hb9_)
   clear Q_GE274
   have NB265_274 := Aside0.mk (Q_NB265_274 hb9_)
   clear Q_NB265_274
   have NB274_265 := Aside0.mk (Q_NB274_265 hb9_)
   clear Q_NB274_265
   have NB268_274 := Aside0.mk (Q_NB268_274 hb9_)
   clear Q_NB268_274
   have NB274_268 := Aside0.mk (Q_NB274_268 hb9_)
   clear Q_NB274_268
   have BK273 := Aside0.mk (Q_BK273_e10 hb10_)
   clear Q_BK273_e10
   have BK274 := Aside0.mk (Q_BK274_e11 hb11_)
   clear Q_BK274_e11
   clear hall hb1_ hb3_ hb5_ hb7_ hb8_ hb9_ hb10_ hb11_
   have hnb26 := NB273_265.out
   have hnc26 := NB265_273.out
   have hnb27 := NB273_268.out
   have hnc27 := NB268_273.out
   have hnb28 := NB273_274.out
   have hnc28 := NB274_273.out
   have hcz29_0 : w25.cell? ⟨gb273, 0, none⟩ = some (.int .u64 t269) := (blk_cell BK273.out 0).trans rfl
   have hcz29_1 : w25.cell? ⟨gb273, 1, none⟩ = some (.int .u64 t270) := (blk_cell BK273.out 1).trans rfl
   have hfz29_0 := blk_frozen BK273.out 0
   have hfz29_1 := blk_frozen BK273.out 1
   have hnb30 := NB274_265.out
   have hnc30 := NB265_274.out
   have hnb31 := NB274_268.out
   have hnc31 := NB268_274.out
   have hcz32_0 : w25.cell? ⟨gb274, 0, none⟩ = some (.int .u64 t271) := (blk_cell BK274.out 0).trans rfl
   have hcz32_1 : w25.cell? ⟨gb274, 1, none⟩ = some (.int .u64 t272) := (blk_cell BK274.out 1).trans rfl
   have hfz32_0 := blk_frozen BK274.out 0
   have hfz32_1 := blk_frozen BK274.out 1
   try go_wp2_with (first | ((with_reducible refine gate_callee (f := 23) rfl ?_); refine goesL_ (some 30) rfl rfl Try.func23 (by kernel_rfl) rfl #[.agg #[.int .u64 t269, .int .u64 t270], .agg #[.int .u64 t272, .int .u64 0]] rfl (by (try simp only [List.map_toArray, List.map_cons, List.map_nil]); first | done | rfl | (simp only [List.length_drop, List.length_take]; rfl)) ?_; (with_reducible refine (overfallref01_Add.calls k t269 t270 t272 0 t275 t276 t277 _ A8.out).mono ?_); rintro e w33 ⟨rfl, hb⟩; refine ⟨_, rfl, ?_⟩; have n0_ := Aside0.mk (blk_below (by exact BK265.out) hb); have n1_ := Aside0.mk (blk_below (by exact BK268.out) hb); have n2_ := Aside0.mk (blk_below (by exact BK273.out) hb); have n3_ := Aside0.mk (blk_below (by exact BK274.out) hb); have n4_ := Aside0.mk (below_step (by repeat (first | (with_reducible first | exact HB.out | apply below_alloc | apply pw_below_drewN | apply below_drew1 | refine below_set ?_ GE265.out | refine below_set ?_ GE268.out | refine below_set ?_ GE273.out | refine below_set ?_ GE274.out) | exact HB.out)) hb); clear BK265; clear BK268; clear BK273; clear BK274; clear HB; have BK265 := n0_; have BK268 := n1_; have BK273 := n2_; have BK274 := n3_; have HB := n4_; clear n0_ n1_ n2_ n3_ n4_; (try clear hb); (try clear hb2); (try clear hk); (try clear hi)) | ((with_reducible refine gate_dst (N := 10) rfl ?_); refine box_event ?hg (N := 10) ?hd (cs := #[.int .u64 0, .int .u64 0]) (t := 50) ?hr ?_; (case hd => rfl); (case hg => rfl); (case hr => first | (go_simp; done) | (go_simp; rfl)); intro gb278 hg w34 hbox hb; have n0_ := Aside0.mk (blk_below (by exact BK265.out) hb); have n1_ := Aside0.mk (blk_below (by exact BK268.out) hb); have n2_ := Aside0.mk (blk_below (by exact BK273.out) hb); have n3_ := Aside0.mk (blk_below (by exact BK274.out) hb); have n4_ := Aside0.mk (below_step (by repeat (first | (with_reducible first | exact HB.out | apply below_alloc | apply pw_below_drewN | apply below_drew1 | refine below_set ?_ GE265.out | refine below_set ?_ GE268.out | refine below_set ?_ GE273.out | refine below_set ?_ GE274.out) | exact HB.out)) hb); have n5_ := Aside0.mk (hbox); have n6_ := Aside0.mk ((by rw [hg]; exact (below_size (by repeat (first | (with_reducible first | exact HB.out | apply below_alloc | apply pw_below_drewN | apply below_drew1 | refine below_set ?_ GE265.out | refine below_set ?_ GE268.out | refine below_set ?_ GE273.out | refine below_set ?_ GE274.out) | exact HB.out))) : w.heap.size ≤ gb278)); have n7_ := Aside0.mk ((by rw [hg]; exact (below_size (by repeat (first | (with_reducible first | exact HB.out | apply below_alloc | apply pw_below_drewN | apply below_drew1 | refine below_set ?_ GE265.out | refine below_set ?_ GE268.out | refine below_set ?_ GE273.out | refine below_set ?_ GE274.out) | exact HB.out))) : w.heap.size ≤ gb278)); have n8_ := Aside0.mk ((by rw [hg]; exact Nat.ne_of_lt (blk_lt (by exact BK265.out)) : gb265 ≠ gb278)); have n9_ := Aside0.mk ((by rw [hg]; exact Nat.ne_of_gt (blk_lt (by exact BK265.out)) : gb278 ≠ gb265)); have n10_ := Aside0.mk ((by rw [hg]; exact Nat.ne_of_lt (blk_lt (by exact BK268.out)) : gb268 ≠ gb278)); have n11_ := Aside0.mk ((by rw [hg]; exact Nat.ne_of_gt (blk_lt (by exact BK268.out)) : gb278 ≠ gb268)); have n12_ := Aside0.mk ((by rw [hg]; exact Nat.ne_of_lt (blk_lt (by exact BK273.out)) : gb273 ≠ gb278)); have n13_ := Aside0.mk ((by rw [hg]; exact Nat.ne_of_gt (blk_lt (by exact BK273.out)) : gb278 ≠ gb273)); have n14_ := Aside0.mk ((by rw [hg]; exact Nat.ne_of_lt (blk_lt (by exact BK274.out)) : gb274 ≠ gb278)); have n15_ := Aside0.mk ((by rw [hg]; exact Nat.ne_of_gt (blk_lt (by exact BK274.out)) : gb278 ≠ gb274)); clear BK265; clear BK268; clear BK273; clear BK274; clear HB; have BK265 := n0_; have BK268 := n1_; have BK273 := n2_; have BK274 := n3_; have HB := n4_; have BK278 := n5_; have GW278 := n6_; have GE278 := n7_; have NB265_278 := n8_; have NB278_265 := n9_; have NB268_278 := n10_; have NB278_268 := n11_; have NB273_278 := n12_; have NB278_273 := n13_; have NB274_278 := n14_; have NB278_274 := n15_; clear n0_ n1_ n2_ n3_ n4_ n5_ n6_ n7_ n8_ n9_ n10_ n11_ n12_ n13_ n14_ n15_; clear hb hbox hg; have hnb35 := NB278_265.out; have hnc35 := NB265_278.out; have hnb36 := NB278_268.out; have hnc36 := NB268_278.out; have hnb37 := NB278_273.out; have hnc37 := NB273_278.out; have hnb38 := NB278_274.out; have hnc38 := NB274_278.out; have hcz39_0 : w34.cell? ⟨gb278, 0, none⟩ = some (.int .u64 0) := (blk_cell BK278.out 0).trans rfl; have hcz39_1 : w34.cell? ⟨gb278, 1, none⟩ = some (.int .u64 0) := (blk_cell BK278.out 1).trans rfl; have hfz39_0 := blk_frozen BK278.out 0; have hfz39_1 := blk_frozen BK278.out 1; have hcz40_0 : w34.cell? ⟨gb274, 0, none⟩ = some (.int .u64 t271) := (blk_cell BK274.out 0).trans rfl; have hcz40_1 : w34.cell? ⟨gb274, 1, none⟩ = some (.int .u64 t272) := (blk_cell BK274.out 1).trans rfl; have hfz40_0 := blk_frozen BK274.out 0; have hfz40_1 := blk_frozen BK274.out 1))
   go_ret
   exact ⟨by first | rfl | (simp [errW_none, errW_some] <;> rfl) | (simp [*, errW_none, errW_some] <;> rfl), by repeat (first | (with_reducible first | exact HB.out | apply below_alloc | apply pw_below_drewN | apply below_drew1 | refine below_set ?_ GE265.out | refine below_set ?_ GE268.out | refine below_set ?_ GE273.out | refine below_set ?_ GE274.out | refine below_set ?_ GE278.out) | exact HB.out)⟩
  ·rw [if_neg c9] at H
   have c9b0 : decide (0 < t271) = false := decide_eq_false c9
   clear c9
   by_cases c41 : t277 = true
   ·subst c41
    have H1 : (some false) = some r := by rw [if_pos rfl] at H; exact H
    clear H
    have H := H1
    clear H1
    obtain rfl := Option.some.inj H
    go_enter Try.func39, Try.ntmps39
    try go_wp2_with (first | ((with_reducible refine gate_dst (N := 5) rfl ?_); refine box_event ?hg (N := 5) ?hd (cs := #[.int .u64 a2_0, .int .u64 a2_1]) (t := 50) ?hr ?_; (case hd => rfl); (case hg => rfl); (case hr => first | (go_simp; done) | (go_simp; rfl)); intro gb265 hg w42 hbox hb; have n0_ := Aside0.mk (below_step (by repeat (first | (with_reducible first | exact HB.out | apply below_alloc | apply pw_below_drewN | apply below_drew1) | exact HB.out)) hb); have n1_ := Aside0.mk (hbox); have n2_ := Aside0.mk ((by rw [hg]; exact (below_size (by repeat (first | (with_reducible first | exact HB.out | apply below_alloc | apply pw_below_drewN | apply below_drew1) | exact HB.out))) : w.heap.size ≤ gb265)); have n3_ := Aside0.mk ((by rw [hg]; exact (below_size (by repeat (first | (with_reducible first | exact HB.out | apply below_alloc | apply pw_below_drewN | apply below_drew1) | exact HB.out))) : w.heap.size ≤ gb265)); clear HB; have HB := n0_; have BK265 := n1_; have GW265 := n2_; have GE265 := n3_; clear n0_ n1_ n2_ n3_; clear hb hbox hg) | ((with_reducible refine gate_callee (f := 30) rfl ?_); refine goesL_ (some 14) rfl rfl Try.func30 (by kernel_rfl) rfl #[.int .u64 a0, .int .u64 a0] rfl (by (try simp only [List.map_toArray, List.map_cons, List.map_nil]); first | done | rfl | (simp only [List.length_drop, List.length_take]; rfl)) ?_; (with_reducible refine (overfallref01_Mul.calls k a0 a0 t266 t267 _ A4.out).mono ?_); rintro e w43 ⟨rfl, hb⟩; refine ⟨_, rfl, ?_⟩; have n0_ := Aside0.mk (blk_below (by exact BK265.out) hb); have n1_ := Aside0.mk (below_step (by repeat (first | (with_reducible first | exact HB.out | apply below_alloc | apply pw_below_drewN | apply below_drew1 | refine below_set ?_ GE265.out) | exact HB.out)) hb); clear BK265; clear HB; have BK265 := n0_; have HB := n1_; clear n0_ n1_; (try clear hb); (try clear hb2); (try clear hk); (try clear hi)) | ((with_reducible refine gate_dst (N := 7) rfl ?_); refine box_event ?hg (N := 7) ?hd (cs := #[.int .u64 0, .int .u64 0]) (t := 50) ?hr ?_; (case hd => rfl); (case hg => rfl); (case hr => first | (go_simp; done) | (go_simp; rfl)); intro gb268 hg w44 hbox hb; have n0_ := Aside0.mk (blk_below (by exact BK265.out) hb); have n1_ := Aside0.mk (below_step (by repeat (first | (with_reducible first | exact HB.out | apply below_alloc | apply pw_below_drewN | apply below_drew1 | refine below_set ?_ GE265.out) | exact HB.out)) hb); have n2_ := Aside0.mk (hbox); have n3_ := Aside0.mk ((by rw [hg]; exact (below_size (by repeat (first | (with_reducible first | exact HB.out | apply below_alloc | apply pw_below_drewN | apply below_drew1 | refine below_set ?_ GE265.out) | exact HB.out))) : w.heap.size ≤ gb268)); have n4_ := Aside0.mk ((by rw [hg]; exact (below_size (by repeat (first | (with_reducible first | exact HB.out | apply below_alloc | apply pw_below_drewN | apply below_drew1 | refine below_set ?_ GE265.out) | exact HB.out))) : w.heap.size ≤ gb268)); have n5_ := Aside0.mk ((by rw [hg]; exact Nat.ne_of_lt (blk_lt (by exact BK265.out)) : gb265 ≠ gb268)); have n6_ := Aside0.mk ((by rw [hg]; exact Nat.ne_of_gt (blk_lt (by exact BK265.out)) : gb268 ≠ gb265)); clear BK265; clear HB; have BK265 := n0_; have HB := n1_; have BK268 := n2_; have GW268 := n3_; have GE268 := n4_; have NB265_268 := n5_; have NB268_265 := n6_; clear n0_ n1_ n2_ n3_ n4_ n5_ n6_; clear hb hbox hg; have hnb45 := NB268_265.out; have hnc45 := NB265_268.out; have hcz46_0 : w44.cell? ⟨gb268, 0, none⟩ = some (.int .u64 0) := (blk_cell BK268.out 0).trans rfl; have hcz46_1 : w44.cell? ⟨gb268, 1, none⟩ = some (.int .u64 0) := (blk_cell BK268.out 1).trans rfl; have hfz46_0 := blk_frozen BK268.out 0; have hfz46_1 := blk_frozen BK268.out 1))
    have n0_ : Aside0 (((w44.setCell ⟨gb268, 0, none⟩ (.int .u64 t266)).setCell ⟨gb268, 1, none⟩ (.int .u64 t267)).heap[gb265]? = some (.cells #[.int .u64 a2_0, .int .u64 a2_1] 50 (0, 0))) := ⟨by refine blk_far ?_ NB265_268.out _; refine blk_far ?_ NB265_268.out _; exact BK265.out⟩
    have n1_ : Aside0 (((w44.setCell ⟨gb268, 0, none⟩ (.int .u64 t266)).setCell ⟨gb268, 1, none⟩ (.int .u64 t267)).heap[gb268]? = some (.cells #[.int .u64 t266, .int .u64 t267] 50 (0, 0))) := ⟨by refine blk_put (cs := #[.int .u64 t266, .int .u64 0]) ?_ 1 _ rfl; refine blk_put (cs := #[.int .u64 0, .int .u64 0]) ?_ 0 _ rfl; exact BK268.out⟩
    have n2_ : Aside0 (Below w.heap.size w ((w44.setCell ⟨gb268, 0, none⟩ (.int .u64 t266)).setCell ⟨gb268, 1, none⟩ (.int .u64 t267))) := ⟨by repeat (first | (with_reducible first | exact HB.out | apply below_alloc | apply pw_below_drewN | apply below_drew1 | refine below_set ?_ GE265.out | refine below_set ?_ GE268.out) | exact HB.out)⟩
    (try clear BK265)
    (try clear BK268)
    (try clear HB)
    generalize ((w44.setCell ⟨gb268, 0, none⟩ (.int .u64 t266)).setCell ⟨gb268, 1, none⟩ (.int .u64 t267)) = w47 at n0_ n1_ n2_ ⊢
    have BK265 := n0_
    have BK268 := n1_
    have HB := n2_
    clear n0_ n1_ n2_
    have n0_ := Aside0.mk (blk_drew BK265.out)
    have n1_ := Aside0.mk (blk_drew BK268.out)
    have n2_ := Aside0.mk (below_drew1 HB.out)
    clear BK265
    clear BK268
    clear HB
    have BK265 := n0_
    have BK268 := n1_
    have HB := n2_
    clear n0_ n1_ n2_
    refine start_ (n := 12) (S := fun w' => True) (ds := []) #[false, false, false, false, false, false, false, false, false, false, false, false] (by kernel_rfl) rfl rfl trivial (fun hHeld => ?_); refine with_tabW overfallref03_Fits.tab3 overfallref03_Fits.bits3 (fun HT_ HW_ => ?_)
    generalize w47.drew = w48 at BK265 BK268 HB hHeld ⊢
    refine pure_ (i := 0) (N := some 17) (v := ?_) (a' := ?_) #[true, false, false, false, false, false, false, false, false, false, false, false] rfl rfl (any_of HT_.out (by kernel_rfl)) (fun _ _ _ h => h) (Or.inl ⟨by rfl, ?_⟩) ?_ ?_
    rotate_left
    ·intro w'
     go_simp
     with_reducible rfl
    rotate_left
    ·simp only [Act.put, List.setIfInBounds_toArray, List.set_cons_zero, List.set_cons_succ, i64_w, i32_w]
     rfl
    refine pure_ (i := 2) (N := some 19) (v := ?_) (a' := ?_) #[true, false, true, false, false, false, false, false, false, false, false, false] rfl rfl (any_of HT_.out (by kernel_rfl)) (fun _ _ _ h => h) (Or.inl ⟨by rfl, ?_⟩) ?_ ?_
    rotate_left
    ·intro w'
     go_simp
     with_reducible rfl
    rotate_left
    ·simp only [Act.put, List.setIfInBounds_toArray, List.set_cons_zero, List.set_cons_succ, i64_w, i32_w]
     rfl
    refine pure_ (i := 4) (N := some 21) (v := ?_) (a' := ?_) #[true, false, true, false, true, false, false, false, false, false, false, false] rfl rfl (any_of HT_.out (by kernel_rfl)) (fun _ _ _ h => h) (Or.inl ⟨by rfl, ?_⟩) ?_ ?_
    rotate_left
    ·intro w'
     go_simp
     with_reducible rfl
    rotate_left
    ·simp only [Act.put, List.setIfInBounds_toArray, List.set_cons_zero, List.set_cons_succ, i64_w, i32_w]
     rfl
    refine pure_ (i := 6) (N := some 23) (v := ?_) (a' := ?_) #[true, false, true, false, true, false, true, false, false, false, false, false] rfl rfl (any_of HT_.out (by kernel_rfl)) (fun _ _ _ h => h) (Or.inl ⟨by rfl, ?_⟩) ?_ ?_
    rotate_left
    ·intro w'
     go_simp
     with_reducible rfl
    rotate_left
    ·simp only [Act.put, List.setIfInBounds_toArray, List.set_cons_zero, List.set_cons_succ, i64_w, i32_w]
     rfl
    refine inv_at [1, 3, 5, 7, 8, 9, 10, 11] (fun a0_ b a w' => ∃ (gb273 : Nat) (gb274 : Nat) (m8_ : Value) (m9_ : Value), a = putSel a0_ b [(1, 18, .int .u64 t267), (3, 20, .agg #[.int .u64 t269, .int .u64 t270]), (5, 22, .int .u64 t266), (7, 24, .agg #[.int .u64 t271, .int .u64 t272]), (8, 8, m8_), (9, 9, m9_)] ∧ (w'.heap[gb265]? = some (.cells #[.int .u64 a2_0, .int .u64 a2_1] 50 (0, 0))) ∧ (w'.heap[gb268]? = some (.cells #[.int .u64 t266, .int .u64 t267] 50 (0, 0))) ∧ (Below w.heap.size w w') ∧ (b 8 = true → b 9 = true → gb274 ≠ gb273) ∧ (b 8 = true → b 9 = true → gb273 ≠ gb274) ∧ (b 8 = true → b 10 = false → w'.heap[gb273]? = some (.cells #[.int .u64 0, .int .u64 0] 50 (0, 0))) ∧ (b 8 = true → w.heap.size ≤ gb273) ∧ (b 8 = true → w.heap.size ≤ gb273) ∧ (b 8 = true → gb265 ≠ gb273) ∧ (b 8 = true → gb273 ≠ gb265) ∧ (b 8 = true → gb268 ≠ gb273) ∧ (b 8 = true → gb273 ≠ gb268) ∧ (b 9 = true → b 11 = false → w'.heap[gb274]? = some (.cells #[.int .u64 0, .int .u64 0] 50 (0, 0))) ∧ (b 9 = true → w.heap.size ≤ gb274) ∧ (b 9 = true → w.heap.size ≤ gb274) ∧ (b 9 = true → gb265 ≠ gb274) ∧ (b 9 = true → gb274 ≠ gb265) ∧ (b 9 = true → gb268 ≠ gb274) ∧ (b 9 = true → gb274 ≠ gb268) ∧ (b 10 = true → w'.heap[gb273]? = some (.cells #[.int .u64 t269, .int .u64 t270] 50 (0, 0))) ∧ (b 11 = true → w'.heap[gb274]? = some (.cells #[.int .u64 t271, .int .u64 t272] 50 (0, 0))) ∧ (b 8 = true → (m8_ : Value) = .pointer (some ⟨gb273, 0, none⟩)) ∧ (b 9 = true → (m9_ : Value) = .pointer (some ⟨gb274, 0, none⟩))) HT_.out HW_.out (by kernel_rfl) (by kernel_rfl) ?_ ?_ ?_
    ·exact ⟨0, 0, .bool false, .bool false, by simp only [putSel, Bool.false_eq_true, if_false], BK265.out, BK268.out, HB.out, fun h_ => absurd h_ (by decide), fun h_ => absurd h_ (by decide), fun h_ => absurd h_ (by decide), fun h_ => absurd h_ (by decide), fun h_ => absurd h_ (by decide), fun h_ => absurd h_ (by decide), fun h_ => absurd h_ (by decide), fun h_ => absurd h_ (by decide), fun h_ => absurd h_ (by decide), fun h_ => absurd h_ (by decide), fun h_ => absurd h_ (by decide), fun h_ => absurd h_ (by decide), fun h_ => absurd h_ (by decide), fun h_ => absurd h_ (by decide), fun h_ => absurd h_ (by decide), fun h_ => absurd h_ (by decide), fun h_ => absurd h_ (by decide), fun h_ => absurd h_ (by decide), fun h_ => absurd h_ (by decide), fun h_ => absurd h_ (by decide)⟩
    ·skip
     clear BK265 BK268 HB
     refine steps_cons ?_ ?_
     ·rintro b a w' ⟨gb273, gb274, m8_, m9_, ha, Q_BK265, Q_BK268, Q_HB, Q_NB274_273, Q_NB273_274, Q_BK273, Q_GW273, Q_GE273, Q_NB265_273, Q_NB273_265, Q_NB268_273, Q_NB273_268, Q_BK274, Q_GW274, Q_GE274, Q_NB265_274, Q_NB274_265, Q_NB268_274, Q_NB274_268, Q_BK273_e10, Q_BK274_e11, Q_X8_, Q_X9_⟩ hb_ hon hoff
      refine ⟨_, rfl, fun K hK => ?_⟩
      have e17 : a.tmps[17]? = some (.pointer (some ⟨gb268, 1, none⟩)) := by rw [ha]; exact (putSel_off rfl).trans rfl
      replace ha := Aside0.mk ha
      have BK265 := Aside0.mk Q_BK265
      have BK268 := Aside0.mk Q_BK268
      have HB := Aside0.mk Q_HB
      have hc0_ : w'.cell? ⟨gb268, 0, none⟩ = some (.int .u64 t266) := (blk_cell BK268.out 0).trans rfl
      have hc1_ : w'.cell? ⟨gb268, 1, none⟩ = some (.int .u64 t267) := (blk_cell BK268.out 1).trans rfl
      refine value_ (w1 := w') (v := .int .u64 t267) (by rfl) rfl ?_ ?_
      ·go_simp
       (try simp only [i64_w])
       try rfl
      refine hK.out _ _ ⟨gb273, gb274, m8_, m9_, (by rw [ha.out]; exact putSel_upk 0 hb_ rfl rfl rfl), Q_BK265, Q_BK268, Q_HB, Q_NB274_273, Q_NB273_274, Q_BK273, Q_GW273, Q_GE273, Q_NB265_273, Q_NB273_265, Q_NB268_273, Q_NB273_268, Q_BK274, Q_GW274, Q_GE274, Q_NB265_274, Q_NB274_265, Q_NB268_274, Q_NB274_268, fun h0_ => absurd ((hoff 10 (by kernel_rfl)).symm.trans h0_) (by decide), fun h0_ => absurd ((hoff 11 (by kernel_rfl)).symm.trans h0_) (by decide), Q_X8_, Q_X9_⟩
     refine steps_cons ?_ ?_
     ·rintro b a w' ⟨gb273, gb274, m8_, m9_, ha, Q_BK265, Q_BK268, Q_HB, Q_NB274_273, Q_NB273_274, Q_BK273, Q_GW273, Q_GE273, Q_NB265_273, Q_NB273_265, Q_NB268_273, Q_NB273_268, Q_BK274, Q_GW274, Q_GE274, Q_NB265_274, Q_NB274_265, Q_NB268_274, Q_NB274_268, Q_BK273_e10, Q_BK274_e11, Q_X8_, Q_X9_⟩ hb_ hon hoff
      refine ⟨_, rfl, fun K hK => ?_⟩
      have e18 : a.tmps[18]? = some (.int .u64 t267) := by rw [ha]; exact putSel_on (e := (1, 18, .int .u64 t267)) 0 rfl rfl (hon 1 (by kernel_rfl)) rfl
      have e19 : a.tmps[19]? = some (.int .u64 a1) := by rw [ha]; exact (putSel_off rfl).trans rfl
      replace ha := Aside0.mk ha
      have BK265 := Aside0.mk Q_BK265
      have BK268 := Aside0.mk Q_BK268
      have HB := Aside0.mk Q_HB
      refine goes_ Try.func30 (by kernel_rfl) rfl #[.int .u64 t267, .int .u64 a1] (by rfl) rfl rfl (by first | (simp only [List.map_toArray, List.map_cons, List.map_nil, Act.eval, Array.getD_eq_getD_getElem?, Option.getD_some, e18, e19]; done) | (simp only [List.map_toArray, List.map_cons, List.map_nil, Act.eval, Array.getD_eq_getD_getElem?, Option.getD_some, e18, e19]; rfl)) ?_
      with_reducible refine (overfallref01_Mul.calls k t267 a1 t269 t270 _ A6.out).mono ?_
      rintro e w49 ⟨rfl, hb⟩
      refine ⟨_, rfl, ?_⟩
      have n0_ := Aside0.mk (blk_below (by exact BK265.out) hb)
      have n1_ := Aside0.mk (blk_below (by exact BK268.out) hb)
      have n2_ := Aside0.mk (below_step (by repeat (first | (with_reducible first | exact HB.out | apply below_alloc | apply pw_below_drewN | apply below_drew1 | refine below_set ?_ GE265.out | refine below_set ?_ GE268.out) | exact HB.out)) hb)
      have z_BK273 := fun (h0_ : b 8 = true) (h1_ : b 10 = false) => (show w49.heap[gb273]? = some (.cells #[.int .u64 0, .int .u64 0] 50 (0, 0)) from by first | exact (blk_below (g := gb273) (o := .cells #[.int .u64 0, .int .u64 0] 50 (0, 0)) (by exact (Q_BK273 h0_ h1_)) hb))
      have z_BK274 := fun (h0_ : b 9 = true) (h1_ : b 11 = false) => (show w49.heap[gb274]? = some (.cells #[.int .u64 0, .int .u64 0] 50 (0, 0)) from by first | exact (blk_below (g := gb274) (o := .cells #[.int .u64 0, .int .u64 0] 50 (0, 0)) (by exact (Q_BK274 h0_ h1_)) hb))
      clear BK265
      clear BK268
      clear HB
      have BK265 := n0_
      have BK268 := n1_
      have HB := n2_
      clear n0_ n1_ n2_
      (try clear hb)
      (try clear hb2)
      (try clear hk)
      (try clear hi)
      refine hK.out _ _ ⟨gb273, gb274, m8_, m9_, (by rw [ha.out]; exact putSel_upk 1 hb_ rfl rfl rfl), (by exact BK265.out), (by exact BK268.out), (by repeat (first | (with_reducible first | exact HB.out | apply below_alloc | apply pw_below_drewN | apply below_drew1 | refine below_set ?_ GE265.out | refine below_set ?_ GE268.out) | exact HB.out)), Q_NB274_273, Q_NB273_274, z_BK273, Q_GW273, Q_GE273, Q_NB265_273, Q_NB273_265, Q_NB268_273, Q_NB273_268, z_BK274, Q_GW274, Q_GE274, Q_NB265_274, Q_NB274_265, Q_NB268_274, Q_NB274_268, fun h0_ => absurd ((hoff 10 (by kernel_rfl)).symm.trans h0_) (by decide), fun h0_ => absurd ((hoff 11 (by kernel_rfl)).symm.trans h0_) (by decide), Q_X8_, Q_X9_⟩
     refine steps_cons ?_ ?_
     ·rintro b a w' ⟨gb273, gb274, m8_, m9_, ha, Q_BK265, Q_BK268, Q_HB, Q_NB274_273, Q_NB273_274, Q_BK273, Q_GW273, Q_GE273, Q_NB265_273, Q_NB273_265, Q_NB268_273, Q_NB273_268, Q_BK274, Q_GW274, Q_GE274, Q_NB265_274, Q_NB274_265, Q_NB268_274, Q_NB274_268, Q_BK273_e10, Q_BK274_e11, Q_X8_, Q_X9_⟩ hb_ hon hoff
      refine ⟨_, rfl, fun K hK => ?_⟩
      have e21 : a.tmps[21]? = some (.pointer (some ⟨gb268, 0, none⟩)) := by rw [ha]; exact (putSel_off rfl).trans rfl
      replace ha := Aside0.mk ha
      have BK265 := Aside0.mk Q_BK265
      have BK268 := Aside0.mk Q_BK268
      have HB := Aside0.mk Q_HB
      have hc0_ : w'.cell? ⟨gb268, 0, none⟩ = some (.int .u64 t266) := (blk_cell BK268.out 0).trans rfl
      have hc1_ : w'.cell? ⟨gb268, 1, none⟩ = some (.int .u64 t267) := (blk_cell BK268.out 1).trans rfl
      refine value_ (w1 := w') (v := .int .u64 t266) (by rfl) rfl ?_ ?_
      ·go_simp
       (try simp only [i64_w])
       try rfl
      refine hK.out _ _ ⟨gb273, gb274, m8_, m9_, (by rw [ha.out]; exact putSel_upk 2 hb_ rfl rfl rfl), Q_BK265, Q_BK268, Q_HB, Q_NB274_273, Q_NB273_274, Q_BK273, Q_GW273, Q_GE273, Q_NB265_273, Q_NB273_265, Q_NB268_273, Q_NB273_268, Q_BK274, Q_GW274, Q_GE274, Q_NB265_274, Q_NB274_265, Q_NB268_274, Q_NB274_268, fun h0_ => absurd ((hoff 10 (by kernel_rfl)).symm.trans h0_) (by decide), fun h0_ => absurd ((hoff 11 (by kernel_rfl)).symm.trans h0_) (by decide), Q_X8_, Q_X9_⟩
     refine steps_cons ?_ ?_
     ·rintro b a w' ⟨gb273, gb274, m8_, m9_, ha, Q_BK265, Q_BK268, Q_HB, Q_NB274_273, Q_NB273_274, Q_BK273, Q_GW273, Q_GE273, Q_NB265_273, Q_NB273_265, Q_NB268_273, Q_NB273_268, Q_BK274, Q_GW274, Q_GE274, Q_NB265_274, Q_NB274_265, Q_NB268_274, Q_NB274_268, Q_BK273_e10, Q_BK274_e11, Q_X8_, Q_X9_⟩ hb_ hon hoff
      refine ⟨_, rfl, fun K hK => ?_⟩
      have e22 : a.tmps[22]? = some (.int .u64 t266) := by rw [ha]; exact putSel_on (e := (5, 22, .int .u64 t266)) 2 rfl rfl (hon 5 (by kernel_rfl)) rfl
      have e23 : a.tmps[23]? = some (.int .u64 a1) := by rw [ha]; exact (putSel_off rfl).trans rfl
      replace ha := Aside0.mk ha
      have BK265 := Aside0.mk Q_BK265
      have BK268 := Aside0.mk Q_BK268
      have HB := Aside0.mk Q_HB
      refine goes_ Try.func30 (by kernel_rfl) rfl #[.int .u64 t266, .int .u64 a1] (by rfl) rfl rfl (by first | (simp only [List.map_toArray, List.map_cons, List.map_nil, Act.eval, Array.getD_eq_getD_getElem?, Option.getD_some, e22, e23]; done) | (simp only [List.map_toArray, List.map_cons, List.map_nil, Act.eval, Array.getD_eq_getD_getElem?, Option.getD_some, e22, e23]; rfl)) ?_
      with_reducible refine (overfallref01_Mul.calls k t266 a1 t271 t272 _ A7.out).mono ?_
      rintro e w51 ⟨rfl, hb⟩
      refine ⟨_, rfl, ?_⟩
      have n0_ := Aside0.mk (blk_below (by exact BK265.out) hb)
      have n1_ := Aside0.mk (blk_below (by exact BK268.out) hb)
      have n2_ := Aside0.mk (below_step (by repeat (first | (with_reducible first | exact HB.out | apply below_alloc | apply pw_below_drewN | apply below_drew1 | refine below_set ?_ GE265.out | refine below_set ?_ GE268.out) | exact HB.out)) hb)
      have z_BK273 := fun (h0_ : b 8 = true) (h1_ : b 10 = false) => (show w51.heap[gb273]? = some (.cells #[.int .u64 0, .int .u64 0] 50 (0, 0)) from by first | exact (blk_below (g := gb273) (o := .cells #[.int .u64 0, .int .u64 0] 50 (0, 0)) (by exact (Q_BK273 h0_ h1_)) hb))
      have z_BK274 := fun (h0_ : b 9 = true) (h1_ : b 11 = false) => (show w51.heap[gb274]? = some (.cells #[.int .u64 0, .int .u64 0] 50 (0, 0)) from by first | exact (blk_below (g := gb274) (o := .cells #[.int .u64 0, .int .u64 0] 50 (0, 0)) (by exact (Q_BK274 h0_ h1_)) hb))
      clear BK265
      clear BK268
      clear HB
      have BK265 := n0_
      have BK268 := n1_
      have HB := n2_
      clear n0_ n1_ n2_
      (try clear hb)
      (try clear hb2)
      (try clear hk)
      (try clear hi)
      refine hK.out _ _ ⟨gb273, gb274, m8_, m9_, (by rw [ha.out]; exact putSel_upk 3 hb_ rfl rfl rfl), (by exact BK265.out), (by exact BK268.out), (by repeat (first | (with_reducible first | exact HB.out | apply below_alloc | apply pw_below_drewN | apply below_drew1 | refine below_set ?_ GE265.out | refine below_set ?_ GE268.out) | exact HB.out)), Q_NB274_273, Q_NB273_274, z_BK273, Q_GW273, Q_GE273, Q_NB265_273, Q_NB273_265, Q_NB268_273, Q_NB273_268, z_BK274, Q_GW274, Q_GE274, Q_NB265_274, Q_NB274_265, Q_NB268_274, Q_NB274_268, fun h0_ => absurd ((hoff 10 (by kernel_rfl)).symm.trans h0_) (by decide), fun h0_ => absurd ((hoff 11 (by kernel_rfl)).symm.trans h0_) (by decide), Q_X8_, Q_X9_⟩
     refine steps_cons ?_ ?_
     ·rintro b a w' ⟨gb273, gb274, m8_, m9_, ha, Q_BK265, Q_BK268, Q_HB, Q_NB274_273, Q_NB273_274, Q_BK273, Q_GW273, Q_GE273, Q_NB265_273, Q_NB273_265, Q_NB268_273, Q_NB273_268, Q_BK274, Q_GW274, Q_GE274, Q_NB265_274, Q_NB274_265, Q_NB268_274, Q_NB274_268, Q_BK273_e10, Q_BK274_e11, Q_X8_, Q_X9_⟩ hb_ hon hoff
      refine ⟨_, rfl, fun K hK => ?_⟩
      replace ha := Aside0.mk ha
      have BK265 := Aside0.mk Q_BK265
      have BK268 := Aside0.mk Q_BK268
      have HB := Aside0.mk Q_HB
      refine box_step ?hg (N := 8) ?hd (cs := #[.int .u64 0, .int .u64 0]) (t := 50) ?hr ?_; (case hd => rfl); (case hg => rfl); (case hr => first | (go_simp; done) | (go_simp; rfl))
      intro gb273 hg w49 hbox hb
      have n0_ := Aside0.mk (blk_below (by exact BK265.out) hb)
      have n1_ := Aside0.mk (blk_below (by exact BK268.out) hb)
      have n2_ := Aside0.mk (below_step (by repeat (first | (with_reducible first | exact HB.out | apply below_alloc | apply pw_below_drewN | apply below_drew1 | refine below_set ?_ GE265.out | refine below_set ?_ GE268.out) | exact HB.out)) hb)
      have n3_ := Aside0.mk (hbox)
      have n4_ := Aside0.mk ((by rw [hg]; exact (below_size (by repeat (first | (with_reducible first | exact HB.out | apply below_alloc | apply pw_below_drewN | apply below_drew1 | refine below_set ?_ GE265.out | refine below_set ?_ GE268.out) | exact HB.out))) : w.heap.size ≤ gb273))
      have n5_ := Aside0.mk ((by rw [hg]; exact (below_size (by repeat (first | (with_reducible first | exact HB.out | apply below_alloc | apply pw_below_drewN | apply below_drew1 | refine below_set ?_ GE265.out | refine below_set ?_ GE268.out) | exact HB.out))) : w.heap.size ≤ gb273))
      have n6_ := Aside0.mk ((by rw [hg]; exact Nat.ne_of_lt (blk_lt (by exact BK265.out)) : gb265 ≠ gb273))
      have n7_ := Aside0.mk ((by rw [hg]; exact Nat.ne_of_gt (blk_lt (by exact BK265.out)) : gb273 ≠ gb265))
      have n8_ := Aside0.mk ((by rw [hg]; exact Nat.ne_of_lt (blk_lt (by exact BK268.out)) : gb268 ≠ gb273))
      have n9_ := Aside0.mk ((by rw [hg]; exact Nat.ne_of_gt (blk_lt (by exact BK268.out)) : gb273 ≠ gb268))
      have z_NB274_273 := fun (h0_ : up b 8 8 = true) (h1_ : up b 8 9 = true) => (show gb274 ≠ gb273 from ((by rw [hg]; exact Nat.ne_of_lt (blk_lt (by exact (Q_BK274 h1_ (hoff 11 (by kernel_rfl))))) : gb274 ≠ gb273)))
      have z_NB273_274 := fun (h0_ : up b 8 8 = true) (h1_ : up b 8 9 = true) => (show gb273 ≠ gb274 from ((by rw [hg]; exact Nat.ne_of_gt (blk_lt (by exact (Q_BK274 h1_ (hoff 11 (by kernel_rfl))))) : gb273 ≠ gb274)))
      have z_BK274 := fun (h0_ : b 9 = true) (h1_ : b 11 = false) => (show w49.heap[gb274]? = some (.cells #[.int .u64 0, .int .u64 0] 50 (0, 0)) from by first | exact (blk_below (g := gb274) (o := .cells #[.int .u64 0, .int .u64 0] 50 (0, 0)) (by exact (Q_BK274 h0_ h1_)) hb))
      clear BK265
      clear BK268
      clear HB
      have BK265 := n0_
      have BK268 := n1_
      have HB := n2_
      have BK273 := n3_
      have GW273 := n4_
      have GE273 := n5_
      have NB265_273 := n6_
      have NB273_265 := n7_
      have NB268_273 := n8_
      have NB273_268 := n9_
      clear n0_ n1_ n2_ n3_ n4_ n5_ n6_ n7_ n8_ n9_
      clear hb hbox hg
      refine hK.out _ _ ⟨gb273, gb274, (.pointer (some ⟨gb273, 0, none⟩)), m9_, (by rw [ha.out]; exact putSel_upk 4 hb_ rfl rfl rfl), (by exact BK265.out), (by exact BK268.out), (by repeat (first | (with_reducible first | exact HB.out | apply below_alloc | apply pw_below_drewN | apply below_drew1 | refine below_set ?_ GE265.out | refine below_set ?_ GE268.out | refine below_set ?_ GE273.out) | exact HB.out)), @z_NB274_273, @z_NB273_274, fun _ _ => (by exact BK273.out), fun _ => GW273.out, fun _ => GE273.out, fun _ => NB265_273.out, fun _ => NB273_265.out, fun _ => NB268_273.out, fun _ => NB273_268.out, z_BK274, Q_GW274, Q_GE274, Q_NB265_274, Q_NB274_265, Q_NB268_274, Q_NB274_268, fun h0_ => absurd ((hoff 10 (by kernel_rfl)).symm.trans h0_) (by decide), fun h0_ => absurd ((hoff 11 (by kernel_rfl)).symm.trans h0_) (by decide), fun _ => rfl, Q_X9_⟩
     refine steps_cons ?_ ?_
     ·rintro b a w' ⟨gb273, gb274, m8_, m9_, ha, Q_BK265, Q_BK268, Q_HB, Q_NB274_273, Q_NB273_274, Q_BK273, Q_GW273, Q_GE273, Q_NB265_273, Q_NB273_265, Q_NB268_273, Q_NB273_268, Q_BK274, Q_GW274, Q_GE274, Q_NB265_274, Q_NB274_265, Q_NB268_274, Q_NB274_268, Q_BK273_e10, Q_BK274_e11, Q_X8_, Q_X9_⟩ hb_ hon hoff
      refine ⟨_, rfl, fun K hK => ?_⟩
      replace ha := Aside0.mk ha
      have BK265 := Aside0.mk Q_BK265
      have BK268 := Aside0.mk Q_BK268
      have HB := Aside0.mk Q_HB
      refine box_step ?hg (N := 9) ?hd (cs := #[.int .u64 0, .int .u64 0]) (t := 50) ?hr ?_; (case hd => rfl); (case hg => rfl); (case hr => first | (go_simp; done) | (go_simp; rfl))
      intro gb274 hg w49 hbox hb
      have n0_ := Aside0.mk (blk_below (by exact BK265.out) hb)
      have n1_ := Aside0.mk (blk_below (by exact BK268.out) hb)
      have n2_ := Aside0.mk (below_step (by repeat (first | (with_reducible first | exact HB.out | apply below_alloc | apply pw_below_drewN | apply below_drew1 | refine below_set ?_ GE265.out | refine below_set ?_ GE268.out) | exact HB.out)) hb)
      have n3_ := Aside0.mk (hbox)
      have n4_ := Aside0.mk ((by rw [hg]; exact (below_size (by repeat (first | (with_reducible first | exact HB.out | apply below_alloc | apply pw_below_drewN | apply below_drew1 | refine below_set ?_ GE265.out | refine below_set ?_ GE268.out) | exact HB.out))) : w.heap.size ≤ gb274))
      have n5_ := Aside0.mk ((by rw [hg]; exact (below_size (by repeat (first | (with_reducible first | exact HB.out | apply below_alloc | apply pw_below_drewN | apply below_drew1 | refine below_set ?_ GE265.out | refine below_set ?_ GE268.out) | exact HB.out))) : w.heap.size ≤ gb274))
      have n6_ := Aside0.mk ((by rw [hg]; exact Nat.ne_of_lt (blk_lt (by exact BK265.out)) : gb265 ≠ gb274))
      have n7_ := Aside0.mk ((by rw [hg]; exact Nat.ne_of_gt (blk_lt (by exact BK265.out)) : gb274 ≠ gb265))
      have n8_ := Aside0.mk ((by rw [hg]; exact Nat.ne_of_lt (blk_lt (by exact BK268.out)) : gb268 ≠ gb274))
      have n9_ := Aside0.mk ((by rw [hg]; exact Nat.ne_of_gt (blk_lt (by exact BK268.out)) : gb274 ≠ gb268))
      have z_NB274_273 := fun (h0_ : up b 9 8 = true) (h1_ : up b 9 9 = true) => (show gb274 ≠ gb273 from ((by rw [hg]; exact Nat.ne_of_gt (blk_lt (by exact (Q_BK273 h0_ (hoff 10 (by kernel_rfl))))) : gb274 ≠ gb273)))
      have z_NB273_274 := fun (h0_ : up b 9 8 = true) (h1_ : up b 9 9 = true) => (show gb273 ≠ gb274 from ((by rw [hg]; exact Nat.ne_of_lt (blk_lt (by exact (Q_BK273 h0_ (hoff 10 (by kernel_rfl))))) : gb273 ≠ gb274)))
      have z_BK273 := fun (h0_ : b 8 = true) (h1_ : b 10 = false) => (show w49.heap[gb273]? = some (.cells #[.int .u64 0, .int .u64 0] 50 (0, 0)) from by first | exact (blk_below (g := gb273) (o := .cells #[.int .u64 0, .int .u64 0] 50 (0, 0)) (by exact (Q_BK273 h0_ h1_)) hb))
      clear BK265
      clear BK268
      clear HB
      have BK265 := n0_
      have BK268 := n1_
      have HB := n2_
      have BK274 := n3_
      have GW274 := n4_
      have GE274 := n5_
      have NB265_274 := n6_
      have NB274_265 := n7_
      have NB268_274 := n8_
      have NB274_268 := n9_
      clear n0_ n1_ n2_ n3_ n4_ n5_ n6_ n7_ n8_ n9_
      clear hb hbox hg
      refine hK.out _ _ ⟨gb273, gb274, m8_, (.pointer (some ⟨gb274, 0, none⟩)), (by rw [ha.out]; exact putSel_upk 5 hb_ rfl rfl rfl), (by exact BK265.out), (by exact BK268.out), (by repeat (first | (with_reducible first | exact HB.out | apply below_alloc | apply pw_below_drewN | apply below_drew1 | refine below_set ?_ GE265.out | refine below_set ?_ GE268.out | refine below_set ?_ GE274.out) | exact HB.out)), @z_NB274_273, @z_NB273_274, z_BK273, Q_GW273, Q_GE273, Q_NB265_273, Q_NB273_265, Q_NB268_273, Q_NB273_268, fun _ _ => (by exact BK274.out), fun _ => GW274.out, fun _ => GE274.out, fun _ => NB265_274.out, fun _ => NB274_265.out, fun _ => NB268_274.out, fun _ => NB274_268.out, fun h0_ => absurd ((hoff 10 (by kernel_rfl)).symm.trans h0_) (by decide), fun h0_ => absurd ((hoff 11 (by kernel_rfl)).symm.trans h0_) (by decide), Q_X8_, fun _ => rfl⟩
     refine steps_cons ?_ ?_
     ·rintro b a w' ⟨gb273, gb274, m8_, m9_, ha, Q_BK265, Q_BK268, Q_HB, Q_NB274_273, Q_NB273_274, Q_BK273, Q_GW273, Q_GE273, Q_NB265_273, Q_NB273_265, Q_NB268_273, Q_NB273_268, Q_BK274, Q_GW274, Q_GE274, Q_NB265_274, Q_NB274_265, Q_NB268_274, Q_NB274_268, Q_BK273_e10, Q_BK274_e11, Q_X8_, Q_X9_⟩ hb_ hon hoff
      refine ⟨_, rfl, fun K hK => ?_⟩
      have e8 : a.tmps[8]? = some (m8_) := by rw [ha]; exact putSel_on (e := (8, 8, m8_)) 4 rfl rfl (hon 8 (by kernel_rfl)) rfl
      rw [Q_X8_ (hon 8 (by kernel_rfl))] at e8
      have e20 : a.tmps[20]? = some (.agg #[.int .u64 t269, .int .u64 t270]) := by rw [ha]; exact putSel_on (e := (3, 20, .agg #[.int .u64 t269, .int .u64 t270])) 1 rfl rfl (hon 3 (by kernel_rfl)) rfl
      replace ha := Aside0.mk ha
      have BK265 := Aside0.mk Q_BK265
      have BK268 := Aside0.mk Q_BK268
      have HB := Aside0.mk Q_HB
      have NB274_273 := Aside0.mk (Q_NB274_273 (hon 8 (by kernel_rfl)) (hon 9 (by kernel_rfl)))
      have NB273_274 := Aside0.mk (Q_NB273_274 (hon 8 (by kernel_rfl)) (hon 9 (by kernel_rfl)))
      have BK273 := Aside0.mk (Q_BK273 (hon 8 (by kernel_rfl)) hb_)
      have GW273 := Aside0.mk (Q_GW273 (hon 8 (by kernel_rfl)))
      have GE273 := Aside0.mk (Q_GE273 (hon 8 (by kernel_rfl)))
      have NB265_273 := Aside0.mk (Q_NB265_273 (hon 8 (by kernel_rfl)))
      have NB273_265 := Aside0.mk (Q_NB273_265 (hon 8 (by kernel_rfl)))
      have NB268_273 := Aside0.mk (Q_NB268_273 (hon 8 (by kernel_rfl)))
      have NB273_268 := Aside0.mk (Q_NB273_268 (hon 8 (by kernel_rfl)))
      have BK274 := Aside0.mk (Q_BK274 (hon 9 (by kernel_rfl)) (hoff 11 (by kernel_rfl)))
      have GW274 := Aside0.mk (Q_GW274 (hon 9 (by kernel_rfl)))
      have GE274 := Aside0.mk (Q_GE274 (hon 9 (by kernel_rfl)))
      have NB265_274 := Aside0.mk (Q_NB265_274 (hon 9 (by kernel_rfl)))
      have NB274_265 := Aside0.mk (Q_NB274_265 (hon 9 (by kernel_rfl)))
      have NB268_274 := Aside0.mk (Q_NB268_274 (hon 9 (by kernel_rfl)))
      have NB274_268 := Aside0.mk (Q_NB274_268 (hon 9 (by kernel_rfl)))
      have hs54 : w'.cell? ⟨gb273, 0, none⟩ = some (.int .u64 0) := (blk_cell BK273.out 0).trans rfl
      have hfs54 := blk_frozen BK273.out 0
      have hns54_0 := NB265_273.out
      have hns54_1 := NB268_273.out
      have hns54_3 := NB274_273.out
      have hms54_0 := NB273_265.out
      have hms54_1 := NB273_268.out
      have hms54_3 := NB273_274.out
      have hs55 : w'.cell? ⟨gb273, 1, none⟩ = some (.int .u64 0) := (blk_cell BK273.out 1).trans rfl
      have hfs55 := blk_frozen BK273.out 1
      have hns55_0 := NB265_273.out
      have hns55_1 := NB268_273.out
      have hns55_3 := NB274_273.out
      have hms55_0 := NB273_265.out
      have hms55_1 := NB273_268.out
      have hms55_3 := NB273_274.out
      refine skip_ (w1 := ?_) (by rfl) rfl ?_ ?_
      rotate_left
      ·go_simp
       rfl
      refine hK.out _ _ ⟨gb273, gb274, m8_, m9_, (by rw [ha.out]; exact putSel_none (v := undef) rfl), (by refine blk_far ?_ NB265_273.out _; refine blk_far ?_ NB265_273.out _; exact BK265.out), (by refine blk_far ?_ NB268_273.out _; refine blk_far ?_ NB268_273.out _; exact BK268.out), (by repeat (first | (with_reducible first | exact HB.out | apply below_alloc | apply pw_below_drewN | apply below_drew1 | refine below_set ?_ GE265.out | refine below_set ?_ GE268.out | refine below_set ?_ GE273.out | refine below_set ?_ GE274.out) | exact HB.out)), fun _ _ => NB274_273.out, fun _ _ => NB273_274.out, fun _ h1_ => absurd ((up_self b 10).symm.trans h1_) (by decide), fun _ => GW273.out, fun _ => GE273.out, fun _ => NB265_273.out, fun _ => NB273_265.out, fun _ => NB268_273.out, fun _ => NB273_268.out, fun _ _ => (by refine blk_far ?_ NB274_273.out _; refine blk_far ?_ NB274_273.out _; exact BK274.out), fun _ => GW274.out, fun _ => GE274.out, fun _ => NB265_274.out, fun _ => NB274_265.out, fun _ => NB268_274.out, fun _ => NB274_268.out, fun _ => (by refine blk_put (cs := #[.int .u64 t269, .int .u64 0]) ?_ 1 _ rfl; refine blk_put (cs := #[.int .u64 0, .int .u64 0]) ?_ 0 _ rfl; exact BK273.out), fun h0_ => absurd ((hoff 11 (by kernel_rfl)).symm.trans h0_) (by decide), Q_X8_, Q_X9_⟩
     refine steps_cons ?_ ?_
     ·rintro b a w' ⟨gb273, gb274, m8_, m9_, ha, Q_BK265, Q_BK268, Q_HB, Q_NB274_273, Q_NB273_274, Q_BK273, Q_GW273, Q_GE273, Q_NB265_273, Q_NB273_265, Q_NB268_273, Q_NB273_268, Q_BK274, Q_GW274, Q_GE274, Q_NB265_274, Q_NB274_265, Q_NB268_274, Q_NB274_268, Q_BK273_e10, Q_BK274_e11, Q_X8_, Q_X9_⟩ hb_ hon hoff
      refine ⟨_, rfl, fun K hK => ?_⟩
      have e9 : a.tmps[9]? = some (m9_) := by rw [ha]; exact putSel_on (e := (9, 9, m9_)) 5 rfl rfl (hon 9 (by kernel_rfl)) rfl
      rw [Q_X9_ (hon 9 (by kernel_rfl))] at e9
      have e24 : a.tmps[24]? = some (.agg #[.int .u64 t271, .int .u64 t272]) := by rw [ha]; exact putSel_on (e := (7, 24, .agg #[.int .u64 t271, .int .u64 t272])) 3 rfl rfl (hon 7 (by kernel_rfl)) rfl
      replace ha := Aside0.mk ha
      have BK265 := Aside0.mk Q_BK265
      have BK268 := Aside0.mk Q_BK268
      have HB := Aside0.mk Q_HB
      have NB274_273 := Aside0.mk (Q_NB274_273 (hon 8 (by kernel_rfl)) (hon 9 (by kernel_rfl)))
      have NB273_274 := Aside0.mk (Q_NB273_274 (hon 8 (by kernel_rfl)) (hon 9 (by kernel_rfl)))
      have GW273 := Aside0.mk (Q_GW273 (hon 8 (by kernel_rfl)))
      have GE273 := Aside0.mk (Q_GE273 (hon 8 (by kernel_rfl)))
      have NB265_273 := Aside0.mk (Q_NB265_273 (hon 8 (by kernel_rfl)))
      have NB273_265 := Aside0.mk (Q_NB273_265 (hon 8 (by kernel_rfl)))
      have NB268_273 := Aside0.mk (Q_NB268_273 (hon 8 (by kernel_rfl)))
      have NB273_268 := Aside0.mk (Q_NB273_268 (hon 8 (by kernel_rfl)))
      have BK274 := Aside0.mk (Q_BK274 (hon 9 (by kernel_rfl)) hb_)
      have GW274 := Aside0.mk (Q_GW274 (hon 9 (by kernel_rfl)))
      have GE274 := Aside0.mk (Q_GE274 (hon 9 (by kernel_rfl)))
      have NB265_274 := Aside0.mk (Q_NB265_274 (hon 9 (by kernel_rfl)))
      have NB274_265 := Aside0.mk (Q_NB274_265 (hon 9 (by kernel_rfl)))
      have NB268_274 := Aside0.mk (Q_NB268_274 (hon 9 (by kernel_rfl)))
      have NB274_268 := Aside0.mk (Q_NB274_268 (hon 9 (by kernel_rfl)))
      have BK273 := Aside0.mk (Q_BK273_e10 (hon 10 (by kernel_rfl)))
      have hs56 : w'.cell? ⟨gb274, 0, none⟩ = some (.int .u64 0) := (blk_cell BK274.out 0).trans rfl
      have hfs56 := blk_frozen BK274.out 0
      have hns56_0 := NB265_274.out
      have hns56_1 := NB268_274.out
      have hns56_2 := NB273_274.out
      have hms56_0 := NB274_265.out
      have hms56_1 := NB274_268.out
      have hms56_2 := NB274_273.out
      have hs57 : w'.cell? ⟨gb274, 1, none⟩ = some (.int .u64 0) := (blk_cell BK274.out 1).trans rfl
      have hfs57 := blk_frozen BK274.out 1
      have hns57_0 := NB265_274.out
      have hns57_1 := NB268_274.out
      have hns57_2 := NB273_274.out
      have hms57_0 := NB274_265.out
      have hms57_1 := NB274_268.out
      have hms57_2 := NB274_273.out
      refine skip_ (w1 := ?_) (by rfl) rfl ?_ ?_
      rotate_left
      ·go_simp
       rfl
      refine hK.out _ _ ⟨gb273, gb274, m8_, m9_, (by rw [ha.out]; exact putSel_none (v := undef) rfl), (by refine blk_far ?_ NB265_274.out _; refine blk_far ?_ NB265_274.out _; exact BK265.out), (by refine blk_far ?_ NB268_274.out _; refine blk_far ?_ NB268_274.out _; exact BK268.out), (by repeat (first | (with_reducible first | exact HB.out | apply below_alloc | apply pw_below_drewN | apply below_drew1 | refine below_set ?_ GE265.out | refine below_set ?_ GE268.out | refine below_set ?_ GE273.out | refine below_set ?_ GE274.out) | exact HB.out)), fun _ _ => NB274_273.out, fun _ _ => NB273_274.out, fun _ h1_ => absurd ((hon 10 (by kernel_rfl)).symm.trans h1_) (by decide), fun _ => GW273.out, fun _ => GE273.out, fun _ => NB265_273.out, fun _ => NB273_265.out, fun _ => NB268_273.out, fun _ => NB273_268.out, fun _ h1_ => absurd ((up_self b 11).symm.trans h1_) (by decide), fun _ => GW274.out, fun _ => GE274.out, fun _ => NB265_274.out, fun _ => NB274_265.out, fun _ => NB268_274.out, fun _ => NB274_268.out, fun _ => (by refine blk_far ?_ NB273_274.out _; refine blk_far ?_ NB273_274.out _; exact BK273.out), fun _ => (by refine blk_put (cs := #[.int .u64 t271, .int .u64 0]) ?_ 1 _ rfl; refine blk_put (cs := #[.int .u64 0, .int .u64 0]) ?_ 0 _ rfl; exact BK274.out), Q_X8_, Q_X9_⟩
     exact steps_nil
    rintro b a w57 hall ⟨gb273, gb274, m8_, m9_, ha, Q_BK265, Q_BK268, Q_HB, Q_NB274_273, Q_NB273_274, Q_BK273, Q_GW273, Q_GE273, Q_NB265_273, Q_NB273_265, Q_NB268_273, Q_NB273_268, Q_BK274, Q_GW274, Q_GE274, Q_NB265_274, Q_NB274_265, Q_NB268_274, Q_NB274_268, Q_BK273_e10, Q_BK274_e11, Q_X8_, Q_X9_⟩
    clear BK265 BK268 HB
    have hb1_ := hall 1 (by kernel_rfl)
    have hb3_ := hall 3 (by kernel_rfl)
    have hb5_ := hall 5 (by kernel_rfl)
    have hb7_ := hall 7 (by kernel_rfl)
    have hb8_ := hall 8 (by kernel_rfl)
    have hb9_ := hall 9 (by kernel_rfl)
    have hb10_ := hall 10 (by kernel_rfl)
    have hb11_ := hall 11 (by kernel_rfl)
    subst ha
    obtain rfl := Q_X8_ hb8_
    obtain rfl := Q_X9_ hb9_
    simp only [putSel, hb1_, hb3_, hb5_, hb7_, hb8_, hb9_, hb10_, hb11_, if_true, Act.put, List.setIfInBounds_toArray, List.set_cons_zero, List.set_cons_succ]
    have BK265 := Aside0.mk Q_BK265
    clear Q_BK265
    have BK268 := Aside0.mk Q_BK268
    clear Q_BK268
    have HB := Aside0.mk Q_HB
    clear Q_HB
    have NB274_273 := Aside0.mk (Q_NB274_273 hb8_ hb9_)
    clear Q_NB274_273
    have NB273_274 := Aside0.mk (Q_NB273_274 hb8_ hb9_)
    clear Q_NB273_274
    clear Q_BK273
    have GW273 := Aside0.mk (Q_GW273 hb8_)
    clear Q_GW273
    have GE273 := Aside0.mk (Q_GE273 hb8_)
    clear Q_GE273
    have NB265_273 := Aside0.mk (Q_NB265_273 hb8_)
    clear Q_NB265_273
    have NB273_265 := Aside0.mk (Q_NB273_265 hb8_)
    clear Q_NB273_265
    have NB268_273 := Aside0.mk (Q_NB268_273 hb8_)
    clear Q_NB268_273
    have NB273_268 := Aside0.mk (Q_NB273_268 hb8_)
    clear Q_NB273_268
    clear Q_BK274
    have GW274 := Aside0.mk (Q_GW274 hb9_)
    clear Q_GW274
    have GE274 := Aside0.mk (Q_GE274 hb9_)
    clear Q_GE274
    have NB265_274 := Aside0.mk (Q_NB265_274 hb9_)
    clear Q_NB265_274
    have NB274_265 := Aside0.mk (Q_NB274_265 hb9_)
    clear Q_NB274_265
    have NB268_274 := Aside0.mk (Q_NB268_274 hb9_)
    clear Q_NB268_274
    have NB274_268 := Aside0.mk (Q_NB274_268 hb9_)
    clear Q_NB274_268
    have BK273 := Aside0.mk (Q_BK273_e10 hb10_)
    clear Q_BK273_e10
    have BK274 := Aside0.mk (Q_BK274_e11 hb11_)
    clear Q_BK274_e11
    clear hall hb1_ hb3_ hb5_ hb7_ hb8_ hb9_ hb10_ hb11_
    have hnb58 := NB273_265.out
    have hnc58 := NB265_273.out
    have hnb59 := NB273_268.out
    have hnc59 := NB268_273.out
    have hnb60 := NB273_274.out
    have hnc60 := NB274_273.out
    have hcz61_0 : w57.cell? ⟨gb273, 0, none⟩ = some (.int .u64 t269) := (blk_cell BK273.out 0).trans rfl
    have hcz61_1 : w57.cell? ⟨gb273, 1, none⟩ = some (.int .u64 t270) := (blk_cell BK273.out 1).trans rfl
    have hfz61_0 := blk_frozen BK273.out 0
    have hfz61_1 := blk_frozen BK273.out 1
    have hnb62 := NB274_265.out
    have hnc62 := NB265_274.out
    have hnb63 := NB274_268.out
    have hnc63 := NB268_274.out
    have hcz64_0 : w57.cell? ⟨gb274, 0, none⟩ = some (.int .u64 t271) := (blk_cell BK274.out 0).trans rfl
    have hcz64_1 : w57.cell? ⟨gb274, 1, none⟩ = some (.int .u64 t272) := (blk_cell BK274.out 1).trans rfl
    have hfz64_0 := blk_frozen BK274.out 0
    have hfz64_1 := blk_frozen BK274.out 1
    try go_wp2_with (first | ((with_reducible refine gate_callee (f := 23) rfl ?_); refine goesL_ (some 30) rfl rfl Try.func23 (by kernel_rfl) rfl #[.agg #[.int .u64 t269, .int .u64 t270], .agg #[.int .u64 t272, .int .u64 0]] rfl (by (try simp only [List.map_toArray, List.map_cons, List.map_nil]); first | done | rfl | (simp only [List.length_drop, List.length_take]; rfl)) ?_; (with_reducible refine (overfallref01_Add.calls k t269 t270 t272 0 t275 t276 true _ A8.out).mono ?_); rintro e w65 ⟨rfl, hb⟩; refine ⟨_, rfl, ?_⟩; have n0_ := Aside0.mk (blk_below (by exact BK265.out) hb); have n1_ := Aside0.mk (blk_below (by exact BK268.out) hb); have n2_ := Aside0.mk (blk_below (by exact BK273.out) hb); have n3_ := Aside0.mk (blk_below (by exact BK274.out) hb); have n4_ := Aside0.mk (below_step (by repeat (first | (with_reducible first | exact HB.out | apply below_alloc | apply pw_below_drewN | apply below_drew1 | refine below_set ?_ GE265.out | refine below_set ?_ GE268.out | refine below_set ?_ GE273.out | refine below_set ?_ GE274.out) | exact HB.out)) hb); clear BK265; clear BK268; clear BK273; clear BK274; clear HB; have BK265 := n0_; have BK268 := n1_; have BK273 := n2_; have BK274 := n3_; have HB := n4_; clear n0_ n1_ n2_ n3_ n4_; (try clear hb); (try clear hb2); (try clear hk); (try clear hi)) | ((with_reducible refine gate_dst (N := 10) rfl ?_); refine box_event ?hg (N := 10) ?hd (cs := #[.int .u64 0, .int .u64 0]) (t := 50) ?hr ?_; (case hd => rfl); (case hg => rfl); (case hr => first | (go_simp; done) | (go_simp; rfl)); intro gb278 hg w66 hbox hb; have n0_ := Aside0.mk (blk_below (by exact BK265.out) hb); have n1_ := Aside0.mk (blk_below (by exact BK268.out) hb); have n2_ := Aside0.mk (blk_below (by exact BK273.out) hb); have n3_ := Aside0.mk (blk_below (by exact BK274.out) hb); have n4_ := Aside0.mk (below_step (by repeat (first | (with_reducible first | exact HB.out | apply below_alloc | apply pw_below_drewN | apply below_drew1 | refine below_set ?_ GE265.out | refine below_set ?_ GE268.out | refine below_set ?_ GE273.out | refine below_set ?_ GE274.out) | exact HB.out)) hb); have n5_ := Aside0.mk (hbox); have n6_ := Aside0.mk ((by rw [hg]; exact (below_size (by repeat (first | (with_reducible first | exact HB.out | apply below_alloc | apply pw_below_drewN | apply below_drew1 | refine below_set ?_ GE265.out | refine below_set ?_ GE268.out | refine below_set ?_ GE273.out | refine below_set ?_ GE274.out) | exact HB.out))) : w.heap.size ≤ gb278)); have n7_ := Aside0.mk ((by rw [hg]; exact (below_size (by repeat (first | (with_reducible first | exact HB.out | apply below_alloc | apply pw_below_drewN | apply below_drew1 | refine below_set ?_ GE265.out | refine below_set ?_ GE268.out | refine below_set ?_ GE273.out | refine below_set ?_ GE274.out) | exact HB.out))) : w.heap.size ≤ gb278)); have n8_ := Aside0.mk ((by rw [hg]; exact Nat.ne_of_lt (blk_lt (by exact BK265.out)) : gb265 ≠ gb278)); have n9_ := Aside0.mk ((by rw [hg]; exact Nat.ne_of_gt (blk_lt (by exact BK265.out)) : gb278 ≠ gb265)); have n10_ := Aside0.mk ((by rw [hg]; exact Nat.ne_of_lt (blk_lt (by exact BK268.out)) : gb268 ≠ gb278)); have n11_ := Aside0.mk ((by rw [hg]; exact Nat.ne_of_gt (blk_lt (by exact BK268.out)) : gb278 ≠ gb268)); have n12_ := Aside0.mk ((by rw [hg]; exact Nat.ne_of_lt (blk_lt (by exact BK273.out)) : gb273 ≠ gb278)); have n13_ := Aside0.mk ((by rw [hg]; exact Nat.ne_of_gt (blk_lt (by exact BK273.out)) : gb278 ≠ gb273)); have n14_ := Aside0.mk ((by rw [hg]; exact Nat.ne_of_lt (blk_lt (by exact BK274.out)) : gb274 ≠ gb278)); have n15_ := Aside0.mk ((by rw [hg]; exact Nat.ne_of_gt (blk_lt (by exact BK274.out)) : gb278 ≠ gb274)); clear BK265; clear BK268; clear BK273; clear BK274; clear HB; have BK265 := n0_; have BK268 := n1_; have BK273 := n2_; have BK274 := n3_; have HB := n4_; have BK278 := n5_; have GW278 := n6_; have GE278 := n7_; have NB265_278 := n8_; have NB278_265 := n9_; have NB268_278 := n10_; have NB278_268 := n11_; have NB273_278 := n12_; have NB278_273 := n13_; have NB274_278 := n14_; have NB278_274 := n15_; clear n0_ n1_ n2_ n3_ n4_ n5_ n6_ n7_ n8_ n9_ n10_ n11_ n12_ n13_ n14_ n15_; clear hb hbox hg; have hnb67 := NB278_265.out; have hnc67 := NB265_278.out; have hnb68 := NB278_268.out; have hnc68 := NB268_278.out; have hnb69 := NB278_273.out; have hnc69 := NB273_278.out; have hnb70 := NB278_274.out; have hnc70 := NB274_278.out; have hcz71_0 : w66.cell? ⟨gb278, 0, none⟩ = some (.int .u64 0) := (blk_cell BK278.out 0).trans rfl; have hcz71_1 : w66.cell? ⟨gb278, 1, none⟩ = some (.int .u64 0) := (blk_cell BK278.out 1).trans rfl; have hfz71_0 := blk_frozen BK278.out 0; have hfz71_1 := blk_frozen BK278.out 1; have hcz72_0 : w66.cell? ⟨gb274, 0, none⟩ = some (.int .u64 t271) := (blk_cell BK274.out 0).trans rfl; have hcz72_1 : w66.cell? ⟨gb274, 1, none⟩ = some (.int .u64 t272) := (blk_cell BK274.out 1).trans rfl; have hfz72_0 := blk_frozen BK274.out 0; have hfz72_1 := blk_frozen BK274.out 1))
    go_ret
    exact ⟨by first | rfl | (simp [errW_none, errW_some] <;> rfl) | (simp [*, errW_none, errW_some] <;> rfl), by repeat (first | (with_reducible first | exact HB.out | apply below_alloc | apply pw_below_drewN | apply below_drew1 | refine below_set ?_ GE265.out | refine below_set ?_ GE268.out | refine below_set ?_ GE273.out | refine below_set ?_ GE274.out | refine below_set ?_ GE278.out) | exact HB.out)⟩
   ·replace c41 := Bool.eq_false_iff.mpr c41
    subst c41
    have H1 : ((overfallref01_Less.f a2_0 a2_1 t275 t276).bind fun t279 => (some (!t279))) = some r := by rw [if_neg (show ¬ (false = true) by decide)] at H; exact H
    clear H
    have H := H1
    clear H1
    replace H := Option.bind_eq_some_iff.mp H
    obtain ⟨t279, A730, H⟩ := H
    replace H : (some (!t279)) = some r := H
    have A73 := Aside0.mk A730
    clear A730
    obtain rfl := Option.some.inj H
    go_enter Try.func39, Try.ntmps39
    try go_wp2_with (first | ((with_reducible refine gate_dst (N := 5) rfl ?_); refine box_event ?hg (N := 5) ?hd (cs := #[.int .u64 a2_0, .int .u64 a2_1]) (t := 50) ?hr ?_; (case hd => rfl); (case hg => rfl); (case hr => first | (go_simp; done) | (go_simp; rfl)); intro gb265 hg w74 hbox hb; have n0_ := Aside0.mk (below_step (by repeat (first | (with_reducible first | exact HB.out | apply below_alloc | apply pw_below_drewN | apply below_drew1) | exact HB.out)) hb); have n1_ := Aside0.mk (hbox); have n2_ := Aside0.mk ((by rw [hg]; exact (below_size (by repeat (first | (with_reducible first | exact HB.out | apply below_alloc | apply pw_below_drewN | apply below_drew1) | exact HB.out))) : w.heap.size ≤ gb265)); have n3_ := Aside0.mk ((by rw [hg]; exact (below_size (by repeat (first | (with_reducible first | exact HB.out | apply below_alloc | apply pw_below_drewN | apply below_drew1) | exact HB.out))) : w.heap.size ≤ gb265)); clear HB; have HB := n0_; have BK265 := n1_; have GW265 := n2_; have GE265 := n3_; clear n0_ n1_ n2_ n3_; clear hb hbox hg) | ((with_reducible refine gate_callee (f := 30) rfl ?_); refine goesL_ (some 14) rfl rfl Try.func30 (by kernel_rfl) rfl #[.int .u64 a0, .int .u64 a0] rfl (by (try simp only [List.map_toArray, List.map_cons, List.map_nil]); first | done | rfl | (simp only [List.length_drop, List.length_take]; rfl)) ?_; (with_reducible refine (overfallref01_Mul.calls k a0 a0 t266 t267 _ A4.out).mono ?_); rintro e w75 ⟨rfl, hb⟩; refine ⟨_, rfl, ?_⟩; have n0_ := Aside0.mk (blk_below (by exact BK265.out) hb); have n1_ := Aside0.mk (below_step (by repeat (first | (with_reducible first | exact HB.out | apply below_alloc | apply pw_below_drewN | apply below_drew1 | refine below_set ?_ GE265.out) | exact HB.out)) hb); clear BK265; clear HB; have BK265 := n0_; have HB := n1_; clear n0_ n1_; (try clear hb); (try clear hb2); (try clear hk); (try clear hi)) | ((with_reducible refine gate_dst (N := 7) rfl ?_); refine box_event ?hg (N := 7) ?hd (cs := #[.int .u64 0, .int .u64 0]) (t := 50) ?hr ?_; (case hd => rfl); (case hg => rfl); (case hr => first | (go_simp; done) | (go_simp; rfl)); intro gb268 hg w76 hbox hb; have n0_ := Aside0.mk (blk_below (by exact BK265.out) hb); have n1_ := Aside0.mk (below_step (by repeat (first | (with_reducible first | exact HB.out | apply below_alloc | apply pw_below_drewN | apply below_drew1 | refine below_set ?_ GE265.out) | exact HB.out)) hb); have n2_ := Aside0.mk (hbox); have n3_ := Aside0.mk ((by rw [hg]; exact (below_size (by repeat (first | (with_reducible first | exact HB.out | apply below_alloc | apply pw_below_drewN | apply below_drew1 | refine below_set ?_ GE265.out) | exact HB.out))) : w.heap.size ≤ gb268)); have n4_ := Aside0.mk ((by rw [hg]; exact (below_size (by repeat (first | (with_reducible first | exact HB.out | apply below_alloc | apply pw_below_drewN | apply below_drew1 | refine below_set ?_ GE265.out) | exact HB.out))) : w.heap.size ≤ gb268)); have n5_ := Aside0.mk ((by rw [hg]; exact Nat.ne_of_lt (blk_lt (by exact BK265.out)) : gb265 ≠ gb268)); have n6_ := Aside0.mk ((by rw [hg]; exact Nat.ne_of_gt (blk_lt (by exact BK265.out)) : gb268 ≠ gb265)); clear BK265; clear HB; have BK265 := n0_; have HB := n1_; have BK268 := n2_; have GW268 := n3_; have GE268 := n4_; have NB265_268 := n5_; have NB268_265 := n6_; clear n0_ n1_ n2_ n3_ n4_ n5_ n6_; clear hb hbox hg; have hnb77 := NB268_265.out; have hnc77 := NB265_268.out; have hcz78_0 : w76.cell? ⟨gb268, 0, none⟩ = some (.int .u64 0) := (blk_cell BK268.out 0).trans rfl; have hcz78_1 : w76.cell? ⟨gb268, 1, none⟩ = some (.int .u64 0) := (blk_cell BK268.out 1).trans rfl; have hfz78_0 := blk_frozen BK268.out 0; have hfz78_1 := blk_frozen BK268.out 1))
    have n0_ : Aside0 (((w76.setCell ⟨gb268, 0, none⟩ (.int .u64 t266)).setCell ⟨gb268, 1, none⟩ (.int .u64 t267)).heap[gb265]? = some (.cells #[.int .u64 a2_0, .int .u64 a2_1] 50 (0, 0))) := ⟨by refine blk_far ?_ NB265_268.out _; refine blk_far ?_ NB265_268.out _; exact BK265.out⟩
    have n1_ : Aside0 (((w76.setCell ⟨gb268, 0, none⟩ (.int .u64 t266)).setCell ⟨gb268, 1, none⟩ (.int .u64 t267)).heap[gb268]? = some (.cells #[.int .u64 t266, .int .u64 t267] 50 (0, 0))) := ⟨by refine blk_put (cs := #[.int .u64 t266, .int .u64 0]) ?_ 1 _ rfl; refine blk_put (cs := #[.int .u64 0, .int .u64 0]) ?_ 0 _ rfl; exact BK268.out⟩
    have n2_ : Aside0 (Below w.heap.size w ((w76.setCell ⟨gb268, 0, none⟩ (.int .u64 t266)).setCell ⟨gb268, 1, none⟩ (.int .u64 t267))) := ⟨by repeat (first | (with_reducible first | exact HB.out | apply below_alloc | apply pw_below_drewN | apply below_drew1 | refine below_set ?_ GE265.out | refine below_set ?_ GE268.out) | exact HB.out)⟩
    (try clear BK265)
    (try clear BK268)
    (try clear HB)
    generalize ((w76.setCell ⟨gb268, 0, none⟩ (.int .u64 t266)).setCell ⟨gb268, 1, none⟩ (.int .u64 t267)) = w79 at n0_ n1_ n2_ ⊢
    have BK265 := n0_
    have BK268 := n1_
    have HB := n2_
    clear n0_ n1_ n2_
    have n0_ := Aside0.mk (blk_drew BK265.out)
    have n1_ := Aside0.mk (blk_drew BK268.out)
    have n2_ := Aside0.mk (below_drew1 HB.out)
    clear BK265
    clear BK268
    clear HB
    have BK265 := n0_
    have BK268 := n1_
    have HB := n2_
    clear n0_ n1_ n2_
    refine start_ (n := 12) (S := fun w' => True) (ds := []) #[false, false, false, false, false, false, false, false, false, false, false, false] (by kernel_rfl) rfl rfl trivial (fun hHeld => ?_); refine with_tabW overfallref03_Fits.tab3 overfallref03_Fits.bits3 (fun HT_ HW_ => ?_)
    generalize w79.drew = w80 at BK265 BK268 HB hHeld ⊢
    refine pure_ (i := 0) (N := some 17) (v := ?_) (a' := ?_) #[true, false, false, false, false, false, false, false, false, false, false, false] rfl rfl (any_of HT_.out (by kernel_rfl)) (fun _ _ _ h => h) (Or.inl ⟨by rfl, ?_⟩) ?_ ?_
    rotate_left
    ·intro w'
     go_simp
     with_reducible rfl
    rotate_left
    ·simp only [Act.put, List.setIfInBounds_toArray, List.set_cons_zero, List.set_cons_succ, i64_w, i32_w]
     rfl
    refine pure_ (i := 2) (N := some 19) (v := ?_) (a' := ?_) #[true, false, true, false, false, false, false, false, false, false, false, false] rfl rfl (any_of HT_.out (by kernel_rfl)) (fun _ _ _ h => h) (Or.inl ⟨by rfl, ?_⟩) ?_ ?_
    rotate_left
    ·intro w'
     go_simp
     with_reducible rfl
    rotate_left
    ·simp only [Act.put, List.setIfInBounds_toArray, List.set_cons_zero, List.set_cons_succ, i64_w, i32_w]
     rfl
    refine pure_ (i := 4) (N := some 21) (v := ?_) (a' := ?_) #[true, false, true, false, true, false, false, false, false, false, false, false] rfl rfl (any_of HT_.out (by kernel_rfl)) (fun _ _ _ h => h) (Or.inl ⟨by rfl, ?_⟩) ?_ ?_
    rotate_left
    ·intro w'
     go_simp
     with_reducible rfl
    rotate_left
    ·simp only [Act.put, List.setIfInBounds_toArray, List.set_cons_zero, List.set_cons_succ, i64_w, i32_w]
     rfl
    refine pure_ (i := 6) (N := some 23) (v := ?_) (a' := ?_) #[true, false, true, false, true, false, true, false, false, false, false, false] rfl rfl (any_of HT_.out (by kernel_rfl)) (fun _ _ _ h => h) (Or.inl ⟨by rfl, ?_⟩) ?_ ?_
    rotate_left
    ·intro w'
     go_simp
     with_reducible rfl
    rotate_left
    ·simp only [Act.put, List.setIfInBounds_toArray, List.set_cons_zero, List.set_cons_succ, i64_w, i32_w]
     rfl
    refine inv_at [1, 3, 5, 7, 8, 9, 10, 11] (fun a0_ b a w' => ∃ (gb273 : Nat) (gb274 : Nat) (m8_ : Value) (m9_ : Value), a = putSel a0_ b [(1, 18, .int .u64 t267), (3, 20, .agg #[.int .u64 t269, .int .u64 t270]), (5, 22, .int .u64 t266), (7, 24, .agg #[.int .u64 t271, .int .u64 t272]), (8, 8, m8_), (9, 9, m9_)] ∧ (w'.heap[gb265]? = some (.cells #[.int .u64 a2_0, .int .u64 a2_1] 50 (0, 0))) ∧ (w'.heap[gb268]? = some (.cells #[.int .u64 t266, .int .u64 t267] 50 (0, 0))) ∧ (Below w.heap.size w w') ∧ (b 8 = true → b 9 = true → gb274 ≠ gb273) ∧ (b 8 = true → b 9 = true → gb273 ≠ gb274) ∧ (b 8 = true → b 10 = false → w'.heap[gb273]? = some (.cells #[.int .u64 0, .int .u64 0] 50 (0, 0))) ∧ (b 8 = true → w.heap.size ≤ gb273) ∧ (b 8 = true → w.heap.size ≤ gb273) ∧ (b 8 = true → gb265 ≠ gb273) ∧ (b 8 = true → gb273 ≠ gb265) ∧ (b 8 = true → gb268 ≠ gb273) ∧ (b 8 = true → gb273 ≠ gb268) ∧ (b 9 = true → b 11 = false → w'.heap[gb274]? = some (.cells #[.int .u64 0, .int .u64 0] 50 (0, 0))) ∧ (b 9 = true → w.heap.size ≤ gb274) ∧ (b 9 = true → w.heap.size ≤ gb274) ∧ (b 9 = true → gb265 ≠ gb274) ∧ (b 9 = true → gb274 ≠ gb265) ∧ (b 9 = true → gb268 ≠ gb274) ∧ (b 9 = true → gb274 ≠ gb268) ∧ (b 10 = true → w'.heap[gb273]? = some (.cells #[.int .u64 t269, .int .u64 t270] 50 (0, 0))) ∧ (b 11 = true → w'.heap[gb274]? = some (.cells #[.int .u64 t271, .int .u64 t272] 50 (0, 0))) ∧ (b 8 = true → (m8_ : Value) = .pointer (some ⟨gb273, 0, none⟩)) ∧ (b 9 = true → (m9_ : Value) = .pointer (some ⟨gb274, 0, none⟩))) HT_.out HW_.out (by kernel_rfl) (by kernel_rfl) ?_ ?_ ?_
    ·exact ⟨0, 0, .bool false, .bool false, by simp only [putSel, Bool.false_eq_true, if_false], BK265.out, BK268.out, HB.out, fun h_ => absurd h_ (by decide), fun h_ => absurd h_ (by decide), fun h_ => absurd h_ (by decide), fun h_ => absurd h_ (by decide), fun h_ => absurd h_ (by decide), fun h_ => absurd h_ (by decide), fun h_ => absurd h_ (by decide), fun h_ => absurd h_ (by decide), fun h_ => absurd h_ (by decide), fun h_ => absurd h_ (by decide), fun h_ => absurd h_ (by decide), fun h_ => absurd h_ (by decide), fun h_ => absurd h_ (by decide), fun h_ => absurd h_ (by decide), fun h_ => absurd h_ (by decide), fun h_ => absurd h_ (by decide), fun h_ => absurd h_ (by decide), fun h_ => absurd h_ (by decide), fun h_ => absurd h_ (by decide), fun h_ => absurd h_ (by decide)⟩
    ·skip
     clear BK265 BK268 HB
     refine steps_cons ?_ ?_
     ·rintro b a w' ⟨gb273, gb274, m8_, m9_, ha, Q_BK265, Q_BK268, Q_HB, Q_NB274_273, Q_NB273_274, Q_BK273, Q_GW273, Q_GE273, Q_NB265_273, Q_NB273_265, Q_NB268_273, Q_NB273_268, Q_BK274, Q_GW274, Q_GE274, Q_NB265_274, Q_NB274_265, Q_NB268_274, Q_NB274_268, Q_BK273_e10, Q_BK274_e11, Q_X8_, Q_X9_⟩ hb_ hon hoff
      refine ⟨_, rfl, fun K hK => ?_⟩
      have e17 : a.tmps[17]? = some (.pointer (some ⟨gb268, 1, none⟩)) := by rw [ha]; exact (putSel_off rfl).trans rfl
      replace ha := Aside0.mk ha
      have BK265 := Aside0.mk Q_BK265
      have BK268 := Aside0.mk Q_BK268
      have HB := Aside0.mk Q_HB
      have hc0_ : w'.cell? ⟨gb268, 0, none⟩ = some (.int .u64 t266) := (blk_cell BK268.out 0).trans rfl
      have hc1_ : w'.cell? ⟨gb268, 1, none⟩ = some (.int .u64 t267) := (blk_cell BK268.out 1).trans rfl
      refine value_ (w1 := w') (v := .int .u64 t267) (by rfl) rfl ?_ ?_
      ·go_simp
       (try simp only [i64_w])
       try rfl
      refine hK.out _ _ ⟨gb273, gb274, m8_, m9_, (by rw [ha.out]; exact putSel_upk 0 hb_ rfl rfl rfl), Q_BK265, Q_BK268, Q_HB, Q_NB274_273, Q_NB273_274, Q_BK273, Q_GW273, Q_GE273, Q_NB265_273, Q_NB273_265, Q_NB268_273, Q_NB273_268, Q_BK274, Q_GW274, Q_GE274, Q_NB265_274, Q_NB274_265, Q_NB268_274, Q_NB274_268, fun h0_ => absurd ((hoff 10 (by kernel_rfl)).symm.trans h0_) (by decide), fun h0_ => absurd ((hoff 11 (by kernel_rfl)).symm.trans h0_) (by decide), Q_X8_, Q_X9_⟩
     refine steps_cons ?_ ?_
     ·rintro b a w' ⟨gb273, gb274, m8_, m9_, ha, Q_BK265, Q_BK268, Q_HB, Q_NB274_273, Q_NB273_274, Q_BK273, Q_GW273, Q_GE273, Q_NB265_273, Q_NB273_265, Q_NB268_273, Q_NB273_268, Q_BK274, Q_GW274, Q_GE274, Q_NB265_274, Q_NB274_265, Q_NB268_274, Q_NB274_268, Q_BK273_e10, Q_BK274_e11, Q_X8_, Q_X9_⟩ hb_ hon hoff
      refine ⟨_, rfl, fun K hK => ?_⟩
      have e18 : a.tmps[18]? = some (.int .u64 t267) := by rw [ha]; exact putSel_on (e := (1, 18, .int .u64 t267)) 0 rfl rfl (hon 1 (by kernel_rfl)) rfl
      have e19 : a.tmps[19]? = some (.int .u64 a1) := by rw [ha]; exact (putSel_off rfl).trans rfl
      replace ha := Aside0.mk ha
      have BK265 := Aside0.mk Q_BK265
      have BK268 := Aside0.mk Q_BK268
      have HB := Aside0.mk Q_HB
      refine goes_ Try.func30 (by kernel_rfl) rfl #[.int .u64 t267, .int .u64 a1] (by rfl) rfl rfl (by first | (simp only [List.map_toArray, List.map_cons, List.map_nil, Act.eval, Array.getD_eq_getD_getElem?, Option.getD_some, e18, e19]; done) | (simp only [List.map_toArray, List.map_cons, List.map_nil, Act.eval, Array.getD_eq_getD_getElem?, Option.getD_some, e18, e19]; rfl)) ?_
      with_reducible refine (overfallref01_Mul.calls k t267 a1 t269 t270 _ A6.out).mono ?_
      rintro e w81 ⟨rfl, hb⟩
      refine ⟨_, rfl, ?_⟩
      have n0_ := Aside0.mk (blk_below (by exact BK265.out) hb)
      have n1_ := Aside0.mk (blk_below (by exact BK268.out) hb)
      have n2_ := Aside0.mk (below_step (by repeat (first | (with_reducible first | exact HB.out | apply below_alloc | apply pw_below_drewN | apply below_drew1 | refine below_set ?_ GE265.out | refine below_set ?_ GE268.out) | exact HB.out)) hb)
      have z_BK273 := fun (h0_ : b 8 = true) (h1_ : b 10 = false) => (show w81.heap[gb273]? = some (.cells #[.int .u64 0, .int .u64 0] 50 (0, 0)) from by first | exact (blk_below (g := gb273) (o := .cells #[.int .u64 0, .int .u64 0] 50 (0, 0)) (by exact (Q_BK273 h0_ h1_)) hb))
      have z_BK274 := fun (h0_ : b 9 = true) (h1_ : b 11 = false) => (show w81.heap[gb274]? = some (.cells #[.int .u64 0, .int .u64 0] 50 (0, 0)) from by first | exact (blk_below (g := gb274) (o := .cells #[.int .u64 0, .int .u64 0] 50 (0, 0)) (by exact (Q_BK274 h0_ h1_)) hb))
      clear BK265
      clear BK268
      clear HB
      have BK265 := n0_
      have BK268 := n1_
      have HB := n2_
      clear n0_ n1_ n2_
      (try clear hb)
      (try clear hb2)
      (try clear hk)
      (try clear hi)
      refine hK.out _ _ ⟨gb273, gb274, m8_, m9_, (by rw [ha.out]; exact putSel_upk 1 hb_ rfl rfl rfl), (by exact BK265.out), (by exact BK268.out), (by repeat (first | (with_reducible first | exact HB.out | apply below_alloc | apply pw_below_drewN | apply below_drew1 | refine below_set ?_ GE265.out | refine below_set ?_ GE268.out) | exact HB.out)), Q_NB274_273, Q_NB273_274, z_BK273, Q_GW273, Q_GE273, Q_NB265_273, Q_NB273_265, Q_NB268_273, Q_NB273_268, z_BK274, Q_GW274, Q_GE274, Q_NB265_274, Q_NB274_265, Q_NB268_274, Q_NB274_268, fun h0_ => absurd ((hoff 10 (by kernel_rfl)).symm.trans h0_) (by decide), fun h0_ => absurd ((hoff 11 (by kernel_rfl)).symm.trans h0_) (by decide), Q_X8_, Q_X9_⟩
     refine steps_cons ?_ ?_
     ·rintro b a w' ⟨gb273, gb274, m8_, m9_, ha, Q_BK265, Q_BK268, Q_HB, Q_NB274_273, Q_NB273_274, Q_BK273, Q_GW273, Q_GE273, Q_NB265_273, Q_NB273_265, Q_NB268_273, Q_NB273_268, Q_BK274, Q_GW274, Q_GE274, Q_NB265_274, Q_NB274_265, Q_NB268_274, Q_NB274_268, Q_BK273_e10, Q_BK274_e11, Q_X8_, Q_X9_⟩ hb_ hon hoff
      refine ⟨_, rfl, fun K hK => ?_⟩
      have e21 : a.tmps[21]? = some (.pointer (some ⟨gb268, 0, none⟩)) := by rw [ha]; exact (putSel_off rfl).trans rfl
      replace ha := Aside0.mk ha
      have BK265 := Aside0.mk Q_BK265
      have BK268 := Aside0.mk Q_BK268
      have HB := Aside0.mk Q_HB
      have hc0_ : w'.cell? ⟨gb268, 0, none⟩ = some (.int .u64 t266) := (blk_cell BK268.out 0).trans rfl
      have hc1_ : w'.cell? ⟨gb268, 1, none⟩ = some (.int .u64 t267) := (blk_cell BK268.out 1).trans rfl
      refine value_ (w1 := w') (v := .int .u64 t266) (by rfl) rfl ?_ ?_
      ·go_simp
       (try simp only [i64_w])
       try rfl
      refine hK.out _ _ ⟨gb273, gb274, m8_, m9_, (by rw [ha.out]; exact putSel_upk 2 hb_ rfl rfl rfl), Q_BK265, Q_BK268, Q_HB, Q_NB274_273, Q_NB273_274, Q_BK273, Q_GW273, Q_GE273, Q_NB265_273, Q_NB273_265, Q_NB268_273, Q_NB273_268, Q_BK274, Q_GW274, Q_GE274, Q_NB265_274, Q_NB274_265, Q_NB268_274, Q_NB274_268, fun h0_ => absurd ((hoff 10 (by kernel_rfl)).symm.trans h0_) (by decide), fun h0_ => absurd ((hoff 11 (by kernel_rfl)).symm.trans h0_) (by decide), Q_X8_, Q_X9_⟩
     refine steps_cons ?_ ?_
     ·rintro b a w' ⟨gb273, gb274, m8_, m9_, ha, Q_BK265, Q_BK268, Q_HB, Q_NB274_273, Q_NB273_274, Q_BK273, Q_GW273, Q_GE273, Q_NB265_273, Q_NB273_265, Q_NB268_273, Q_NB273_268, Q_BK274, Q_GW274, Q_GE274, Q_NB265_274, Q_NB274_265, Q_NB268_274, Q_NB274_268, Q_BK273_e10, Q_BK274_e11, Q_X8_, Q_X9_⟩ hb_ hon hoff
      refine ⟨_, rfl, fun K hK => ?_⟩
      have e22 : a.tmps[22]? = some (.int .u64 t266) := by rw [ha]; exact putSel_on (e := (5, 22, .int .u64 t266)) 2 rfl rfl (hon 5 (by kernel_rfl)) rfl
      have e23 : a.tmps[23]? = some (.int .u64 a1) := by rw [ha]; exact (putSel_off rfl).trans rfl
      replace ha := Aside0.mk ha
      have BK265 := Aside0.mk Q_BK265
      have BK268 := Aside0.mk Q_BK268
      have HB := Aside0.mk Q_HB
      refine goes_ Try.func30 (by kernel_rfl) rfl #[.int .u64 t266, .int .u64 a1] (by rfl) rfl rfl (by first | (simp only [List.map_toArray, List.map_cons, List.map_nil, Act.eval, Array.getD_eq_getD_getElem?, Option.getD_some, e22, e23]; done) | (simp only [List.map_toArray, List.map_cons, List.map_nil, Act.eval, Array.getD_eq_getD_getElem?, Option.getD_some, e22, e23]; rfl)) ?_
      with_reducible refine (overfallref01_Mul.calls k t266 a1 t271 t272 _ A7.out).mono ?_
      rintro e w83 ⟨rfl, hb⟩
      refine ⟨_, rfl, ?_⟩
      have n0_ := Aside0.mk (blk_below (by exact BK265.out) hb)
      have n1_ := Aside0.mk (blk_below (by exact BK268.out) hb)
      have n2_ := Aside0.mk (below_step (by repeat (first | (with_reducible first | exact HB.out | apply below_alloc | apply pw_below_drewN | apply below_drew1 | refine below_set ?_ GE265.out | refine below_set ?_ GE268.out) | exact HB.out)) hb)
      have z_BK273 := fun (h0_ : b 8 = true) (h1_ : b 10 = false) => (show w83.heap[gb273]? = some (.cells #[.int .u64 0, .int .u64 0] 50 (0, 0)) from by first | exact (blk_below (g := gb273) (o := .cells #[.int .u64 0, .int .u64 0] 50 (0, 0)) (by exact (Q_BK273 h0_ h1_)) hb))
      have z_BK274 := fun (h0_ : b 9 = true) (h1_ : b 11 = false) => (show w83.heap[gb274]? = some (.cells #[.int .u64 0, .int .u64 0] 50 (0, 0)) from by first | exact (blk_below (g := gb274) (o := .cells #[.int .u64 0, .int .u64 0] 50 (0, 0)) (by exact (Q_BK274 h0_ h1_)) hb))
      clear BK265
      clear BK268
      clear HB
      have BK265 := n0_
      have BK268 := n1_
      have HB := n2_
      clear n0_ n1_ n2_
      (try clear hb)
      (try clear hb2)
      (try clear hk)
      (try clear hi)
      refine hK.out _ _ ⟨gb273, gb274, m8_, m9_, (by rw [ha.out]; exact putSel_upk 3 hb_ rfl rfl rfl), (by exact BK265.out), (by exact BK268.out), (by repeat (first | (with_reducible first | exact HB.out | apply below_alloc | apply pw_below_drewN | apply below_drew1 | refine below_set ?_ GE265.out | refine below_set ?_ GE268.out) | exact HB.out)), Q_NB274_273, Q_NB273_274, z_BK273, Q_GW273, Q_GE273, Q_NB265_273, Q_NB273_265, Q_NB268_273, Q_NB273_268, z_BK274, Q_GW274, Q_GE274, Q_NB265_274, Q_NB274_265, Q_NB268_274, Q_NB274_268, fun h0_ => absurd ((hoff 10 (by kernel_rfl)).symm.trans h0_) (by decide), fun h0_ => absurd ((hoff 11 (by kernel_rfl)).symm.trans h0_) (by decide), Q_X8_, Q_X9_⟩
     refine steps_cons ?_ ?_
     ·rintro b a w' ⟨gb273, gb274, m8_, m9_, ha, Q_BK265, Q_BK268, Q_HB, Q_NB274_273, Q_NB273_274, Q_BK273, Q_GW273, Q_GE273, Q_NB265_273, Q_NB273_265, Q_NB268_273, Q_NB273_268, Q_BK274, Q_GW274, Q_GE274, Q_NB265_274, Q_NB274_265, Q_NB268_274, Q_NB274_268, Q_BK273_e10, Q_BK274_e11, Q_X8_, Q_X9_⟩ hb_ hon hoff
      refine ⟨_, rfl, fun K hK => ?_⟩
      replace ha := Aside0.mk ha
      have BK265 := Aside0.mk Q_BK265
      have BK268 := Aside0.mk Q_BK268
      have HB := Aside0.mk Q_HB
      refine box_step ?hg (N := 8) ?hd (cs := #[.int .u64 0, .int .u64 0]) (t := 50) ?hr ?_; (case hd => rfl); (case hg => rfl); (case hr => first | (go_simp; done) | (go_simp; rfl))
      intro gb273 hg w81 hbox hb
      have n0_ := Aside0.mk (blk_below (by exact BK265.out) hb)
      have n1_ := Aside0.mk (blk_below (by exact BK268.out) hb)
      have n2_ := Aside0.mk (below_step (by repeat (first | (with_reducible first | exact HB.out | apply below_alloc | apply pw_below_drewN | apply below_drew1 | refine below_set ?_ GE265.out | refine below_set ?_ GE268.out) | exact HB.out)) hb)
      have n3_ := Aside0.mk (hbox)
      have n4_ := Aside0.mk ((by rw [hg]; exact (below_size (by repeat (first | (with_reducible first | exact HB.out | apply below_alloc | apply pw_below_drewN | apply below_drew1 | refine below_set ?_ GE265.out | refine below_set ?_ GE268.out) | exact HB.out))) : w.heap.size ≤ gb273))
      have n5_ := Aside0.mk ((by rw [hg]; exact (below_size (by repeat (first | (with_reducible first | exact HB.out | apply below_alloc | apply pw_below_drewN | apply below_drew1 | refine below_set ?_ GE265.out | refine below_set ?_ GE268.out) | exact HB.out))) : w.heap.size ≤ gb273))
      have n6_ := Aside0.mk ((by rw [hg]; exact Nat.ne_of_lt (blk_lt (by exact BK265.out)) : gb265 ≠ gb273))
      have n7_ := Aside0.mk ((by rw [hg]; exact Nat.ne_of_gt (blk_lt (by exact BK265.out)) : gb273 ≠ gb265))
      have n8_ := Aside0.mk ((by rw [hg]; exact Nat.ne_of_lt (blk_lt (by exact BK268.out)) : gb268 ≠ gb273))
      have n9_ := Aside0.mk ((by rw [hg]; exact Nat.ne_of_gt (blk_lt (by exact BK268.out)) : gb273 ≠ gb268))
      have z_NB274_273 := fun (h0_ : up b 8 8 = true) (h1_ : up b 8 9 = true) => (show gb274 ≠ gb273 from ((by rw [hg]; exact Nat.ne_of_lt (blk_lt (by exact (Q_BK274 h1_ (hoff 11 (by kernel_rfl))))) : gb274 ≠ gb273)))
      have z_NB273_274 := fun (h0_ : up b 8 8 = true) (h1_ : up b 8 9 = true) => (show gb273 ≠ gb274 from ((by rw [hg]; exact Nat.ne_of_gt (blk_lt (by exact (Q_BK274 h1_ (hoff 11 (by kernel_rfl))))) : gb273 ≠ gb274)))
      have z_BK274 := fun (h0_ : b 9 = true) (h1_ : b 11 = false) => (show w81.heap[gb274]? = some (.cells #[.int .u64 0, .int .u64 0] 50 (0, 0)) from by first | exact (blk_below (g := gb274) (o := .cells #[.int .u64 0, .int .u64 0] 50 (0, 0)) (by exact (Q_BK274 h0_ h1_)) hb))
      clear BK265
      clear BK268
      clear HB
      have BK265 := n0_
      have BK268 := n1_
      have HB := n2_
      have BK273 := n3_
      have GW273 := n4_
      have GE273 := n5_
      have NB265_273 := n6_
      have NB273_265 := n7_
      have NB268_273 := n8_
      have NB273_268 := n9_
      clear n0_ n1_ n2_ n3_ n4_ n5_ n6_ n7_ n8_ n9_
      clear hb hbox hg
      refine hK.out _ _ ⟨gb273, gb274, (.pointer (some ⟨gb273, 0, none⟩)), m9_, (by rw [ha.out]; exact putSel_upk 4 hb_ rfl rfl rfl), (by exact BK265.out), (by exact BK268.out), (by repeat (first | (with_reducible first | exact HB.out | apply below_alloc | apply pw_below_drewN | apply below_drew1 | refine below_set ?_ GE265.out | refine below_set ?_ GE268.out | refine below_set ?_ GE273.out) | exact HB.out)), @z_NB274_273, @z_NB273_274, fun _ _ => (by exact BK273.out), fun _ => GW273.out, fun _ => GE273.out, fun _ => NB265_273.out, fun _ => NB273_265.out, fun _ => NB268_273.out, fun _ => NB273_268.out, z_BK274, Q_GW274, Q_GE274, Q_NB265_274, Q_NB274_265, Q_NB268_274, Q_NB274_268, fun h0_ => absurd ((hoff 10 (by kernel_rfl)).symm.trans h0_) (by decide), fun h0_ => absurd ((hoff 11 (by kernel_rfl)).symm.trans h0_) (by decide), fun _ => rfl, Q_X9_⟩
     refine steps_cons ?_ ?_
     ·rintro b a w' ⟨gb273, gb274, m8_, m9_, ha, Q_BK265, Q_BK268, Q_HB, Q_NB274_273, Q_NB273_274, Q_BK273, Q_GW273, Q_GE273, Q_NB265_273, Q_NB273_265, Q_NB268_273, Q_NB273_268, Q_BK274, Q_GW274, Q_GE274, Q_NB265_274, Q_NB274_265, Q_NB268_274, Q_NB274_268, Q_BK273_e10, Q_BK274_e11, Q_X8_, Q_X9_⟩ hb_ hon hoff
      refine ⟨_, rfl, fun K hK => ?_⟩
      replace ha := Aside0.mk ha
      have BK265 := Aside0.mk Q_BK265
      have BK268 := Aside0.mk Q_BK268
      have HB := Aside0.mk Q_HB
      refine box_step ?hg (N := 9) ?hd (cs := #[.int .u64 0, .int .u64 0]) (t := 50) ?hr ?_; (case hd => rfl); (case hg => rfl); (case hr => first | (go_simp; done) | (go_simp; rfl))
      intro gb274 hg w81 hbox hb
      have n0_ := Aside0.mk (blk_below (by exact BK265.out) hb)
      have n1_ := Aside0.mk (blk_below (by exact BK268.out) hb)
      have n2_ := Aside0.mk (below_step (by repeat (first | (with_reducible first | exact HB.out | apply below_alloc | apply pw_below_drewN | apply below_drew1 | refine below_set ?_ GE265.out | refine below_set ?_ GE268.out) | exact HB.out)) hb)
      have n3_ := Aside0.mk (hbox)
      have n4_ := Aside0.mk ((by rw [hg]; exact (below_size (by repeat (first | (with_reducible first | exact HB.out | apply below_alloc | apply pw_below_drewN | apply below_drew1 | refine below_set ?_ GE265.out | refine below_set ?_ GE268.out) | exact HB.out))) : w.heap.size ≤ gb274))
      have n5_ := Aside0.mk ((by rw [hg]; exact (below_size (by repeat (first | (with_reducible first | exact HB.out | apply below_alloc | apply pw_below_drewN | apply below_drew1 | refine below_set ?_ GE265.out | refine below_set ?_ GE268.out) | exact HB.out))) : w.heap.size ≤ gb274))
      have n6_ := Aside0.mk ((by rw [hg]; exact Nat.ne_of_lt (blk_lt (by exact BK265.out)) : gb265 ≠ gb274))
      have n7_ := Aside0.mk ((by rw [hg]; exact Nat.ne_of_gt (blk_lt (by exact BK265.out)) : gb274 ≠ gb265))
      have n8_ := Aside0.mk ((by rw [hg]; exact Nat.ne_of_lt (blk_lt (by exact BK268.out)) : gb268 ≠ gb274))
      have n9_ := Aside0.mk ((by rw [hg]; exact Nat.ne_of_gt (blk_lt (by exact BK268.out)) : gb274 ≠ gb268))
      have z_NB274_273 := fun (h0_ : up b 9 8 = true) (h1_ : up b 9 9 = true) => (show gb274 ≠ gb273 from ((by rw [hg]; exact Nat.ne_of_gt (blk_lt (by exact (Q_BK273 h0_ (hoff 10 (by kernel_rfl))))) : gb274 ≠ gb273)))
      have z_NB273_274 := fun (h0_ : up b 9 8 = true) (h1_ : up b 9 9 = true) => (show gb273 ≠ gb274 from ((by rw [hg]; exact Nat.ne_of_lt (blk_lt (by exact (Q_BK273 h0_ (hoff 10 (by kernel_rfl))))) : gb273 ≠ gb274)))
      have z_BK273 := fun (h0_ : b 8 = true) (h1_ : b 10 = false) => (show w81.heap[gb273]? = some (.cells #[.int .u64 0, .int .u64 0] 50 (0, 0)) from by first | exact (blk_below (g := gb273) (o := .cells #[.int .u64 0, .int .u64 0] 50 (0, 0)) (by exact (Q_BK273 h0_ h1_)) hb))
      clear BK265
      clear BK268
      clear HB
      have BK265 := n0_
      have BK268 := n1_
      have HB := n2_
      have BK274 := n3_
      have GW274 := n4_
      have GE274 := n5_
      have NB265_274 := n6_
      have NB274_265 := n7_
      have NB268_274 := n8_
      have NB274_268 := n9_
      clear n0_ n1_ n2_ n3_ n4_ n5_ n6_ n7_ n8_ n9_
      clear hb hbox hg
      refine hK.out _ _ ⟨gb273, gb274, m8_, (.pointer (some ⟨gb274, 0, none⟩)), (by rw [ha.out]; exact putSel_upk 5 hb_ rfl rfl rfl), (by exact BK265.out), (by exact BK268.out), (by repeat (first | (with_reducible first | exact HB.out | apply below_alloc | apply pw_below_drewN | apply below_drew1 | refine below_set ?_ GE265.out | refine below_set ?_ GE268.out | refine below_set ?_ GE274.out) | exact HB.out)), @z_NB274_273, @z_NB273_274, z_BK273, Q_GW273, Q_GE273, Q_NB265_273, Q_NB273_265, Q_NB268_273, Q_NB273_268, fun _ _ => (by exact BK274.out), fun _ => GW274.out, fun _ => GE274.out, fun _ => NB265_274.out, fun _ => NB274_265.out, fun _ => NB268_274.out, fun _ => NB274_268.out, fun h0_ => absurd ((hoff 10 (by kernel_rfl)).symm.trans h0_) (by decide), fun h0_ => absurd ((hoff 11 (by kernel_rfl)).symm.trans h0_) (by decide), Q_X8_, fun _ => rfl⟩
     refine steps_cons ?_ ?_
     ·rintro b a w' ⟨gb273, gb274, m8_, m9_, ha, Q_BK265, Q_BK268, Q_HB, Q_NB274_273, Q_NB273_274, Q_BK273, Q_GW273, Q_GE273, Q_NB265_273, Q_NB273_265, Q_NB268_273, Q_NB273_268, Q_BK274, Q_GW274, Q_GE274, Q_NB265_274, Q_NB274_265, Q_NB268_274, Q_NB274_268, Q_BK273_e10, Q_BK274_e11, Q_X8_, Q_X9_⟩ hb_ hon hoff
      refine ⟨_, rfl, fun K hK => ?_⟩
      have e8 : a.tmps[8]? = some (m8_) := by rw [ha]; exact putSel_on (e := (8, 8, m8_)) 4 rfl rfl (hon 8 (by kernel_rfl)) rfl
      rw [Q_X8_ (hon 8 (by kernel_rfl))] at e8
      have e20 : a.tmps[20]? = some (.agg #[.int .u64 t269, .int .u64 t270]) := by rw [ha]; exact putSel_on (e := (3, 20, .agg #[.int .u64 t269, .int .u64 t270])) 1 rfl rfl (hon 3 (by kernel_rfl)) rfl
      replace ha := Aside0.mk ha
      have BK265 := Aside0.mk Q_BK265
      have BK268 := Aside0.mk Q_BK268
      have HB := Aside0.mk Q_HB
      have NB274_273 := Aside0.mk (Q_NB274_273 (hon 8 (by kernel_rfl)) (hon 9 (by kernel_rfl)))
      have NB273_274 := Aside0.mk (Q_NB273_274 (hon 8 (by kernel_rfl)) (hon 9 (by kernel_rfl)))
      have BK273 := Aside0.mk (Q_BK273 (hon 8 (by kernel_rfl)) hb_)
      have GW273 := Aside0.mk (Q_GW273 (hon 8 (by kernel_rfl)))
      have GE273 := Aside0.mk (Q_GE273 (hon 8 (by kernel_rfl)))
      have NB265_273 := Aside0.mk (Q_NB265_273 (hon 8 (by kernel_rfl)))
      have NB273_265 := Aside0.mk (Q_NB273_265 (hon 8 (by kernel_rfl)))
      have NB268_273 := Aside0.mk (Q_NB268_273 (hon 8 (by kernel_rfl)))
      have NB273_268 := Aside0.mk (Q_NB273_268 (hon 8 (by kernel_rfl)))
      have BK274 := Aside0.mk (Q_BK274 (hon 9 (by kernel_rfl)) (hoff 11 (by kernel_rfl)))
      have GW274 := Aside0.mk (Q_GW274 (hon 9 (by kernel_rfl)))
      have GE274 := Aside0.mk (Q_GE274 (hon 9 (by kernel_rfl)))
      have NB265_274 := Aside0.mk (Q_NB265_274 (hon 9 (by kernel_rfl)))
      have NB274_265 := Aside0.mk (Q_NB274_265 (hon 9 (by kernel_rfl)))
      have NB268_274 := Aside0.mk (Q_NB268_274 (hon 9 (by kernel_rfl)))
      have NB274_268 := Aside0.mk (Q_NB274_268 (hon 9 (by kernel_rfl)))
      have hs86 : w'.cell? ⟨gb273, 0, none⟩ = some (.int .u64 0) := (blk_cell BK273.out 0).trans rfl
      have hfs86 := blk_frozen BK273.out 0
      have hns86_0 := NB265_273.out
      have hns86_1 := NB268_273.out
      have hns86_3 := NB274_273.out
      have hms86_0 := NB273_265.out
      have hms86_1 := NB273_268.out
      have hms86_3 := NB273_274.out
      have hs87 : w'.cell? ⟨gb273, 1, none⟩ = some (.int .u64 0) := (blk_cell BK273.out 1).trans rfl
      have hfs87 := blk_frozen BK273.out 1
      have hns87_0 := NB265_273.out
      have hns87_1 := NB268_273.out
      have hns87_3 := NB274_273.out
      have hms87_0 := NB273_265.out
      have hms87_1 := NB273_268.out
      have hms87_3 := NB273_274.out
      refine skip_ (w1 := ?_) (by rfl) rfl ?_ ?_
      rotate_left
      ·go_simp
       rfl
      refine hK.out _ _ ⟨gb273, gb274, m8_, m9_, (by rw [ha.out]; exact putSel_none (v := undef) rfl), (by refine blk_far ?_ NB265_273.out _; refine blk_far ?_ NB265_273.out _; exact BK265.out), (by refine blk_far ?_ NB268_273.out _; refine blk_far ?_ NB268_273.out _; exact BK268.out), (by repeat (first | (with_reducible first | exact HB.out | apply below_alloc | apply pw_below_drewN | apply below_drew1 | refine below_set ?_ GE265.out | refine below_set ?_ GE268.out | refine below_set ?_ GE273.out | refine below_set ?_ GE274.out) | exact HB.out)), fun _ _ => NB274_273.out, fun _ _ => NB273_274.out, fun _ h1_ => absurd ((up_self b 10).symm.trans h1_) (by decide), fun _ => GW273.out, fun _ => GE273.out, fun _ => NB265_273.out, fun _ => NB273_265.out, fun _ => NB268_273.out, fun _ => NB273_268.out, fun _ _ => (by refine blk_far ?_ NB274_273.out _; refine blk_far ?_ NB274_273.out _; exact BK274.out), fun _ => GW274.out, fun _ => GE274.out, fun _ => NB265_274.out, fun _ => NB274_265.out, fun _ => NB268_274.out, fun _ => NB274_268.out, fun _ => (by refine blk_put (cs := #[.int .u64 t269, .int .u64 0]) ?_ 1 _ rfl; refine blk_put (cs := #[.int .u64 0, .int .u64 0]) ?_ 0 _ rfl; exact BK273.out), fun h0_ => absurd ((hoff 11 (by kernel_rfl)).symm.trans h0_) (by decide), Q_X8_, Q_X9_⟩
     refine steps_cons ?_ ?_
     ·rintro b a w' ⟨gb273, gb274, m8_, m9_, ha, Q_BK265, Q_BK268, Q_HB, Q_NB274_273, Q_NB273_274, Q_BK273, Q_GW273, Q_GE273, Q_NB265_273, Q_NB273_265, Q_NB268_273, Q_NB273_268, Q_BK274, Q_GW274, Q_GE274, Q_NB265_274, Q_NB274_265, Q_NB268_274, Q_NB274_268, Q_BK273_e10, Q_BK274_e11, Q_X8_, Q_X9_⟩ hb_ hon hoff
      refine ⟨_, rfl, fun K hK => ?_⟩
      have e9 : a.tmps[9]? = some (m9_) := by rw [ha]; exact putSel_on (e := (9, 9, m9_)) 5 rfl rfl (hon 9 (by kernel_rfl)) rfl
      rw [Q_X9_ (hon 9 (by kernel_rfl))] at e9
      have e24 : a.tmps[24]? = some (.agg #[.int .u64 t271, .int .u64 t272]) := by rw [ha]; exact putSel_on (e := (7, 24, .agg #[.int .u64 t271, .int .u64 t272])) 3 rfl rfl (hon 7 (by kernel_rfl)) rfl
      replace ha := Aside0.mk ha
      have BK265 := Aside0.mk Q_BK265
      have BK268 := Aside0.mk Q_BK268
      have HB := Aside0.mk Q_HB
      have NB274_273 := Aside0.mk (Q_NB274_273 (hon 8 (by kernel_rfl)) (hon 9 (by kernel_rfl)))
      have NB273_274 := Aside0.mk (Q_NB273_274 (hon 8 (by kernel_rfl)) (hon 9 (by kernel_rfl)))
      have GW273 := Aside0.mk (Q_GW273 (hon 8 (by kernel_rfl)))
      have GE273 := Aside0.mk (Q_GE273 (hon 8 (by kernel_rfl)))
      have NB265_273 := Aside0.mk (Q_NB265_273 (hon 8 (by kernel_rfl)))
      have NB273_265 := Aside0.mk (Q_NB273_265 (hon 8 (by kernel_rfl)))
      have NB268_273 := Aside0.mk (Q_NB268_273 (hon 8 (by kernel_rfl)))
      have NB273_268 := Aside0.mk (Q_NB273_268 (hon 8 (by kernel_rfl)))
      have BK274 := Aside0.mk (Q_BK274 (hon 9 (by kernel_rfl)) hb_)
      have GW274 := Aside0.mk (Q_GW274 (hon 9 (by kernel_rfl)))
      have GE274 := Aside0.mk (Q_GE274 (hon 9 (by kernel_rfl)))
      have NB265_274 := Aside0.mk (Q_NB265_274 (hon 9 (by kernel_rfl)))
      have NB274_265 := Aside0.mk (Q_NB274_265 (hon 9 (by kernel_rfl)))
      have NB268_274 := Aside0.mk (Q_NB268_274 (hon 9 (by kernel_rfl)))
      have NB274_268 := Aside0.mk (Q_NB274_268 (hon 9 (by kernel_rfl)))
      have BK273 := Aside0.mk (Q_BK273_e10 (hon 10 (by kernel_rfl)))
      have hs88 : w'.cell? ⟨gb274, 0, none⟩ = some (.int .u64 0) := (blk_cell BK274.out 0).trans rfl
      have hfs88 := blk_frozen BK274.out 0
      have hns88_0 := NB265_274.out
      have hns88_1 := NB268_274.out
      have hns88_2 := NB273_274.out
      have hms88_0 := NB274_265.out
      have hms88_1 := NB274_268.out
      have hms88_2 := NB274_273.out
      have hs89 : w'.cell? ⟨gb274, 1, none⟩ = some (.int .u64 0) := (blk_cell BK274.out 1).trans rfl
      have hfs89 := blk_frozen BK274.out 1
      have hns89_0 := NB265_274.out
      have hns89_1 := NB268_274.out
      have hns89_2 := NB273_274.out
      have hms89_0 := NB274_265.out
      have hms89_1 := NB274_268.out
      have hms89_2 := NB274_273.out
      refine skip_ (w1 := ?_) (by rfl) rfl ?_ ?_
      rotate_left
      ·go_simp
       rfl
      refine hK.out _ _ ⟨gb273, gb274, m8_, m9_, (by rw [ha.out]; exact putSel_none (v := undef) rfl), (by refine blk_far ?_ NB265_274.out _; refine blk_far ?_ NB265_274.out _; exact BK265.out), (by refine blk_far ?_ NB268_274.out _; refine blk_far ?_ NB268_274.out _; exact BK268.out), (by repeat (first | (with_reducible first | exact HB.out | apply below_alloc | apply pw_below_drewN | apply below_drew1 | refine below_set ?_ GE265.out | refine below_set ?_ GE268.out | refine below_set ?_ GE273.out | refine below_set ?_ GE274.out) | exact HB.out)), fun _ _ => NB274_273.out, fun _ _ => NB273_274.out, fun _ h1_ => absurd ((hon 10 (by kernel_rfl)).symm.trans h1_) (by decide), fun _ => GW273.out, fun _ => GE273.out, fun _ => NB265_273.out, fun _ => NB273_265.out, fun _ => NB268_273.out, fun _ => NB273_268.out, fun _ h1_ => absurd ((up_self b 11).symm.trans h1_) (by decide), fun _ => GW274.out, fun _ => GE274.out, fun _ => NB265_274.out, fun _ => NB274_265.out, fun _ => NB268_274.out, fun _ => NB274_268.out, fun _ => (by refine blk_far ?_ NB273_274.out _; refine blk_far ?_ NB273_274.out _; exact BK273.out), fun _ => (by refine blk_put (cs := #[.int .u64 t271, .int .u64 0]) ?_ 1 _ rfl; refine blk_put (cs := #[.int .u64 0, .int .u64 0]) ?_ 0 _ rfl; exact BK274.out), Q_X8_, Q_X9_⟩
     exact steps_nil
    rintro b a w89 hall ⟨gb273, gb274, m8_, m9_, ha, Q_BK265, Q_BK268, Q_HB, Q_NB274_273, Q_NB273_274, Q_BK273, Q_GW273, Q_GE273, Q_NB265_273, Q_NB273_265, Q_NB268_273, Q_NB273_268, Q_BK274, Q_GW274, Q_GE274, Q_NB265_274, Q_NB274_265, Q_NB268_274, Q_NB274_268, Q_BK273_e10, Q_BK274_e11, Q_X8_, Q_X9_⟩
    clear BK265 BK268 HB
    have hb1_ := hall 1 (by kernel_rfl)
    have hb3_ := hall 3 (by kernel_rfl)
    have hb5_ := hall 5 (by kernel_rfl)
    have hb7_ := hall 7 (by kernel_rfl)
    have hb8_ := hall 8 (by kernel_rfl)
    have hb9_ := hall 9 (by kernel_rfl)
    have hb10_ := hall 10 (by kernel_rfl)
    have hb11_ := hall 11 (by kernel_rfl)
    subst ha
    obtain rfl := Q_X8_ hb8_
    obtain rfl := Q_X9_ hb9_
    simp only [putSel, hb1_, hb3_, hb5_, hb7_, hb8_, hb9_, hb10_, hb11_, if_true, Act.put, List.setIfInBounds_toArray, List.set_cons_zero, List.set_cons_succ]
    have BK265 := Aside0.mk Q_BK265
    clear Q_BK265
    have BK268 := Aside0.mk Q_BK268
    clear Q_BK268
    have HB := Aside0.mk Q_HB
    clear Q_HB
    have NB274_273 := Aside0.mk (Q_NB274_273 hb8_ hb9_)
    clear Q_NB274_273
    have NB273_274 := Aside0.mk (Q_NB273_274 hb8_ hb9_)
    clear Q_NB273_274
    clear Q_BK273
    have GW273 := Aside0.mk (Q_GW273 hb8_)
    clear Q_GW273
    have GE273 := Aside0.mk (Q_GE273 hb8_)
    clear Q_GE273
    have NB265_273 := Aside0.mk (Q_NB265_273 hb8_)
    clear Q_NB265_273
    have NB273_265 := Aside0.mk (Q_NB273_265 hb8_)
    clear Q_NB273_265
    have NB268_273 := Aside0.mk (Q_NB268_273 hb8_)
    clear Q_NB268_273
    have NB273_268 := Aside0.mk (Q_NB273_268 hb8_)
    clear Q_NB273_268
    clear Q_BK274
    have GW274 := Aside0.mk (Q_GW274 hb9_)
    clear Q_GW274
    have GE274 := Aside0.mk (Q_GE274 hb9_)
    clear Q_GE274
    have NB265_274 := Aside0.mk (Q_NB265_274 hb9_)
    clear Q_NB265_274
    have NB274_265 := Aside0.mk (Q_NB274_265 hb9_)
    clear Q_NB274_265
    have NB268_274 := Aside0.mk (Q_NB268_274 hb9_)
    clear Q_NB268_274
    have NB274_268 := Aside0.mk (Q_NB274_268 hb9_)
    clear Q_NB274_268
    have BK273 := Aside0.mk (Q_BK273_e10 hb10_)
    clear Q_BK273_e10
    have BK274 := Aside0.mk (Q_BK274_e11 hb11_)
    clear Q_BK274_e11
    clear hall hb1_ hb3_ hb5_ hb7_ hb8_ hb9_ hb10_ hb11_
    have hnb90 := NB273_265.out
    have hnc90 := NB265_273.out
    have hnb91 := NB273_268.out
    have hnc91 := NB268_273.out
    have hnb92 := NB273_274.out
    have hnc92 := NB274_273.out
    have hcz93_0 : w89.cell? ⟨gb273, 0, none⟩ = some (.int .u64 t269) := (blk_cell BK273.out 0).trans rfl
    have hcz93_1 : w89.cell? ⟨gb273, 1, none⟩ = some (.int .u64 t270) := (blk_cell BK273.out 1).trans rfl
    have hfz93_0 := blk_frozen BK273.out 0
    have hfz93_1 := blk_frozen BK273.out 1
    have hnb94 := NB274_265.out
    have hnc94 := NB265_274.out
    have hnb95 := NB274_268.out
    have hnc95 := NB268_274.out
    have hcz96_0 : w89.cell? ⟨gb274, 0, none⟩ = some (.int .u64 t271) := (blk_cell BK274.out 0).trans rfl
    have hcz96_1 : w89.cell? ⟨gb274, 1, none⟩ = some (.int .u64 t272) := (blk_cell BK274.out 1).trans rfl
    have hfz96_0 := blk_frozen BK274.out 0
    have hfz96_1 := blk_frozen BK274.out 1
    try go_wp2_with (first | ((with_reducible refine gate_callee (f := 23) rfl ?_); refine goesL_ (some 30) rfl rfl Try.func23 (by kernel_rfl) rfl #[.agg #[.int .u64 t269, .int .u64 t270], .agg #[.int .u64 t272, .int .u64 0]] rfl (by (try simp only [List.map_toArray, List.map_cons, List.map_nil]); first | done | rfl | (simp only [List.length_drop, List.length_take]; rfl)) ?_; (with_reducible refine (overfallref01_Add.calls k t269 t270 t272 0 t275 t276 false _ A8.out).mono ?_); rintro e w97 ⟨rfl, hb⟩; refine ⟨_, rfl, ?_⟩; have n0_ := Aside0.mk (blk_below (by exact BK265.out) hb); have n1_ := Aside0.mk (blk_below (by exact BK268.out) hb); have n2_ := Aside0.mk (blk_below (by exact BK273.out) hb); have n3_ := Aside0.mk (blk_below (by exact BK274.out) hb); have n4_ := Aside0.mk (below_step (by repeat (first | (with_reducible first | exact HB.out | apply below_alloc | apply pw_below_drewN | apply below_drew1 | refine below_set ?_ GE265.out | refine below_set ?_ GE268.out | refine below_set ?_ GE273.out | refine below_set ?_ GE274.out) | exact HB.out)) hb); clear BK265; clear BK268; clear BK273; clear BK274; clear HB; have BK265 := n0_; have BK268 := n1_; have BK273 := n2_; have BK274 := n3_; have HB := n4_; clear n0_ n1_ n2_ n3_ n4_; (try clear hb); (try clear hb2); (try clear hk); (try clear hi)) | ((with_reducible refine gate_dst (N := 10) rfl ?_); refine box_event ?hg (N := 10) ?hd (cs := #[.int .u64 0, .int .u64 0]) (t := 50) ?hr ?_; (case hd => rfl); (case hg => rfl); (case hr => first | (go_simp; done) | (go_simp; rfl)); intro gb278 hg w98 hbox hb; have n0_ := Aside0.mk (blk_below (by exact BK265.out) hb); have n1_ := Aside0.mk (blk_below (by exact BK268.out) hb); have n2_ := Aside0.mk (blk_below (by exact BK273.out) hb); have n3_ := Aside0.mk (blk_below (by exact BK274.out) hb); have n4_ := Aside0.mk (below_step (by repeat (first | (with_reducible first | exact HB.out | apply below_alloc | apply pw_below_drewN | apply below_drew1 | refine below_set ?_ GE265.out | refine below_set ?_ GE268.out | refine below_set ?_ GE273.out | refine below_set ?_ GE274.out) | exact HB.out)) hb); have n5_ := Aside0.mk (hbox); have n6_ := Aside0.mk ((by rw [hg]; exact (below_size (by repeat (first | (with_reducible first | exact HB.out | apply below_alloc | apply pw_below_drewN | apply below_drew1 | refine below_set ?_ GE265.out | refine below_set ?_ GE268.out | refine below_set ?_ GE273.out | refine below_set ?_ GE274.out) | exact HB.out))) : w.heap.size ≤ gb278)); have n7_ := Aside0.mk ((by rw [hg]; exact (below_size (by repeat (first | (with_reducible first | exact HB.out | apply below_alloc | apply pw_below_drewN | apply below_drew1 | refine below_set ?_ GE265.out | refine below_set ?_ GE268.out | refine below_set ?_ GE273.out | refine below_set ?_ GE274.out) | exact HB.out))) : w.heap.size ≤ gb278)); have n8_ := Aside0.mk ((by rw [hg]; exact Nat.ne_of_lt (blk_lt (by exact BK265.out)) : gb265 ≠ gb278)); have n9_ := Aside0.mk ((by rw [hg]; exact Nat.ne_of_gt (blk_lt (by exact BK265.out)) : gb278 ≠ gb265)); have n10_ := Aside0.mk ((by rw [hg]; exact Nat.ne_of_lt (blk_lt (by exact BK268.out)) : gb268 ≠ gb278)); have n11_ := Aside0.mk ((by rw [hg]; exact Nat.ne_of_gt (blk_lt (by exact BK268.out)) : gb278 ≠ gb268)); have n12_ := Aside0.mk ((by rw [hg]; exact Nat.ne_of_lt (blk_lt (by exact BK273.out)) : gb273 ≠ gb278)); have n13_ := Aside0.mk ((by rw [hg]; exact Nat.ne_of_gt (blk_lt (by exact BK273.out)) : gb278 ≠ gb273)); have n14_ := Aside0.mk ((by rw [hg]; exact Nat.ne_of_lt (blk_lt (by exact BK274.out)) : gb274 ≠ gb278)); have n15_ := Aside0.mk ((by rw [hg]; exact Nat.ne_of_gt (blk_lt (by exact BK274.out)) : gb278 ≠ gb274)); clear BK265; clear BK268; clear BK273; clear BK274; clear HB; have BK265 := n0_; have BK268 := n1_; have BK273 := n2_; have BK274 := n3_; have HB := n4_; have BK278 := n5_; have GW278 := n6_; have GE278 := n7_; have NB265_278 := n8_; have NB278_265 := n9_; have NB268_278 := n10_; have NB278_268 := n11_; have NB273_278 := n12_; have NB278_273 := n13_; have NB274_278 := n14_; have NB278_274 := n15_; clear n0_ n1_ n2_ n3_ n4_ n5_ n6_ n7_ n8_ n9_ n10_ n11_ n12_ n13_ n14_ n15_; clear hb hbox hg; have hnb99 := NB278_265.out; have hnc99 := NB265_278.out; have hnb100 := NB278_268.out; have hnc100 := NB268_278.out; have hnb101 := NB278_273.out; have hnc101 := NB273_278.out; have hnb102 := NB278_274.out; have hnc102 := NB274_278.out; have hcz103_0 : w98.cell? ⟨gb278, 0, none⟩ = some (.int .u64 0) := (blk_cell BK278.out 0).trans rfl; have hcz103_1 : w98.cell? ⟨gb278, 1, none⟩ = some (.int .u64 0) := (blk_cell BK278.out 1).trans rfl; have hfz103_0 := blk_frozen BK278.out 0; have hfz103_1 := blk_frozen BK278.out 1; have hcz104_0 : w98.cell? ⟨gb274, 0, none⟩ = some (.int .u64 t271) := (blk_cell BK274.out 0).trans rfl; have hcz104_1 : w98.cell? ⟨gb274, 1, none⟩ = some (.int .u64 t272) := (blk_cell BK274.out 1).trans rfl; have hfz104_0 := blk_frozen BK274.out 0; have hfz104_1 := blk_frozen BK274.out 1; have hcz105_0 : w98.cell? ⟨gb268, 0, none⟩ = some (.int .u64 t266) := (blk_cell BK268.out 0).trans rfl; have hcz105_1 : w98.cell? ⟨gb268, 1, none⟩ = some (.int .u64 t267) := (blk_cell BK268.out 1).trans rfl; have hfz105_0 := blk_frozen BK268.out 0; have hfz105_1 := blk_frozen BK268.out 1; have hcz106_0 : w98.cell? ⟨gb265, 0, none⟩ = some (.int .u64 a2_0) := (blk_cell BK265.out 0).trans rfl; have hcz106_1 : w98.cell? ⟨gb265, 1, none⟩ = some (.int .u64 a2_1) := (blk_cell BK265.out 1).trans rfl; have hfz106_0 := blk_frozen BK265.out 0; have hfz106_1 := blk_frozen BK265.out 1) | ((with_reducible refine gate_callee (f := 25) rfl ?_); refine goesL_ (some 42) rfl rfl Try.func25 (by kernel_rfl) rfl #[.agg #[.int .u64 a2_0, .int .u64 a2_1], .agg #[.int .u64 t275, .int .u64 t276]] rfl (by (try simp only [List.map_toArray, List.map_cons, List.map_nil]); first | done | rfl | (simp only [List.length_drop, List.length_take]; rfl)) ?_; (with_reducible refine (overfallref01_Less.calls a2_0 a2_1 t275 t276 t279 _ A73.out).mono ?_); rintro e w107 ⟨rfl, hb⟩; refine ⟨_, rfl, ?_⟩; have n0_ := Aside0.mk (blk_below (g := gb265) (o := .cells #[.int .u64 a2_0, .int .u64 a2_1] 50 (0, 0)) (by refine blk_far ?_ NB265_268.out _; refine blk_far ?_ NB265_268.out _; refine blk_far ?_ NB265_278.out _; refine blk_far ?_ NB265_278.out _; exact BK265.out) hb); have n1_ := Aside0.mk (blk_below (g := gb268) (o := .cells #[.int .u64 t275, .int .u64 t276] 50 (0, 0)) (by refine blk_put (cs := #[.int .u64 t275, .int .u64 t267]) ?_ 1 _ rfl; refine blk_put (cs := #[.int .u64 t266, .int .u64 t267]) ?_ 0 _ rfl; refine blk_far ?_ NB268_278.out _; refine blk_far ?_ NB268_278.out _; exact BK268.out) hb); have n2_ := Aside0.mk (blk_below (g := gb273) (o := .cells #[.int .u64 t269, .int .u64 t270] 50 (0, 0)) (by refine blk_far ?_ NB273_268.out _; refine blk_far ?_ NB273_268.out _; refine blk_far ?_ NB273_278.out _; refine blk_far ?_ NB273_278.out _; exact BK273.out) hb); have n3_ := Aside0.mk (blk_below (g := gb274) (o := .cells #[.int .u64 t271, .int .u64 t272] 50 (0, 0)) (by refine blk_far ?_ NB274_268.out _; refine blk_far ?_ NB274_268.out _; refine blk_far ?_ NB274_278.out _; refine blk_far ?_ NB274_278.out _; exact BK274.out) hb); have n4_ := Aside0.mk (blk_below (g := gb278) (o := .cells #[.int .u64 t275, .int .u64 t276] 50 (0, 0)) (by refine blk_far ?_ NB278_268.out _; refine blk_far ?_ NB278_268.out _; refine blk_put (cs := #[.int .u64 t275, .int .u64 0]) ?_ 1 _ rfl; refine blk_put (cs := #[.int .u64 0, .int .u64 0]) ?_ 0 _ rfl; exact BK278.out) hb); have n5_ := Aside0.mk (below_step (by repeat (first | (with_reducible first | exact HB.out | apply below_alloc | apply pw_below_drewN | apply below_drew1 | refine below_set ?_ GE265.out | refine below_set ?_ GE268.out | refine below_set ?_ GE273.out | refine below_set ?_ GE274.out | refine below_set ?_ GE278.out) | exact HB.out)) hb); clear BK265; clear BK268; clear BK273; clear BK274; clear BK278; clear HB; have BK265 := n0_; have BK268 := n1_; have BK273 := n2_; have BK274 := n3_; have BK278 := n4_; have HB := n5_; clear n0_ n1_ n2_ n3_ n4_ n5_; (try clear hb); (try clear hb2); (try clear hk); (try clear hi)))
    go_ret
    exact ⟨by first | rfl | (simp [errW_none, errW_some] <;> rfl) | (simp [*, errW_none, errW_some] <;> rfl), by repeat (first | (with_reducible first | exact HB.out | apply below_alloc | apply pw_below_drewN | apply below_drew1 | refine below_set ?_ GE265.out | refine below_set ?_ GE268.out | refine below_set ?_ GE273.out | refine below_set ?_ GE274.out | refine below_set ?_ GE278.out) | exact HB.out)⟩
 ·rw [if_neg c5] at H
  have c5b0 : decide (1 < a1) = false := decide_eq_false c5
  clear c5
  replace H := Option.bind_eq_some_iff.mp H
  obtain ⟨t280, A1080, H⟩ := H
  replace H : (some (!t280)) = some r := H
  have A108 := Aside0.mk A1080
  clear A1080
  obtain rfl := Option.some.inj H
  go_enter Try.func39, Try.ntmps39
  go_wp2_with (first | ((with_reducible refine gate_dst (N := 5) rfl ?_); refine box_event ?hg (N := 5) ?hd (cs := #[.int .u64 a2_0, .int .u64 a2_1]) (t := 50) ?hr ?_; (case hd => rfl); (case hg => rfl); (case hr => first | (go_simp; done) | (go_simp; rfl)); intro gb265 hg w109 hbox hb; have n0_ := Aside0.mk (below_step (by repeat (first | (with_reducible first | exact HB.out | apply below_alloc | apply pw_below_drewN | apply below_drew1) | exact HB.out)) hb); have n1_ := Aside0.mk (hbox); have n2_ := Aside0.mk ((by rw [hg]; exact (below_size (by repeat (first | (with_reducible first | exact HB.out | apply below_alloc | apply pw_below_drewN | apply below_drew1) | exact HB.out))) : w.heap.size ≤ gb265)); have n3_ := Aside0.mk ((by rw [hg]; exact (below_size (by repeat (first | (with_reducible first | exact HB.out | apply below_alloc | apply pw_below_drewN | apply below_drew1) | exact HB.out))) : w.heap.size ≤ gb265)); clear HB; have HB := n0_; have BK265 := n1_; have GW265 := n2_; have GE265 := n3_; clear n0_ n1_ n2_ n3_; clear hb hbox hg) | ((with_reducible refine gate_callee (f := 30) rfl ?_); refine goesL_ (some 14) rfl rfl Try.func30 (by kernel_rfl) rfl #[.int .u64 a0, .int .u64 a0] rfl (by (try simp only [List.map_toArray, List.map_cons, List.map_nil]); first | done | rfl | (simp only [List.length_drop, List.length_take]; rfl)) ?_; (with_reducible refine (overfallref01_Mul.calls k a0 a0 t266 t267 _ A4.out).mono ?_); rintro e w110 ⟨rfl, hb⟩; refine ⟨_, rfl, ?_⟩; have n0_ := Aside0.mk (blk_below (by exact BK265.out) hb); have n1_ := Aside0.mk (below_step (by repeat (first | (with_reducible first | exact HB.out | apply below_alloc | apply pw_below_drewN | apply below_drew1 | refine below_set ?_ GE265.out) | exact HB.out)) hb); clear BK265; clear HB; have BK265 := n0_; have HB := n1_; clear n0_ n1_; (try clear hb); (try clear hb2); (try clear hk); (try clear hi)) | ((with_reducible refine gate_dst (N := 7) rfl ?_); refine box_event ?hg (N := 7) ?hd (cs := #[.int .u64 0, .int .u64 0]) (t := 50) ?hr ?_; (case hd => rfl); (case hg => rfl); (case hr => first | (go_simp; done) | (go_simp; rfl)); intro gb268 hg w111 hbox hb; have n0_ := Aside0.mk (blk_below (by exact BK265.out) hb); have n1_ := Aside0.mk (below_step (by repeat (first | (with_reducible first | exact HB.out | apply below_alloc | apply pw_below_drewN | apply below_drew1 | refine below_set ?_ GE265.out) | exact HB.out)) hb); have n2_ := Aside0.mk (hbox); have n3_ := Aside0.mk ((by rw [hg]; exact (below_size (by repeat (first | (with_reducible first | exact HB.out | apply below_alloc | apply pw_below_drewN | apply below_drew1 | refine below_set ?_ GE265.out) | exact HB.out))) : w.heap.size ≤ gb268)); have n4_ := Aside0.mk ((by rw [hg]; exact (below_size (by repeat (first | (with_reducible first | exact HB.out | apply below_alloc | apply pw_below_drewN | apply below_drew1 | refine below_set ?_ GE265.out) | exact HB.out))) : w.heap.size ≤ gb268)); have n5_ := Aside0.mk ((by rw [hg]; exact Nat.ne_of_lt (blk_lt (by exact BK265.out)) : gb265 ≠ gb268)); have n6_ := Aside0.mk ((by rw [hg]; exact Nat.ne_of_gt (blk_lt (by exact BK265.out)) : gb268 ≠ gb265)); clear BK265; clear HB; have BK265 := n0_; have HB := n1_; have BK268 := n2_; have GW268 := n3_; have GE268 := n4_; have NB265_268 := n5_; have NB268_265 := n6_; clear n0_ n1_ n2_ n3_ n4_ n5_ n6_; clear hb hbox hg; have hnb112 := NB268_265.out; have hnc112 := NB265_268.out; have hcz113_0 : w111.cell? ⟨gb268, 0, none⟩ = some (.int .u64 0) := (blk_cell BK268.out 0).trans rfl; have hcz113_1 : w111.cell? ⟨gb268, 1, none⟩ = some (.int .u64 0) := (blk_cell BK268.out 1).trans rfl; have hfz113_0 := blk_frozen BK268.out 0; have hfz113_1 := blk_frozen BK268.out 1; have hcz114_0 : w111.cell? ⟨gb265, 0, none⟩ = some (.int .u64 a2_0) := (blk_cell BK265.out 0).trans rfl; have hcz114_1 : w111.cell? ⟨gb265, 1, none⟩ = some (.int .u64 a2_1) := (blk_cell BK265.out 1).trans rfl; have hfz114_0 := blk_frozen BK265.out 0; have hfz114_1 := blk_frozen BK265.out 1) | ((with_reducible refine gate_callee (f := 25) rfl ?_); refine goesL_ (some 42) rfl rfl Try.func25 (by kernel_rfl) rfl #[.agg #[.int .u64 a2_0, .int .u64 a2_1], .agg #[.int .u64 t266, .int .u64 t267]] rfl (by (try simp only [List.map_toArray, List.map_cons, List.map_nil]); first | done | rfl | (simp only [List.length_drop, List.length_take]; rfl)) ?_; (with_reducible refine (overfallref01_Less.calls a2_0 a2_1 t266 t267 t280 _ A108.out).mono ?_); rintro e w115 ⟨rfl, hb⟩; refine ⟨_, rfl, ?_⟩; have n0_ := Aside0.mk (blk_below (g := gb265) (o := .cells #[.int .u64 a2_0, .int .u64 a2_1] 50 (0, 0)) (by refine blk_far ?_ NB265_268.out _; refine blk_far ?_ NB265_268.out _; exact BK265.out) hb); have n1_ := Aside0.mk (blk_below (g := gb268) (o := .cells #[.int .u64 t266, .int .u64 t267] 50 (0, 0)) (by refine blk_put (cs := #[.int .u64 t266, .int .u64 0]) ?_ 1 _ rfl; refine blk_put (cs := #[.int .u64 0, .int .u64 0]) ?_ 0 _ rfl; exact BK268.out) hb); have n2_ := Aside0.mk (below_step (by repeat (first | (with_reducible first | exact HB.out | apply below_alloc | apply pw_below_drewN | apply below_drew1 | refine below_set ?_ GE265.out | refine below_set ?_ GE268.out) | exact HB.out)) hb); clear BK265; clear BK268; clear HB; have BK265 := n0_; have BK268 := n1_; have HB := n2_; clear n0_ n1_ n2_; (try clear hb); (try clear hb2); (try clear hk); (try clear hi)))
  go_ret
  exact ⟨by first | rfl | (simp [errW_none, errW_some] <;> rfl) | (simp [*, errW_none, errW_some] <;> rfl), by repeat (first | (with_reducible first | exact HB.out | apply below_alloc | apply pw_below_drewN | apply below_drew1 | refine below_set ?_ GE265.out | refine below_set ?_ GE268.out) | exact HB.out)⟩

end Go.Proofs.Ytiiffgmbkajkhaa.A

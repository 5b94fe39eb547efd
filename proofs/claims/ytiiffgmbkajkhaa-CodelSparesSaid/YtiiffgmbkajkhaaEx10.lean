-- Laid by a program of this claim's session (wip/tools/myprint.py) over the kit's printer.
import Derived.Test.YtiiffgmbkajkhaaEx0
import Derived.Test.YtiiffgmbkajkhaaEx7
import Derived.Test.YtiiffgmbkajkhaaEx9
namespace Go.Proofs.Ytiiffgmbkajkhaa.E
open Go.RowKit Go.Proofs.YtiiffgmbkajkhaaW.PrintWords Go.Proofs.YtiiffgmbkajkhaaW.PrintLast Go.Proofs.YtiiffgmbkajkhaaW.PrintMore
attribute [local go_sem] max2_int min2_int max_two min_two max_three min_three max_four min_four   -- for this text's walks alone
set_option linter.unusedVariables false
set_option linter.unusedSimpArgs false

/-! ### overfallref03_Fits: function 39 -/
def overfallref03_Fits.f (k : Nat) (a0 : Int) (a1 : Int) (a2_0 : Int) (a2_1 : Int) : Option (Bool) := (overfallref01_Mul.f k a0 a0).bind fun bt307 => (if a1 > 1 then ((overfallref01_Mul.f k bt307.2 a1).bind fun bt310 => ((overfallref01_Mul.f k bt307.1 a1).bind fun bt312 => ((overfallref01_Add.f k bt310.1 bt310.2 bt312.2 0).bind fun bt316 => (if bt312.1 > 0 then (some false) else (if bt316.2.2 = true then (some false) else ((overfallref01_Less.f a2_0 a2_1 bt316.1 bt316.2.1).bind fun t320 => (some (!t320)))))))) else ((overfallref01_Less.f a2_0 a2_1 bt307.1 bt307.2).bind fun t321 => (some (!t321))))
theorem overfallref03_Fits.mono : ∀ a0 a1 a2 a3 k, LeO (overfallref03_Fits.f k a0 a1 a2 a3) (overfallref03_Fits.f (k + 1) a0 a1 a2 a3) := by
 intro a0 a1 a2 a3 k
 unfold overfallref03_Fits.f
 repeat' first
   | (with_reducible exact overfallref01_Add.mono _ _ _ _ _)
   | (with_reducible exact overfallref01_Mul.mono _ _ _)
   | (with_reducible exact LeO.refl _)
   | (with_reducible exact LeO.none _)
   | (with_reducible refine LeO.ite ?_ ?_)
   | (with_reducible refine LeO.bind ?_ (fun _ => ?_))
   | exact overfallref01_Add.mono _ _ _ _ _
   | exact overfallref01_Mul.mono _ _ _
   | exact LeO.none _
   | refine LeO.ite ?_ ?_
   | refine LeO.bind ?_ (fun _ => ?_)
def overfallref03_Fits.T3 : Bool × List (List Nat × List Nat) := (true, [([], []), ([0], [0]), ([], []), ([1, 2], [1, 2]), ([], []), ([4], [4]), ([], []), ([5, 6, 3], [5, 6]), ([], []), ([], []), ([8, 3, 7, 0, 1, 2, 3, 8, 9], [3, 8]), ([9, 7, 10, 0, 1, 2, 3, 4, 5, 6, 7, 8, 9, 10], [7, 9])])
def overfallref03_Fits.B3 : List Nat := [0, 1, 0, 7, 0, 16, 0, 127, 0, 0, 1023, 2047]
theorem overfallref03_Fits.tab3 : rtab .any (opsOf Try.f39 3) = overfallref03_Fits.T3 := by kernel_rfl
theorem overfallref03_Fits.bits3 : waitsOk overfallref03_Fits.T3.2 overfallref03_Fits.B3 = true := by kernel_rfl
set_option maxHeartbeats 8000000 in
set_option maxRecDepth 100000 in
theorem overfallref03_Fits.calls (k : Nat) (a0 : Int) (a1 : Int) (a2_0 : Int) (a2_1 : Int) (r : Bool) (w : World) (h : overfallref03_Fits.f k a0 a1 a2_0 a2_1 = some r) :
  Calls Try.prog 39 #[.int .u64 a0, .int .u64 a1, .agg #[.int .u64 a2_0, .int .u64 a2_1]] w fun e w' => e = .returned (.bool r) ∧ Below w.heap.size w w' := by
 have hu50 := Try.underlying50
 have HB := Aside0.mk (Below.refl w.heap.size w)
 have H : ((overfallref01_Mul.f k a0 a0).bind fun bt307 => (if a1 > 1 then ((overfallref01_Mul.f k bt307.2 a1).bind fun bt310 => ((overfallref01_Mul.f k bt307.1 a1).bind fun bt312 => ((overfallref01_Add.f k bt310.1 bt310.2 bt312.2 0).bind fun bt316 => (if bt312.1 > 0 then (some false) else (if bt316.2.2 = true then (some false) else ((overfallref01_Less.f a2_0 a2_1 bt316.1 bt316.2.1).bind fun t320 => (some (!t320)))))))) else ((overfallref01_Less.f a2_0 a2_1 bt307.1 bt307.2).bind fun t321 => (some (!t321))))) = some r := h
 clear h
 replace H := Option.bind_eq_some_iff.mp H
 obtain ⟨⟨t307, t308⟩, A40, H⟩ := H
 replace H : (if a1 > 1 then ((overfallref01_Mul.f k t308 a1).bind fun bt310 => ((overfallref01_Mul.f k t307 a1).bind fun bt312 => ((overfallref01_Add.f k bt310.1 bt310.2 bt312.2 0).bind fun bt316 => (if bt312.1 > 0 then (some false) else (if bt316.2.2 = true then (some false) else ((overfallref01_Less.f a2_0 a2_1 bt316.1 bt316.2.1).bind fun t320 => (some (!t320)))))))) else ((overfallref01_Less.f a2_0 a2_1 t307 t308).bind fun t321 => (some (!t321)))) = some r := H
 have A4 := Aside0.mk A40
 clear A40
 by_cases c5 : a1 > 1
 ·rw [if_pos c5] at H
  have c5b0 : decide (1 < a1) = true := decide_eq_true c5
  clear c5
  replace H := Option.bind_eq_some_iff.mp H
  obtain ⟨⟨t310, t311⟩, A60, H⟩ := H
  replace H : ((overfallref01_Mul.f k t307 a1).bind fun bt312 => ((overfallref01_Add.f k t310 t311 bt312.2 0).bind fun bt316 => (if bt312.1 > 0 then (some false) else (if bt316.2.2 = true then (some false) else ((overfallref01_Less.f a2_0 a2_1 bt316.1 bt316.2.1).bind fun t320 => (some (!t320))))))) = some r := H
  have A6 := Aside0.mk A60
  clear A60
  replace H := Option.bind_eq_some_iff.mp H
  obtain ⟨⟨t312, t313⟩, A70, H⟩ := H
  replace H : ((overfallref01_Add.f k t310 t311 t313 0).bind fun bt316 => (if t312 > 0 then (some false) else (if bt316.2.2 = true then (some false) else ((overfallref01_Less.f a2_0 a2_1 bt316.1 bt316.2.1).bind fun t320 => (some (!t320)))))) = some r := H
  have A7 := Aside0.mk A70
  clear A70
  replace H := Option.bind_eq_some_iff.mp H
  obtain ⟨⟨t316, t317, t318⟩, A80, H⟩ := H
  replace H : (if t312 > 0 then (some false) else (if t318 = true then (some false) else ((overfallref01_Less.f a2_0 a2_1 t316 t317).bind fun t320 => (some (!t320))))) = some r := H
  have A8 := Aside0.mk A80
  clear A80
  by_cases c9 : t312 > 0
  ·rw [if_pos c9] at H
   have c9b0 : decide (0 < t312) = true := decide_eq_true c9
   clear c9
   obtain rfl := Option.some.inj H
   go_enter Try.func39, Try.ntmps39
   try go_wp2_with (first | ((with_reducible refine gate_dst (N := 5) rfl ?_); refine box_event ?hg (N := 5) ?hd (cs := #[.int .u64 a2_0, .int .u64 a2_1]) (t := 50) ?hr ?_; (case hd => rfl); (case hg => rfl); (case hr => first | (go_simp; done) | (go_simp; rfl)); intro gb306 hg w10 hbox hb; have n0_ := Aside0.mk (below_step (by repeat (first | (with_reducible first | exact HB.out | apply below_alloc | apply pw_below_drewN | apply below_drew1) | exact HB.out)) hb); have n1_ := Aside0.mk (hbox); have n2_ := Aside0.mk ((by rw [hg]; exact (below_size (by repeat (first | (with_reducible first | exact HB.out | apply below_alloc | apply pw_below_drewN | apply below_drew1) | exact HB.out))) : w.heap.size ≤ gb306)); have n3_ := Aside0.mk ((by rw [hg]; exact (below_size (by repeat (first | (with_reducible first | exact HB.out | apply below_alloc | apply pw_below_drewN | apply below_drew1) | exact HB.out))) : w.heap.size ≤ gb306)); clear HB; have HB := n0_; have BK306 := n1_; have GW306 := n2_; have GE306 := n3_; clear n0_ n1_ n2_ n3_; clear hb hbox hg) | ((with_reducible refine gate_callee (f := 30) rfl ?_); refine goesL_ (some 14) rfl rfl Try.func30 (by kernel_rfl) rfl #[.int .u64 a0, .int .u64 a0] rfl (by (try simp only [List.map_toArray, List.map_cons, List.map_nil]); first | done | rfl | (simp only [List.length_drop, List.length_take]; rfl)) ?_; (with_reducible refine (overfallref01_Mul.calls k a0 a0 t307 t308 _ A4.out).mono ?_); rintro e w11 ⟨rfl, hb⟩; refine ⟨_, rfl, ?_⟩; have n0_ := Aside0.mk (blk_below (by exact BK306.out) hb); have n1_ := Aside0.mk (below_step (by repeat (first | (with_reducible first | exact HB.out | apply below_alloc | apply pw_below_drewN | apply below_drew1 | refine below_set ?_ GE306.out) | exact HB.out)) hb); clear BK306; clear HB; have BK306 := n0_; have HB := n1_; clear n0_ n1_; (try clear hb); (try clear hb2); (try clear hk); (try clear hi)) | ((with_reducible refine gate_dst (N := 7) rfl ?_); refine box_event ?hg (N := 7) ?hd (cs := #[.int .u64 0, .int .u64 0]) (t := 50) ?hr ?_; (case hd => rfl); (case hg => rfl); (case hr => first | (go_simp; done) | (go_simp; rfl)); intro gb309 hg w12 hbox hb; have n0_ := Aside0.mk (blk_below (by exact BK306.out) hb); have n1_ := Aside0.mk (below_step (by repeat (first | (with_reducible first | exact HB.out | apply below_alloc | apply pw_below_drewN | apply below_drew1 | refine below_set ?_ GE306.out) | exact HB.out)) hb); have n2_ := Aside0.mk (hbox); have n3_ := Aside0.mk ((by rw [hg]; exact (below_size (by repeat (first | (with_reducible first | exact HB.out | apply below_alloc | apply pw_below_drewN | apply below_drew1 | refine below_set ?_ GE306.out) | exact HB.out))) : w.heap.size ≤ gb309)); have n4_ := Aside0.mk ((by rw [hg]; exact (below_size (by repeat (first | (with_reducible first | exact HB.out | apply below_alloc | apply pw_below_drewN | apply below_drew1 | refine below_set ?_ GE306.out) | exact HB.out))) : w.heap.size ≤ gb309)); have n5_ := Aside0.mk ((by rw [hg]; exact Nat.ne_of_lt (blk_lt (by exact BK306.out)) : gb306 ≠ gb309)); have n6_ := Aside0.mk ((by rw [hg]; exact Nat.ne_of_gt (blk_lt (by exact BK306.out)) : gb309 ≠ gb306)); clear BK306; clear HB; have BK306 := n0_; have HB := n1_; have BK309 := n2_; have GW309 := n3_; have GE309 := n4_; have NB306_309 := n5_; have NB309_306 := n6_; clear n0_ n1_ n2_ n3_ n4_ n5_ n6_; clear hb hbox hg; have hnb13 := NB309_306.out; have hnc13 := NB306_309.out; have hcz14_0 : w12.cell? ⟨gb309, 0, none⟩ = some (.int .u64 0) := (blk_cell BK309.out 0).trans rfl; have hcz14_1 : w12.cell? ⟨gb309, 1, none⟩ = some (.int .u64 0) := (blk_cell BK309.out 1).trans rfl; have hfz14_0 := blk_frozen BK309.out 0; have hfz14_1 := blk_frozen BK309.out 1))
   have n0_ : Aside0 (((w12.setCell ⟨gb309, 0, none⟩ (.int .u64 t307)).setCell ⟨gb309, 1, none⟩ (.int .u64 t308)).heap[gb306]? = some (.cells #[.int .u64 a2_0, .int .u64 a2_1] 50 (0, 0))) := ⟨by refine blk_far ?_ NB306_309.out _; refine blk_far ?_ NB306_309.out _; exact BK306.out⟩
   have n1_ : Aside0 (((w12.setCell ⟨gb309, 0, none⟩ (.int .u64 t307)).setCell ⟨gb309, 1, none⟩ (.int .u64 t308)).heap[gb309]? = some (.cells #[.int .u64 t307, .int .u64 t308] 50 (0, 0))) := ⟨by refine blk_put (cs := #[.int .u64 t307, .int .u64 0]) ?_ 1 _ rfl; refine blk_put (cs := #[.int .u64 0, .int .u64 0]) ?_ 0 _ rfl; exact BK309.out⟩
   have n2_ : Aside0 (Below w.heap.size w ((w12.setCell ⟨gb309, 0, none⟩ (.int .u64 t307)).setCell ⟨gb309, 1, none⟩ (.int .u64 t308))) := ⟨by repeat (first | (with_reducible first | exact HB.out | apply below_alloc | apply pw_below_drewN | apply below_drew1 | refine below_set ?_ GE306.out | refine below_set ?_ GE309.out) | exact HB.out)⟩
   (try clear BK306)
   (try clear BK309)
   (try clear HB)
   generalize ((w12.setCell ⟨gb309, 0, none⟩ (.int .u64 t307)).setCell ⟨gb309, 1, none⟩ (.int .u64 t308)) = w15 at n0_ n1_ n2_ ⊢
   have BK306 := n0_
   have BK309 := n1_
   have HB := n2_
   clear n0_ n1_ n2_
   have n0_ := Aside0.mk (blk_drew BK306.out)
   have n1_ := Aside0.mk (blk_drew BK309.out)
   have n2_ := Aside0.mk (below_drew1 HB.out)
   clear BK306
   clear BK309
   clear HB
   have BK306 := n0_
   have BK309 := n1_
   have HB := n2_
   clear n0_ n1_ n2_
   refine start_ (n := 12) (S := fun w' => True) (ds := []) #[false, false, false, false, false, false, false, false, false, false, false, false] (by kernel_rfl) rfl rfl trivial (fun hHeld => ?_); refine with_tabW overfallref03_Fits.tab3 overfallref03_Fits.bits3 (fun HT_ HW_ => ?_)
   generalize w15.drew = w16 at BK306 BK309 HB hHeld ⊢
   refine pure_ (i := 0) (N := some 17) (v := ?_) (a' := ?_) #[true, false, false, false, false, false, false, false, false, false, false, false] rfl rfl (any_of HT_.out (by kernel_rfl)) (fun _ _ _ h => h) (Or.inl ⟨by rfl, ?_⟩) ?_ ?_
   rotate_left
   ·intro w'
    go_simp
    with_reducible rfl
   rotate_left
   ·simp only [Act.put, List.setIfInBounds_toArray, List.set_cons_zero, List.set_cons_succ, i64_w, i32_w]
    rfl
   refine pure_ (i := 2) (N := some 19) (v := ?_) (a' := ?_) #[true, false, true, false, false, false, false, false, false, false, false, false] rfl rfl (any_of HT_.out (by kernel_rfl)) (fun _ _ _ h => h) (Or.inl ⟨by rfl, ?_⟩) ?_ ?_
   rotate_left
   ·intro w'
    go_simp
    with_reducible rfl
   rotate_left
   ·simp only [Act.put, List.setIfInBounds_toArray, List.set_cons_zero, List.set_cons_succ, i64_w, i32_w]
    rfl
   refine pure_ (i := 4) (N := some 21) (v := ?_) (a' := ?_) #[true, false, true, false, true, false, false, false, false, false, false, false] rfl rfl (any_of HT_.out (by kernel_rfl)) (fun _ _ _ h => h) (Or.inl ⟨by rfl, ?_⟩) ?_ ?_
   rotate_left
   ·intro w'
    go_simp
    with_reducible rfl
   rotate_left
   ·simp only [Act.put, List.setIfInBounds_toArray, List.set_cons_zero, List.set_cons_succ, i64_w, i32_w]
    rfl
   refine pure_ (i := 6) (N := some 23) (v := ?_) (a' := ?_) #[true, false, true, false, true, false, true, false, false, false, false, false] rfl rfl (any_of HT_.out (by kernel_rfl)) (fun _ _ _ h => h) (Or.inl ⟨by rfl, ?_⟩) ?_ ?_
   rotate_left
   ·intro w'
    go_simp
    with_reducible rfl
   rotate_left
   ·simp only [Act.put, List.setIfInBounds_toArray, List.set_cons_zero, List.set_cons_succ, i64_w, i32_w]
    rfl
   refine inv_at [1, 3, 5, 7, 8, 9, 10, 11] (fun a0_ b a w' => ∃ (gb314 : Nat) (gb315 : Nat) (m8_ : Value) (m9_ : Value), a = putSel a0_ b [(1, 18, .int .u64 t308), (3, 20, .agg #[.int .u64 t310, .int .u64 t311]), (5, 22, .int .u64 t307), (7, 24, .agg #[.int .u64 t312, .int .u64 t313]), (8, 8, m8_), (9, 9, m9_)] ∧ (w'.heap[gb306]? = some (.cells #[.int .u64 a2_0, .int .u64 a2_1] 50 (0, 0))) ∧ (w'.heap[gb309]? = some (.cells #[.int .u64 t307, .int .u64 t308] 50 (0, 0))) ∧ (Below w.heap.size w w') ∧ (b 8 = true → b 9 = true → gb315 ≠ gb314) ∧ (b 8 = true → b 9 = true → gb314 ≠ gb315) ∧ (b 8 = true → b 10 = false → w'.heap[gb314]? = some (.cells #[.int .u64 0, .int .u64 0] 50 (0, 0))) ∧ (b 8 = true → w.heap.size ≤ gb314) ∧ (b 8 = true → w.heap.size ≤ gb314) ∧ (b 8 = true → gb306 ≠ gb314) ∧ (b 8 = true → gb314 ≠ gb306) ∧ (b 8 = true → gb309 ≠ gb314) ∧ (b 8 = true → gb314 ≠ gb309) ∧ (b 9 = true → b 11 = false → w'.heap[gb315]? = some (.cells #[.int .u64 0, .int .u64 0] 50 (0, 0))) ∧ (b 9 = true → w.heap.size ≤ gb315) ∧ (b 9 = true → w.heap.size ≤ gb315) ∧ (b 9 = true → gb306 ≠ gb315) ∧ (b 9 = true → gb315 ≠ gb306) ∧ (b 9 = true → gb309 ≠ gb315) ∧ (b 9 = true → gb315 ≠ gb309) ∧ (b 10 = true → w'.heap[gb314]? = some (.cells #[.int .u64 t310, .int .u64 t311] 50 (0, 0))) ∧ (b 11 = true → w'.heap[gb315]? = some (.cells #[.int .u64 t312, .int .u64 t313] 50 (0, 0))) ∧ (b 8 = true → (m8_ : Value) = .pointer (some ⟨gb314, 0, none⟩)) ∧ (b 9 = true → (m9_ : Value) = .pointer (some ⟨gb315, 0, none⟩))) HT_.out HW_.out (by kernel_rfl) (by kernel_rfl) ?_ ?_ ?_
   ·exact ⟨0, 0, .bool false, .bool false, by simp only [putSel, Bool.false_eq_true, if_false], BK306.out, BK309.out, HB.out, fun h_ => absurd h_ (by decide), fun h_ => absurd h_ (by decide), fun h_ => absurd h_ (by decide), fun h_ => absurd h_ (by decide), fun h_ => absurd h_ (by decide), fun h_ => absurd h_ (by decide), fun h_ => absurd h_ (by decide), fun h_ => absurd h_ (by decide), fun h_ => absurd h_ (by decide), fun h_ => absurd h_ (by decide), fun h_ => absurd h_ (by decide), fun h_ => absurd h_ (by decide), fun h_ => absurd h_ (by decide), fun h_ => absurd h_ (by decide), fun h_ => absurd h_ (by decide), fun h_ => absurd h_ (by decide), fun h_ => absurd h_ (by decide), fun h_ => absurd h_ (by decide), fun h_ => absurd h_ (by decide), fun h_ => absurd h_ (by decide)⟩
   ·skip
    clear BK306 BK309 HB
    refine steps_cons ?_ ?_
    ·rintro b a w' ⟨gb314, gb315, m8_, m9_, ha, Q_BK306, Q_BK309, Q_HB, Q_NB315_314, Q_NB314_315, Q_BK314, Q_GW314, Q_GE314, Q_NB306_314, Q_NB314_306, Q_NB309_314, Q_NB314_309, Q_BK315, Q_GW315, Q_GE315, Q_NB306_315, Q_NB315_306, Q_NB309_315, Q_NB315_309, Q_BK314_e10, Q_BK315_e11, Q_X8_, Q_X9_⟩ hb_ hon hoff
     refine ⟨_, rfl, fun K hK => ?_⟩
     have e17 : a.tmps[17]? = some (.pointer (some ⟨gb309, 1, none⟩)) := by rw [ha]; exact (putSel_off rfl).trans rfl
     replace ha := Aside0.mk ha
     have BK306 := Aside0.mk Q_BK306
     have BK309 := Aside0.mk Q_BK309
     have HB := Aside0.mk Q_HB
     have hc0_ : w'.cell? ⟨gb309, 0, none⟩ = some (.int .u64 t307) := (blk_cell BK309.out 0).trans rfl
     have hc1_ : w'.cell? ⟨gb309, 1, none⟩ = some (.int .u64 t308) := (blk_cell BK309.out 1).trans rfl
     refine value_ (w1 := w') (v := .int .u64 t308) (by rfl) rfl ?_ ?_
     ·go_simp
      (try simp only [i64_w])
      try rfl
     refine hK.out _ _ ⟨gb314, gb315, m8_, m9_, (by rw [ha.out]; exact putSel_upk 0 hb_ rfl rfl rfl), Q_BK306, Q_BK309, Q_HB, Q_NB315_314, Q_NB314_315, Q_BK314, Q_GW314, Q_GE314, Q_NB306_314, Q_NB314_306, Q_NB309_314, Q_NB314_309, Q_BK315, Q_GW315, Q_GE315, Q_NB306_315, Q_NB315_306, Q_NB309_315, Q_NB315_309, fun h0_ => absurd ((hoff 10 (by kernel_rfl)).symm.trans h0_) (by decide), fun h0_ => absurd ((hoff 11 (by kernel_rfl)).symm.trans h0_) (by decide), Q_X8_, Q_X9_⟩
    refine steps_cons ?_ ?_
    ·rintro b a w' ⟨gb314, gb315, m8_, m9_, ha, Q_BK306, Q_BK309, Q_HB, Q_NB315_314, Q_NB314_315, Q_BK314, Q_GW314, Q_GE314, Q_NB306_314, Q_NB314_306, Q_NB309_314, Q_NB314_309, Q_BK315, Q_GW315, Q_GE315, Q_NB306_315, Q_NB315_306, Q_NB309_315, Q_NB315_309, Q_BK314_e10, Q_BK315_e11, Q_X8_, Q_X9_⟩ hb_ hon hoff
     refine ⟨_, rfl, fun K hK => ?_⟩
     have e18 : a.tmps[18]? = some (.int .u64 t308) := by rw [ha]; exact putSel_on (e := (1, 18, .int .u64 t308)) 0 rfl rfl (hon 1 (by kernel_rfl)) rfl
     have e19 : a.tmps[19]? = some (.int .u64 a1) := by rw [ha]; exact (putSel_off rfl).trans rfl
     replace ha := Aside0.mk ha
     have BK306 := Aside0.mk Q_BK306
     have BK309 := Aside0.mk Q_BK309
     have HB := Aside0.mk Q_HB
     refine goes_ Try.func30 (by kernel_rfl) rfl #[.int .u64 t308, .int .u64 a1] (by rfl) rfl rfl (by first | (simp only [List.map_toArray, List.map_cons, List.map_nil, Act.eval, Array.getD_eq_getD_getElem?, Option.getD_some, e18, e19]; done) | (simp only [List.map_toArray, List.map_cons, List.map_nil, Act.eval, Array.getD_eq_getD_getElem?, Option.getD_some, e18, e19]; rfl)) ?_
     with_reducible refine (overfallref01_Mul.calls k t308 a1 t310 t311 _ A6.out).mono ?_
     rintro e w17 ⟨rfl, hb⟩
     refine ⟨_, rfl, ?_⟩
     have n0_ := Aside0.mk (blk_below (by exact BK306.out) hb)
     have n1_ := Aside0.mk (blk_below (by exact BK309.out) hb)
     have n2_ := Aside0.mk (below_step (by repeat (first | (with_reducible first | exact HB.out | apply below_alloc | apply pw_below_drewN | apply below_drew1 | refine below_set ?_ GE306.out | refine below_set ?_ GE309.out) | exact HB.out)) hb)
     have z_BK314 := fun (h0_ : b 8 = true) (h1_ : b 10 = false) => (show w17.heap[gb314]? = some (.cells #[.int .u64 0, .int .u64 0] 50 (0, 0)) from by first | exact (blk_below (g := gb314) (o := .cells #[.int .u64 0, .int .u64 0] 50 (0, 0)) (by exact (Q_BK314 h0_ h1_)) hb))
     have z_BK315 := fun (h0_ : b 9 = true) (h1_ : b 11 = false) => (show w17.heap[gb315]? = some (.cells #[.int .u64 0, .int .u64 0] 50 (0, 0)) from by first | exact (blk_below (g := gb315) (o := .cells #[.int .u64 0, .int .u64 0] 50 (0, 0)) (by exact (Q_BK315 h0_ h1_)) hb))
     clear BK306
     clear BK309
     clear HB
     have BK306 := n0_
     have BK309 := n1_
     have HB := n2_
     clear n0_ n1_ n2_
     (try clear hb)
     (try clear hb2)
     (try clear hk)
     (try clear hi)
     refine hK.out _ _ ⟨gb314, gb315, m8_, m9_, (by rw [ha.out]; exact putSel_upk 1 hb_ rfl rfl rfl), (by exact BK306.out), (by exact BK309.out), (by repeat (first | (with_reducible first | exact HB.out | apply below_alloc | apply pw_below_drewN | apply below_drew1 | refine below_set ?_ GE306.out | refine below_set ?_ GE309.out) | exact HB.out)), Q_NB315_314, Q_NB314_315, z_BK314, Q_GW314, Q_GE314, Q_NB306_314, Q_NB314_306, Q_NB309_314, Q_NB314_309, z_BK315, Q_GW315, Q_GE315, Q_NB306_315, Q_NB315_306, Q_NB309_315, Q_NB315_309, fun h0_ => absurd ((hoff 10 (by kernel_rfl)).symm.trans h0_) (by decide), fun h0_ => absurd ((hoff 11 (by kernel_rfl)).symm.trans h0_) (by decide), Q_X8_, Q_X9_⟩
    refine steps_cons ?_ ?_
    ·rintro b a w' ⟨gb314, gb315, m8_, m9_, ha, Q_BK306, Q_BK309, Q_HB, Q_NB315_314, Q_NB314_315, Q_BK314, Q_GW314, Q_GE314, Q_NB306_314, Q_NB314_306, Q_NB309_314, Q_NB314_309, Q_BK315, Q_GW315, Q_GE315, Q_NB306_315, Q_NB315_306, Q_NB309_315, Q_NB315_309, Q_BK314_e10, Q_BK315_e11, Q_X8_, Q_X9_⟩ hb_ hon hoff
     refine ⟨_, rfl, fun K hK => ?_⟩
     have e21 : a.tmps[21]? = some (.pointer (some ⟨gb309, 0, none⟩)) := by rw [ha]; exact (putSel_off rfl).trans rfl
     replace ha := Aside0.mk ha
     have BK306 := Aside0.mk Q_BK306
     have BK309 := Aside0.mk Q_BK309
     have HB := Aside0.mk Q_HB
     have hc0_ : w'.cell? ⟨gb309, 0, none⟩ = some (.int .u64 t307) := (blk_cell BK309.out 0).trans rfl
     have hc1_ : w'.cell? ⟨gb309, 1, none⟩ = some (.int .u64 t308) := (blk_cell BK309.out 1).trans rfl
     refine value_ (w1 := w') (v := .int .u64 t307) (by rfl) rfl ?_ ?_
     ·go_simp
      (try simp only [i64_w])
      try rfl
     refine hK.out _ _ ⟨gb314, gb315, m8_, m9_, (by rw [ha.out]; exact putSel_upk 2 hb_ rfl rfl rfl), Q_BK306, Q_BK309, Q_HB, Q_NB315_314, Q_NB314_315, Q_BK314, Q_GW314, Q_GE314, Q_NB306_314, Q_NB314_306, Q_NB309_314, Q_NB314_309, Q_BK315, Q_GW315, Q_GE315, Q_NB306_315, Q_NB315_306, Q_NB309_315, Q_NB315_309, fun h0_ => absurd ((hoff 10 (by kernel_rfl)).symm.trans h0_) (by decide), fun h0_ => absurd ((hoff 11 (by kernel_rfl)).symm.trans h0_) (by decide), Q_X8_, Q_X9_⟩
    refine steps_cons ?_ ?_
    ·rintro b a w' ⟨gb314, gb315, m8_, m9_, ha, Q_BK306, Q_BK309, Q_HB, Q_NB315_314, Q_NB314_315, Q_BK314, Q_GW314, Q_GE314, Q_NB306_314, Q_NB314_306, Q_NB309_314, Q_NB314_309, Q_BK315, Q_GW315, Q_GE315, Q_NB306_315, Q_NB315_306, Q_NB309_315, Q_NB315_309, Q_BK314_e10, Q_BK315_e11, Q_X8_, Q_X9_⟩ hb_ hon hoff
     refine ⟨_, rfl, fun K hK => ?_⟩
     have e22 : a.tmps[22]? = some (.int .u64 t307) := by rw [ha]; exact putSel_on (e := (5, 22, .int .u64 t307)) 2 rfl rfl (hon 5 (by kernel_rfl)) rfl
     have e23 : a.tmps[23]? = some (.int .u64 a1) := by rw [ha]; exact (putSel_off rfl).trans rfl
     replace ha := Aside0.mk ha
     have BK306 := Aside0.mk Q_BK306
     have BK309 := Aside0.mk Q_BK309
     have HB := Aside0.mk Q_HB
     refine goes_ Try.func30 (by kernel_rfl) rfl #[.int .u64 t307, .int .u64 a1] (by rfl) rfl rfl (by first | (simp only [List.map_toArray, List.map_cons, List.map_nil, Act.eval, Array.getD_eq_getD_getElem?, Option.getD_some, e22, e23]; done) | (simp only [List.map_toArray, List.map_cons, List.map_nil, Act.eval, Array.getD_eq_getD_getElem?, Option.getD_some, e22, e23]; rfl)) ?_
     with_reducible refine (overfallref01_Mul.calls k t307 a1 t312 t313 _ A7.out).mono ?_
     rintro e w19 ⟨rfl, hb⟩
     refine ⟨_, rfl, ?_⟩
     have n0_ := Aside0.mk (blk_below (by exact BK306.out) hb)
     have n1_ := Aside0.mk (blk_below (by exact BK309.out) hb)
     have n2_ := Aside0.mk (below_step (by repeat (first | (with_reducible first | exact HB.out | apply below_alloc | apply pw_below_drewN | apply below_drew1 | refine below_set ?_ GE306.out | refine below_set ?_ GE309.out) | exact HB.out)) hb)
     have z_BK314 := fun (h0_ : b 8 = true) (h1_ : b 10 = false) => (show w19.heap[gb314]? = some (.cells #[.int .u64 0, .int .u64 0] 50 (0, 0)) from by first | exact (blk_below (g := gb314) (o := .cells #[.int .u64 0, .int .u64 0] 50 (0, 0)) (by exact (Q_BK314 h0_ h1_)) hb))
     have z_BK315 := fun (h0_ : b 9 = true) (h1_ : b 11 = false) => (show w19.heap[gb315]? = some (.cells #[.int .u64 0, .int .u64 0] 50 (0, 0)) from by first | exact (blk_below (g := gb315) (o := .cells #[.int .u64 0, .int .u64 0] 50 (0, 0)) (by exact (Q_BK315 h0_ h1_)) hb))
     clear BK306
     clear BK309
     clear HB
     have BK306 := n0_
     have BK309 := n1_
     have HB := n2_
     clear n0_ n1_ n2_
     (try clear hb)
     (try clear hb2)
     (try clear hk)
     (try clear hi)
     refine hK.out _ _ ⟨gb314, gb315, m8_, m9_, (by rw [ha.out]; exact putSel_upk 3 hb_ rfl rfl rfl), (by exact BK306.out), (by exact BK309.out), (by repeat (first | (with_reducible first | exact HB.out | apply below_alloc | apply pw_below_drewN | apply below_drew1 | refine below_set ?_ GE306.out | refine below_set ?_ GE309.out) | exact HB.out)), Q_NB315_314, Q_NB314_315, z_BK314, Q_GW314, Q_GE314, Q_NB306_314, Q_NB314_306, Q_NB309_314, Q_NB314_309, z_BK315, Q_GW315, Q_GE315, Q_NB306_315, Q_NB315_306, Q_NB309_315, Q_NB315_309, fun h0_ => absurd ((hoff 10 (by kernel_rfl)).symm.trans h0_) (by decide), fun h0_ => absurd ((hoff 11 (by kernel_rfl)).symm.trans h0_) (by decide), Q_X8_, Q_X9_⟩
    refine steps_cons ?_ ?_
    ·rintro b a w' ⟨gb314, gb315, m8_, m9_, ha, Q_BK306, Q_BK309, Q_HB, Q_NB315_314, Q_NB314_315, Q_BK314, Q_GW314, Q_GE314, Q_NB306_314, Q_NB314_306, Q_NB309_314, Q_NB314_309, Q_BK315, Q_GW315, Q_GE315, Q_NB306_315, Q_NB315_306, Q_NB309_315, Q_NB315_309, Q_BK314_e10, Q_BK315_e11, Q_X8_, Q_X9_⟩ hb_ hon hoff
     refine ⟨_, rfl, fun K hK => ?_⟩
     replace ha := Aside0.mk ha
     have BK306 := Aside0.mk Q_BK306
     have BK309 := Aside0.mk Q_BK309
     have HB := Aside0.mk Q_HB
     refine box_step ?hg (N := 8) ?hd (cs := #[.int .u64 0, .int .u64 0]) (t := 50) ?hr ?_; (case hd => rfl); (case hg => rfl); (case hr => first | (go_simp; done) | (go_simp; rfl))
     intro gb314 hg w17 hbox hb
     have n0_ := Aside0.mk (blk_below (by exact BK306.out) hb)
     have n1_ := Aside0.mk (blk_below (by exact BK309.out) hb)
     have n2_ := Aside0.mk (below_step (by repeat (first | (with_reducible first | exact HB.out | apply below_alloc | apply pw_below_drewN | apply below_drew1 | refine below_set ?_ GE306.out | refine below_set ?_ GE309.out) | exact HB.out)) hb)
     have n3_ := Aside0.mk (hbox)
     have n4_ := Aside0.mk ((by rw [hg]; exact (below_size (by repeat (first | (with_reducible first | exact HB.out | apply below_alloc | apply pw_below_drewN | apply below_drew1 | refine below_set ?_ GE306.out | refine below_set ?_ GE309.out) | exact HB.out))) : w.heap.size ≤ gb314))
     have n5_ := Aside0.mk ((by rw [hg]; exact (below_size (by repeat (first | (with_reducible first | exact HB.out | apply below_alloc | apply pw_below_drewN | apply below_drew1 | refine below_set ?_ GE306.out | refine below_set ?_ GE309.out) | exact HB.out))) : w.heap.size ≤ gb314))
     have n6_ := Aside0.mk ((by rw [hg]; exact Nat.ne_of_lt (blk_lt (by exact BK306.out)) : gb306 ≠ gb314))
     have n7_ := Aside0.mk ((by rw [hg]; exact Nat.ne_of_gt (blk_lt (by exact BK306.out)) : gb314 ≠ gb306))
     have n8_ := Aside0.mk ((by rw [hg]; exact Nat.ne_of_lt (blk_lt (by exact BK309.out)) : gb309 ≠ gb314))
     have n9_ := Aside0.mk ((by rw [hg]; exact Nat.ne_of_gt (blk_lt (by exact BK309.out)) : gb314 ≠ gb309))
     have z_NB315_314 := fun (h0_ : up b 8 8 = true) (h1_ : up b 8 9 = true) => (show gb315 ≠ gb314 from ((by rw [hg]; exact Nat.ne_of_lt (blk_lt (by exact (Q_BK315 h1_ (hoff 11 (by kernel_rfl))))) : gb315 ≠ gb314)))
     have z_NB314_315 := fun (h0_ : up b 8 8 = true) (h1_ : up b 8 9 = true) => (show gb314 ≠ gb315 from ((by rw [hg]; exact Nat.ne_of_gt (blk_lt (by exact (Q_BK315 h1_ (hoff 11 (by kernel_rfl))))) : gb314 ≠ gb315)))
     have z_BK315 := fun (h0_ : b 9 = true) (h1_ : b 11 = false) => (show w17.heap[gb315]? = some (.cells #[.int .u64 0, .int .u64 0] 50 (0, 0)) from by first | exact (blk_below (g := gb315) (o := .cells #[.int .u64 0, .int .u64 0] 50 (0, 0)) (by exact (Q_BK315 h0_ h1_)) hb))
     clear BK306
     clear BK309
     clear HB
     have BK306 := n0_
     have BK309 := n1_
     have HB := n2_
     have BK314 := n3_
     have GW314 := n4_
     have GE314 := n5_
     have NB306_314 := n6_
     have NB314_306 := n7_
     have NB309_314 := n8_
     have NB314_309 := n9_
     clear n0_ n1_ n2_ n3_ n4_ n5_ n6_ n7_ n8_ n9_
     clear hb hbox hg
     refine hK.out _ _ ⟨gb314, gb315, (.pointer (some ⟨gb314, 0, none⟩)), m9_, (by rw [ha.out]; exact putSel_upk 4 hb_ rfl rfl rfl), (by exact BK306.out), (by exact BK309.out), (by repeat (first | (with_reducible first | exact HB.out | apply below_alloc | apply pw_below_drewN | apply below_drew1 | refine below_set ?_ GE306.out | refine below_set ?_ GE309.out | refine below_set ?_ GE314.out) | exact HB.out)), @z_NB315_314, @z_NB314_315, fun _ _ => (by exact BK314.out), fun _ => GW314.out, fun _ => GE314.out, fun _ => NB306_314.out, fun _ => NB314_306.out, fun _ => NB309_314.out, fun _ => NB314_309.out, z_BK315, Q_GW315, Q_GE315, Q_NB306_315, Q_NB315_306, Q_NB309_315, Q_NB315_309, fun h0_ => absurd ((hoff 10 (by kernel_rfl)).symm.trans h0_) (by decide), fun h0_ => absurd ((hoff 11 (by kernel_rfl)).symm.trans h0_) (by decide), fun _ => rfl, Q_X9_⟩
    refine steps_cons ?_ ?_
    ·rintro b a w' ⟨gb314, gb315, m8_, m9_, ha, Q_BK306, Q_BK309, Q_HB, Q_NB315_314, Q_NB314_315, Q_BK314, Q_GW314, Q_GE314, Q_NB306_314, Q_NB314_306, Q_NB309_314, Q_NB314_309, Q_BK315, Q_GW315, Q_GE315, Q_NB306_315, Q_NB315_306, Q_NB309_315, Q_NB315_309, Q_BK314_e10, Q_BK315_e11, Q_X8_, Q_X9_⟩ hb_ hon hoff
     refine ⟨_, rfl, fun K hK => ?_⟩
     replace ha := Aside0.mk ha
     have BK306 := Aside0.mk Q_BK306
     have BK309 := Aside0.mk Q_BK309
     have HB := Aside0.mk Q_HB
     refine box_step ?hg (N := 9) ?hd (cs := #[.int .u64 0, .int .u64 0]) (t := 50) ?hr ?_; (case hd => rfl); (case hg => rfl); (case hr => first | (go_simp; done) | (go_simp; rfl))
     intro gb315 hg w17 hbox hb
     have n0_ := Aside0.mk (blk_below (by exact BK306.out) hb)
     have n1_ := Aside0.mk (blk_below (by exact BK309.out) hb)
     have n2_ := Aside0.mk (below_step (by repeat (first | (with_reducible first | exact HB.out | apply below_alloc | apply pw_below_drewN | apply below_drew1 | refine below_set ?_ GE306.out | refine below_set ?_ GE309.out) | exact HB.out)) hb)
     have n3_ := Aside0.mk (hbox)
     have n4_ := Aside0.mk ((by rw [hg]; exact (below_size (by repeat (first | (with_reducible first | exact HB.out | apply below_alloc | apply pw_below_drewN | apply below_drew1 | refine below_set ?_ GE306.out | refine below_set ?_ GE309.out) | exact HB.out))) : w.heap.size ≤ gb315))
     have n5_ := Aside0.mk ((by rw [hg]; exact (below_size (by repeat (first | (with_reducible first | exact HB.out | apply below_alloc | apply pw_below_drewN | apply below_drew1 | refine below_set ?_ GE306.out | refine below_set ?_ GE309.out) | exact HB.out))) : w.heap.size ≤ gb315))
     have n6_ := Aside0.mk ((by rw [hg]; exact Nat.ne_of_lt (blk_lt (by exact BK306.out)) : gb306 ≠ gb315))
     have n7_ := Aside0.mk ((by rw [hg]; exact Nat.ne_of_gt (blk_lt (by exact BK306.out)) : gb315 ≠ gb306))
     have n8_ := Aside0.mk ((by rw [hg]; exact Nat.ne_of_lt (blk_lt (by exact BK309.out)) : gb309 ≠ gb315))
     have n9_ := Aside0.mk ((by rw [hg]; exact Nat.ne_of_gt (blk_lt (by exact BK309.out)) : gb315 ≠ gb309))
     have z_NB315_314 := fun (h0_ : up b 9 8 = true) (h1_ : up b 9 9 = true) => (show gb315 ≠ gb314 from ((by rw [hg]; exact Nat.ne_of_gt (blk_lt (by exact (Q_BK314 h0_ (hoff 10 (by kernel_rfl))))) : gb315 ≠ gb314)))
     have z_NB314_315 := fun (h0_ : up b 9 8 = true) (h1_ : up b 9 9 = true) => (show gb314 ≠ gb315 from ((by rw [hg]; exact Nat.ne_of_lt (blk_lt (by exact (Q_BK314 h0_ (hoff 10 (by kernel_rfl))))) : gb314 ≠ gb315)))
     have z_BK314 := fun (h0_ : b 8 = true) (h1_ : b 10 = false) => (show w17.heap[gb314]? = some (.cells #[.int .u64 0, .int .u64 0] 50 (0, 0)) from by first | exact (blk_below (g := gb314) (o := .cells #[.int .u64 0, .int .u64 0] 50 (0, 0)) (by exact (Q_BK314 h0_ h1_)) hb))
     clear BK306
     clear BK309
     clear HB
     have BK306 := n0_
     have BK309 := n1_
     have HB := n2_
     have BK315 := n3_
     have GW315 := n4_
     have GE315 := n5_
     have NB306_315 := n6_
     have NB315_306 := n7_
     have NB309_315 := n8_
     have NB315_309 := n9_
     clear n0_ n1_ n2_ n3_ n4_ n5_ n6_ n7_ n8_ n9_
     clear hb hbox hg
     refine hK.out _ _ ⟨gb314, gb315, m8_, (.pointer (some ⟨gb315, 0, none⟩)), (by rw [ha.out]; exact putSel_upk 5 hb_ rfl rfl rfl), (by exact BK306.out), (by exact BK309.out), (by repeat (first | (with_reducible first | exact HB.out | apply below_alloc | apply pw_below_drewN | apply below_drew1 | refine below_set ?_ GE306.out | refine below_set ?_ GE309.out | refine below_set ?_ GE315.out) | exact HB.out)), @z_NB315_314, @z_NB314_315, z_BK314, Q_GW314, Q_GE314, Q_NB306_314, Q_NB314_306, Q_NB309_314, Q_NB314_309, fun _ _ => (by exact BK315.out), fun _ => GW315.out, fun _ => GE315.out, fun _ => NB306_315.out, fun _ => NB315_306.out, fun _ => NB309_315.out, fun _ => NB315_309.out, fun h0_ => absurd ((hoff 10 (by kernel_rfl)).symm.trans h0_) (by decide), fun h0_ => absurd ((hoff 11 (by kernel_rfl)).symm.trans h0_) (by decide), Q_X8_, fun _ => rfl⟩
    refine steps_cons ?_ ?_
    ·rintro b a w' ⟨gb314, gb315, m8_, m9_, ha, Q_BK306, Q_BK309, Q_HB, Q_NB315_314, Q_NB314_315, Q_BK314, Q_GW314, Q_GE314, Q_NB306_314, Q_NB314_306, Q_NB309_314, Q_NB314_309, Q_BK315, Q_GW315, Q_GE315, Q_NB306_315, Q_NB315_306, Q_NB309_315, Q_NB315_309, Q_BK314_e10, Q_BK315_e11, Q_X8_, Q_X9_⟩ hb_ hon hoff
     refine ⟨_, rfl, fun K hK => ?_⟩
     have e8 : a.tmps[8]? = some (m8_) := by rw [ha]; exact putSel_on (e := (8, 8, m8_)) 4 rfl rfl (hon 8 (by kernel_rfl)) rfl
     rw [Q_X8_ (hon 8 (by kernel_rfl))] at e8
     have e20 : a.tmps[20]? = some (.agg #[.int .u64 t310, .int .u64 t311]) := by rw [ha]; exact putSel_on (e := (3, 20, .agg #[.int .u64 t310, .int .u64 t311])) 1 rfl rfl (hon 3 (by kernel_rfl)) rfl
     replace ha := Aside0.mk ha
     have BK306 := Aside0.mk Q_BK306
     have BK309 := Aside0.mk Q_BK309
     have HB := Aside0.mk Q_HB
     have NB315_314 := Aside0.mk (Q_NB315_314 (hon 8 (by kernel_rfl)) (hon 9 (by kernel_rfl)))
     have NB314_315 := Aside0.mk (Q_NB314_315 (hon 8 (by kernel_rfl)) (hon 9 (by kernel_rfl)))
     have BK314 := Aside0.mk (Q_BK314 (hon 8 (by kernel_rfl)) hb_)
     have GW314 := Aside0.mk (Q_GW314 (hon 8 (by kernel_rfl)))
     have GE314 := Aside0.mk (Q_GE314 (hon 8 (by kernel_rfl)))
     have NB306_314 := Aside0.mk (Q_NB306_314 (hon 8 (by kernel_rfl)))
     have NB314_306 := Aside0.mk (Q_NB314_306 (hon 8 (by kernel_rfl)))
     have NB309_314 := Aside0.mk (Q_NB309_314 (hon 8 (by kernel_rfl)))
     have NB314_309 := Aside0.mk (Q_NB314_309 (hon 8 (by kernel_rfl)))
     have BK315 := Aside0.mk (Q_BK315 (hon 9 (by kernel_rfl)) (hoff 11 (by kernel_rfl)))
     have GW315 := Aside0.mk (Q_GW315 (hon 9 (by kernel_rfl)))
     have GE315 := Aside0.mk (Q_GE315 (hon 9 (by kernel_rfl)))
     have NB306_315 := Aside0.mk (Q_NB306_315 (hon 9 (by kernel_rfl)))
     have NB315_306 := Aside0.mk (Q_NB315_306 (hon 9 (by kernel_rfl)))
     have NB309_315 := Aside0.mk (Q_NB309_315 (hon 9 (by kernel_rfl)))
     have NB315_309 := Aside0.mk (Q_NB315_309 (hon 9 (by kernel_rfl)))
     have hs22 : w'.cell? ⟨gb314, 0, none⟩ = some (.int .u64 0) := (blk_cell BK314.out 0).trans rfl
     have hfs22 := blk_frozen BK314.out 0
     have hns22_0 := NB306_314.out
     have hns22_1 := NB309_314.out
     have hns22_3 := NB315_314.out
     have hms22_0 := NB314_306.out
     have hms22_1 := NB314_309.out
     have hms22_3 := NB314_315.out
     have hs23 : w'.cell? ⟨gb314, 1, none⟩ = some (.int .u64 0) := (blk_cell BK314.out 1).trans rfl
     have hfs23 := blk_frozen BK314.out 1
     have hns23_0 := NB306_314.out
     have hns23_1 := NB309_314.out
     have hns23_3 := NB315_314.out
     have hms23_0 := NB314_306.out
     have hms23_1 := NB314_309.out
     have hms23_3 := NB314_315.out
     refine skip_ (w1 := ?_) (by rfl) rfl ?_ ?_
     rotate_left
     ·go_simp
      rfl
     refine hK.out _ _ ⟨gb314, gb315, m8_, m9_, (by rw [ha.out]; exact putSel_none (v := undef) rfl), (by refine blk_far ?_ NB306_314.out _; refine blk_far ?_ NB306_314.out _; exact BK306.out), (by refine blk_far ?_ NB309_314.out _; refine blk_far ?_ NB309_314.out _; exact BK309.out), (by repeat (first | (with_reducible first | exact HB.out | apply below_alloc | apply pw_below_drewN | apply below_drew1 | refine below_set ?_ GE306.out | refine below_set ?_ GE309.out | refine below_set ?_ GE314.out | refine below_set ?_ GE315.out) | exact HB.out)), fun _ _ => NB315_314.out, fun _ _ => NB314_315.out, fun _ h1_ => absurd ((up_self b 10).symm.trans h1_) (by decide), fun _ => GW314.out, fun _ => GE314.out, fun _ => NB306_314.out, fun _ => NB314_306.out, fun _ => NB309_314.out, fun _ => NB314_309.out, fun _ _ => (by refine blk_far ?_ NB315_314.out _; refine blk_far ?_ NB315_314.out _; exact BK315.out), fun _ => GW315.out, fun _ => GE315.out, fun _ => NB306_315.out, fun _ => NB315_306.out, fun _ => NB309_315.out, fun _ => NB315_309.out, fun _ => (by refine blk_put (cs := #[.int .u64 t310, .int .u64 0]) ?_ 1 _ rfl; refine blk_put (cs := #[.int .u64 0, .int .u64 0]) ?_ 0 _ rfl; exact BK314.out), fun h0_ => absurd ((hoff 11 (by kernel_rfl)).symm.trans h0_) (by decide), Q_X8_, Q_X9_⟩
    refine steps_cons ?_ ?_
    ·rintro b a w' ⟨gb314, gb315, m8_, m9_, ha, Q_BK306, Q_BK309, Q_HB, Q_NB315_314, Q_NB314_315, Q_BK314, Q_GW314, Q_GE314, Q_NB306_314, Q_NB314_306, Q_NB309_314, Q_NB314_309, Q_BK315, Q_GW315, Q_GE315, Q_NB306_315, Q_NB315_306, Q_NB309_315, Q_NB315_309, Q_BK314_e10, Q_BK315_e11, Q_X8_, Q_X9_⟩ hb_ hon hoff
     refine ⟨_, rfl, fun K hK => ?_⟩
     have e9 : a.tmps[9]? = some (m9_) := by rw [ha]; exact putSel_on (e := (9, 9, m9_)) 5 rfl rfl (hon 9 (by kernel_rfl)) rfl
     rw [Q_X9_ (hon 9 (by kernel_rfl))] at e9
     have e24 : a.tmps[24]? = some (.agg #[.int .u64 t312, .int .u64 t313]) := by rw [ha]; exact putSel_on (e := (7, 24, .agg #[.int .u64 t312, .int .u64 t313])) 3 rfl rfl (hon 7 (by kernel_rfl)) rfl
     replace ha := Aside0.mk ha
     have BK306 := Aside0.mk Q_BK306
     have BK309 := Aside0.mk Q_BK309
     have HB := Aside0.mk Q_HB
     have NB315_314 := Aside0.mk (Q_NB315_314 (hon 8 (by kernel_rfl)) (hon 9 (by kernel_rfl)))
     have NB314_315 := Aside0.mk (Q_NB314_315 (hon 8 (by kernel_rfl)) (hon 9 (by kernel_rfl)))
     have GW314 := Aside0.mk (Q_GW314 (hon 8 (by kernel_rfl)))
     have GE314 := Aside0.mk (Q_GE314 (hon 8 (by kernel_rfl)))
     have NB306_314 := Aside0.mk (Q_NB306_314 (hon 8 (by kernel_rfl)))
     have NB314_306 := Aside0.mk (Q_NB314_306 (hon 8 (by kernel_rfl)))
     have NB309_314 := Aside0.mk (Q_NB309_314 (hon 8 (by kernel_rfl)))
     have NB314_309 := Aside0.mk (Q_NB314_309 (hon 8 (by kernel_rfl)))
     have BK315 := Aside0.mk (Q_BK315 (hon 9 (by kernel_rfl)) hb_)
     have GW315 := Aside0.mk (Q_GW315 (hon 9 (by kernel_rfl)))
     have GE315 := Aside0.mk (Q_GE315 (hon 9 (by kernel_rfl)))
     have NB306_315 := Aside0.mk (Q_NB306_315 (hon 9 (by kernel_rfl)))
     have NB315_306 := Aside0.mk (Q_NB315_306 (hon 9 (by kernel_rfl)))
     have NB309_315 := Aside0.mk (Q_NB309_315 (hon 9 (by kernel_rfl)))
     have NB315_309 := Aside0.mk (Q_NB315_309 (hon 9 (by kernel_rfl)))
     have BK314 := Aside0.mk (Q_BK314_e10 (hon 10 (by kernel_rfl)))
     have hs24 : w'.cell? ⟨gb315, 0, none⟩ = some (.int .u64 0) := (blk_cell BK315.out 0).trans rfl
     have hfs24 := blk_frozen BK315.out 0
     have hns24_0 := NB306_315.out
     have hns24_1 := NB309_315.out
     have hns24_2 := NB314_315.out
     have hms24_0 := NB315_306.out
     have hms24_1 := NB315_309.out
     have hms24_2 := NB315_314.out
     have hs25 : w'.cell? ⟨gb315, 1, none⟩ = some (.int .u64 0) := (blk_cell BK315.out 1).trans rfl
     have hfs25 := blk_frozen BK315.out 1
     have hns25_0 := NB306_315.out
     have hns25_1 := NB309_315.out
     have hns25_2 := NB314_315.out
     have hms25_0 := NB315_306.out
     have hms25_1 := NB315_309.out
     have hms25_2 := NB315_314.out
     refine skip_ (w1 := ?_) (by rfl) rfl ?_ ?_
     rotate_left
     ·go_simp
      rfl
     refine hK.out _ _ ⟨gb314, gb315, m8_, m9_, (by rw [ha.out]; exact putSel_none (v := undef) rfl), (by refine blk_far ?_ NB306_315.out _; refine blk_far ?_ NB306_315.out _; exact BK306.out), (by refine blk_far ?_ NB309_315.out _; refine blk_far ?_ NB309_315.out _; exact BK309.out), (by repeat (first | (with_reducible first | exact HB.out | apply below_alloc | apply pw_below_drewN | apply below_drew1 | refine below_set ?_ GE306.out | refine below_set ?_ GE309.out | refine below_set ?_ GE314.out | refine below_set ?_ GE315.out) | exact HB.out)), fun _ _ => NB315_314.out, fun _ _ => NB314_315.out, fun _ h1_ => absurd ((hon 10 (by kernel_rfl)).symm.trans h1_) (by decide), fun _ => GW314.out, fun _ => GE314.out, fun _ => NB306_314.out, fun _ => NB314_306.out, fun _ => NB309_314.out, fun _ => NB314_309.out, fun _ h1_ => absurd ((up_self b 11).symm.trans h1_) (by decide), fun _ => GW315.out, fun _ => GE315.out, fun _ => NB306_315.out, fun _ => NB315_306.out, fun _ => NB309_315.out, fun _ => NB315_309.out, fun _ => (by refine blk_far ?_ NB314_315.out _; refine blk_far ?_ NB314_315.out _; exact BK314.out), fun _ => (by refine blk_put (cs := #[.int .u64 t312, .int .u64 0]) ?_ 1 _ rfl; refine blk_put (cs := #[.int .u64 0, .int .u64 0]) ?_ 0 _ rfl; exact BK315.out), Q_X8_, Q_X9_⟩
    exact steps_nil
   rintro b a w25 hall ⟨gb314, gb315, m8_, m9_, ha, Q_BK306, Q_BK309, Q_HB, Q_NB315_314, Q_NB314_315, Q_BK314, Q_GW314, Q_GE314, Q_NB306_314, Q_NB314_306, Q_NB309_314, Q_NB314_309, Q_BK315, Q_GW315, Q_GE315, Q_NB306_315, Q_NB315_306, Q_NB309_315, Q_NB315_309, Q_BK314_e10, Q_BK315_e11, Q_X8_, Q_X9_⟩
   clear BK306 BK309 HB
   have hb1_ := hall 1 (by kernel_rfl)
   have hb3_ := hall 3 (by kernel_rfl)
   have hb5_ := hall 5 (by kernel_rfl)
   have hb7_ := hall 7 (by kernel_rfl)
   have hb8_ := hall 8 (by kernel_rfl)
   have hb9_ := hall 9 (by kernel_rfl)
   have hb10_ := hall 10 (by kernel_rfl)
   have hb11_ := hall 11 (by kernel_rfl)
   subst ha
   obtain rfl := Q_X8_ hb8_
   obtain rfl := Q_X9_ hb9_
   simp only [putSel, hb1_, hb3_, hb5_, hb7_, hb8_, hb9_, hb10_, hb11_, if_true, Act.put, List.setIfInBounds_toArray, List.set_cons_zero, List.set_cons_succ]
   have BK306 := Aside0.mk Q_BK306
   clear Q_BK306
   have BK309 := Aside0.mk Q_BK309
   clear Q_BK309
   have HB := Aside0.mk Q_HB
   clear Q_HB
   have NB315_314 := Aside0.mk (Q_NB315_314 hb8_ hb9_)
   clear Q_NB315_314
   have NB314_315 := Aside0.mk (Q_NB314_315 hb8_ hb9_)
   clear Q_NB314_315
   clear Q_BK314
   have GW314 := Aside0.mk (Q_GW314 hb8_)
   clear Q_GW314
   have GE314 := Aside0.mk (Q_GE314 hb8_)
   clear Q_GE314
   have NB306_314 := Aside0.mk (Q_NB306_314 hb8_)
   clear Q_NB306_314
   have NB314_306 := Aside0.mk (Q_NB314_306 hb8_)
   clear Q_NB314_306
   have NB309_314 := Aside0.mk (Q_NB309_314 hb8_)
   clear Q_NB309_314
   have NB314_309 := Aside0.mk (Q_NB314_309 hb8_)
   clear Q_NB314_309
   clear Q_BK315
   have GW315 := Aside0.mk (Q_GW315 hb9_)
   clear Q_GW315
   have GE315 := Aside0.mk (Q_GE315 hb9_)
   clear Q_GE315
   have NB306_315 := Aside0.mk (Q_NB306_315 hb9_)
   clear Q_NB306_315
   have NB315_306 := Aside0.mk (Q_NB315_306 hb9_)
   clear Q_NB315_306
   have NB309_315 := Aside0.mk (Q_NB309_315 hb9_)
   clear Q_NB309_315
   have NB315_309 := Aside0.mk (Q_NB315_309 hb9_)
   clear Q_NB315_309
   have BK314 := Aside0.mk (Q_BK314_e10 hb10_)
   clear Q_BK314_e10
   have BK315 := Aside0.mk (Q_BK315_e11 hb11_)
   clear Q_BK315_e11
   clear hall hb1_ hb3_ hb5_ hb7_ hb8_ hb9_ hb10_ hb11_
   have hnb26 := NB314_306.out
   have hnc26 := NB306_314.out
   have hnb27 := NB314_309.out
   have hnc27 := NB309_314.out
   have hnb28 := NB314_315.out
   have hnc28 := NB315_314.out
   have hcz29_0 : w25.cell? ⟨gb314, 0, none⟩ = some (.int .u64 t310) := (blk_cell BK314.out 0).trans rfl
   have hcz29_1 : w25.cell? ⟨gb314, 1, none⟩ = some (.int .u64 t311) := (blk_cell BK314.out 1).trans rfl
   have hfz29_0 := blk_frozen BK314.out 0
   have hfz29_1 := blk_frozen BK314.out 1
   have hnb30 := NB315_306.out
   have hnc30 := NB306_315.out
   have hnb31 := NB315_309.out
   have hnc31 := NB309_315.out
   have hcz32_0 : w25.cell? ⟨gb315, 0, none⟩ = some (.int .u64 t312) := (blk_cell BK315.out 0).trans rfl
   have hcz32_1 : w25.cell? ⟨gb315, 1, none⟩ = some (.int .u64 t313) := (blk_cell BK315.out 1).trans rfl
   have hfz32_0 := blk_frozen BK315.out 0
   have hfz32_1 := blk_frozen BK315.out 1
   try go_wp2_with (first | ((with_reducible refine gate_callee (f := 23) rfl ?_); refine goesL_ (some 30) rfl rfl Try.func23 (by kernel_rfl) rfl #[.agg #[.int .u64 t310, .int .u64 t311], .agg #[.int .u64 t313, .int .u64 0]] rfl (by (try simp only [List.map_toArray, List.map_cons, List.map_nil]); first | done | rfl | (simp only [List.length_drop, List.length_take]; rfl)) ?_; (with_reducible refine (overfallref01_Add.calls k t310 t311 t313 0 t316 t317 t318 _ A8.out).mono ?_); rintro e w33 ⟨rfl, hb⟩; refine ⟨_, rfl, ?_⟩; have n0_ := Aside0.mk (blk_below (by exact BK306.out) hb); have n1_ := Aside0.mk (blk_below (by exact BK309.out) hb); have n2_ := Aside0.mk (blk_below (by exact BK314.out) hb); have n3_ := Aside0.mk (blk_below (by exact BK315.out) hb); have n4_ := Aside0.mk (below_step (by repeat (first | (with_reducible first | exact HB.out | apply below_alloc | apply pw_below_drewN | apply below_drew1 | refine below_set ?_ GE306.out | refine below_set ?_ GE309.out | refine below_set ?_ GE314.out | refine below_set ?_ GE315.out) | exact HB.out)) hb); clear BK306; clear BK309; clear BK314; clear BK315; clear HB; have BK306 := n0_; have BK309 := n1_; have BK314 := n2_; have BK315 := n3_; have HB := n4_; clear n0_ n1_ n2_ n3_ n4_; (try clear hb); (try clear hb2); (try clear hk); (try clear hi)) | ((with_reducible refine gate_dst (N := 10) rfl ?_); refine box_event ?hg (N := 10) ?hd (cs := #[.int .u64 0, .int .u64 0]) (t := 50) ?hr ?_; (case hd => rfl); (case hg => rfl); (case hr => first | (go_simp; done) | (go_simp; rfl)); intro gb319 hg w34 hbox hb; have n0_ := Aside0.mk (blk_below (by exact BK306.out) hb); have n1_ := Aside0.mk (blk_below (by exact BK309.out) hb); have n2_ := Aside0.mk (blk_below (by exact BK314.out) hb); have n3_ := Aside0.mk (blk_below (by exact BK315.out) hb); have n4_ := Aside0.mk (below_step (by repeat (first | (with_reducible first | exact HB.out | apply below_alloc | apply pw_below_drewN | apply below_drew1 | refine below_set ?_ GE306.out | refine below_set ?_ GE309.out | refine below_set ?_ GE314.out | refine below_set ?_ GE315.out) | exact HB.out)) hb); have n5_ := Aside0.mk (hbox); have n6_ := Aside0.mk ((by rw [hg]; exact (below_size (by repeat (first | (with_reducible first | exact HB.out | apply below_alloc | apply pw_below_drewN | apply below_drew1 | refine below_set ?_ GE306.out | refine below_set ?_ GE309.out | refine below_set ?_ GE314.out | refine below_set ?_ GE315.out) | exact HB.out))) : w.heap.size ≤ gb319)); have n7_ := Aside0.mk ((by rw [hg]; exact (below_size (by repeat (first | (with_reducible first | exact HB.out | apply below_alloc | apply pw_below_drewN | apply below_drew1 | refine below_set ?_ GE306.out | refine below_set ?_ GE309.out | refine below_set ?_ GE314.out | refine below_set ?_ GE315.out) | exact HB.out))) : w.heap.size ≤ gb319)); have n8_ := Aside0.mk ((by rw [hg]; exact Nat.ne_of_lt (blk_lt (by exact BK306.out)) : gb306 ≠ gb319)); have n9_ := Aside0.mk ((by rw [hg]; exact Nat.ne_of_gt (blk_lt (by exact BK306.out)) : gb319 ≠ gb306)); have n10_ := Aside0.mk ((by rw [hg]; exact Nat.ne_of_lt (blk_lt (by exact BK309.out)) : gb309 ≠ gb319)); have n11_ := Aside0.mk ((by rw [hg]; exact Nat.ne_of_gt (blk_lt (by exact BK309.out)) : gb319 ≠ gb309)); have n12_ := Aside0.mk ((by rw [hg]; exact Nat.ne_of_lt (blk_lt (by exact BK314.out)) : gb314 ≠ gb319)); have n13_ := Aside0.mk ((by rw [hg]; exact Nat.ne_of_gt (blk_lt (by exact BK314.out)) : gb319 ≠ gb314)); have n14_ := Aside0.mk ((by rw [hg]; exact Nat.ne_of_lt (blk_lt (by exact BK315.out)) : gb315 ≠ gb319)); have n15_ := Aside0.mk ((by rw [hg]; exact Nat.ne_of_gt (blk_lt (by exact BK315.out)) : gb319 ≠ gb315)); clear BK306; clear BK309; clear BK314; clear BK315; clear HB; have BK306 := n0_; have BK309 := n1_; have BK314 := n2_; have BK315 := n3_; have HB := n4_; have BK319 := n5_; have GW319 := n6_; have GE319 := n7_; have NB306_319 := n8_; have NB319_306 := n9_; have NB309_319 := n10_; have NB319_309 := n11_; have NB314_319 := n12_; have NB319_314 := n13_; have NB315_319 := n14_; have NB319_315 := n15_; clear n0_ n1_ n2_ n3_ n4_ n5_ n6_ n7_ n8_ n9_ n10_ n11_ n12_ n13_ n14_ n15_; clear hb hbox hg; have hnb35 := NB319_306.out; have hnc35 := NB306_319.out; have hnb36 := NB319_309.out; have hnc36 := NB309_319.out; have hnb37 := NB319_314.out; have hnc37 := NB314_319.out; have hnb38 := NB319_315.out; have hnc38 := NB315_319.out; have hcz39_0 : w34.cell? ⟨gb319, 0, none⟩ = some (.int .u64 0) := (blk_cell BK319.out 0).trans rfl; have hcz39_1 : w34.cell? ⟨gb319, 1, none⟩ = some (.int .u64 0) := (blk_cell BK319.out 1).trans rfl; have hfz39_0 := blk_frozen BK319.out 0; have hfz39_1 := blk_frozen BK319.out 1; have hcz40_0 : w34.cell? ⟨gb315, 0, none⟩ = some (.int .u64 t312) := (blk_cell BK315.out 0).trans rfl; have hcz40_1 : w34.cell? ⟨gb315, 1, none⟩ = some (.int .u64 t313) := (blk_cell BK315.out 1).trans rfl; have hfz40_0 := blk_frozen BK315.out 0; have hfz40_1 := blk_frozen BK315.out 1))
   go_ret
   exact ⟨by first | rfl | (simp [errW_none, errW_some] <;> rfl) | (simp [*, errW_none, errW_some] <;> rfl), by repeat (first | (with_reducible first | exact HB.out | apply below_alloc | apply pw_below_drewN | apply below_drew1 | refine below_set ?_ GE306.out | refine below_set ?_ GE309.out | refine below_set ?_ GE314.out | refine below_set ?_ GE315.out | refine below_set ?_ GE319.out) | exact HB.out)⟩
  ·rw [if_neg c9] at H
   have c9b0 : decide (0 < t312) = false := decide_eq_false c9
   clear c9
   by_cases c41 : t318 = true
   ·subst c41
    have H1 : (some false) = some r := by rw [if_pos rfl] at H; exact H
    clear H
    have H := H1
    clear H1
    obtain rfl := Option.some.inj H
    go_enter Try.func39, Try.ntmps39
    try go_wp2_with (first | ((with_reducible refine gate_dst (N := 5) rfl ?_); refine box_event ?hg (N := 5) ?hd (cs := #[.int .u64 a2_0, .int .u64 a2_1]) (t := 50) ?hr ?_; (case hd => rfl); (case hg => rfl); (case hr => first | (go_simp; done) | (go_simp; rfl)); intro gb306 hg w42 hbox hb; have n0_ := Aside0.mk (below_step (by repeat (first | (with_reducible first | exact HB.out | apply below_alloc | apply pw_below_drewN | apply below_drew1) | exact HB.out)) hb); have n1_ := Aside0.mk (hbox); have n2_ := Aside0.mk ((by rw [hg]; exact (below_size (by repeat (first | (with_reducible first | exact HB.out | apply below_alloc | apply pw_below_drewN | apply below_drew1) | exact HB.out))) : w.heap.size ≤ gb306)); have n3_ := Aside0.mk ((by rw [hg]; exact (below_size (by repeat (first | (with_reducible first | exact HB.out | apply below_alloc | apply pw_below_drewN | apply below_drew1) | exact HB.out))) : w.heap.size ≤ gb306)); clear HB; have HB := n0_; have BK306 := n1_; have GW306 := n2_; have GE306 := n3_; clear n0_ n1_ n2_ n3_; clear hb hbox hg) | ((with_reducible refine gate_callee (f := 30) rfl ?_); refine goesL_ (some 14) rfl rfl Try.func30 (by kernel_rfl) rfl #[.int .u64 a0, .int .u64 a0] rfl (by (try simp only [List.map_toArray, List.map_cons, List.map_nil]); first | done | rfl | (simp only [List.length_drop, List.length_take]; rfl)) ?_; (with_reducible refine (overfallref01_Mul.calls k a0 a0 t307 t308 _ A4.out).mono ?_); rintro e w43 ⟨rfl, hb⟩; refine ⟨_, rfl, ?_⟩; have n0_ := Aside0.mk (blk_below (by exact BK306.out) hb); have n1_ := Aside0.mk (below_step (by repeat (first | (with_reducible first | exact HB.out | apply below_alloc | apply pw_below_drewN | apply below_drew1 | refine below_set ?_ GE306.out) | exact HB.out)) hb); clear BK306; clear HB; have BK306 := n0_; have HB := n1_; clear n0_ n1_; (try clear hb); (try clear hb2); (try clear hk); (try clear hi)) | ((with_reducible refine gate_dst (N := 7) rfl ?_); refine box_event ?hg (N := 7) ?hd (cs := #[.int .u64 0, .int .u64 0]) (t := 50) ?hr ?_; (case hd => rfl); (case hg => rfl); (case hr => first | (go_simp; done) | (go_simp; rfl)); intro gb309 hg w44 hbox hb; have n0_ := Aside0.mk (blk_below (by exact BK306.out) hb); have n1_ := Aside0.mk (below_step (by repeat (first | (with_reducible first | exact HB.out | apply below_alloc | apply pw_below_drewN | apply below_drew1 | refine below_set ?_ GE306.out) | exact HB.out)) hb); have n2_ := Aside0.mk (hbox); have n3_ := Aside0.mk ((by rw [hg]; exact (below_size (by repeat (first | (with_reducible first | exact HB.out | apply below_alloc | apply pw_below_drewN | apply below_drew1 | refine below_set ?_ GE306.out) | exact HB.out))) : w.heap.size ≤ gb309)); have n4_ := Aside0.mk ((by rw [hg]; exact (below_size (by repeat (first | (with_reducible first | exact HB.out | apply below_alloc | apply pw_below_drewN | apply below_drew1 | refine below_set ?_ GE306.out) | exact HB.out))) : w.heap.size ≤ gb309)); have n5_ := Aside0.mk ((by rw [hg]; exact Nat.ne_of_lt (blk_lt (by exact BK306.out)) : gb306 ≠ gb309)); have n6_ := Aside0.mk ((by rw [hg]; exact Nat.ne_of_gt (blk_lt (by exact BK306.out)) : gb309 ≠ gb306)); clear BK306; clear HB; have BK306 := n0_; have HB := n1_; have BK309 := n2_; have GW309 := n3_; have GE309 := n4_; have NB306_309 := n5_; have NB309_306 := n6_; clear n0_ n1_ n2_ n3_ n4_ n5_ n6_; clear hb hbox hg; have hnb45 := NB309_306.out; have hnc45 := NB306_309.out; have hcz46_0 : w44.cell? ⟨gb309, 0, none⟩ = some (.int .u64 0) := (blk_cell BK309.out 0).trans rfl; have hcz46_1 : w44.cell? ⟨gb309, 1, none⟩ = some (.int .u64 0) := (blk_cell BK309.out 1).trans rfl; have hfz46_0 := blk_frozen BK309.out 0; have hfz46_1 := blk_frozen BK309.out 1))
    have n0_ : Aside0 (((w44.setCell ⟨gb309, 0, none⟩ (.int .u64 t307)).setCell ⟨gb309, 1, none⟩ (.int .u64 t308)).heap[gb306]? = some (.cells #[.int .u64 a2_0, .int .u64 a2_1] 50 (0, 0))) := ⟨by refine blk_far ?_ NB306_309.out _; refine blk_far ?_ NB306_309.out _; exact BK306.out⟩
    have n1_ : Aside0 (((w44.setCell ⟨gb309, 0, none⟩ (.int .u64 t307)).setCell ⟨gb309, 1, none⟩ (.int .u64 t308)).heap[gb309]? = some (.cells #[.int .u64 t307, .int .u64 t308] 50 (0, 0))) := ⟨by refine blk_put (cs := #[.int .u64 t307, .int .u64 0]) ?_ 1 _ rfl; refine blk_put (cs := #[.int .u64 0, .int .u64 0]) ?_ 0 _ rfl; exact BK309.out⟩
    have n2_ : Aside0 (Below w.heap.size w ((w44.setCell ⟨gb309, 0, none⟩ (.int .u64 t307)).setCell ⟨gb309, 1, none⟩ (.int .u64 t308))) := ⟨by repeat (first | (with_reducible first | exact HB.out | apply below_alloc | apply pw_below_drewN | apply below_drew1 | refine below_set ?_ GE306.out | refine below_set ?_ GE309.out) | exact HB.out)⟩
    (try clear BK306)
    (try clear BK309)
    (try clear HB)
    generalize ((w44.setCell ⟨gb309, 0, none⟩ (.int .u64 t307)).setCell ⟨gb309, 1, none⟩ (.int .u64 t308)) = w47 at n0_ n1_ n2_ ⊢
    have BK306 := n0_
    have BK309 := n1_
    have HB := n2_
    clear n0_ n1_ n2_
    have n0_ := Aside0.mk (blk_drew BK306.out)
    have n1_ := Aside0.mk (blk_drew BK309.out)
    have n2_ := Aside0.mk (below_drew1 HB.out)
    clear BK306
    clear BK309
    clear HB
    have BK306 := n0_
    have BK309 := n1_
    have HB := n2_
    clear n0_ n1_ n2_
    refine start_ (n := 12) (S := fun w' => True) (ds := []) #[false, false, false, false, false, false, false, false, false, false, false, false] (by kernel_rfl) rfl rfl trivial (fun hHeld => ?_); refine with_tabW overfallref03_Fits.tab3 overfallref03_Fits.bits3 (fun HT_ HW_ => ?_)
    generalize w47.drew = w48 at BK306 BK309 HB hHeld ⊢
    refine pure_ (i := 0) (N := some 17) (v := ?_) (a' := ?_) #[true, false, false, false, false, false, false, false, false, false, false, false] rfl rfl (any_of HT_.out (by kernel_rfl)) (fun _ _ _ h => h) (Or.inl ⟨by rfl, ?_⟩) ?_ ?_
    rotate_left
    ·intro w'
     go_simp
     with_reducible rfl
    rotate_left
    ·simp only [Act.put, List.setIfInBounds_toArray, List.set_cons_zero, List.set_cons_succ, i64_w, i32_w]
     rfl
    refine pure_ (i := 2) (N := some 19) (v := ?_) (a' := ?_) #[true, false, true, false, false, false, false, false, false, false, false, false] rfl rfl (any_of HT_.out (by kernel_rfl)) (fun _ _ _ h => h) (Or.inl ⟨by rfl, ?_⟩) ?_ ?_
    rotate_left
    ·intro w'
     go_simp
     with_reducible rfl
    rotate_left
    ·simp only [Act.put, List.setIfInBounds_toArray, List.set_cons_zero, List.set_cons_succ, i64_w, i32_w]
     rfl
    refine pure_ (i := 4) (N := some 21) (v := ?_) (a' := ?_) #[true, false, true, false, true, false, false, false, false, false, false, false] rfl rfl (any_of HT_.out (by kernel_rfl)) (fun _ _ _ h => h) (Or.inl ⟨by rfl, ?_⟩) ?_ ?_
    rotate_left
    ·intro w'
     go_simp
     with_reducible rfl
    rotate_left
    ·simp only [Act.put, List.setIfInBounds_toArray, List.set_cons_zero, List.set_cons_succ, i64_w, i32_w]
     rfl
    refine pure_ (i := 6) (N := some 23) (v := ?_) (a' := ?_) #[true, false, true, false, true, false, true, false, false, false, false, false] rfl rfl (any_of HT_.out (by kernel_rfl)) (fun _ _ _ h => h) (Or.inl ⟨by rfl, ?_⟩) ?_ ?_
    rotate_left
    ·intro w'
     go_simp
     with_reducible rfl
    rotate_left
    ·simp only [Act.put, List.setIfInBounds_toArray, List.set_cons_zero, List.set_cons_succ, i64_w, i32_w]
     rfl
    refine inv_at [1, 3, 5, 7, 8, 9, 10, 11] (fun a0_ b a w' => ∃ (gb314 : Nat) (gb315 : Nat) (m8_ : Value) (m9_ : Value), a = putSel a0_ b [(1, 18, .int .u64 t308), (3, 20, .agg #[.int .u64 t310, .int .u64 t311]), (5, 22, .int .u64 t307), (7, 24, .agg #[.int .u64 t312, .int .u64 t313]), (8, 8, m8_), (9, 9, m9_)] ∧ (w'.heap[gb306]? = some (.cells #[.int .u64 a2_0, .int .u64 a2_1] 50 (0, 0))) ∧ (w'.heap[gb309]? = some (.cells #[.int .u64 t307, .int .u64 t308] 50 (0, 0))) ∧ (Below w.heap.size w w') ∧ (b 8 = true → b 9 = true → gb315 ≠ gb314) ∧ (b 8 = true → b 9 = true → gb314 ≠ gb315) ∧ (b 8 = true → b 10 = false → w'.heap[gb314]? = some (.cells #[.int .u64 0, .int .u64 0] 50 (0, 0))) ∧ (b 8 = true → w.heap.size ≤ gb314) ∧ (b 8 = true → w.heap.size ≤ gb314) ∧ (b 8 = true → gb306 ≠ gb314) ∧ (b 8 = true → gb314 ≠ gb306) ∧ (b 8 = true → gb309 ≠ gb314) ∧ (b 8 = true → gb314 ≠ gb309) ∧ (b 9 = true → b 11 = false → w'.heap[gb315]? = some (.cells #[.int .u64 0, .int .u64 0] 50 (0, 0))) ∧ (b 9 = true → w.heap.size ≤ gb315) ∧ (b 9 = true → w.heap.size ≤ gb315) ∧ (b 9 = true → gb306 ≠ gb315) ∧ (b 9 = true → gb315 ≠ gb306) ∧ (b 9 = true → gb309 ≠ gb315) ∧ (b 9 = true → gb315 ≠ gb309) ∧ (b 10 = true → w'.heap[gb314]? = some (.cells #[.int .u64 t310, .int .u64 t311] 50 (0, 0))) ∧ (b 11 = true → w'.heap[gb315]? = some (.cells #[.int .u64 t312, .int .u64 t313] 50 (0, 0))) ∧ (b 8 = true → (m8_ : Value) = .pointer (some ⟨gb314, 0, none⟩)) ∧ (b 9 = true → (m9_ : Value) = .pointer (some ⟨gb315, 0, none⟩))) HT_.out HW_.out (by kernel_rfl) (by kernel_rfl) ?_ ?_ ?_
    ·exact ⟨0, 0, .bool false, .bool false, by simp only [putSel, Bool.false_eq_true, if_false], BK306.out, BK309.out, HB.out, fun h_ => absurd h_ (by decide), fun h_ => absurd h_ (by decide), fun h_ => absurd h_ (by decide), fun h_ => absurd h_ (by decide), fun h_ => absurd h_ (by decide), fun h_ => absurd h_ (by decide), fun h_ => absurd h_ (by decide), fun h_ => absurd h_ (by decide), fun h_ => absurd h_ (by decide), fun h_ => absurd h_ (by decide), fun h_ => absurd h_ (by decide), fun h_ => absurd h_ (by decide), fun h_ => absurd h_ (by decide), fun h_ => absurd h_ (by decide), fun h_ => absurd h_ (by decide), fun h_ => absurd h_ (by decide), fun h_ => absurd h_ (by decide), fun h_ => absurd h_ (by decide), fun h_ => absurd h_ (by decide), fun h_ => absurd h_ (by decide)⟩
    ·skip
     clear BK306 BK309 HB
     refine steps_cons ?_ ?_
     ·rintro b a w' ⟨gb314, gb315, m8_, m9_, ha, Q_BK306, Q_BK309, Q_HB, Q_NB315_314, Q_NB314_315, Q_BK314, Q_GW314, Q_GE314, Q_NB306_314, Q_NB314_306, Q_NB309_314, Q_NB314_309, Q_BK315, Q_GW315, Q_GE315, Q_NB306_315, Q_NB315_306, Q_NB309_315, Q_NB315_309, Q_BK314_e10, Q_BK315_e11, Q_X8_, Q_X9_⟩ hb_ hon hoff
      refine ⟨_, rfl, fun K hK => ?_⟩
      have e17 : a.tmps[17]? = some (.pointer (some ⟨gb309, 1, none⟩)) := by rw [ha]; exact (putSel_off rfl).trans rfl
      replace ha := Aside0.mk ha
      have BK306 := Aside0.mk Q_BK306
      have BK309 := Aside0.mk Q_BK309
      have HB := Aside0.mk Q_HB
      have hc0_ : w'.cell? ⟨gb309, 0, none⟩ = some (.int .u64 t307) := (blk_cell BK309.out 0).trans rfl
      have hc1_ : w'.cell? ⟨gb309, 1, none⟩ = some (.int .u64 t308) := (blk_cell BK309.out 1).trans rfl
      refine value_ (w1 := w') (v := .int .u64 t308) (by rfl) rfl ?_ ?_
      ·go_simp
       (try simp only [i64_w])
       try rfl
      refine hK.out _ _ ⟨gb314, gb315, m8_, m9_, (by rw [ha.out]; exact putSel_upk 0 hb_ rfl rfl rfl), Q_BK306, Q_BK309, Q_HB, Q_NB315_314, Q_NB314_315, Q_BK314, Q_GW314, Q_GE314, Q_NB306_314, Q_NB314_306, Q_NB309_314, Q_NB314_309, Q_BK315, Q_GW315, Q_GE315, Q_NB306_315, Q_NB315_306, Q_NB309_315, Q_NB315_309, fun h0_ => absurd ((hoff 10 (by kernel_rfl)).symm.trans h0_) (by decide), fun h0_ => absurd ((hoff 11 (by kernel_rfl)).symm.trans h0_) (by decide), Q_X8_, Q_X9_⟩
     refine steps_cons ?_ ?_
     ·rintro b a w' ⟨gb314, gb315, m8_, m9_, ha, Q_BK306, Q_BK309, Q_HB, Q_NB315_314, Q_NB314_315, Q_BK314, Q_GW314, Q_GE314, Q_NB306_314, Q_NB314_306, Q_NB309_314, Q_NB314_309, Q_BK315, Q_GW315, Q_GE315, Q_NB306_315, Q_NB315_306, Q_NB309_315, Q_NB315_309, Q_BK314_e10, Q_BK315_e11, Q_X8_, Q_X9_⟩ hb_ hon hoff
      refine ⟨_, rfl, fun K hK => ?_⟩
      have e18 : a.tmps[18]? = some (.int .u64 t308) := by rw [ha]; exact putSel_on (e := (1, 18, .int .u64 t308)) 0 rfl rfl (hon 1 (by kernel_rfl)) rfl
      have e19 : a.tmps[19]? = some (.int .u64 a1) := by rw [ha]; exact (putSel_off rfl).trans rfl
      replace ha := Aside0.mk ha
      have BK306 := Aside0.mk Q_BK306
      have BK309 := Aside0.mk Q_BK309
      have HB := Aside0.mk Q_HB
      refine goes_ Try.func30 (by kernel_rfl) rfl #[.int .u64 t308, .int .u64 a1] (by rfl) rfl rfl (by first | (simp only [List.map_toArray, List.map_cons, List.map_nil, Act.eval, Array.getD_eq_getD_getElem?, Option.getD_some, e18, e19]; done) | (simp only [List.map_toArray, List.map_cons, List.map_nil, Act.eval, Array.getD_eq_getD_getElem?, Option.getD_some, e18, e19]; rfl)) ?_
      with_reducible refine (overfallref01_Mul.calls k t308 a1 t310 t311 _ A6.out).mono ?_
      rintro e w49 ⟨rfl, hb⟩
      refine ⟨_, rfl, ?_⟩
      have n0_ := Aside0.mk (blk_below (by exact BK306.out) hb)
      have n1_ := Aside0.mk (blk_below (by exact BK309.out) hb)
      have n2_ := Aside0.mk (below_step (by repeat (first | (with_reducible first | exact HB.out | apply below_alloc | apply pw_below_drewN | apply below_drew1 | refine below_set ?_ GE306.out | refine below_set ?_ GE309.out) | exact HB.out)) hb)
      have z_BK314 := fun (h0_ : b 8 = true) (h1_ : b 10 = false) => (show w49.heap[gb314]? = some (.cells #[.int .u64 0, .int .u64 0] 50 (0, 0)) from by first | exact (blk_below (g := gb314) (o := .cells #[.int .u64 0, .int .u64 0] 50 (0, 0)) (by exact (Q_BK314 h0_ h1_)) hb))
      have z_BK315 := fun (h0_ : b 9 = true) (h1_ : b 11 = false) => (show w49.heap[gb315]? = some (.cells #[.int .u64 0, .int .u64 0] 50 (0, 0)) from by first | exact (blk_below (g := gb315) (o := .cells #[.int .u64 0, .int .u64 0] 50 (0, 0)) (by exact (Q_BK315 h0_ h1_)) hb))
      clear BK306
      clear BK309
      clear HB
      have BK306 := n0_
      have BK309 := n1_
      have HB := n2_
      clear n0_ n1_ n2_
      (try clear hb)
      (try clear hb2)
      (try clear hk)
      (try clear hi)
      refine hK.out _ _ ⟨gb314, gb315, m8_, m9_, (by rw [ha.out]; exact putSel_upk 1 hb_ rfl rfl rfl), (by exact BK306.out), (by exact BK309.out), (by repeat (first | (with_reducible first | exact HB.out | apply below_alloc | apply pw_below_drewN | apply below_drew1 | refine below_set ?_ GE306.out | refine below_set ?_ GE309.out) | exact HB.out)), Q_NB315_314, Q_NB314_315, z_BK314, Q_GW314, Q_GE314, Q_NB306_314, Q_NB314_306, Q_NB309_314, Q_NB314_309, z_BK315, Q_GW315, Q_GE315, Q_NB306_315, Q_NB315_306, Q_NB309_315, Q_NB315_309, fun h0_ => absurd ((hoff 10 (by kernel_rfl)).symm.trans h0_) (by decide), fun h0_ => absurd ((hoff 11 (by kernel_rfl)).symm.trans h0_) (by decide), Q_X8_, Q_X9_⟩
     refine steps_cons ?_ ?_
     ·rintro b a w' ⟨gb314, gb315, m8_, m9_, ha, Q_BK306, Q_BK309, Q_HB, Q_NB315_314, Q_NB314_315, Q_BK314, Q_GW314, Q_GE314, Q_NB306_314, Q_NB314_306, Q_NB309_314, Q_NB314_309, Q_BK315, Q_GW315, Q_GE315, Q_NB306_315, Q_NB315_306, Q_NB309_315, Q_NB315_309, Q_BK314_e10, Q_BK315_e11, Q_X8_, Q_X9_⟩ hb_ hon hoff
      refine ⟨_, rfl, fun K hK => ?_⟩
      have e21 : a.tmps[21]? = some (.pointer (some ⟨gb309, 0, none⟩)) := by rw [ha]; exact (putSel_off rfl).trans rfl
      replace ha := Aside0.mk ha
      have BK306 := Aside0.mk Q_BK306
      have BK309 := Aside0.mk Q_BK309
      have HB := Aside0.mk Q_HB
      have hc0_ : w'.cell? ⟨gb309, 0, none⟩ = some (.int .u64 t307) := (blk_cell BK309.out 0).trans rfl
      have hc1_ : w'.cell? ⟨gb309, 1, none⟩ = some (.int .u64 t308) := (blk_cell BK309.out 1).trans rfl
      refine value_ (w1 := w') (v := .int .u64 t307) (by rfl) rfl ?_ ?_
      ·go_simp
       (try simp only [i64_w])
       try rfl
      refine hK.out _ _ ⟨gb314, gb315, m8_, m9_, (by rw [ha.out]; exact putSel_upk 2 hb_ rfl rfl rfl), Q_BK306, Q_BK309, Q_HB, Q_NB315_314, Q_NB314_315, Q_BK314, Q_GW314, Q_GE314, Q_NB306_314, Q_NB314_306, Q_NB309_314, Q_NB314_309, Q_BK315, Q_GW315, Q_GE315, Q_NB306_315, Q_NB315_306, Q_NB309_315, Q_NB315_309, fun h0_ => absurd ((hoff 10 (by kernel_rfl)).symm.trans h0_) (by decide), fun h0_ => absurd ((hoff 11 (by kernel_rfl)).symm.trans h0_) (by decide), Q_X8_, Q_X9_⟩
     refine steps_cons ?_ ?_
     ·rintro b a w' ⟨gb314, gb315, m8_, m9_, ha, Q_BK306, Q_BK309, Q_HB, Q_NB315_314, Q_NB314_315, Q_BK314, Q_GW314, Q_GE314, Q_NB306_314, Q_NB314_306, Q_NB309_314, Q_NB314_309, Q_BK315, Q_GW315, Q_GE315, Q_NB306_315, Q_NB315_306, Q_NB309_315, Q_NB315_309, Q_BK314_e10, Q_BK315_e11, Q_X8_, Q_X9_⟩ hb_ hon hoff
      refine ⟨_, rfl, fun K hK => ?_⟩
      have e22 : a.tmps[22]? = some (.int .u64 t307) := by rw [ha]; exact putSel_on (e := (5, 22, .int .u64 t307)) 2 rfl rfl (hon 5 (by kernel_rfl)) rfl
      have e23 : a.tmps[23]? = some (.int .u64 a1) := by rw [ha]; exact (putSel_off rfl).trans rfl
      replace ha := Aside0.mk ha
      have BK306 := Aside0.mk Q_BK306
      have BK309 := Aside0.mk Q_BK309
      have HB := Aside0.mk Q_HB
      refine goes_ Try.func30 (by kernel_rfl) rfl #[.int .u64 t307, .int .u64 a1] (by rfl) rfl rfl (by first | (simp only [List.map_toArray, List.map_cons, List.map_nil, Act.eval, Array.getD_eq_getD_getElem?, Option.getD_some, e22, e23]; done) | (simp only [List.map_toArray, List.map_cons, List.map_nil, Act.eval, Array.getD_eq_getD_getElem?, Option.getD_some, e22, e23]; rfl)) ?_
      with_reducible refine (overfallref01_Mul.calls k t307 a1 t312 t313 _ A7.out).mono ?_
      rintro e w51 ⟨rfl, hb⟩
      refine ⟨_, rfl, ?_⟩
      have n0_ := Aside0.mk (blk_below (by exact BK306.out) hb)
      have n1_ := Aside0.mk (blk_below (by exact BK309.out) hb)
      have n2_ := Aside0.mk (below_step (by repeat (first | (with_reducible first | exact HB.out | apply below_alloc | apply pw_below_drewN | apply below_drew1 | refine below_set ?_ GE306.out | refine below_set ?_ GE309.out) | exact HB.out)) hb)
      have z_BK314 := fun (h0_ : b 8 = true) (h1_ : b 10 = false) => (show w51.heap[gb314]? = some (.cells #[.int .u64 0, .int .u64 0] 50 (0, 0)) from by first | exact (blk_below (g := gb314) (o := .cells #[.int .u64 0, .int .u64 0] 50 (0, 0)) (by exact (Q_BK314 h0_ h1_)) hb))
      have z_BK315 := fun (h0_ : b 9 = true) (h1_ : b 11 = false) => (show w51.heap[gb315]? = some (.cells #[.int .u64 0, .int .u64 0] 50 (0, 0)) from by first | exact (blk_below (g := gb315) (o := .cells #[.int .u64 0, .int .u64 0] 50 (0, 0)) (by exact (Q_BK315 h0_ h1_)) hb))
      clear BK306
      clear BK309
      clear HB
      have BK306 := n0_
      have BK309 := n1_
      have HB := n2_
      clear n0_ n1_ n2_
      (try clear hb)
      (try clear hb2)
      (try clear hk)
      (try clear hi)
      refine hK.out _ _ ⟨gb314, gb315, m8_, m9_, (by rw [ha.out]; exact putSel_upk 3 hb_ rfl rfl rfl), (by exact BK306.out), (by exact BK309.out), (by repeat (first | (with_reducible first | exact HB.out | apply below_alloc | apply pw_below_drewN | apply below_drew1 | refine below_set ?_ GE306.out | refine below_set ?_ GE309.out) | exact HB.out)), Q_NB315_314, Q_NB314_315, z_BK314, Q_GW314, Q_GE314, Q_NB306_314, Q_NB314_306, Q_NB309_314, Q_NB314_309, z_BK315, Q_GW315, Q_GE315, Q_NB306_315, Q_NB315_306, Q_NB309_315, Q_NB315_309, fun h0_ => absurd ((hoff 10 (by kernel_rfl)).symm.trans h0_) (by decide), fun h0_ => absurd ((hoff 11 (by kernel_rfl)).symm.trans h0_) (by decide), Q_X8_, Q_X9_⟩
     refine steps_cons ?_ ?_
     ·rintro b a w' ⟨gb314, gb315, m8_, m9_, ha, Q_BK306, Q_BK309, Q_HB, Q_NB315_314, Q_NB314_315, Q_BK314, Q_GW314, Q_GE314, Q_NB306_314, Q_NB314_306, Q_NB309_314, Q_NB314_309, Q_BK315, Q_GW315, Q_GE315, Q_NB306_315, Q_NB315_306, Q_NB309_315, Q_NB315_309, Q_BK314_e10, Q_BK315_e11, Q_X8_, Q_X9_⟩ hb_ hon hoff
      refine ⟨_, rfl, fun K hK => ?_⟩
      replace ha := Aside0.mk ha
      have BK306 := Aside0.mk Q_BK306
      have BK309 := Aside0.mk Q_BK309
      have HB := Aside0.mk Q_HB
      refine box_step ?hg (N := 8) ?hd (cs := #[.int .u64 0, .int .u64 0]) (t := 50) ?hr ?_; (case hd => rfl); (case hg => rfl); (case hr => first | (go_simp; done) | (go_simp; rfl))
      intro gb314 hg w49 hbox hb
      have n0_ := Aside0.mk (blk_below (by exact BK306.out) hb)
      have n1_ := Aside0.mk (blk_below (by exact BK309.out) hb)
      have n2_ := Aside0.mk (below_step (by repeat (first | (with_reducible first | exact HB.out | apply below_alloc | apply pw_below_drewN | apply below_drew1 | refine below_set ?_ GE306.out | refine below_set ?_ GE309.out) | exact HB.out)) hb)
      have n3_ := Aside0.mk (hbox)
      have n4_ := Aside0.mk ((by rw [hg]; exact (below_size (by repeat (first | (with_reducible first | exact HB.out | apply below_alloc | apply pw_below_drewN | apply below_drew1 | refine below_set ?_ GE306.out | refine below_set ?_ GE309.out) | exact HB.out))) : w.heap.size ≤ gb314))
      have n5_ := Aside0.mk ((by rw [hg]; exact (below_size (by repeat (first | (with_reducible first | exact HB.out | apply below_alloc | apply pw_below_drewN | apply below_drew1 | refine below_set ?_ GE306.out | refine below_set ?_ GE309.out) | exact HB.out))) : w.heap.size ≤ gb314))
      have n6_ := Aside0.mk ((by rw [hg]; exact Nat.ne_of_lt (blk_lt (by exact BK306.out)) : gb306 ≠ gb314))
      have n7_ := Aside0.mk ((by rw [hg]; exact Nat.ne_of_gt (blk_lt (by exact BK306.out)) : gb314 ≠ gb306))
      have n8_ := Aside0.mk ((by rw [hg]; exact Nat.ne_of_lt (blk_lt (by exact BK309.out)) : gb309 ≠ gb314))
      have n9_ := Aside0.mk ((by rw [hg]; exact Nat.ne_of_gt (blk_lt (by exact BK309.out)) : gb314 ≠ gb309))
      have z_NB315_314 := fun (h0_ : up b 8 8 = true) (h1_ : up b 8 9 = true) => (show gb315 ≠ gb314 from ((by rw [hg]; exact Nat.ne_of_lt (blk_lt (by exact (Q_BK315 h1_ (hoff 11 (by kernel_rfl))))) : gb315 ≠ gb314)))
      have z_NB314_315 := fun (h0_ : up b 8 8 = true) (h1_ : up b 8 9 = true) => (show gb314 ≠ gb315 from ((by rw [hg]; exact Nat.ne_of_gt (blk_lt (by exact (Q_BK315 h1_ (hoff 11 (by kernel_rfl))))) : gb314 ≠ gb315)))
      have z_BK315 := fun (h0_ : b 9 = true) (h1_ : b 11 = false) => (show w49.heap[gb315]? = some (.cells #[.int .u64 0, .int .u64 0] 50 (0, 0)) from by first | exact (blk_below (g := gb315) (o := .cells #[.int .u64 0, .int .u64 0] 50 (0, 0)) (by exact (Q_BK315 h0_ h1_)) hb))
      clear BK306
      clear BK309
      clear HB
      have BK306 := n0_
      have BK309 := n1_
      have HB := n2_
      have BK314 := n3_
      have GW314 := n4_
      have GE314 := n5_
      have NB306_314 := n6_
      have NB314_306 := n7_
      have NB309_314 := n8_
      have NB314_309 := n9_
      clear n0_ n1_ n2_ n3_ n4_ n5_ n6_ n7_ n8_ n9_
      clear hb hbox hg
      refine hK.out _ _ ⟨gb314, gb315, (.pointer (some ⟨gb314, 0, none⟩)), m9_, (by rw [ha.out]; exact putSel_upk 4 hb_ rfl rfl rfl), (by exact BK306.out), (by exact BK309.out), (by repeat (first | (with_reducible first | exact HB.out | apply below_alloc | apply pw_below_drewN | apply below_drew1 | refine below_set ?_ GE306.out | refine below_set ?_ GE309.out | refine below_set ?_ GE314.out) | exact HB.out)), @z_NB315_314, @z_NB314_315, fun _ _ => (by exact BK314.out), fun _ => GW314.out, fun _ => GE314.out, fun _ => NB306_314.out, fun _ => NB314_306.out, fun _ => NB309_314.out, fun _ => NB314_309.out, z_BK315, Q_GW315, Q_GE315, Q_NB306_315, Q_NB315_306, Q_NB309_315, Q_NB315_309, fun h0_ => absurd ((hoff 10 (by kernel_rfl)).symm.trans h0_) (by decide), fun h0_ => absurd ((hoff 11 (by kernel_rfl)).symm.trans h0_) (by decide), fun _ => rfl, Q_X9_⟩
     refine steps_cons ?_ ?_
     ·rintro b a w' ⟨gb314, gb315, m8_, m9_, ha, Q_BK306, Q_BK309, Q_HB, Q_NB315_314, Q_NB314_315, Q_BK314, Q_GW314, Q_GE314, Q_NB306_314, Q_NB314_306, Q_NB309_314, Q_NB314_309, Q_BK315, Q_GW315, Q_GE315, Q_NB306_315, Q_NB315_306, Q_NB309_315, Q_NB315_309, Q_BK314_e10, Q_BK315_e11, Q_X8_, Q_X9_⟩ hb_ hon hoff
      refine ⟨_, rfl, fun K hK => ?_⟩
      replace ha := Aside0.mk ha
      have BK306 := Aside0.mk Q_BK306
      have BK309 := Aside0.mk Q_BK309
      have HB := Aside0.mk Q_HB
      refine box_step ?hg (N := 9) ?hd (cs := #[.int .u64 0, .int .u64 0]) (t := 50) ?hr ?_; (case hd => rfl); (case hg => rfl); (case hr => first | (go_simp; done) | (go_simp; rfl))
      intro gb315 hg w49 hbox hb
      have n0_ := Aside0.mk (blk_below (by exact BK306.out) hb)
      have n1_ := Aside0.mk (blk_below (by exact BK309.out) hb)
      have n2_ := Aside0.mk (below_step (by repeat (first | (with_reducible first | exact HB.out | apply below_alloc | apply pw_below_drewN | apply below_drew1 | refine below_set ?_ GE306.out | refine below_set ?_ GE309.out) | exact HB.out)) hb)
      have n3_ := Aside0.mk (hbox)
      have n4_ := Aside0.mk ((by rw [hg]; exact (below_size (by repeat (first | (with_reducible first | exact HB.out | apply below_alloc | apply pw_below_drewN | apply below_drew1 | refine below_set ?_ GE306.out | refine below_set ?_ GE309.out) | exact HB.out))) : w.heap.size ≤ gb315))
      have n5_ := Aside0.mk ((by rw [hg]; exact (below_size (by repeat (first | (with_reducible first | exact HB.out | apply below_alloc | apply pw_below_drewN | apply below_drew1 | refine below_set ?_ GE306.out | refine below_set ?_ GE309.out) | exact HB.out))) : w.heap.size ≤ gb315))
      have n6_ := Aside0.mk ((by rw [hg]; exact Nat.ne_of_lt (blk_lt (by exact BK306.out)) : gb306 ≠ gb315))
      have n7_ := Aside0.mk ((by rw [hg]; exact Nat.ne_of_gt (blk_lt (by exact BK306.out)) : gb315 ≠ gb306))
      have n8_ := Aside0.mk ((by rw [hg]; exact Nat.ne_of_lt (blk_lt (by exact BK309.out)) : gb309 ≠ gb315))
      have n9_ := Aside0.mk ((by rw [hg]; exact Nat.ne_of_gt (blk_lt (by exact BK309.out)) : gb315 ≠ gb309))
      have z_NB315_314 := fun (h0_ : up b 9 8 = true) (h1_ : up b 9 9 = true) => (show gb315 ≠ gb314 from ((by rw [hg]; exact Nat.ne_of_gt (blk_lt (by exact (Q_BK314 h0_ (hoff 10 (by kernel_rfl))))) : gb315 ≠ gb314)))
      have z_NB314_315 := fun (h0_ : up b 9 8 = true) (h1_ : up b 9 9 = true) => (show gb314 ≠ gb315 from ((by rw [hg]; exact Nat.ne_of_lt (blk_lt (by exact (Q_BK314 h0_ (hoff 10 (by kernel_rfl))))) : gb314 ≠ gb315)))
      have z_BK314 := fun (h0_ : b 8 = true) (h1_ : b 10 = false) => (show w49.heap[gb314]? = some (.cells #[.int .u64 0, .int .u64 0] 50 (0, 0)) from by first | exact (blk_below (g := gb314) (o := .cells #[.int .u64 0, .int .u64 0] 50 (0, 0)) (by exact (Q_BK314 h0_ h1_)) hb))
      clear BK306
      clear BK309
      clear HB
      have BK306 := n0_
      have BK309 := n1_
      have HB := n2_
      have BK315 := n3_
      have GW315 := n4_
      have GE315 := n5_
      have NB306_315 := n6_
      have NB315_306 := n7_
      have NB309_315 := n8_
      have NB315_309 := n9_
      clear n0_ n1_ n2_ n3_ n4_ n5_ n6_ n7_ n8_ n9_
      clear hb hbox hg
      refine hK.out _ _ ⟨gb314, gb315, m8_, (.pointer (some ⟨gb315, 0, none⟩)), (by rw [ha.out]; exact putSel_upk 5 hb_ rfl rfl rfl), (by exact BK306.out), (by exact BK309.out), (by repeat (first | (with_reducible first | exact HB.out | apply below_alloc | apply pw_below_drewN | apply below_drew1 | refine below_set ?_ GE306.out | refine below_set ?_ GE309.out | refine below_set ?_ GE315.out) | exact HB.out)), @z_NB315_314, @z_NB314_315, z_BK314, Q_GW314, Q_GE314, Q_NB306_314, Q_NB314_306, Q_NB309_314, Q_NB314_309, fun _ _ => (by exact BK315.out), fun _ => GW315.out, fun _ => GE315.out, fun _ => NB306_315.out, fun _ => NB315_306.out, fun _ => NB309_315.out, fun _ => NB315_309.out, fun h0_ => absurd ((hoff 10 (by kernel_rfl)).symm.trans h0_) (by decide), fun h0_ => absurd ((hoff 11 (by kernel_rfl)).symm.trans h0_) (by decide), Q_X8_, fun _ => rfl⟩
     refine steps_cons ?_ ?_
     ·rintro b a w' ⟨gb314, gb315, m8_, m9_, ha, Q_BK306, Q_BK309, Q_HB, Q_NB315_314, Q_NB314_315, Q_BK314, Q_GW314, Q_GE314, Q_NB306_314, Q_NB314_306, Q_NB309_314, Q_NB314_309, Q_BK315, Q_GW315, Q_GE315, Q_NB306_315, Q_NB315_306, Q_NB309_315, Q_NB315_309, Q_BK314_e10, Q_BK315_e11, Q_X8_, Q_X9_⟩ hb_ hon hoff
      refine ⟨_, rfl, fun K hK => ?_⟩
      have e8 : a.tmps[8]? = some (m8_) := by rw [ha]; exact putSel_on (e := (8, 8, m8_)) 4 rfl rfl (hon 8 (by kernel_rfl)) rfl
      rw [Q_X8_ (hon 8 (by kernel_rfl))] at e8
      have e20 : a.tmps[20]? = some (.agg #[.int .u64 t310, .int .u64 t311]) := by rw [ha]; exact putSel_on (e := (3, 20, .agg #[.int .u64 t310, .int .u64 t311])) 1 rfl rfl (hon 3 (by kernel_rfl)) rfl
      replace ha := Aside0.mk ha
      have BK306 := Aside0.mk Q_BK306
      have BK309 := Aside0.mk Q_BK309
      have HB := Aside0.mk Q_HB
      have NB315_314 := Aside0.mk (Q_NB315_314 (hon 8 (by kernel_rfl)) (hon 9 (by kernel_rfl)))
      have NB314_315 := Aside0.mk (Q_NB314_315 (hon 8 (by kernel_rfl)) (hon 9 (by kernel_rfl)))
      have BK314 := Aside0.mk (Q_BK314 (hon 8 (by kernel_rfl)) hb_)
      have GW314 := Aside0.mk (Q_GW314 (hon 8 (by kernel_rfl)))
      have GE314 := Aside0.mk (Q_GE314 (hon 8 (by kernel_rfl)))
      have NB306_314 := Aside0.mk (Q_NB306_314 (hon 8 (by kernel_rfl)))
      have NB314_306 := Aside0.mk (Q_NB314_306 (hon 8 (by kernel_rfl)))
      have NB309_314 := Aside0.mk (Q_NB309_314 (hon 8 (by kernel_rfl)))
      have NB314_309 := Aside0.mk (Q_NB314_309 (hon 8 (by kernel_rfl)))
      have BK315 := Aside0.mk (Q_BK315 (hon 9 (by kernel_rfl)) (hoff 11 (by kernel_rfl)))
      have GW315 := Aside0.mk (Q_GW315 (hon 9 (by kernel_rfl)))
      have GE315 := Aside0.mk (Q_GE315 (hon 9 (by kernel_rfl)))
      have NB306_315 := Aside0.mk (Q_NB306_315 (hon 9 (by kernel_rfl)))
      have NB315_306 := Aside0.mk (Q_NB315_306 (hon 9 (by kernel_rfl)))
      have NB309_315 := Aside0.mk (Q_NB309_315 (hon 9 (by kernel_rfl)))
      have NB315_309 := Aside0.mk (Q_NB315_309 (hon 9 (by kernel_rfl)))
      have hs54 : w'.cell? ⟨gb314, 0, none⟩ = some (.int .u64 0) := (blk_cell BK314.out 0).trans rfl
      have hfs54 := blk_frozen BK314.out 0
      have hns54_0 := NB306_314.out
      have hns54_1 := NB309_314.out
      have hns54_3 := NB315_314.out
      have hms54_0 := NB314_306.out
      have hms54_1 := NB314_309.out
      have hms54_3 := NB314_315.out
      have hs55 : w'.cell? ⟨gb314, 1, none⟩ = some (.int .u64 0) := (blk_cell BK314.out 1).trans rfl
      have hfs55 := blk_frozen BK314.out 1
      have hns55_0 := NB306_314.out
      have hns55_1 := NB309_314.out
      have hns55_3 := NB315_314.out
      have hms55_0 := NB314_306.out
      have hms55_1 := NB314_309.out
      have hms55_3 := NB314_315.out
      refine skip_ (w1 := ?_) (by rfl) rfl ?_ ?_
      rotate_left
      ·go_simp
       rfl
      refine hK.out _ _ ⟨gb314, gb315, m8_, m9_, (by rw [ha.out]; exact putSel_none (v := undef) rfl), (by refine blk_far ?_ NB306_314.out _; refine blk_far ?_ NB306_314.out _; exact BK306.out), (by refine blk_far ?_ NB309_314.out _; refine blk_far ?_ NB309_314.out _; exact BK309.out), (by repeat (first | (with_reducible first | exact HB.out | apply below_alloc | apply pw_below_drewN | apply below_drew1 | refine below_set ?_ GE306.out | refine below_set ?_ GE309.out | refine below_set ?_ GE314.out | refine below_set ?_ GE315.out) | exact HB.out)), fun _ _ => NB315_314.out, fun _ _ => NB314_315.out, fun _ h1_ => absurd ((up_self b 10).symm.trans h1_) (by decide), fun _ => GW314.out, fun _ => GE314.out, fun _ => NB306_314.out, fun _ => NB314_306.out, fun _ => NB309_314.out, fun _ => NB314_309.out, fun _ _ => (by refine blk_far ?_ NB315_314.out _; refine blk_far ?_ NB315_314.out _; exact BK315.out), fun _ => GW315.out, fun _ => GE315.out, fun _ => NB306_315.out, fun _ => NB315_306.out, fun _ => NB309_315.out, fun _ => NB315_309.out, fun _ => (by refine blk_put (cs := #[.int .u64 t310, .int .u64 0]) ?_ 1 _ rfl; refine blk_put (cs := #[.int .u64 0, .int .u64 0]) ?_ 0 _ rfl; exact BK314.out), fun h0_ => absurd ((hoff 11 (by kernel_rfl)).symm.trans h0_) (by decide), Q_X8_, Q_X9_⟩
     refine steps_cons ?_ ?_
     ·rintro b a w' ⟨gb314, gb315, m8_, m9_, ha, Q_BK306, Q_BK309, Q_HB, Q_NB315_314, Q_NB314_315, Q_BK314, Q_GW314, Q_GE314, Q_NB306_314, Q_NB314_306, Q_NB309_314, Q_NB314_309, Q_BK315, Q_GW315, Q_GE315, Q_NB306_315, Q_NB315_306, Q_NB309_315, Q_NB315_309, Q_BK314_e10, Q_BK315_e11, Q_X8_, Q_X9_⟩ hb_ hon hoff
      refine ⟨_, rfl, fun K hK => ?_⟩
      have e9 : a.tmps[9]? = some (m9_) := by rw [ha]; exact putSel_on (e := (9, 9, m9_)) 5 rfl rfl (hon 9 (by kernel_rfl)) rfl
      rw [Q_X9_ (hon 9 (by kernel_rfl))] at e9
      have e24 : a.tmps[24]? = some (.agg #[.int .u64 t312, .int .u64 t313]) := by rw [ha]; exact putSel_on (e := (7, 24, .agg #[.int .u64 t312, .int .u64 t313])) 3 rfl rfl (hon 7 (by kernel_rfl)) rfl
      replace ha := Aside0.mk ha
      have BK306 := Aside0.mk Q_BK306
      have BK309 := Aside0.mk Q_BK309
      have HB := Aside0.mk Q_HB
      have NB315_314 := Aside0.mk (Q_NB315_314 (hon 8 (by kernel_rfl)) (hon 9 (by kernel_rfl)))
      have NB314_315 := Aside0.mk (Q_NB314_315 (hon 8 (by kernel_rfl)) (hon 9 (by kernel_rfl)))
      have GW314 := Aside0.mk (Q_GW314 (hon 8 (by kernel_rfl)))
      have GE314 := Aside0.mk (Q_GE314 (hon 8 (by kernel_rfl)))
      have NB306_314 := Aside0.mk (Q_NB306_314 (hon 8 (by kernel_rfl)))
      have NB314_306 := Aside0.mk (Q_NB314_306 (hon 8 (by kernel_rfl)))
      have NB309_314 := Aside0.mk (Q_NB309_314 (hon 8 (by kernel_rfl)))
      have NB314_309 := Aside0.mk (Q_NB314_309 (hon 8 (by kernel_rfl)))
      have BK315 := Aside0.mk (Q_BK315 (hon 9 (by kernel_rfl)) hb_)
      have GW315 := Aside0.mk (Q_GW315 (hon 9 (by kernel_rfl)))
      have GE315 := Aside0.mk (Q_GE315 (hon 9 (by kernel_rfl)))
      have NB306_315 := Aside0.mk (Q_NB306_315 (hon 9 (by kernel_rfl)))
      have NB315_306 := Aside0.mk (Q_NB315_306 (hon 9 (by kernel_rfl)))
      have NB309_315 := Aside0.mk (Q_NB309_315 (hon 9 (by kernel_rfl)))
      have NB315_309 := Aside0.mk (Q_NB315_309 (hon 9 (by kernel_rfl)))
      have BK314 := Aside0.mk (Q_BK314_e10 (hon 10 (by kernel_rfl)))
      have hs56 : w'.cell? ⟨gb315, 0, none⟩ = some (.int .u64 0) := (blk_cell BK315.out 0).trans rfl
      have hfs56 := blk_frozen BK315.out 0
      have hns56_0 := NB306_315.out
      have hns56_1 := NB309_315.out
      have hns56_2 := NB314_315.out
      have hms56_0 := NB315_306.out
      have hms56_1 := NB315_309.out
      have hms56_2 := NB315_314.out
      have hs57 : w'.cell? ⟨gb315, 1, none⟩ = some (.int .u64 0) := (blk_cell BK315.out 1).trans rfl
      have hfs57 := blk_frozen BK315.out 1
      have hns57_0 := NB306_315.out
      have hns57_1 := NB309_315.out
      have hns57_2 := NB314_315.out
      have hms57_0 := NB315_306.out
      have hms57_1 := NB315_309.out
      have hms57_2 := NB315_314.out
      refine skip_ (w1 := ?_) (by rfl) rfl ?_ ?_
      rotate_left
      ·go_simp
       rfl
      refine hK.out _ _ ⟨gb314, gb315, m8_, m9_, (by rw [ha.out]; exact putSel_none (v := undef) rfl), (by refine blk_far ?_ NB306_315.out _; refine blk_far ?_ NB306_315.out _; exact BK306.out), (by refine blk_far ?_ NB309_315.out _; refine blk_far ?_ NB309_315.out _; exact BK309.out), (by repeat (first | (with_reducible first | exact HB.out | apply below_alloc | apply pw_below_drewN | apply below_drew1 | refine below_set ?_ GE306.out | refine below_set ?_ GE309.out | refine below_set ?_ GE314.out | refine below_set ?_ GE315.out) | exact HB.out)), fun _ _ => NB315_314.out, fun _ _ => NB314_315.out, fun _ h1_ => absurd ((hon 10 (by kernel_rfl)).symm.trans h1_) (by decide), fun _ => GW314.out, fun _ => GE314.out, fun _ => NB306_314.out, fun _ => NB314_306.out, fun _ => NB309_314.out, fun _ => NB314_309.out, fun _ h1_ => absurd ((up_self b 11).symm.trans h1_) (by decide), fun _ => GW315.out, fun _ => GE315.out, fun _ => NB306_315.out, fun _ => NB315_306.out, fun _ => NB309_315.out, fun _ => NB315_309.out, fun _ => (by refine blk_far ?_ NB314_315.out _; refine blk_far ?_ NB314_315.out _; exact BK314.out), fun _ => (by refine blk_put (cs := #[.int .u64 t312, .int .u64 0]) ?_ 1 _ rfl; refine blk_put (cs := #[.int .u64 0, .int .u64 0]) ?_ 0 _ rfl; exact BK315.out), Q_X8_, Q_X9_⟩
     exact steps_nil
    rintro b a w57 hall ⟨gb314, gb315, m8_, m9_, ha, Q_BK306, Q_BK309, Q_HB, Q_NB315_314, Q_NB314_315, Q_BK314, Q_GW314, Q_GE314, Q_NB306_314, Q_NB314_306, Q_NB309_314, Q_NB314_309, Q_BK315, Q_GW315, Q_GE315, Q_NB306_315, Q_NB315_306, Q_NB309_315, Q_NB315_309, Q_BK314_e10, Q_BK315_e11, Q_X8_, Q_X9_⟩
    clear BK306 BK309 HB
    have hb1_ := hall 1 (by kernel_rfl)
    have hb3_ := hall 3 (by kernel_rfl)
    have hb5_ := hall 5 (by kernel_rfl)
    have hb7_ := hall 7 (by kernel_rfl)
    have hb8_ := hall 8 (by kernel_rfl)
    have hb9_ := hall 9 (by kernel_rfl)
    have hb10_ := hall 10 (by kernel_rfl)
    have hb11_ := hall 11 (by kernel_rfl)
    subst ha
    obtain rfl := Q_X8_ hb8_
    obtain rfl := Q_X9_ hb9_
    simp only [putSel, hb1_, hb3_, hb5_, hb7_, hb8_, hb9_, hb10_, hb11_, if_true, Act.put, List.setIfInBounds_toArray, List.set_cons_zero, List.set_cons_succ]
    have BK306 := Aside0.mk Q_BK306
    clear Q_BK306
    have BK309 := Aside0.mk Q_BK309
    clear Q_BK309
    have HB := Aside0.mk Q_HB
    clear Q_HB
    have NB315_314 := Aside0.mk (Q_NB315_314 hb8_ hb9_)
    clear Q_NB315_314
    have NB314_315 := Aside0.mk (Q_NB314_315 hb8_ hb9_)
    clear Q_NB314_315
    clear Q_BK314
    have GW314 := Aside0.mk (Q_GW314 hb8_)
    clear Q_GW314
    have GE314 := Aside0.mk (Q_GE314 hb8_)
    clear Q_GE314
    have NB306_314 := Aside0.mk (Q_NB306_314 hb8_)
    clear Q_NB306_314
    have NB314_306 := Aside0.mk (Q_NB314_306 hb8_)
    clear Q_NB314_306
    have NB309_314 := Aside0.mk (Q_NB309_314 hb8_)
    clear Q_NB309_314
    have NB314_309 := Aside0.mk (Q_NB314_309 hb8_)
    clear Q_NB314_309
    clear Q_BK315
    have GW315 := Aside0.mk (Q_GW315 hb9_)
    clear Q_GW315
    have GE315 := Aside0.mk (Q_GE315 hb9_)
    clear Q_GE315
    have NB306_315 := Aside0.mk (Q_NB306_315 hb9_)
    clear Q_NB306_315
    have NB315_306 := Aside0.mk (Q_NB315_306 hb9_)
    clear Q_NB315_306
    have NB309_315 := Aside0.mk (Q_NB309_315 hb9_)
    clear Q_NB309_315
    have NB315_309 := Aside0.mk (Q_NB315_309 hb9_)
    clear Q_NB315_309
    have BK314 := Aside0.mk (Q_BK314_e10 hb10_)
    clear Q_BK314_e10
    have BK315 := Aside0.mk (Q_BK315_e11 hb11_)
    clear Q_BK315_e11
    clear hall hb1_ hb3_ hb5_ hb7_ hb8_ hb9_ hb10_ hb11_
    have hnb58 := NB314_306.out
    have hnc58 := NB306_314.out
    have hnb59 := NB314_309.out
    have hnc59 := NB309_314.out
    have hnb60 := NB314_315.out
    have hnc60 := NB315_314.out
    have hcz61_0 : w57.cell? ⟨gb314, 0, none⟩ = some (.int .u64 t310) := (blk_cell BK314.out 0).trans rfl
    have hcz61_1 : w57.cell? ⟨gb314, 1, none⟩ = some (.int .u64 t311) := (blk_cell BK314.out 1).trans rfl
    have hfz61_0 := blk_frozen BK314.out 0
    have hfz61_1 := blk_frozen BK314.out 1
    have hnb62 := NB315_306.out
    have hnc62 := NB306_315.out
    have hnb63 := NB315_309.out
    have hnc63 := NB309_315.out
    have hcz64_0 : w57.cell? ⟨gb315, 0, none⟩ = some (.int .u64 t312) := (blk_cell BK315.out 0).trans rfl
    have hcz64_1 : w57.cell? ⟨gb315, 1, none⟩ = some (.int .u64 t313) := (blk_cell BK315.out 1).trans rfl
    have hfz64_0 := blk_frozen BK315.out 0
    have hfz64_1 := blk_frozen BK315.out 1
    try go_wp2_with (first | ((with_reducible refine gate_callee (f := 23) rfl ?_); refine goesL_ (some 30) rfl rfl Try.func23 (by kernel_rfl) rfl #[.agg #[.int .u64 t310, .int .u64 t311], .agg #[.int .u64 t313, .int .u64 0]] rfl (by (try simp only [List.map_toArray, List.map_cons, List.map_nil]); first | done | rfl | (simp only [List.length_drop, List.length_take]; rfl)) ?_; (with_reducible refine (overfallref01_Add.calls k t310 t311 t313 0 t316 t317 true _ A8.out).mono ?_); rintro e w65 ⟨rfl, hb⟩; refine ⟨_, rfl, ?_⟩; have n0_ := Aside0.mk (blk_below (by exact BK306.out) hb); have n1_ := Aside0.mk (blk_below (by exact BK309.out) hb); have n2_ := Aside0.mk (blk_below (by exact BK314.out) hb); have n3_ := Aside0.mk (blk_below (by exact BK315.out) hb); have n4_ := Aside0.mk (below_step (by repeat (first | (with_reducible first | exact HB.out | apply below_alloc | apply pw_below_drewN | apply below_drew1 | refine below_set ?_ GE306.out | refine below_set ?_ GE309.out | refine below_set ?_ GE314.out | refine below_set ?_ GE315.out) | exact HB.out)) hb); clear BK306; clear BK309; clear BK314; clear BK315; clear HB; have BK306 := n0_; have BK309 := n1_; have BK314 := n2_; have BK315 := n3_; have HB := n4_; clear n0_ n1_ n2_ n3_ n4_; (try clear hb); (try clear hb2); (try clear hk); (try clear hi)) | ((with_reducible refine gate_dst (N := 10) rfl ?_); refine box_event ?hg (N := 10) ?hd (cs := #[.int .u64 0, .int .u64 0]) (t := 50) ?hr ?_; (case hd => rfl); (case hg => rfl); (case hr => first | (go_simp; done) | (go_simp; rfl)); intro gb319 hg w66 hbox hb; have n0_ := Aside0.mk (blk_below (by exact BK306.out) hb); have n1_ := Aside0.mk (blk_below (by exact BK309.out) hb); have n2_ := Aside0.mk (blk_below (by exact BK314.out) hb); have n3_ := Aside0.mk (blk_below (by exact BK315.out) hb); have n4_ := Aside0.mk (below_step (by repeat (first | (with_reducible first | exact HB.out | apply below_alloc | apply pw_below_drewN | apply below_drew1 | refine below_set ?_ GE306.out | refine below_set ?_ GE309.out | refine below_set ?_ GE314.out | refine below_set ?_ GE315.out) | exact HB.out)) hb); have n5_ := Aside0.mk (hbox); have n6_ := Aside0.mk ((by rw [hg]; exact (below_size (by repeat (first | (with_reducible first | exact HB.out | apply below_alloc | apply pw_below_drewN | apply below_drew1 | refine below_set ?_ GE306.out | refine below_set ?_ GE309.out | refine below_set ?_ GE314.out | refine below_set ?_ GE315.out) | exact HB.out))) : w.heap.size ≤ gb319)); have n7_ := Aside0.mk ((by rw [hg]; exact (below_size (by repeat (first | (with_reducible first | exact HB.out | apply below_alloc | apply pw_below_drewN | apply below_drew1 | refine below_set ?_ GE306.out | refine below_set ?_ GE309.out | refine below_set ?_ GE314.out | refine below_set ?_ GE315.out) | exact HB.out))) : w.heap.size ≤ gb319)); have n8_ := Aside0.mk ((by rw [hg]; exact Nat.ne_of_lt (blk_lt (by exact BK306.out)) : gb306 ≠ gb319)); have n9_ := Aside0.mk ((by rw [hg]; exact Nat.ne_of_gt (blk_lt (by exact BK306.out)) : gb319 ≠ gb306)); have n10_ := Aside0.mk ((by rw [hg]; exact Nat.ne_of_lt (blk_lt (by exact BK309.out)) : gb309 ≠ gb319)); have n11_ := Aside0.mk ((by rw [hg]; exact Nat.ne_of_gt (blk_lt (by exact BK309.out)) : gb319 ≠ gb309)); have n12_ := Aside0.mk ((by rw [hg]; exact Nat.ne_of_lt (blk_lt (by exact BK314.out)) : gb314 ≠ gb319)); have n13_ := Aside0.mk ((by rw [hg]; exact Nat.ne_of_gt (blk_lt (by exact BK314.out)) : gb319 ≠ gb314)); have n14_ := Aside0.mk ((by rw [hg]; exact Nat.ne_of_lt (blk_lt (by exact BK315.out)) : gb315 ≠ gb319)); have n15_ := Aside0.mk ((by rw [hg]; exact Nat.ne_of_gt (blk_lt (by exact BK315.out)) : gb319 ≠ gb315)); clear BK306; clear BK309; clear BK314; clear BK315; clear HB; have BK306 := n0_; have BK309 := n1_; have BK314 := n2_; have BK315 := n3_; have HB := n4_; have BK319 := n5_; have GW319 := n6_; have GE319 := n7_; have NB306_319 := n8_; have NB319_306 := n9_; have NB309_319 := n10_; have NB319_309 := n11_; have NB314_319 := n12_; have NB319_314 := n13_; have NB315_319 := n14_; have NB319_315 := n15_; clear n0_ n1_ n2_ n3_ n4_ n5_ n6_ n7_ n8_ n9_ n10_ n11_ n12_ n13_ n14_ n15_; clear hb hbox hg; have hnb67 := NB319_306.out; have hnc67 := NB306_319.out; have hnb68 := NB319_309.out; have hnc68 := NB309_319.out; have hnb69 := NB319_314.out; have hnc69 := NB314_319.out; have hnb70 := NB319_315.out; have hnc70 := NB315_319.out; have hcz71_0 : w66.cell? ⟨gb319, 0, none⟩ = some (.int .u64 0) := (blk_cell BK319.out 0).trans rfl; have hcz71_1 : w66.cell? ⟨gb319, 1, none⟩ = some (.int .u64 0) := (blk_cell BK319.out 1).trans rfl; have hfz71_0 := blk_frozen BK319.out 0; have hfz71_1 := blk_frozen BK319.out 1; have hcz72_0 : w66.cell? ⟨gb315, 0, none⟩ = some (.int .u64 t312) := (blk_cell BK315.out 0).trans rfl; have hcz72_1 : w66.cell? ⟨gb315, 1, none⟩ = some (.int .u64 t313) := (blk_cell BK315.out 1).trans rfl; have hfz72_0 := blk_frozen BK315.out 0; have hfz72_1 := blk_frozen BK315.out 1))
    go_ret
    exact ⟨by first | rfl | (simp [errW_none, errW_some] <;> rfl) | (simp [*, errW_none, errW_some] <;> rfl), by repeat (first | (with_reducible first | exact HB.out | apply below_alloc | apply pw_below_drewN | apply below_drew1 | refine below_set ?_ GE306.out | refine below_set ?_ GE309.out | refine below_set ?_ GE314.out | refine below_set ?_ GE315.out | refine below_set ?_ GE319.out) | exact HB.out)⟩
   ·replace c41 := Bool.eq_false_iff.mpr c41
    subst c41
    have H1 : ((overfallref01_Less.f a2_0 a2_1 t316 t317).bind fun t320 => (some (!t320))) = some r := by rw [if_neg (show ¬ (false = true) by decide)] at H; exact H
    clear H
    have H := H1
    clear H1
    replace H := Option.bind_eq_some_iff.mp H
    obtain ⟨t320, A730, H⟩ := H
    replace H : (some (!t320)) = some r := H
    have A73 := Aside0.mk A730
    clear A730
    obtain rfl := Option.some.inj H
    go_enter Try.func39, Try.ntmps39
    try go_wp2_with (first | ((with_reducible refine gate_dst (N := 5) rfl ?_); refine box_event ?hg (N := 5) ?hd (cs := #[.int .u64 a2_0, .int .u64 a2_1]) (t := 50) ?hr ?_; (case hd => rfl); (case hg => rfl); (case hr => first | (go_simp; done) | (go_simp; rfl)); intro gb306 hg w74 hbox hb; have n0_ := Aside0.mk (below_step (by repeat (first | (with_reducible first | exact HB.out | apply below_alloc | apply pw_below_drewN | apply below_drew1) | exact HB.out)) hb); have n1_ := Aside0.mk (hbox); have n2_ := Aside0.mk ((by rw [hg]; exact (below_size (by repeat (first | (with_reducible first | exact HB.out | apply below_alloc | apply pw_below_drewN | apply below_drew1) | exact HB.out))) : w.heap.size ≤ gb306)); have n3_ := Aside0.mk ((by rw [hg]; exact (below_size (by repeat (first | (with_reducible first | exact HB.out | apply below_alloc | apply pw_below_drewN | apply below_drew1) | exact HB.out))) : w.heap.size ≤ gb306)); clear HB; have HB := n0_; have BK306 := n1_; have GW306 := n2_; have GE306 := n3_; clear n0_ n1_ n2_ n3_; clear hb hbox hg) | ((with_reducible refine gate_callee (f := 30) rfl ?_); refine goesL_ (some 14) rfl rfl Try.func30 (by kernel_rfl) rfl #[.int .u64 a0, .int .u64 a0] rfl (by (try simp only [List.map_toArray, List.map_cons, List.map_nil]); first | done | rfl | (simp only [List.length_drop, List.length_take]; rfl)) ?_; (with_reducible refine (overfallref01_Mul.calls k a0 a0 t307 t308 _ A4.out).mono ?_); rintro e w75 ⟨rfl, hb⟩; refine ⟨_, rfl, ?_⟩; have n0_ := Aside0.mk (blk_below (by exact BK306.out) hb); have n1_ := Aside0.mk (below_step (by repeat (first | (with_reducible first | exact HB.out | apply below_alloc | apply pw_below_drewN | apply below_drew1 | refine below_set ?_ GE306.out) | exact HB.out)) hb); clear BK306; clear HB; have BK306 := n0_; have HB := n1_; clear n0_ n1_; (try clear hb); (try clear hb2); (try clear hk); (try clear hi)) | ((with_reducible refine gate_dst (N := 7) rfl ?_); refine box_event ?hg (N := 7) ?hd (cs := #[.int .u64 0, .int .u64 0]) (t := 50) ?hr ?_; (case hd => rfl); (case hg => rfl); (case hr => first | (go_simp; done) | (go_simp; rfl)); intro gb309 hg w76 hbox hb; have n0_ := Aside0.mk (blk_below (by exact BK306.out) hb); have n1_ := Aside0.mk (below_step (by repeat (first | (with_reducible first | exact HB.out | apply below_alloc | apply pw_below_drewN | apply below_drew1 | refine below_set ?_ GE306.out) | exact HB.out)) hb); have n2_ := Aside0.mk (hbox); have n3_ := Aside0.mk ((by rw [hg]; exact (below_size (by repeat (first | (with_reducible first | exact HB.out | apply below_alloc | apply pw_below_drewN | apply below_drew1 | refine below_set ?_ GE306.out) | exact HB.out))) : w.heap.size ≤ gb309)); have n4_ := Aside0.mk ((by rw [hg]; exact (below_size (by repeat (first | (with_reducible first | exact HB.out | apply below_alloc | apply pw_below_drewN | apply below_drew1 | refine below_set ?_ GE306.out) | exact HB.out))) : w.heap.size ≤ gb309)); have n5_ := Aside0.mk ((by rw [hg]; exact Nat.ne_of_lt (blk_lt (by exact BK306.out)) : gb306 ≠ gb309)); have n6_ := Aside0.mk ((by rw [hg]; exact Nat.ne_of_gt (blk_lt (by exact BK306.out)) : gb309 ≠ gb306)); clear BK306; clear HB; have BK306 := n0_; have HB := n1_; have BK309 := n2_; have GW309 := n3_; have GE309 := n4_; have NB306_309 := n5_; have NB309_306 := n6_; clear n0_ n1_ n2_ n3_ n4_ n5_ n6_; clear hb hbox hg; have hnb77 := NB309_306.out; have hnc77 := NB306_309.out; have hcz78_0 : w76.cell? ⟨gb309, 0, none⟩ = some (.int .u64 0) := (blk_cell BK309.out 0).trans rfl; have hcz78_1 : w76.cell? ⟨gb309, 1, none⟩ = some (.int .u64 0) := (blk_cell BK309.out 1).trans rfl; have hfz78_0 := blk_frozen BK309.out 0; have hfz78_1 := blk_frozen BK309.out 1))
    have n0_ : Aside0 (((w76.setCell ⟨gb309, 0, none⟩ (.int .u64 t307)).setCell ⟨gb309, 1, none⟩ (.int .u64 t308)).heap[gb306]? = some (.cells #[.int .u64 a2_0, .int .u64 a2_1] 50 (0, 0))) := ⟨by refine blk_far ?_ NB306_309.out _; refine blk_far ?_ NB306_309.out _; exact BK306.out⟩
    have n1_ : Aside0 (((w76.setCell ⟨gb309, 0, none⟩ (.int .u64 t307)).setCell ⟨gb309, 1, none⟩ (.int .u64 t308)).heap[gb309]? = some (.cells #[.int .u64 t307, .int .u64 t308] 50 (0, 0))) := ⟨by refine blk_put (cs := #[.int .u64 t307, .int .u64 0]) ?_ 1 _ rfl; refine blk_put (cs := #[.int .u64 0, .int .u64 0]) ?_ 0 _ rfl; exact BK309.out⟩
    have n2_ : Aside0 (Below w.heap.size w ((w76.setCell ⟨gb309, 0, none⟩ (.int .u64 t307)).setCell ⟨gb309, 1, none⟩ (.int .u64 t308))) := ⟨by repeat (first | (with_reducible first | exact HB.out | apply below_alloc | apply pw_below_drewN | apply below_drew1 | refine below_set ?_ GE306.out | refine below_set ?_ GE309.out) | exact HB.out)⟩
    (try clear BK306)
    (try clear BK309)
    (try clear HB)
    generalize ((w76.setCell ⟨gb309, 0, none⟩ (.int .u64 t307)).setCell ⟨gb309, 1, none⟩ (.int .u64 t308)) = w79 at n0_ n1_ n2_ ⊢
    have BK306 := n0_
    have BK309 := n1_
    have HB := n2_
    clear n0_ n1_ n2_
    have n0_ := Aside0.mk (blk_drew BK306.out)
    have n1_ := Aside0.mk (blk_drew BK309.out)
    have n2_ := Aside0.mk (below_drew1 HB.out)
    clear BK306
    clear BK309
    clear HB
    have BK306 := n0_
    have BK309 := n1_
    have HB := n2_
    clear n0_ n1_ n2_
    refine start_ (n := 12) (S := fun w' => True) (ds := []) #[false, false, false, false, false, false, false, false, false, false, false, false] (by kernel_rfl) rfl rfl trivial (fun hHeld => ?_); refine with_tabW overfallref03_Fits.tab3 overfallref03_Fits.bits3 (fun HT_ HW_ => ?_)
    generalize w79.drew = w80 at BK306 BK309 HB hHeld ⊢
    refine pure_ (i := 0) (N := some 17) (v := ?_) (a' := ?_) #[true, false, false, false, false, false, false, false, false, false, false, false] rfl rfl (any_of HT_.out (by kernel_rfl)) (fun _ _ _ h => h) (Or.inl ⟨by rfl, ?_⟩) ?_ ?_
    rotate_left
    ·intro w'
     go_simp
     with_reducible rfl
    rotate_left
    ·simp only [Act.put, List.setIfInBounds_toArray, List.set_cons_zero, List.set_cons_succ, i64_w, i32_w]
     rfl
    refine pure_ (i := 2) (N := some 19) (v := ?_) (a' := ?_) #[true, false, true, false, false, false, false, false, false, false, false, false] rfl rfl (any_of HT_.out (by kernel_rfl)) (fun _ _ _ h => h) (Or.inl ⟨by rfl, ?_⟩) ?_ ?_
    rotate_left
    ·intro w'
     go_simp
     with_reducible rfl
    rotate_left
    ·simp only [Act.put, List.setIfInBounds_toArray, List.set_cons_zero, List.set_cons_succ, i64_w, i32_w]
     rfl
    refine pure_ (i := 4) (N := some 21) (v := ?_) (a' := ?_) #[true, false, true, false, true, false, false, false, false, false, false, false] rfl rfl (any_of HT_.out (by kernel_rfl)) (fun _ _ _ h => h) (Or.inl ⟨by rfl, ?_⟩) ?_ ?_
    rotate_left
    ·intro w'
     go_simp
     with_reducible rfl
    rotate_left
    ·simp only [Act.put, List.setIfInBounds_toArray, List.set_cons_zero, List.set_cons_succ, i64_w, i32_w]
     rfl
    refine pure_ (i := 6) (N := some 23) (v := ?_) (a' := ?_) #[true, false, true, false, true, false, true, false, false, false, false, false] rfl rfl (any_of HT_.out (by kernel_rfl)) (fun _ _ _ h => h) (Or.inl ⟨by rfl, ?_⟩) ?_ ?_
    rotate_left
    ·intro w'
     go_simp
     with_reducible rfl
    rotate_left
    ·simp only [Act.put, List.setIfInBounds_toArray, List.set_cons_zero, List.set_cons_succ, i64_w, i32_w]
     rfl
    refine inv_at [1, 3, 5, 7, 8, 9, 10, 11] (fun a0_ b a w' => ∃ (gb314 : Nat) (gb315 : Nat) (m8_ : Value) (m9_ : Value), a = putSel a0_ b [(1, 18, .int .u64 t308), (3, 20, .agg #[.int .u64 t310, .int .u64 t311]), (5, 22, .int .u64 t307), (7, 24, .agg #[.int .u64 t312, .int .u64 t313]), (8, 8, m8_), (9, 9, m9_)] ∧ (w'.heap[gb306]? = some (.cells #[.int .u64 a2_0, .int .u64 a2_1] 50 (0, 0))) ∧ (w'.heap[gb309]? = some (.cells #[.int .u64 t307, .int .u64 t308] 50 (0, 0))) ∧ (Below w.heap.size w w') ∧ (b 8 = true → b 9 = true → gb315 ≠ gb314) ∧ (b 8 = true → b 9 = true → gb314 ≠ gb315) ∧ (b 8 = true → b 10 = false → w'.heap[gb314]? = some (.cells #[.int .u64 0, .int .u64 0] 50 (0, 0))) ∧ (b 8 = true → w.heap.size ≤ gb314) ∧ (b 8 = true → w.heap.size ≤ gb314) ∧ (b 8 = true → gb306 ≠ gb314) ∧ (b 8 = true → gb314 ≠ gb306) ∧ (b 8 = true → gb309 ≠ gb314) ∧ (b 8 = true → gb314 ≠ gb309) ∧ (b 9 = true → b 11 = false → w'.heap[gb315]? = some (.cells #[.int .u64 0, .int .u64 0] 50 (0, 0))) ∧ (b 9 = true → w.heap.size ≤ gb315) ∧ (b 9 = true → w.heap.size ≤ gb315) ∧ (b 9 = true → gb306 ≠ gb315) ∧ (b 9 = true → gb315 ≠ gb306) ∧ (b 9 = true → gb309 ≠ gb315) ∧ (b 9 = true → gb315 ≠ gb309) ∧ (b 10 = true → w'.heap[gb314]? = some (.cells #[.int .u64 t310, .int .u64 t311] 50 (0, 0))) ∧ (b 11 = true → w'.heap[gb315]? = some (.cells #[.int .u64 t312, .int .u64 t313] 50 (0, 0))) ∧ (b 8 = true → (m8_ : Value) = .pointer (some ⟨gb314, 0, none⟩)) ∧ (b 9 = true → (m9_ : Value) = .pointer (some ⟨gb315, 0, none⟩))) HT_.out HW_.out (by kernel_rfl) (by kernel_rfl) ?_ ?_ ?_
    ·exact ⟨0, 0, .bool false, .bool false, by simp only [putSel, Bool.false_eq_true, if_false], BK306.out, BK309.out, HB.out, fun h_ => absurd h_ (by decide), fun h_ => absurd h_ (by decide), fun h_ => absurd h_ (by decide), fun h_ => absurd h_ (by decide), fun h_ => absurd h_ (by decide), fun h_ => absurd h_ (by decide), fun h_ => absurd h_ (by decide), fun h_ => absurd h_ (by decide), fun h_ => absurd h_ (by decide), fun h_ => absurd h_ (by decide), fun h_ => absurd h_ (by decide), fun h_ => absurd h_ (by decide), fun h_ => absurd h_ (by decide), fun h_ => absurd h_ (by decide), fun h_ => absurd h_ (by decide), fun h_ => absurd h_ (by decide), fun h_ => absurd h_ (by decide), fun h_ => absurd h_ (by decide), fun h_ => absurd h_ (by decide), fun h_ => absurd h_ (by decide)⟩
    ·skip
     clear BK306 BK309 HB
     refine steps_cons ?_ ?_
     ·rintro b a w' ⟨gb314, gb315, m8_, m9_, ha, Q_BK306, Q_BK309, Q_HB, Q_NB315_314, Q_NB314_315, Q_BK314, Q_GW314, Q_GE314, Q_NB306_314, Q_NB314_306, Q_NB309_314, Q_NB314_309, Q_BK315, Q_GW315, Q_GE315, Q_NB306_315, Q_NB315_306, Q_NB309_315, Q_NB315_309, Q_BK314_e10, Q_BK315_e11, Q_X8_, Q_X9_⟩ hb_ hon hoff
      refine ⟨_, rfl, fun K hK => ?_⟩
      have e17 : a.tmps[17]? = some (.pointer (some ⟨gb309, 1, none⟩)) := by rw [ha]; exact (putSel_off rfl).trans rfl
      replace ha := Aside0.mk ha
      have BK306 := Aside0.mk Q_BK306
      have BK309 := Aside0.mk Q_BK309
      have HB := Aside0.mk Q_HB
      have hc0_ : w'.cell? ⟨gb309, 0, none⟩ = some (.int .u64 t307) := (blk_cell BK309.out 0).trans rfl
      have hc1_ : w'.cell? ⟨gb309, 1, none⟩ = some (.int .u64 t308) := (blk_cell BK309.out 1).trans rfl
      refine value_ (w1 := w') (v := .int .u64 t308) (by rfl) rfl ?_ ?_
      ·go_simp
       (try simp only [i64_w])
       try rfl
      refine hK.out _ _ ⟨gb314, gb315, m8_, m9_, (by rw [ha.out]; exact putSel_upk 0 hb_ rfl rfl rfl), Q_BK306, Q_BK309, Q_HB, Q_NB315_314, Q_NB314_315, Q_BK314, Q_GW314, Q_GE314, Q_NB306_314, Q_NB314_306, Q_NB309_314, Q_NB314_309, Q_BK315, Q_GW315, Q_GE315, Q_NB306_315, Q_NB315_306, Q_NB309_315, Q_NB315_309, fun h0_ => absurd ((hoff 10 (by kernel_rfl)).symm.trans h0_) (by decide), fun h0_ => absurd ((hoff 11 (by kernel_rfl)).symm.trans h0_) (by decide), Q_X8_, Q_X9_⟩
     refine steps_cons ?_ ?_
     ·rintro b a w' ⟨gb314, gb315, m8_, m9_, ha, Q_BK306, Q_BK309, Q_HB, Q_NB315_314, Q_NB314_315, Q_BK314, Q_GW314, Q_GE314, Q_NB306_314, Q_NB314_306, Q_NB309_314, Q_NB314_309, Q_BK315, Q_GW315, Q_GE315, Q_NB306_315, Q_NB315_306, Q_NB309_315, Q_NB315_309, Q_BK314_e10, Q_BK315_e11, Q_X8_, Q_X9_⟩ hb_ hon hoff
      refine ⟨_, rfl, fun K hK => ?_⟩
      have e18 : a.tmps[18]? = some (.int .u64 t308) := by rw [ha]; exact putSel_on (e := (1, 18, .int .u64 t308)) 0 rfl rfl (hon 1 (by kernel_rfl)) rfl
      have e19 : a.tmps[19]? = some (.int .u64 a1) := by rw [ha]; exact (putSel_off rfl).trans rfl
      replace ha := Aside0.mk ha
      have BK306 := Aside0.mk Q_BK306
      have BK309 := Aside0.mk Q_BK309
      have HB := Aside0.mk Q_HB
      refine goes_ Try.func30 (by kernel_rfl) rfl #[.int .u64 t308, .int .u64 a1] (by rfl) rfl rfl (by first | (simp only [List.map_toArray, List.map_cons, List.map_nil, Act.eval, Array.getD_eq_getD_getElem?, Option.getD_some, e18, e19]; done) | (simp only [List.map_toArray, List.map_cons, List.map_nil, Act.eval, Array.getD_eq_getD_getElem?, Option.getD_some, e18, e19]; rfl)) ?_
      with_reducible refine (overfallref01_Mul.calls k t308 a1 t310 t311 _ A6.out).mono ?_
      rintro e w81 ⟨rfl, hb⟩
      refine ⟨_, rfl, ?_⟩
      have n0_ := Aside0.mk (blk_below (by exact BK306.out) hb)
      have n1_ := Aside0.mk (blk_below (by exact BK309.out) hb)
      have n2_ := Aside0.mk (below_step (by repeat (first | (with_reducible first | exact HB.out | apply below_alloc | apply pw_below_drewN | apply below_drew1 | refine below_set ?_ GE306.out | refine below_set ?_ GE309.out) | exact HB.out)) hb)
      have z_BK314 := fun (h0_ : b 8 = true) (h1_ : b 10 = false) => (show w81.heap[gb314]? = some (.cells #[.int .u64 0, .int .u64 0] 50 (0, 0)) from by first | exact (blk_below (g := gb314) (o := .cells #[.int .u64 0, .int .u64 0] 50 (0, 0)) (by exact (Q_BK314 h0_ h1_)) hb))
      have z_BK315 := fun (h0_ : b 9 = true) (h1_ : b 11 = false) => (show w81.heap[gb315]? = some (.cells #[.int .u64 0, .int .u64 0] 50 (0, 0)) from by first | exact (blk_below (g := gb315) (o := .cells #[.int .u64 0, .int .u64 0] 50 (0, 0)) (by exact (Q_BK315 h0_ h1_)) hb))
      clear BK306
      clear BK309
      clear HB
      have BK306 := n0_
      have BK309 := n1_
      have HB := n2_
      clear n0_ n1_ n2_
      (try clear hb)
      (try clear hb2)
      (try clear hk)
      (try clear hi)
      refine hK.out _ _ ⟨gb314, gb315, m8_, m9_, (by rw [ha.out]; exact putSel_upk 1 hb_ rfl rfl rfl), (by exact BK306.out), (by exact BK309.out), (by repeat (first | (with_reducible first | exact HB.out | apply below_alloc | apply pw_below_drewN | apply below_drew1 | refine below_set ?_ GE306.out | refine below_set ?_ GE309.out) | exact HB.out)), Q_NB315_314, Q_NB314_315, z_BK314, Q_GW314, Q_GE314, Q_NB306_314, Q_NB314_306, Q_NB309_314, Q_NB314_309, z_BK315, Q_GW315, Q_GE315, Q_NB306_315, Q_NB315_306, Q_NB309_315, Q_NB315_309, fun h0_ => absurd ((hoff 10 (by kernel_rfl)).symm.trans h0_) (by decide), fun h0_ => absurd ((hoff 11 (by kernel_rfl)).symm.trans h0_) (by decide), Q_X8_, Q_X9_⟩
     refine steps_cons ?_ ?_
     ·rintro b a w' ⟨gb314, gb315, m8_, m9_, ha, Q_BK306, Q_BK309, Q_HB, Q_NB315_314, Q_NB314_315, Q_BK314, Q_GW314, Q_GE314, Q_NB306_314, Q_NB314_306, Q_NB309_314, Q_NB314_309, Q_BK315, Q_GW315, Q_GE315, Q_NB306_315, Q_NB315_306, Q_NB309_315, Q_NB315_309, Q_BK314_e10, Q_BK315_e11, Q_X8_, Q_X9_⟩ hb_ hon hoff
      refine ⟨_, rfl, fun K hK => ?_⟩
      have e21 : a.tmps[21]? = some (.pointer (some ⟨gb309, 0, none⟩)) := by rw [ha]; exact (putSel_off rfl).trans rfl
      replace ha := Aside0.mk ha
      have BK306 := Aside0.mk Q_BK306
      have BK309 := Aside0.mk Q_BK309
      have HB := Aside0.mk Q_HB
      have hc0_ : w'.cell? ⟨gb309, 0, none⟩ = some (.int .u64 t307) := (blk_cell BK309.out 0).trans rfl
      have hc1_ : w'.cell? ⟨gb309, 1, none⟩ = some (.int .u64 t308) := (blk_cell BK309.out 1).trans rfl
      refine value_ (w1 := w') (v := .int .u64 t307) (by rfl) rfl ?_ ?_
      ·go_simp
       (try simp only [i64_w])
       try rfl
      refine hK.out _ _ ⟨gb314, gb315, m8_, m9_, (by rw [ha.out]; exact putSel_upk 2 hb_ rfl rfl rfl), Q_BK306, Q_BK309, Q_HB, Q_NB315_314, Q_NB314_315, Q_BK314, Q_GW314, Q_GE314, Q_NB306_314, Q_NB314_306, Q_NB309_314, Q_NB314_309, Q_BK315, Q_GW315, Q_GE315, Q_NB306_315, Q_NB315_306, Q_NB309_315, Q_NB315_309, fun h0_ => absurd ((hoff 10 (by kernel_rfl)).symm.trans h0_) (by decide), fun h0_ => absurd ((hoff 11 (by kernel_rfl)).symm.trans h0_) (by decide), Q_X8_, Q_X9_⟩
     refine steps_cons ?_ ?_
     ·rintro b a w' ⟨gb314, gb315, m8_, m9_, ha, Q_BK306, Q_BK309, Q_HB, Q_NB315_314, Q_NB314_315, Q_BK314, Q_GW314, Q_GE314, Q_NB306_314, Q_NB314_306, Q_NB309_314, Q_NB314_309, Q_BK315, Q_GW315, Q_GE315, Q_NB306_315, Q_NB315_306, Q_NB309_315, Q_NB315_309, Q_BK314_e10, Q_BK315_e11, Q_X8_, Q_X9_⟩ hb_ hon hoff
      refine ⟨_, rfl, fun K hK => ?_⟩
      have e22 : a.tmps[22]? = some (.int .u64 t307) := by rw [ha]; exact putSel_on (e := (5, 22, .int .u64 t307)) 2 rfl rfl (hon 5 (by kernel_rfl)) rfl
      have e23 : a.tmps[23]? = some (.int .u64 a1) := by rw [ha]; exact (putSel_off rfl).trans rfl
      replace ha := Aside0.mk ha
      have BK306 := Aside0.mk Q_BK306
      have BK309 := Aside0.mk Q_BK309
      have HB := Aside0.mk Q_HB
      refine goes_ Try.func30 (by kernel_rfl) rfl #[.int .u64 t307, .int .u64 a1] (by rfl) rfl rfl (by first | (simp only [List.map_toArray, List.map_cons, List.map_nil, Act.eval, Array.getD_eq_getD_getElem?, Option.getD_some, e22, e23]; done) | (simp only [List.map_toArray, List.map_cons, List.map_nil, Act.eval, Array.getD_eq_getD_getElem?, Option.getD_some, e22, e23]; rfl)) ?_
      with_reducible refine (overfallref01_Mul.calls k t307 a1 t312 t313 _ A7.out).mono ?_
      rintro e w83 ⟨rfl, hb⟩
      refine ⟨_, rfl, ?_⟩
      have n0_ := Aside0.mk (blk_below (by exact BK306.out) hb)
      have n1_ := Aside0.mk (blk_below (by exact BK309.out) hb)
      have n2_ := Aside0.mk (below_step (by repeat (first | (with_reducible first | exact HB.out | apply below_alloc | apply pw_below_drewN | apply below_drew1 | refine below_set ?_ GE306.out | refine below_set ?_ GE309.out) | exact HB.out)) hb)
      have z_BK314 := fun (h0_ : b 8 = true) (h1_ : b 10 = false) => (show w83.heap[gb314]? = some (.cells #[.int .u64 0, .int .u64 0] 50 (0, 0)) from by first | exact (blk_below (g := gb314) (o := .cells #[.int .u64 0, .int .u64 0] 50 (0, 0)) (by exact (Q_BK314 h0_ h1_)) hb))
      have z_BK315 := fun (h0_ : b 9 = true) (h1_ : b 11 = false) => (show w83.heap[gb315]? = some (.cells #[.int .u64 0, .int .u64 0] 50 (0, 0)) from by first | exact (blk_below (g := gb315) (o := .cells #[.int .u64 0, .int .u64 0] 50 (0, 0)) (by exact (Q_BK315 h0_ h1_)) hb))
      clear BK306
      clear BK309
      clear HB
      have BK306 := n0_
      have BK309 := n1_
      have HB := n2_
      clear n0_ n1_ n2_
      (try clear hb)
      (try clear hb2)
      (try clear hk)
      (try clear hi)
      refine hK.out _ _ ⟨gb314, gb315, m8_, m9_, (by rw [ha.out]; exact putSel_upk 3 hb_ rfl rfl rfl), (by exact BK306.out), (by exact BK309.out), (by repeat (first | (with_reducible first | exact HB.out | apply below_alloc | apply pw_below_drewN | apply below_drew1 | refine below_set ?_ GE306.out | refine below_set ?_ GE309.out) | exact HB.out)), Q_NB315_314, Q_NB314_315, z_BK314, Q_GW314, Q_GE314, Q_NB306_314, Q_NB314_306, Q_NB309_314, Q_NB314_309, z_BK315, Q_GW315, Q_GE315, Q_NB306_315, Q_NB315_306, Q_NB309_315, Q_NB315_309, fun h0_ => absurd ((hoff 10 (by kernel_rfl)).symm.trans h0_) (by decide), fun h0_ => absurd ((hoff 11 (by kernel_rfl)).symm.trans h0_) (by decide), Q_X8_, Q_X9_⟩
     refine steps_cons ?_ ?_
     ·rintro b a w' ⟨gb314, gb315, m8_, m9_, ha, Q_BK306, Q_BK309, Q_HB, Q_NB315_314, Q_NB314_315, Q_BK314, Q_GW314, Q_GE314, Q_NB306_314, Q_NB314_306, Q_NB309_314, Q_NB314_309, Q_BK315, Q_GW315, Q_GE315, Q_NB306_315, Q_NB315_306, Q_NB309_315, Q_NB315_309, Q_BK314_e10, Q_BK315_e11, Q_X8_, Q_X9_⟩ hb_ hon hoff
      refine ⟨_, rfl, fun K hK => ?_⟩
      replace ha := Aside0.mk ha
      have BK306 := Aside0.mk Q_BK306
      have BK309 := Aside0.mk Q_BK309
      have HB := Aside0.mk Q_HB
      refine box_step ?hg (N := 8) ?hd (cs := #[.int .u64 0, .int .u64 0]) (t := 50) ?hr ?_; (case hd => rfl); (case hg => rfl); (case hr => first | (go_simp; done) | (go_simp; rfl))
      intro gb314 hg w81 hbox hb
      have n0_ := Aside0.mk (blk_below (by exact BK306.out) hb)
      have n1_ := Aside0.mk (blk_below (by exact BK309.out) hb)
      have n2_ := Aside0.mk (below_step (by repeat (first | (with_reducible first | exact HB.out | apply below_alloc | apply pw_below_drewN | apply below_drew1 | refine below_set ?_ GE306.out | refine below_set ?_ GE309.out) | exact HB.out)) hb)
      have n3_ := Aside0.mk (hbox)
      have n4_ := Aside0.mk ((by rw [hg]; exact (below_size (by repeat (first | (with_reducible first | exact HB.out | apply below_alloc | apply pw_below_drewN | apply below_drew1 | refine below_set ?_ GE306.out | refine below_set ?_ GE309.out) | exact HB.out))) : w.heap.size ≤ gb314))
      have n5_ := Aside0.mk ((by rw [hg]; exact (below_size (by repeat (first | (with_reducible first | exact HB.out | apply below_alloc | apply pw_below_drewN | apply below_drew1 | refine below_set ?_ GE306.out | refine below_set ?_ GE309.out) | exact HB.out))) : w.heap.size ≤ gb314))
      have n6_ := Aside0.mk ((by rw [hg]; exact Nat.ne_of_lt (blk_lt (by exact BK306.out)) : gb306 ≠ gb314))
      have n7_ := Aside0.mk ((by rw [hg]; exact Nat.ne_of_gt (blk_lt (by exact BK306.out)) : gb314 ≠ gb306))
      have n8_ := Aside0.mk ((by rw [hg]; exact Nat.ne_of_lt (blk_lt (by exact BK309.out)) : gb309 ≠ gb314))
      have n9_ := Aside0.mk ((by rw [hg]; exact Nat.ne_of_gt (blk_lt (by exact BK309.out)) : gb314 ≠ gb309))
      have z_NB315_314 := fun (h0_ : up b 8 8 = true) (h1_ : up b 8 9 = true) => (show gb315 ≠ gb314 from ((by rw [hg]; exact Nat.ne_of_lt (blk_lt (by exact (Q_BK315 h1_ (hoff 11 (by kernel_rfl))))) : gb315 ≠ gb314)))
      have z_NB314_315 := fun (h0_ : up b 8 8 = true) (h1_ : up b 8 9 = true) => (show gb314 ≠ gb315 from ((by rw [hg]; exact Nat.ne_of_gt (blk_lt (by exact (Q_BK315 h1_ (hoff 11 (by kernel_rfl))))) : gb314 ≠ gb315)))
      have z_BK315 := fun (h0_ : b 9 = true) (h1_ : b 11 = false) => (show w81.heap[gb315]? = some (.cells #[.int .u64 0, .int .u64 0] 50 (0, 0)) from by first | exact (blk_below (g := gb315) (o := .cells #[.int .u64 0, .int .u64 0] 50 (0, 0)) (by exact (Q_BK315 h0_ h1_)) hb))
      clear BK306
      clear BK309
      clear HB
      have BK306 := n0_
      have BK309 := n1_
      have HB := n2_
      have BK314 := n3_
      have GW314 := n4_
      have GE314 := n5_
      have NB306_314 := n6_
      have NB314_306 := n7_
      have NB309_314 := n8_
      have NB314_309 := n9_
      clear n0_ n1_ n2_ n3_ n4_ n5_ n6_ n7_ n8_ n9_
      clear hb hbox hg
      refine hK.out _ _ ⟨gb314, gb315, (.pointer (some ⟨gb314, 0, none⟩)), m9_, (by rw [ha.out]; exact putSel_upk 4 hb_ rfl rfl rfl), (by exact BK306.out), (by exact BK309.out), (by repeat (first | (with_reducible first | exact HB.out | apply below_alloc | apply pw_below_drewN | apply below_drew1 | refine below_set ?_ GE306.out | refine below_set ?_ GE309.out | refine below_set ?_ GE314.out) | exact HB.out)), @z_NB315_314, @z_NB314_315, fun _ _ => (by exact BK314.out), fun _ => GW314.out, fun _ => GE314.out, fun _ => NB306_314.out, fun _ => NB314_306.out, fun _ => NB309_314.out, fun _ => NB314_309.out, z_BK315, Q_GW315, Q_GE315, Q_NB306_315, Q_NB315_306, Q_NB309_315, Q_NB315_309, fun h0_ => absurd ((hoff 10 (by kernel_rfl)).symm.trans h0_) (by decide), fun h0_ => absurd ((hoff 11 (by kernel_rfl)).symm.trans h0_) (by decide), fun _ => rfl, Q_X9_⟩
     refine steps_cons ?_ ?_
     ·rintro b a w' ⟨gb314, gb315, m8_, m9_, ha, Q_BK306, Q_BK309, Q_HB, Q_NB315_314, Q_NB314_315, Q_BK314, Q_GW314, Q_GE314, Q_NB306_314, Q_NB314_306, Q_NB309_314, Q_NB314_309, Q_BK315, Q_GW315, Q_GE315, Q_NB306_315, Q_NB315_306, Q_NB309_315, Q_NB315_309, Q_BK314_e10, Q_BK315_e11, Q_X8_, Q_X9_⟩ hb_ hon hoff
      refine ⟨_, rfl, fun K hK => ?_⟩
      replace ha := Aside0.mk ha
      have BK306 := Aside0.mk Q_BK306
      have BK309 := Aside0.mk Q_BK309
      have HB := Aside0.mk Q_HB
      refine box_step ?hg (N := 9) ?hd (cs := #[.int .u64 0, .int .u64 0]) (t := 50) ?hr ?_; (case hd => rfl); (case hg => rfl); (case hr => first | (go_simp; done) | (go_simp; rfl))
      intro gb315 hg w81 hbox hb
      have n0_ := Aside0.mk (blk_below (by exact BK306.out) hb)
      have n1_ := Aside0.mk (blk_below (by exact BK309.out) hb)
      have n2_ := Aside0.mk (below_step (by repeat (first | (with_reducible first | exact HB.out | apply below_alloc | apply pw_below_drewN | apply below_drew1 | refine below_set ?_ GE306.out | refine below_set ?_ GE309.out) | exact HB.out)) hb)
      have n3_ := Aside0.mk (hbox)
      have n4_ := Aside0.mk ((by rw [hg]; exact (below_size (by repeat (first | (with_reducible first | exact HB.out | apply below_alloc | apply pw_below_drewN | apply below_drew1 | refine below_set ?_ GE306.out | refine below_set ?_ GE309.out) | exact HB.out))) : w.heap.size ≤ gb315))
      have n5_ := Aside0.mk ((by rw [hg]; exact (below_size (by repeat (first | (with_reducible first | exact HB.out | apply below_alloc | apply pw_below_drewN | apply below_drew1 | refine below_set ?_ GE306.out | refine below_set ?_ GE309.out) | exact HB.out))) : w.heap.size ≤ gb315))
      have n6_ := Aside0.mk ((by rw [hg]; exact Nat.ne_of_lt (blk_lt (by exact BK306.out)) : gb306 ≠ gb315))
      have n7_ := Aside0.mk ((by rw [hg]; exact Nat.ne_of_gt (blk_lt (by exact BK306.out)) : gb315 ≠ gb306))
      have n8_ := Aside0.mk ((by rw [hg]; exact Nat.ne_of_lt (blk_lt (by exact BK309.out)) : gb309 ≠ gb315))
      have n9_ := Aside0.mk ((by rw [hg]; exact Nat.ne_of_gt (blk_lt (by exact BK309.out)) : gb315 ≠ gb309))
      have z_NB315_314 := fun (h0_ : up b 9 8 = true) (h1_ : up b 9 9 = true) => (show gb315 ≠ gb314 from ((by rw [hg]; exact Nat.ne_of_gt (blk_lt (by exact (Q_BK314 h0_ (hoff 10 (by kernel_rfl))))) : gb315 ≠ gb314)))
      have z_NB314_315 := fun (h0_ : up b 9 8 = true) (h1_ : up b 9 9 = true) => (show gb314 ≠ gb315 from ((by rw [hg]; exact Nat.ne_of_lt (blk_lt (by exact (Q_BK314 h0_ (hoff 10 (by kernel_rfl))))) : gb314 ≠ gb315)))
      have z_BK314 := fun (h0_ : b 8 = true) (h1_ : b 10 = false) => (show w81.heap[gb314]? = some (.cells #[.int .u64 0, .int .u64 0] 50 (0, 0)) from by first | exact (blk_below (g := gb314) (o := .cells #[.int .u64 0, .int .u64 0] 50 (0, 0)) (by exact (Q_BK314 h0_ h1_)) hb))
      clear BK306
      clear BK309
      clear HB
      have BK306 := n0_
      have BK309 := n1_
      have HB := n2_
      have BK315 := n3_
      have GW315 := n4_
      have GE315 := n5_
      have NB306_315 := n6_
      have NB315_306 := n7_
      have NB309_315 := n8_
      have NB315_309 := n9_
      clear n0_ n1_ n2_ n3_ n4_ n5_ n6_ n7_ n8_ n9_
      clear hb hbox hg
      refine hK.out _ _ ⟨gb314, gb315, m8_, (.pointer (some ⟨gb315, 0, none⟩)), (by rw [ha.out]; exact putSel_upk 5 hb_ rfl rfl rfl), (by exact BK306.out), (by exact BK309.out), (by repeat (first | (with_reducible first | exact HB.out | apply below_alloc | apply pw_below_drewN | apply below_drew1 | refine below_set ?_ GE306.out | refine below_set ?_ GE309.out | refine below_set ?_ GE315.out) | exact HB.out)), @z_NB315_314, @z_NB314_315, z_BK314, Q_GW314, Q_GE314, Q_NB306_314, Q_NB314_306, Q_NB309_314, Q_NB314_309, fun _ _ => (by exact BK315.out), fun _ => GW315.out, fun _ => GE315.out, fun _ => NB306_315.out, fun _ => NB315_306.out, fun _ => NB309_315.out, fun _ => NB315_309.out, fun h0_ => absurd ((hoff 10 (by kernel_rfl)).symm.trans h0_) (by decide), fun h0_ => absurd ((hoff 11 (by kernel_rfl)).symm.trans h0_) (by decide), Q_X8_, fun _ => rfl⟩
     refine steps_cons ?_ ?_
     ·rintro b a w' ⟨gb314, gb315, m8_, m9_, ha, Q_BK306, Q_BK309, Q_HB, Q_NB315_314, Q_NB314_315, Q_BK314, Q_GW314, Q_GE314, Q_NB306_314, Q_NB314_306, Q_NB309_314, Q_NB314_309, Q_BK315, Q_GW315, Q_GE315, Q_NB306_315, Q_NB315_306, Q_NB309_315, Q_NB315_309, Q_BK314_e10, Q_BK315_e11, Q_X8_, Q_X9_⟩ hb_ hon hoff
      refine ⟨_, rfl, fun K hK => ?_⟩
      have e8 : a.tmps[8]? = some (m8_) := by rw [ha]; exact putSel_on (e := (8, 8, m8_)) 4 rfl rfl (hon 8 (by kernel_rfl)) rfl
      rw [Q_X8_ (hon 8 (by kernel_rfl))] at e8
      have e20 : a.tmps[20]? = some (.agg #[.int .u64 t310, .int .u64 t311]) := by rw [ha]; exact putSel_on (e := (3, 20, .agg #[.int .u64 t310, .int .u64 t311])) 1 rfl rfl (hon 3 (by kernel_rfl)) rfl
      replace ha := Aside0.mk ha
      have BK306 := Aside0.mk Q_BK306
      have BK309 := Aside0.mk Q_BK309
      have HB := Aside0.mk Q_HB
      have NB315_314 := Aside0.mk (Q_NB315_314 (hon 8 (by kernel_rfl)) (hon 9 (by kernel_rfl)))
      have NB314_315 := Aside0.mk (Q_NB314_315 (hon 8 (by kernel_rfl)) (hon 9 (by kernel_rfl)))
      have BK314 := Aside0.mk (Q_BK314 (hon 8 (by kernel_rfl)) hb_)
      have GW314 := Aside0.mk (Q_GW314 (hon 8 (by kernel_rfl)))
      have GE314 := Aside0.mk (Q_GE314 (hon 8 (by kernel_rfl)))
      have NB306_314 := Aside0.mk (Q_NB306_314 (hon 8 (by kernel_rfl)))
      have NB314_306 := Aside0.mk (Q_NB314_306 (hon 8 (by kernel_rfl)))
      have NB309_314 := Aside0.mk (Q_NB309_314 (hon 8 (by kernel_rfl)))
      have NB314_309 := Aside0.mk (Q_NB314_309 (hon 8 (by kernel_rfl)))
      have BK315 := Aside0.mk (Q_BK315 (hon 9 (by kernel_rfl)) (hoff 11 (by kernel_rfl)))
      have GW315 := Aside0.mk (Q_GW315 (hon 9 (by kernel_rfl)))
      have GE315 := Aside0.mk (Q_GE315 (hon 9 (by kernel_rfl)))
      have NB306_315 := Aside0.mk (Q_NB306_315 (hon 9 (by kernel_rfl)))
      have NB315_306 := Aside0.mk (Q_NB315_306 (hon 9 (by kernel_rfl)))
      have NB309_315 := Aside0.mk (Q_NB309_315 (hon 9 (by kernel_rfl)))
      have NB315_309 := Aside0.mk (Q_NB315_309 (hon 9 (by kernel_rfl)))
      have hs86 : w'.cell? ⟨gb314, 0, none⟩ = some (.int .u64 0) := (blk_cell BK314.out 0).trans rfl
      have hfs86 := blk_frozen BK314.out 0
      have hns86_0 := NB306_314.out
      have hns86_1 := NB309_314.out
      have hns86_3 := NB315_314.out
      have hms86_0 := NB314_306.out
      have hms86_1 := NB314_309.out
      have hms86_3 := NB314_315.out
      have hs87 : w'.cell? ⟨gb314, 1, none⟩ = some (.int .u64 0) := (blk_cell BK314.out 1).trans rfl
      have hfs87 := blk_frozen BK314.out 1
      have hns87_0 := NB306_314.out
      have hns87_1 := NB309_314.out
      have hns87_3 := NB315_314.out
      have hms87_0 := NB314_306.out
      have hms87_1 := NB314_309.out
      have hms87_3 := NB314_315.out
      refine skip_ (w1 := ?_) (by rfl) rfl ?_ ?_
      rotate_left
      ·go_simp
       rfl
      refine hK.out _ _ ⟨gb314, gb315, m8_, m9_, (by rw [ha.out]; exact putSel_none (v := undef) rfl), (by refine blk_far ?_ NB306_314.out _; refine blk_far ?_ NB306_314.out _; exact BK306.out), (by refine blk_far ?_ NB309_314.out _; refine blk_far ?_ NB309_314.out _; exact BK309.out), (by repeat (first | (with_reducible first | exact HB.out | apply below_alloc | apply pw_below_drewN | apply below_drew1 | refine below_set ?_ GE306.out | refine below_set ?_ GE309.out | refine below_set ?_ GE314.out | refine below_set ?_ GE315.out) | exact HB.out)), fun _ _ => NB315_314.out, fun _ _ => NB314_315.out, fun _ h1_ => absurd ((up_self b 10).symm.trans h1_) (by decide), fun _ => GW314.out, fun _ => GE314.out, fun _ => NB306_314.out, fun _ => NB314_306.out, fun _ => NB309_314.out, fun _ => NB314_309.out, fun _ _ => (by refine blk_far ?_ NB315_314.out _; refine blk_far ?_ NB315_314.out _; exact BK315.out), fun _ => GW315.out, fun _ => GE315.out, fun _ => NB306_315.out, fun _ => NB315_306.out, fun _ => NB309_315.out, fun _ => NB315_309.out, fun _ => (by refine blk_put (cs := #[.int .u64 t310, .int .u64 0]) ?_ 1 _ rfl; refine blk_put (cs := #[.int .u64 0, .int .u64 0]) ?_ 0 _ rfl; exact BK314.out), fun h0_ => absurd ((hoff 11 (by kernel_rfl)).symm.trans h0_) (by decide), Q_X8_, Q_X9_⟩
     refine steps_cons ?_ ?_
     ·rintro b a w' ⟨gb314, gb315, m8_, m9_, ha, Q_BK306, Q_BK309, Q_HB, Q_NB315_314, Q_NB314_315, Q_BK314, Q_GW314, Q_GE314, Q_NB306_314, Q_NB314_306, Q_NB309_314, Q_NB314_309, Q_BK315, Q_GW315, Q_GE315, Q_NB306_315, Q_NB315_306, Q_NB309_315, Q_NB315_309, Q_BK314_e10, Q_BK315_e11, Q_X8_, Q_X9_⟩ hb_ hon hoff
      refine ⟨_, rfl, fun K hK => ?_⟩
      have e9 : a.tmps[9]? = some (m9_) := by rw [ha]; exact putSel_on (e := (9, 9, m9_)) 5 rfl rfl (hon 9 (by kernel_rfl)) rfl
      rw [Q_X9_ (hon 9 (by kernel_rfl))] at e9
      have e24 : a.tmps[24]? = some (.agg #[.int .u64 t312, .int .u64 t313]) := by rw [ha]; exact putSel_on (e := (7, 24, .agg #[.int .u64 t312, .int .u64 t313])) 3 rfl rfl (hon 7 (by kernel_rfl)) rfl
      replace ha := Aside0.mk ha
      have BK306 := Aside0.mk Q_BK306
      have BK309 := Aside0.mk Q_BK309
      have HB := Aside0.mk Q_HB
      have NB315_314 := Aside0.mk (Q_NB315_314 (hon 8 (by kernel_rfl)) (hon 9 (by kernel_rfl)))
      have NB314_315 := Aside0.mk (Q_NB314_315 (hon 8 (by kernel_rfl)) (hon 9 (by kernel_rfl)))
      have GW314 := Aside0.mk (Q_GW314 (hon 8 (by kernel_rfl)))
      have GE314 := Aside0.mk (Q_GE314 (hon 8 (by kernel_rfl)))
      have NB306_314 := Aside0.mk (Q_NB306_314 (hon 8 (by kernel_rfl)))
      have NB314_306 := Aside0.mk (Q_NB314_306 (hon 8 (by kernel_rfl)))
      have NB309_314 := Aside0.mk (Q_NB309_314 (hon 8 (by kernel_rfl)))
      have NB314_309 := Aside0.mk (Q_NB314_309 (hon 8 (by kernel_rfl)))
      have BK315 := Aside0.mk (Q_BK315 (hon 9 (by kernel_rfl)) hb_)
      have GW315 := Aside0.mk (Q_GW315 (hon 9 (by kernel_rfl)))
      have GE315 := Aside0.mk (Q_GE315 (hon 9 (by kernel_rfl)))
      have NB306_315 := Aside0.mk (Q_NB306_315 (hon 9 (by kernel_rfl)))
      have NB315_306 := Aside0.mk (Q_NB315_306 (hon 9 (by kernel_rfl)))
      have NB309_315 := Aside0.mk (Q_NB309_315 (hon 9 (by kernel_rfl)))
      have NB315_309 := Aside0.mk (Q_NB315_309 (hon 9 (by kernel_rfl)))
      have BK314 := Aside0.mk (Q_BK314_e10 (hon 10 (by kernel_rfl)))
      have hs88 : w'.cell? ⟨gb315, 0, none⟩ = some (.int .u64 0) := (blk_cell BK315.out 0).trans rfl
      have hfs88 := blk_frozen BK315.out 0
      have hns88_0 := NB306_315.out
      have hns88_1 := NB309_315.out
      have hns88_2 := NB314_315.out
      have hms88_0 := NB315_306.out
      have hms88_1 := NB315_309.out
      have hms88_2 := NB315_314.out
      have hs89 : w'.cell? ⟨gb315, 1, none⟩ = some (.int .u64 0) := (blk_cell BK315.out 1).trans rfl
      have hfs89 := blk_frozen BK315.out 1
      have hns89_0 := NB306_315.out
      have hns89_1 := NB309_315.out
      have hns89_2 := NB314_315.out
      have hms89_0 := NB315_306.out
      have hms89_1 := NB315_309.out
      have hms89_2 := NB315_314.out
      refine skip_ (w1 := ?_) (by rfl) rfl ?_ ?_
      rotate_left
      ·go_simp
       rfl
      refine hK.out _ _ ⟨gb314, gb315, m8_, m9_, (by rw [ha.out]; exact putSel_none (v := undef) rfl), (by refine blk_far ?_ NB306_315.out _; refine blk_far ?_ NB306_315.out _; exact BK306.out), (by refine blk_far ?_ NB309_315.out _; refine blk_far ?_ NB309_315.out _; exact BK309.out), (by repeat (first | (with_reducible first | exact HB.out | apply below_alloc | apply pw_below_drewN | apply below_drew1 | refine below_set ?_ GE306.out | refine below_set ?_ GE309.out | refine below_set ?_ GE314.out | refine below_set ?_ GE315.out) | exact HB.out)), fun _ _ => NB315_314.out, fun _ _ => NB314_315.out, fun _ h1_ => absurd ((hon 10 (by kernel_rfl)).symm.trans h1_) (by decide), fun _ => GW314.out, fun _ => GE314.out, fun _ => NB306_314.out, fun _ => NB314_306.out, fun _ => NB309_314.out, fun _ => NB314_309.out, fun _ h1_ => absurd ((up_self b 11).symm.trans h1_) (by decide), fun _ => GW315.out, fun _ => GE315.out, fun _ => NB306_315.out, fun _ => NB315_306.out, fun _ => NB309_315.out, fun _ => NB315_309.out, fun _ => (by refine blk_far ?_ NB314_315.out _; refine blk_far ?_ NB314_315.out _; exact BK314.out), fun _ => (by refine blk_put (cs := #[.int .u64 t312, .int .u64 0]) ?_ 1 _ rfl; refine blk_put (cs := #[.int .u64 0, .int .u64 0]) ?_ 0 _ rfl; exact BK315.out), Q_X8_, Q_X9_⟩
     exact steps_nil
    rintro b a w89 hall ⟨gb314, gb315, m8_, m9_, ha, Q_BK306, Q_BK309, Q_HB, Q_NB315_314, Q_NB314_315, Q_BK314, Q_GW314, Q_GE314, Q_NB306_314, Q_NB314_306, Q_NB309_314, Q_NB314_309, Q_BK315, Q_GW315, Q_GE315, Q_NB306_315, Q_NB315_306, Q_NB309_315, Q_NB315_309, Q_BK314_e10, Q_BK315_e11, Q_X8_, Q_X9_⟩
    clear BK306 BK309 HB
    have hb1_ := hall 1 (by kernel_rfl)
    have hb3_ := hall 3 (by kernel_rfl)
    have hb5_ := hall 5 (by kernel_rfl)
    have hb7_ := hall 7 (by kernel_rfl)
    have hb8_ := hall 8 (by kernel_rfl)
    have hb9_ := hall 9 (by kernel_rfl)
    have hb10_ := hall 10 (by kernel_rfl)
    have hb11_ := hall 11 (by kernel_rfl)
    subst ha
    obtain rfl := Q_X8_ hb8_
    obtain rfl := Q_X9_ hb9_
    simp only [putSel, hb1_, hb3_, hb5_, hb7_, hb8_, hb9_, hb10_, hb11_, if_true, Act.put, List.setIfInBounds_toArray, List.set_cons_zero, List.set_cons_succ]
    have BK306 := Aside0.mk Q_BK306
    clear Q_BK306
    have BK309 := Aside0.mk Q_BK309
    clear Q_BK309
    have HB := Aside0.mk Q_HB
    clear Q_HB
    have NB315_314 := Aside0.mk (Q_NB315_314 hb8_ hb9_)
    clear Q_NB315_314
    have NB314_315 := Aside0.mk (Q_NB314_315 hb8_ hb9_)
    clear Q_NB314_315
    clear Q_BK314
    have GW314 := Aside0.mk (Q_GW314 hb8_)
    clear Q_GW314
    have GE314 := Aside0.mk (Q_GE314 hb8_)
    clear Q_GE314
    have NB306_314 := Aside0.mk (Q_NB306_314 hb8_)
    clear Q_NB306_314
    have NB314_306 := Aside0.mk (Q_NB314_306 hb8_)
    clear Q_NB314_306
    have NB309_314 := Aside0.mk (Q_NB309_314 hb8_)
    clear Q_NB309_314
    have NB314_309 := Aside0.mk (Q_NB314_309 hb8_)
    clear Q_NB314_309
    clear Q_BK315
    have GW315 := Aside0.mk (Q_GW315 hb9_)
    clear Q_GW315
    have GE315 := Aside0.mk (Q_GE315 hb9_)
    clear Q_GE315
    have NB306_315 := Aside0.mk (Q_NB306_315 hb9_)
    clear Q_NB306_315
    have NB315_306 := Aside0.mk (Q_NB315_306 hb9_)
    clear Q_NB315_306
    have NB309_315 := Aside0.mk (Q_NB309_315 hb9_)
    clear Q_NB309_315
    have NB315_309 := Aside0.mk (Q_NB315_309 hb9_)
    clear Q_NB315_309
    have BK314 := Aside0.mk (Q_BK314_e10 hb10_)
    clear Q_BK314_e10
    have BK315 := Aside0.mk (Q_BK315_e11 hb11_)
    clear Q_BK315_e11
    clear hall hb1_ hb3_ hb5_ hb7_ hb8_ hb9_ hb10_ hb11_
    have hnb90 := NB314_306.out
    have hnc90 := NB306_314.out
    have hnb91 := NB314_309.out
    have hnc91 := NB309_314.out
    have hnb92 := NB314_315.out
    have hnc92 := NB315_314.out
    have hcz93_0 : w89.cell? ⟨gb314, 0, none⟩ = some (.int .u64 t310) := (blk_cell BK314.out 0).trans rfl
    have hcz93_1 : w89.cell? ⟨gb314, 1, none⟩ = some (.int .u64 t311) := (blk_cell BK314.out 1).trans rfl
    have hfz93_0 := blk_frozen BK314.out 0
    have hfz93_1 := blk_frozen BK314.out 1
    have hnb94 := NB315_306.out
    have hnc94 := NB306_315.out
    have hnb95 := NB315_309.out
    have hnc95 := NB309_315.out
    have hcz96_0 : w89.cell? ⟨gb315, 0, none⟩ = some (.int .u64 t312) := (blk_cell BK315.out 0).trans rfl
    have hcz96_1 : w89.cell? ⟨gb315, 1, none⟩ = some (.int .u64 t313) := (blk_cell BK315.out 1).trans rfl
    have hfz96_0 := blk_frozen BK315.out 0
    have hfz96_1 := blk_frozen BK315.out 1
    try go_wp2_with (first | ((with_reducible refine gate_callee (f := 23) rfl ?_); refine goesL_ (some 30) rfl rfl Try.func23 (by kernel_rfl) rfl #[.agg #[.int .u64 t310, .int .u64 t311], .agg #[.int .u64 t313, .int .u64 0]] rfl (by (try simp only [List.map_toArray, List.map_cons, List.map_nil]); first | done | rfl | (simp only [List.length_drop, List.length_take]; rfl)) ?_; (with_reducible refine (overfallref01_Add.calls k t310 t311 t313 0 t316 t317 false _ A8.out).mono ?_); rintro e w97 ⟨rfl, hb⟩; refine ⟨_, rfl, ?_⟩; have n0_ := Aside0.mk (blk_below (by exact BK306.out) hb); have n1_ := Aside0.mk (blk_below (by exact BK309.out) hb); have n2_ := Aside0.mk (blk_below (by exact BK314.out) hb); have n3_ := Aside0.mk (blk_below (by exact BK315.out) hb); have n4_ := Aside0.mk (below_step (by repeat (first | (with_reducible first | exact HB.out | apply below_alloc | apply pw_below_drewN | apply below_drew1 | refine below_set ?_ GE306.out | refine below_set ?_ GE309.out | refine below_set ?_ GE314.out | refine below_set ?_ GE315.out) | exact HB.out)) hb); clear BK306; clear BK309; clear BK314; clear BK315; clear HB; have BK306 := n0_; have BK309 := n1_; have BK314 := n2_; have BK315 := n3_; have HB := n4_; clear n0_ n1_ n2_ n3_ n4_; (try clear hb); (try clear hb2); (try clear hk); (try clear hi)) | ((with_reducible refine gate_dst (N := 10) rfl ?_); refine box_event ?hg (N := 10) ?hd (cs := #[.int .u64 0, .int .u64 0]) (t := 50) ?hr ?_; (case hd => rfl); (case hg => rfl); (case hr => first | (go_simp; done) | (go_simp; rfl)); intro gb319 hg w98 hbox hb; have n0_ := Aside0.mk (blk_below (by exact BK306.out) hb); have n1_ := Aside0.mk (blk_below (by exact BK309.out) hb); have n2_ := Aside0.mk (blk_below (by exact BK314.out) hb); have n3_ := Aside0.mk (blk_below (by exact BK315.out) hb); have n4_ := Aside0.mk (below_step (by repeat (first | (with_reducible first | exact HB.out | apply below_alloc | apply pw_below_drewN | apply below_drew1 | refine below_set ?_ GE306.out | refine below_set ?_ GE309.out | refine below_set ?_ GE314.out | refine below_set ?_ GE315.out) | exact HB.out)) hb); have n5_ := Aside0.mk (hbox); have n6_ := Aside0.mk ((by rw [hg]; exact (below_size (by repeat (first | (with_reducible first | exact HB.out | apply below_alloc | apply pw_below_drewN | apply below_drew1 | refine below_set ?_ GE306.out | refine below_set ?_ GE309.out | refine below_set ?_ GE314.out | refine below_set ?_ GE315.out) | exact HB.out))) : w.heap.size ≤ gb319)); have n7_ := Aside0.mk ((by rw [hg]; exact (below_size (by repeat (first | (with_reducible first | exact HB.out | apply below_alloc | apply pw_below_drewN | apply below_drew1 | refine below_set ?_ GE306.out | refine below_set ?_ GE309.out | refine below_set ?_ GE314.out | refine below_set ?_ GE315.out) | exact HB.out))) : w.heap.size ≤ gb319)); have n8_ := Aside0.mk ((by rw [hg]; exact Nat.ne_of_lt (blk_lt (by exact BK306.out)) : gb306 ≠ gb319)); have n9_ := Aside0.mk ((by rw [hg]; exact Nat.ne_of_gt (blk_lt (by exact BK306.out)) : gb319 ≠ gb306)); have n10_ := Aside0.mk ((by rw [hg]; exact Nat.ne_of_lt (blk_lt (by exact BK309.out)) : gb309 ≠ gb319)); have n11_ := Aside0.mk ((by rw [hg]; exact Nat.ne_of_gt (blk_lt (by exact BK309.out)) : gb319 ≠ gb309)); have n12_ := Aside0.mk ((by rw [hg]; exact Nat.ne_of_lt (blk_lt (by exact BK314.out)) : gb314 ≠ gb319)); have n13_ := Aside0.mk ((by rw [hg]; exact Nat.ne_of_gt (blk_lt (by exact BK314.out)) : gb319 ≠ gb314)); have n14_ := Aside0.mk ((by rw [hg]; exact Nat.ne_of_lt (blk_lt (by exact BK315.out)) : gb315 ≠ gb319)); have n15_ := Aside0.mk ((by rw [hg]; exact Nat.ne_of_gt (blk_lt (by exact BK315.out)) : gb319 ≠ gb315)); clear BK306; clear BK309; clear BK314; clear BK315; clear HB; have BK306 := n0_; have BK309 := n1_; have BK314 := n2_; have BK315 := n3_; have HB := n4_; have BK319 := n5_; have GW319 := n6_; have GE319 := n7_; have NB306_319 := n8_; have NB319_306 := n9_; have NB309_319 := n10_; have NB319_309 := n11_; have NB314_319 := n12_; have NB319_314 := n13_; have NB315_319 := n14_; have NB319_315 := n15_; clear n0_ n1_ n2_ n3_ n4_ n5_ n6_ n7_ n8_ n9_ n10_ n11_ n12_ n13_ n14_ n15_; clear hb hbox hg; have hnb99 := NB319_306.out; have hnc99 := NB306_319.out; have hnb100 := NB319_309.out; have hnc100 := NB309_319.out; have hnb101 := NB319_314.out; have hnc101 := NB314_319.out; have hnb102 := NB319_315.out; have hnc102 := NB315_319.out; have hcz103_0 : w98.cell? ⟨gb319, 0, none⟩ = some (.int .u64 0) := (blk_cell BK319.out 0).trans rfl; have hcz103_1 : w98.cell? ⟨gb319, 1, none⟩ = some (.int .u64 0) := (blk_cell BK319.out 1).trans rfl; have hfz103_0 := blk_frozen BK319.out 0; have hfz103_1 := blk_frozen BK319.out 1; have hcz104_0 : w98.cell? ⟨gb315, 0, none⟩ = some (.int .u64 t312) := (blk_cell BK315.out 0).trans rfl; have hcz104_1 : w98.cell? ⟨gb315, 1, none⟩ = some (.int .u64 t313) := (blk_cell BK315.out 1).trans rfl; have hfz104_0 := blk_frozen BK315.out 0; have hfz104_1 := blk_frozen BK315.out 1; have hcz105_0 : w98.cell? ⟨gb309, 0, none⟩ = some (.int .u64 t307) := (blk_cell BK309.out 0).trans rfl; have hcz105_1 : w98.cell? ⟨gb309, 1, none⟩ = some (.int .u64 t308) := (blk_cell BK309.out 1).trans rfl; have hfz105_0 := blk_frozen BK309.out 0; have hfz105_1 := blk_frozen BK309.out 1; have hcz106_0 : w98.cell? ⟨gb306, 0, none⟩ = some (.int .u64 a2_0) := (blk_cell BK306.out 0).trans rfl; have hcz106_1 : w98.cell? ⟨gb306, 1, none⟩ = some (.int .u64 a2_1) := (blk_cell BK306.out 1).trans rfl; have hfz106_0 := blk_frozen BK306.out 0; have hfz106_1 := blk_frozen BK306.out 1) | ((with_reducible refine gate_callee (f := 25) rfl ?_); refine goesL_ (some 42) rfl rfl Try.func25 (by kernel_rfl) rfl #[.agg #[.int .u64 a2_0, .int .u64 a2_1], .agg #[.int .u64 t316, .int .u64 t317]] rfl (by (try simp only [List.map_toArray, List.map_cons, List.map_nil]); first | done | rfl | (simp only [List.length_drop, List.length_take]; rfl)) ?_; (with_reducible refine (overfallref01_Less.calls a2_0 a2_1 t316 t317 t320 _ A73.out).mono ?_); rintro e w107 ⟨rfl, hb⟩; refine ⟨_, rfl, ?_⟩; have n0_ := Aside0.mk (blk_below (g := gb306) (o := .cells #[.int .u64 a2_0, .int .u64 a2_1] 50 (0, 0)) (by refine blk_far ?_ NB306_309.out _; refine blk_far ?_ NB306_309.out _; refine blk_far ?_ NB306_319.out _; refine blk_far ?_ NB306_319.out _; exact BK306.out) hb); have n1_ := Aside0.mk (blk_below (g := gb309) (o := .cells #[.int .u64 t316, .int .u64 t317] 50 (0, 0)) (by refine blk_put (cs := #[.int .u64 t316, .int .u64 t308]) ?_ 1 _ rfl; refine blk_put (cs := #[.int .u64 t307, .int .u64 t308]) ?_ 0 _ rfl; refine blk_far ?_ NB309_319.out _; refine blk_far ?_ NB309_319.out _; exact BK309.out) hb); have n2_ := Aside0.mk (blk_below (g := gb314) (o := .cells #[.int .u64 t310, .int .u64 t311] 50 (0, 0)) (by refine blk_far ?_ NB314_309.out _; refine blk_far ?_ NB314_309.out _; refine blk_far ?_ NB314_319.out _; refine blk_far ?_ NB314_319.out _; exact BK314.out) hb); have n3_ := Aside0.mk (blk_below (g := gb315) (o := .cells #[.int .u64 t312, .int .u64 t313] 50 (0, 0)) (by refine blk_far ?_ NB315_309.out _; refine blk_far ?_ NB315_309.out _; refine blk_far ?_ NB315_319.out _; refine blk_far ?_ NB315_319.out _; exact BK315.out) hb); have n4_ := Aside0.mk (blk_below (g := gb319) (o := .cells #[.int .u64 t316, .int .u64 t317] 50 (0, 0)) (by refine blk_far ?_ NB319_309.out _; refine blk_far ?_ NB319_309.out _; refine blk_put (cs := #[.int .u64 t316, .int .u64 0]) ?_ 1 _ rfl; refine blk_put (cs := #[.int .u64 0, .int .u64 0]) ?_ 0 _ rfl; exact BK319.out) hb); have n5_ := Aside0.mk (below_step (by repeat (first | (with_reducible first | exact HB.out | apply below_alloc | apply pw_below_drewN | apply below_drew1 | refine below_set ?_ GE306.out | refine below_set ?_ GE309.out | refine below_set ?_ GE314.out | refine below_set ?_ GE315.out | refine below_set ?_ GE319.out) | exact HB.out)) hb); clear BK306; clear BK309; clear BK314; clear BK315; clear BK319; clear HB; have BK306 := n0_; have BK309 := n1_; have BK314 := n2_; have BK315 := n3_; have BK319 := n4_; have HB := n5_; clear n0_ n1_ n2_ n3_ n4_ n5_; (try clear hb); (try clear hb2); (try clear hk); (try clear hi)))
    go_ret
    exact ⟨by first | rfl | (simp [errW_none, errW_some] <;> rfl) | (simp [*, errW_none, errW_some] <;> rfl), by repeat (first | (with_reducible first | exact HB.out | apply below_alloc | apply pw_below_drewN | apply below_drew1 | refine below_set ?_ GE306.out | refine below_set ?_ GE309.out | refine below_set ?_ GE314.out | refine below_set ?_ GE315.out | refine below_set ?_ GE319.out) | exact HB.out)⟩
 ·rw [if_neg c5] at H
  have c5b0 : decide (1 < a1) = false := decide_eq_false c5
  clear c5
  replace H := Option.bind_eq_some_iff.mp H
  obtain ⟨t321, A1080, H⟩ := H
  replace H : (some (!t321)) = some r := H
  have A108 := Aside0.mk A1080
  clear A1080
  obtain rfl := Option.some.inj H
  go_enter Try.func39, Try.ntmps39
  go_wp2_with (first | ((with_reducible refine gate_dst (N := 5) rfl ?_); refine box_event ?hg (N := 5) ?hd (cs := #[.int .u64 a2_0, .int .u64 a2_1]) (t := 50) ?hr ?_; (case hd => rfl); (case hg => rfl); (case hr => first | (go_simp; done) | (go_simp; rfl)); intro gb306 hg w109 hbox hb; have n0_ := Aside0.mk (below_step (by repeat (first | (with_reducible first | exact HB.out | apply below_alloc | apply pw_below_drewN | apply below_drew1) | exact HB.out)) hb); have n1_ := Aside0.mk (hbox); have n2_ := Aside0.mk ((by rw [hg]; exact (below_size (by repeat (first | (with_reducible first | exact HB.out | apply below_alloc | apply pw_below_drewN | apply below_drew1) | exact HB.out))) : w.heap.size ≤ gb306)); have n3_ := Aside0.mk ((by rw [hg]; exact (below_size (by repeat (first | (with_reducible first | exact HB.out | apply below_alloc | apply pw_below_drewN | apply below_drew1) | exact HB.out))) : w.heap.size ≤ gb306)); clear HB; have HB := n0_; have BK306 := n1_; have GW306 := n2_; have GE306 := n3_; clear n0_ n1_ n2_ n3_; clear hb hbox hg) | ((with_reducible refine gate_callee (f := 30) rfl ?_); refine goesL_ (some 14) rfl rfl Try.func30 (by kernel_rfl) rfl #[.int .u64 a0, .int .u64 a0] rfl (by (try simp only [List.map_toArray, List.map_cons, List.map_nil]); first | done | rfl | (simp only [List.length_drop, List.length_take]; rfl)) ?_; (with_reducible refine (overfallref01_Mul.calls k a0 a0 t307 t308 _ A4.out).mono ?_); rintro e w110 ⟨rfl, hb⟩; refine ⟨_, rfl, ?_⟩; have n0_ := Aside0.mk (blk_below (by exact BK306.out) hb); have n1_ := Aside0.mk (below_step (by repeat (first | (with_reducible first | exact HB.out | apply below_alloc | apply pw_below_drewN | apply below_drew1 | refine below_set ?_ GE306.out) | exact HB.out)) hb); clear BK306; clear HB; have BK306 := n0_; have HB := n1_; clear n0_ n1_; (try clear hb); (try clear hb2); (try clear hk); (try clear hi)) | ((with_reducible refine gate_dst (N := 7) rfl ?_); refine box_event ?hg (N := 7) ?hd (cs := #[.int .u64 0, .int .u64 0]) (t := 50) ?hr ?_; (case hd => rfl); (case hg => rfl); (case hr => first | (go_simp; done) | (go_simp; rfl)); intro gb309 hg w111 hbox hb; have n0_ := Aside0.mk (blk_below (by exact BK306.out) hb); have n1_ := Aside0.mk (below_step (by repeat (first | (with_reducible first | exact HB.out | apply below_alloc | apply pw_below_drewN | apply below_drew1 | refine below_set ?_ GE306.out) | exact HB.out)) hb); have n2_ := Aside0.mk (hbox); have n3_ := Aside0.mk ((by rw [hg]; exact (below_size (by repeat (first | (with_reducible first | exact HB.out | apply below_alloc | apply pw_below_drewN | apply below_drew1 | refine below_set ?_ GE306.out) | exact HB.out))) : w.heap.size ≤ gb309)); have n4_ := Aside0.mk ((by rw [hg]; exact (below_size (by repeat (first | (with_reducible first | exact HB.out | apply below_alloc | apply pw_below_drewN | apply below_drew1 | refine below_set ?_ GE306.out) | exact HB.out))) : w.heap.size ≤ gb309)); have n5_ := Aside0.mk ((by rw [hg]; exact Nat.ne_of_lt (blk_lt (by exact BK306.out)) : gb306 ≠ gb309)); have n6_ := Aside0.mk ((by rw [hg]; exact Nat.ne_of_gt (blk_lt (by exact BK306.out)) : gb309 ≠ gb306)); clear BK306; clear HB; have BK306 := n0_; have HB := n1_; have BK309 := n2_; have GW309 := n3_; have GE309 := n4_; have NB306_309 := n5_; have NB309_306 := n6_; clear n0_ n1_ n2_ n3_ n4_ n5_ n6_; clear hb hbox hg; have hnb112 := NB309_306.out; have hnc112 := NB306_309.out; have hcz113_0 : w111.cell? ⟨gb309, 0, none⟩ = some (.int .u64 0) := (blk_cell BK309.out 0).trans rfl; have hcz113_1 : w111.cell? ⟨gb309, 1, none⟩ = some (.int .u64 0) := (blk_cell BK309.out 1).trans rfl; have hfz113_0 := blk_frozen BK309.out 0; have hfz113_1 := blk_frozen BK309.out 1; have hcz114_0 : w111.cell? ⟨gb306, 0, none⟩ = some (.int .u64 a2_0) := (blk_cell BK306.out 0).trans rfl; have hcz114_1 : w111.cell? ⟨gb306, 1, none⟩ = some (.int .u64 a2_1) := (blk_cell BK306.out 1).trans rfl; have hfz114_0 := blk_frozen BK306.out 0; have hfz114_1 := blk_frozen BK306.out 1) | ((with_reducible refine gate_callee (f := 25) rfl ?_); refine goesL_ (some 42) rfl rfl Try.func25 (by kernel_rfl) rfl #[.agg #[.int .u64 a2_0, .int .u64 a2_1], .agg #[.int .u64 t307, .int .u64 t308]] rfl (by (try simp only [List.map_toArray, List.map_cons, List.map_nil]); first | done | rfl | (simp only [List.length_drop, List.length_take]; rfl)) ?_; (with_reducible refine (overfallref01_Less.calls a2_0 a2_1 t307 t308 t321 _ A108.out).mono ?_); rintro e w115 ⟨rfl, hb⟩; refine ⟨_, rfl, ?_⟩; have n0_ := Aside0.mk (blk_below (g := gb306) (o := .cells #[.int .u64 a2_0, .int .u64 a2_1] 50 (0, 0)) (by refine blk_far ?_ NB306_309.out _; refine blk_far ?_ NB306_309.out _; exact BK306.out) hb); have n1_ := Aside0.mk (blk_below (g := gb309) (o := .cells #[.int .u64 t307, .int .u64 t308] 50 (0, 0)) (by refine blk_put (cs := #[.int .u64 t307, .int .u64 0]) ?_ 1 _ rfl; refine blk_put (cs := #[.int .u64 0, .int .u64 0]) ?_ 0 _ rfl; exact BK309.out) hb); have n2_ := Aside0.mk (below_step (by repeat (first | (with_reducible first | exact HB.out | apply below_alloc | apply pw_below_drewN | apply below_drew1 | refine below_set ?_ GE306.out | refine below_set ?_ GE309.out) | exact HB.out)) hb); clear BK306; clear BK309; clear HB; have BK306 := n0_; have BK309 := n1_; have HB := n2_; clear n0_ n1_ n2_; (try clear hb); (try clear hb2); (try clear hk); (try clear hi)))
  go_ret
  exact ⟨by first | rfl | (simp [errW_none, errW_some] <;> rfl) | (simp [*, errW_none, errW_some] <;> rfl), by repeat (first | (with_reducible first | exact HB.out | apply below_alloc | apply pw_below_drewN | apply below_drew1 | refine below_set ?_ GE306.out | refine below_set ?_ GE309.out) | exact HB.out)⟩

end Go.Proofs.Ytiiffgmbkajkhaa.E

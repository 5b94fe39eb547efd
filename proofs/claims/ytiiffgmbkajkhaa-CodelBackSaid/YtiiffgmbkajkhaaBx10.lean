-- Laid by a program of this claim's session (wip/tools/myprint.py) over the kit's printer.
import Derived.Test.YtiiffgmbkajkhaaBx0
import Derived.Test.YtiiffgmbkajkhaaBx7
import Derived.Test.YtiiffgmbkajkhaaBx9
namespace Go.Proofs.Ytiiffgmbkajkhaa.B
open Go.RowKit Go.Proofs.YtiiffgmbkajkhaaW.PrintWords Go.Proofs.YtiiffgmbkajkhaaW.PrintLast Go.Proofs.YtiiffgmbkajkhaaW.PrintMore
attribute [local go_sem] max2_int min2_int max_two min_two max_three min_three max_four min_four   -- for this text's walks alone
set_option linter.unusedVariables false
set_option linter.unusedSimpArgs false

/-! ### overfallref03_Fits: function 39 -/
def overfallref03_Fits.f (k : Nat) (a0 : Int) (a1 : Int) (a2_0 : Int) (a2_1 : Int) : Option (Bool) := (overfallref01_Mul.f k a0 a0).bind fun bt319 => (if a1 > 1 then ((overfallref01_Mul.f k bt319.2 a1).bind fun bt322 => ((overfallref01_Mul.f k bt319.1 a1).bind fun bt324 => ((overfallref01_Add.f k bt322.1 bt322.2 bt324.2 0).bind fun bt328 => (if bt324.1 > 0 then (some false) else (if bt328.2.2 = true then (some false) else ((overfallref01_Less.f a2_0 a2_1 bt328.1 bt328.2.1).bind fun t332 => (some (!t332)))))))) else ((overfallref01_Less.f a2_0 a2_1 bt319.1 bt319.2).bind fun t333 => (some (!t333))))
theorem overfallref03_Fits.mono : ∀ a0 a1 a2 a3 k, LeO (overfallref03_Fits.f k a0 a1 a2 a3) (overfallref03_Fits.f (k + 1) a0 a1 a2 a3) := by
 intro a0 a1 a2 a3 k
 unfold overfallref03_Fits.f
 repeat' first
   | (with_reducible exact overfallref01_Add.mono _ _ _ _ _)
   | (with_reducible exact overfallref01_Mul.mono _ _ _)
   | (with_reducible exact LeO.refl _)
   | (with_reducible exact LeO.none _)
   | (with_reducible refine LeO.ite ?_ ?_)
   | (with_reducible refine LeO.bind ?_ (fun _ => ?_))
   | exact overfallref01_Add.mono _ _ _ _ _
   | exact overfallref01_Mul.mono _ _ _
   | exact LeO.none _
   | refine LeO.ite ?_ ?_
   | refine LeO.bind ?_ (fun _ => ?_)
def overfallref03_Fits.T3 : Bool × List (List Nat × List Nat) := (true, [([], []), ([0], [0]), ([], []), ([1, 2], [1, 2]), ([], []), ([4], [4]), ([], []), ([5, 6, 3], [5, 6]), ([], []), ([], []), ([8, 3, 7, 0, 1, 2, 3, 8, 9], [3, 8]), ([9, 7, 10, 0, 1, 2, 3, 4, 5, 6, 7, 8, 9, 10], [7, 9])])
def overfallref03_Fits.B3 : List Nat := [0, 1, 0, 7, 0, 16, 0, 127, 0, 0, 1023, 2047]
theorem overfallref03_Fits.tab3 : rtab .any (opsOf Try.f39 3) = overfallref03_Fits.T3 := by kernel_rfl
theorem overfallref03_Fits.bits3 : waitsOk overfallref03_Fits.T3.2 overfallref03_Fits.B3 = true := by kernel_rfl
set_option maxHeartbeats 8000000 in
set_option maxRecDepth 100000 in
theorem overfallref03_Fits.calls (k : Nat) (a0 : Int) (a1 : Int) (a2_0 : Int) (a2_1 : Int) (r : Bool) (w : World) (h : overfallref03_Fits.f k a0 a1 a2_0 a2_1 = some r) :
  Calls Try.prog 39 #[.int .u64 a0, .int .u64 a1, .agg #[.int .u64 a2_0, .int .u64 a2_1]] w fun e w' => e = .returned (.bool r) ∧ Below w.heap.size w w' := by
 have hu50 := Try.underlying50
 have HB := Aside0.mk (Below.refl w.heap.size w)
 have H : ((overfallref01_Mul.f k a0 a0).bind fun bt319 => (if a1 > 1 then ((overfallref01_Mul.f k bt319.2 a1).bind fun bt322 => ((overfallref01_Mul.f k bt319.1 a1).bind fun bt324 => ((overfallref01_Add.f k bt322.1 bt322.2 bt324.2 0).bind fun bt328 => (if bt324.1 > 0 then (some false) else (if bt328.2.2 = true then (some false) else ((overfallref01_Less.f a2_0 a2_1 bt328.1 bt328.2.1).bind fun t332 => (some (!t332)))))))) else ((overfallref01_Less.f a2_0 a2_1 bt319.1 bt319.2).bind fun t333 => (some (!t333))))) = some r := h
 clear h
 replace H := Option.bind_eq_some_iff.mp H
 obtain ⟨⟨t319, t320⟩, A40, H⟩ := H
 replace H : (if a1 > 1 then ((overfallref01_Mul.f k t320 a1).bind fun bt322 => ((overfallref01_Mul.f k t319 a1).bind fun bt324 => ((overfallref01_Add.f k bt322.1 bt322.2 bt324.2 0).bind fun bt328 => (if bt324.1 > 0 then (some false) else (if bt328.2.2 = true then (some false) else ((overfallref01_Less.f a2_0 a2_1 bt328.1 bt328.2.1).bind fun t332 => (some (!t332)))))))) else ((overfallref01_Less.f a2_0 a2_1 t319 t320).bind fun t333 => (some (!t333)))) = some r := H
 have A4 := Aside0.mk A40
 clear A40
 by_cases c5 : a1 > 1
 ·rw [if_pos c5] at H
  have c5b0 : decide (1 < a1) = true := decide_eq_true c5
  clear c5
  replace H := Option.bind_eq_some_iff.mp H
  obtain ⟨⟨t322, t323⟩, A60, H⟩ := H
  replace H : ((overfallref01_Mul.f k t319 a1).bind fun bt324 => ((overfallref01_Add.f k t322 t323 bt324.2 0).bind fun bt328 => (if bt324.1 > 0 then (some false) else (if bt328.2.2 = true then (some false) else ((overfallref01_Less.f a2_0 a2_1 bt328.1 bt328.2.1).bind fun t332 => (some (!t332))))))) = some r := H
  have A6 := Aside0.mk A60
  clear A60
  replace H := Option.bind_eq_some_iff.mp H
  obtain ⟨⟨t324, t325⟩, A70, H⟩ := H
  replace H : ((overfallref01_Add.f k t322 t323 t325 0).bind fun bt328 => (if t324 > 0 then (some false) else (if bt328.2.2 = true then (some false) else ((overfallref01_Less.f a2_0 a2_1 bt328.1 bt328.2.1).bind fun t332 => (some (!t332)))))) = some r := H
  have A7 := Aside0.mk A70
  clear A70
  replace H := Option.bind_eq_some_iff.mp H
  obtain ⟨⟨t328, t329, t330⟩, A80, H⟩ := H
  replace H : (if t324 > 0 then (some false) else (if t330 = true then (some false) else ((overfallref01_Less.f a2_0 a2_1 t328 t329).bind fun t332 => (some (!t332))))) = some r := H
  have A8 := Aside0.mk A80
  clear A80
  by_cases c9 : t324 > 0
  ·rw [if_pos c9] at H
   have c9b0 : decide (0 < t324) = true := decide_eq_true c9
   clear c9
   obtain rfl := Option.some.inj H
   go_enter Try.func39, Try.ntmps39
   try go_wp2_with (first | ((with_reducible refine gate_dst (N := 5) rfl ?_); refine box_event ?hg (N := 5) ?hd (cs := #[.int .u64 a2_0, .int .u64 a2_1]) (t := 50) ?hr ?_; (case hd => rfl); (case hg => rfl); (case hr => first | (go_simp; done) | (go_simp; rfl)); intro gb318 hg w10 hbox hb; have n0_ := Aside0.mk (below_step (by repeat (first | (with_reducible first | exact HB.out | apply below_alloc | apply pw_below_drewN | apply below_drew1) | exact HB.out)) hb); have n1_ := Aside0.mk (hbox); have n2_ := Aside0.mk ((by rw [hg]; exact (below_size (by repeat (first | (with_reducible first | exact HB.out | apply below_alloc | apply pw_below_drewN | apply below_drew1) | exact HB.out))) : w.heap.size ≤ gb318)); have n3_ := Aside0.mk ((by rw [hg]; exact (below_size (by repeat (first | (with_reducible first | exact HB.out | apply below_alloc | apply pw_below_drewN | apply below_drew1) | exact HB.out))) : w.heap.size ≤ gb318)); clear HB; have HB := n0_; have BK318 := n1_; have GW318 := n2_; have GE318 := n3_; clear n0_ n1_ n2_ n3_; clear hb hbox hg) | ((with_reducible refine gate_callee (f := 30) rfl ?_); refine goesL_ (some 14) rfl rfl Try.func30 (by kernel_rfl) rfl #[.int .u64 a0, .int .u64 a0] rfl (by (try simp only [List.map_toArray, List.map_cons, List.map_nil]); first | done | rfl | (simp only [List.length_drop, List.length_take]; rfl)) ?_; (with_reducible refine (overfallref01_Mul.calls k a0 a0 t319 t320 _ A4.out).mono ?_); rintro e w11 ⟨rfl, hb⟩; refine ⟨_, rfl, ?_⟩; have n0_ := Aside0.mk (blk_below (by exact BK318.out) hb); have n1_ := Aside0.mk (below_step (by repeat (first | (with_reducible first | exact HB.out | apply below_alloc | apply pw_below_drewN | apply below_drew1 | refine below_set ?_ GE318.out) | exact HB.out)) hb); clear BK318; clear HB; have BK318 := n0_; have HB := n1_; clear n0_ n1_; (try clear hb); (try clear hb2); (try clear hk); (try clear hi)) | ((with_reducible refine gate_dst (N := 7) rfl ?_); refine box_event ?hg (N := 7) ?hd (cs := #[.int .u64 0, .int .u64 0]) (t := 50) ?hr ?_; (case hd => rfl); (case hg => rfl); (case hr => first | (go_simp; done) | (go_simp; rfl)); intro gb321 hg w12 hbox hb; have n0_ := Aside0.mk (blk_below (by exact BK318.out) hb); have n1_ := Aside0.mk (below_step (by repeat (first | (with_reducible first | exact HB.out | apply below_alloc | apply pw_below_drewN | apply below_drew1 | refine below_set ?_ GE318.out) | exact HB.out)) hb); have n2_ := Aside0.mk (hbox); have n3_ := Aside0.mk ((by rw [hg]; exact (below_size (by repeat (first | (with_reducible first | exact HB.out | apply below_alloc | apply pw_below_drewN | apply below_drew1 | refine below_set ?_ GE318.out) | exact HB.out))) : w.heap.size ≤ gb321)); have n4_ := Aside0.mk ((by rw [hg]; exact (below_size (by repeat (first | (with_reducible first | exact HB.out | apply below_alloc | apply pw_below_drewN | apply below_drew1 | refine below_set ?_ GE318.out) | exact HB.out))) : w.heap.size ≤ gb321)); have n5_ := Aside0.mk ((by rw [hg]; exact Nat.ne_of_lt (blk_lt (by exact BK318.out)) : gb318 ≠ gb321)); have n6_ := Aside0.mk ((by rw [hg]; exact Nat.ne_of_gt (blk_lt (by exact BK318.out)) : gb321 ≠ gb318)); clear BK318; clear HB; have BK318 := n0_; have HB := n1_; have BK321 := n2_; have GW321 := n3_; have GE321 := n4_; have NB318_321 := n5_; have NB321_318 := n6_; clear n0_ n1_ n2_ n3_ n4_ n5_ n6_; clear hb hbox hg; have hnb13 := NB321_318.out; have hnc13 := NB318_321.out; have hcz14_0 : w12.cell? ⟨gb321, 0, none⟩ = some (.int .u64 0) := (blk_cell BK321.out 0).trans rfl; have hcz14_1 : w12.cell? ⟨gb321, 1, none⟩ = some (.int .u64 0) := (blk_cell BK321.out 1).trans rfl; have hfz14_0 := blk_frozen BK321.out 0; have hfz14_1 := blk_frozen BK321.out 1))
   have n0_ : Aside0 (((w12.setCell ⟨gb321, 0, none⟩ (.int .u64 t319)).setCell ⟨gb321, 1, none⟩ (.int .u64 t320)).heap[gb318]? = some (.cells #[.int .u64 a2_0, .int .u64 a2_1] 50 (0, 0))) := ⟨by refine blk_far ?_ NB318_321.out _; refine blk_far ?_ NB318_321.out _; exact BK318.out⟩
   have n1_ : Aside0 (((w12.setCell ⟨gb321, 0, none⟩ (.int .u64 t319)).setCell ⟨gb321, 1, none⟩ (.int .u64 t320)).heap[gb321]? = some (.cells #[.int .u64 t319, .int .u64 t320] 50 (0, 0))) := ⟨by refine blk_put (cs := #[.int .u64 t319, .int .u64 0]) ?_ 1 _ rfl; refine blk_put (cs := #[.int .u64 0, .int .u64 0]) ?_ 0 _ rfl; exact BK321.out⟩
   have n2_ : Aside0 (Below w.heap.size w ((w12.setCell ⟨gb321, 0, none⟩ (.int .u64 t319)).setCell ⟨gb321, 1, none⟩ (.int .u64 t320))) := ⟨by repeat (first | (with_reducible first | exact HB.out | apply below_alloc | apply pw_below_drewN | apply below_drew1 | refine below_set ?_ GE318.out | refine below_set ?_ GE321.out) | exact HB.out)⟩
   (try clear BK318)
   (try clear BK321)
   (try clear HB)
   generalize ((w12.setCell ⟨gb321, 0, none⟩ (.int .u64 t319)).setCell ⟨gb321, 1, none⟩ (.int .u64 t320)) = w15 at n0_ n1_ n2_ ⊢
   have BK318 := n0_
   have BK321 := n1_
   have HB := n2_
   clear n0_ n1_ n2_
   have n0_ := Aside0.mk (blk_drew BK318.out)
   have n1_ := Aside0.mk (blk_drew BK321.out)
   have n2_ := Aside0.mk (below_drew1 HB.out)
   clear BK318
   clear BK321
   clear HB
   have BK318 := n0_
   have BK321 := n1_
   have HB := n2_
   clear n0_ n1_ n2_
   refine start_ (n := 12) (S := fun w' => True) (ds := []) #[false, false, false, false, false, false, false, false, false, false, false, false] (by kernel_rfl) rfl rfl trivial (fun hHeld => ?_); refine with_tabW overfallref03_Fits.tab3 overfallref03_Fits.bits3 (fun HT_ HW_ => ?_)
   generalize w15.drew = w16 at BK318 BK321 HB hHeld ⊢
   refine pure_ (i := 0) (N := some 17) (v := ?_) (a' := ?_) #[true, false, false, false, false, false, false, false, false, false, false, false] rfl rfl (any_of HT_.out (by kernel_rfl)) (fun _ _ _ h => h) (Or.inl ⟨by rfl, ?_⟩) ?_ ?_
   rotate_left
   ·intro w'
    go_simp
    with_reducible rfl
   rotate_left
   ·simp only [Act.put, List.setIfInBounds_toArray, List.set_cons_zero, List.set_cons_succ, i64_w, i32_w]
    rfl
   refine pure_ (i := 2) (N := some 19) (v := ?_) (a' := ?_) #[true, false, true, false, false, false, false, false, false, false, false, false] rfl rfl (any_of HT_.out (by kernel_rfl)) (fun _ _ _ h => h) (Or.inl ⟨by rfl, ?_⟩) ?_ ?_
   rotate_left
   ·intro w'
    go_simp
    with_reducible rfl
   rotate_left
   ·simp only [Act.put, List.setIfInBounds_toArray, List.set_cons_zero, List.set_cons_succ, i64_w, i32_w]
    rfl
   refine pure_ (i := 4) (N := some 21) (v := ?_) (a' := ?_) #[true, false, true, false, true, false, false, false, false, false, false, false] rfl rfl (any_of HT_.out (by kernel_rfl)) (fun _ _ _ h => h) (Or.inl ⟨by rfl, ?_⟩) ?_ ?_
   rotate_left
   ·intro w'
    go_simp
    with_reducible rfl
   rotate_left
   ·simp only [Act.put, List.setIfInBounds_toArray, List.set_cons_zero, List.set_cons_succ, i64_w, i32_w]
    rfl
   refine pure_ (i := 6) (N := some 23) (v := ?_) (a' := ?_) #[true, false, true, false, true, false, true, false, false, false, false, false] rfl rfl (any_of HT_.out (by kernel_rfl)) (fun _ _ _ h => h) (Or.inl ⟨by rfl, ?_⟩) ?_ ?_
   rotate_left
   ·intro w'
    go_simp
    with_reducible rfl
   rotate_left
   ·simp only [Act.put, List.setIfInBounds_toArray, List.set_cons_zero, List.set_cons_succ, i64_w, i32_w]
    rfl
   refine inv_at [1, 3, 5, 7, 8, 9, 10, 11] (fun a0_ b a w' => ∃ (gb326 : Nat) (gb327 : Nat) (m8_ : Value) (m9_ : Value), a = putSel a0_ b [(1, 18, .int .u64 t320), (3, 20, .agg #[.int .u64 t322, .int .u64 t323]), (5, 22, .int .u64 t319), (7, 24, .agg #[.int .u64 t324, .int .u64 t325]), (8, 8, m8_), (9, 9, m9_)] ∧ (w'.heap[gb318]? = some (.cells #[.int .u64 a2_0, .int .u64 a2_1] 50 (0, 0))) ∧ (w'.heap[gb321]? = some (.cells #[.int .u64 t319, .int .u64 t320] 50 (0, 0))) ∧ (Below w.heap.size w w') ∧ (b 8 = true → b 9 = true → gb327 ≠ gb326) ∧ (b 8 = true → b 9 = true → gb326 ≠ gb327) ∧ (b 8 = true → b 10 = false → w'.heap[gb326]? = some (.cells #[.int .u64 0, .int .u64 0] 50 (0, 0))) ∧ (b 8 = true → w.heap.size ≤ gb326) ∧ (b 8 = true → w.heap.size ≤ gb326) ∧ (b 8 = true → gb318 ≠ gb326) ∧ (b 8 = true → gb326 ≠ gb318) ∧ (b 8 = true → gb321 ≠ gb326) ∧ (b 8 = true → gb326 ≠ gb321) ∧ (b 9 = true → b 11 = false → w'.heap[gb327]? = some (.cells #[.int .u64 0, .int .u64 0] 50 (0, 0))) ∧ (b 9 = true → w.heap.size ≤ gb327) ∧ (b 9 = true → w.heap.size ≤ gb327) ∧ (b 9 = true → gb318 ≠ gb327) ∧ (b 9 = true → gb327 ≠ gb318) ∧ (b 9 = true → gb321 ≠ gb327) ∧ (b 9 = true → gb327 ≠ gb321) ∧ (b 10 = true → w'.heap[gb326]? = some (.cells #[.int .u64 t322, .int .u64 t323] 50 (0, 0))) ∧ (b 11 = true → w'.heap[gb327]? = some (.cells #[.int .u64 t324, .int .u64 t325] 50 (0, 0))) ∧ (b 8 = true → (m8_ : Value) = .pointer (some ⟨gb326, 0, none⟩)) ∧ (b 9 = true → (m9_ : Value) = .pointer (some ⟨gb327, 0, none⟩))) HT_.out HW_.out (by kernel_rfl) (by kernel_rfl) ?_ ?_ ?_
   ·exact ⟨0, 0, .bool false, .bool false, by simp only [putSel, Bool.false_eq_true, if_false], BK318.out, BK321.out, HB.out, fun h_ => absurd h_ (by decide), fun h_ => absurd h_ (by decide), fun h_ => absurd h_ (by decide), fun h_ => absurd h_ (by decide), fun h_ => absurd h_ (by decide), fun h_ => absurd h_ (by decide), fun h_ => absurd h_ (by decide), fun h_ => absurd h_ (by decide), fun h_ => absurd h_ (by decide), fun h_ => absurd h_ (by decide), fun h_ => absurd h_ (by decide), fun h_ => absurd h_ (by decide), fun h_ => absurd h_ (by decide), fun h_ => absurd h_ (by decide), fun h_ => absurd h_ (by decide), fun h_ => absurd h_ (by decide), fun h_ => absurd h_ (by decide), fun h_ => absurd h_ (by decide), fun h_ => absurd h_ (by decide), fun h_ => absurd h_ (by decide)⟩
   ·skip
    clear BK318 BK321 HB
    refine steps_cons ?_ ?_
    ·rintro b a w' ⟨gb326, gb327, m8_, m9_, ha, Q_BK318, Q_BK321, Q_HB, Q_NB327_326, Q_NB326_327, Q_BK326, Q_GW326, Q_GE326, Q_NB318_326, Q_NB326_318, Q_NB321_326, Q_NB326_321, Q_BK327, Q_GW327, Q_GE327, Q_NB318_327, Q_NB327_318, Q_NB321_327, Q_NB327_321, Q_BK326_e10, Q_BK327_e11, Q_X8_, Q_X9_⟩ hb_ hon hoff
     refine ⟨_, rfl, fun K hK => ?_⟩
     have e17 : a.tmps[17]? = some (.pointer (some ⟨gb321, 1, none⟩)) := by rw [ha]; exact (putSel_off rfl).trans rfl
     replace ha := Aside0.mk ha
     have BK318 := Aside0.mk Q_BK318
     have BK321 := Aside0.mk Q_BK321
     have HB := Aside0.mk Q_HB
     have hc0_ : w'.cell? ⟨gb321, 0, none⟩ = some (.int .u64 t319) := (blk_cell BK321.out 0).trans rfl
     have hc1_ : w'.cell? ⟨gb321, 1, none⟩ = some (.int .u64 t320) := (blk_cell BK321.out 1).trans rfl
     refine value_ (w1 := w') (v := .int .u64 t320) (by rfl) rfl ?_ ?_
     ·go_simp
      (try simp only [i64_w])
      try rfl
     refine hK.out _ _ ⟨gb326, gb327, m8_, m9_, (by rw [ha.out]; exact putSel_upk 0 hb_ rfl rfl rfl), Q_BK318, Q_BK321, Q_HB, Q_NB327_326, Q_NB326_327, Q_BK326, Q_GW326, Q_GE326, Q_NB318_326, Q_NB326_318, Q_NB321_326, Q_NB326_321, Q_BK327, Q_GW327, Q_GE327, Q_NB318_327, Q_NB327_318, Q_NB321_327, Q_NB327_321, fun h0_ => absurd ((hoff 10 (by kernel_rfl)).symm.trans h0_) (by decide), fun h0_ => absurd ((hoff 11 (by kernel_rfl)).symm.trans h0_) (by decide), Q_X8_, Q_X9_⟩
    refine steps_cons ?_ ?_
    ·rintro b a w' ⟨gb326, gb327, m8_, m9_, ha, Q_BK318, Q_BK321, Q_HB, Q_NB327_326, Q_NB326_327, Q_BK326, Q_GW326, Q_GE326, Q_NB318_326, Q_NB326_318, Q_NB321_326, Q_NB326_321, Q_BK327, Q_GW327, Q_GE327, Q_NB318_327, Q_NB327_318, Q_NB321_327, Q_NB327_321, Q_BK326_e10, Q_BK327_e11, Q_X8_, Q_X9_⟩ hb_ hon hoff
     refine ⟨_, rfl, fun K hK => ?_⟩
     have e18 : a.tmps[18]? = some (.int .u64 t320) := by rw [ha]; exact putSel_on (e := (1, 18, .int .u64 t320)) 0 rfl rfl (hon 1 (by kernel_rfl)) rfl
     have e19 : a.tmps[19]? = some (.int .u64 a1) := by rw [ha]; exact (putSel_off rfl).trans rfl
     replace ha := Aside0.mk ha
     have BK318 := Aside0.mk Q_BK318
     have BK321 := Aside0.mk Q_BK321
     have HB := Aside0.mk Q_HB
     refine goes_ Try.func30 (by kernel_rfl) rfl #[.int .u64 t320, .int .u64 a1] (by rfl) rfl rfl (by first | (simp only [List.map_toArray, List.map_cons, List.map_nil, Act.eval, Array.getD_eq_getD_getElem?, Option.getD_some, e18, e19]; done) | (simp only [List.map_toArray, List.map_cons, List.map_nil, Act.eval, Array.getD_eq_getD_getElem?, Option.getD_some, e18, e19]; rfl)) ?_
     with_reducible refine (overfallref01_Mul.calls k t320 a1 t322 t323 _ A6.out).mono ?_
     rintro e w17 ⟨rfl, hb⟩
     refine ⟨_, rfl, ?_⟩
     have n0_ := Aside0.mk (blk_below (by exact BK318.out) hb)
     have n1_ := Aside0.mk (blk_below (by exact BK321.out) hb)
     have n2_ := Aside0.mk (below_step (by repeat (first | (with_reducible first | exact HB.out | apply below_alloc | apply pw_below_drewN | apply below_drew1 | refine below_set ?_ GE318.out | refine below_set ?_ GE321.out) | exact HB.out)) hb)
     have z_BK326 := fun (h0_ : b 8 = true) (h1_ : b 10 = false) => (show w17.heap[gb326]? = some (.cells #[.int .u64 0, .int .u64 0] 50 (0, 0)) from by first | exact (blk_below (g := gb326) (o := .cells #[.int .u64 0, .int .u64 0] 50 (0, 0)) (by exact (Q_BK326 h0_ h1_)) hb))
     have z_BK327 := fun (h0_ : b 9 = true) (h1_ : b 11 = false) => (show w17.heap[gb327]? = some (.cells #[.int .u64 0, .int .u64 0] 50 (0, 0)) from by first | exact (blk_below (g := gb327) (o := .cells #[.int .u64 0, .int .u64 0] 50 (0, 0)) (by exact (Q_BK327 h0_ h1_)) hb))
     clear BK318
     clear BK321
     clear HB
     have BK318 := n0_
     have BK321 := n1_
     have HB := n2_
     clear n0_ n1_ n2_
     (try clear hb)
     (try clear hb2)
     (try clear hk)
     (try clear hi)
     refine hK.out _ _ ⟨gb326, gb327, m8_, m9_, (by rw [ha.out]; exact putSel_upk 1 hb_ rfl rfl rfl), (by exact BK318.out), (by exact BK321.out), (by repeat (first | (with_reducible first | exact HB.out | apply below_alloc | apply pw_below_drewN | apply below_drew1 | refine below_set ?_ GE318.out | refine below_set ?_ GE321.out) | exact HB.out)), Q_NB327_326, Q_NB326_327, z_BK326, Q_GW326, Q_GE326, Q_NB318_326, Q_NB326_318, Q_NB321_326, Q_NB326_321, z_BK327, Q_GW327, Q_GE327, Q_NB318_327, Q_NB327_318, Q_NB321_327, Q_NB327_321, fun h0_ => absurd ((hoff 10 (by kernel_rfl)).symm.trans h0_) (by decide), fun h0_ => absurd ((hoff 11 (by kernel_rfl)).symm.trans h0_) (by decide), Q_X8_, Q_X9_⟩
    refine steps_cons ?_ ?_
    ·rintro b a w' ⟨gb326, gb327, m8_, m9_, ha, Q_BK318, Q_BK321, Q_HB, Q_NB327_326, Q_NB326_327, Q_BK326, Q_GW326, Q_GE326, Q_NB318_326, Q_NB326_318, Q_NB321_326, Q_NB326_321, Q_BK327, Q_GW327, Q_GE327, Q_NB318_327, Q_NB327_318, Q_NB321_327, Q_NB327_321, Q_BK326_e10, Q_BK327_e11, Q_X8_, Q_X9_⟩ hb_ hon hoff
     refine ⟨_, rfl, fun K hK => ?_⟩
     have e21 : a.tmps[21]? = some (.pointer (some ⟨gb321, 0, none⟩)) := by rw [ha]; exact (putSel_off rfl).trans rfl
     replace ha := Aside0.mk ha
     have BK318 := Aside0.mk Q_BK318
     have BK321 := Aside0.mk Q_BK321
     have HB := Aside0.mk Q_HB
     have hc0_ : w'.cell? ⟨gb321, 0, none⟩ = some (.int .u64 t319) := (blk_cell BK321.out 0).trans rfl
     have hc1_ : w'.cell? ⟨gb321, 1, none⟩ = some (.int .u64 t320) := (blk_cell BK321.out 1).trans rfl
     refine value_ (w1 := w') (v := .int .u64 t319) (by rfl) rfl ?_ ?_
     ·go_simp
      (try simp only [i64_w])
      try rfl
     refine hK.out _ _ ⟨gb326, gb327, m8_, m9_, (by rw [ha.out]; exact putSel_upk 2 hb_ rfl rfl rfl), Q_BK318, Q_BK321, Q_HB, Q_NB327_326, Q_NB326_327, Q_BK326, Q_GW326, Q_GE326, Q_NB318_326, Q_NB326_318, Q_NB321_326, Q_NB326_321, Q_BK327, Q_GW327, Q_GE327, Q_NB318_327, Q_NB327_318, Q_NB321_327, Q_NB327_321, fun h0_ => absurd ((hoff 10 (by kernel_rfl)).symm.trans h0_) (by decide), fun h0_ => absurd ((hoff 11 (by kernel_rfl)).symm.trans h0_) (by decide), Q_X8_, Q_X9_⟩
    refine steps_cons ?_ ?_
    ·rintro b a w' ⟨gb326, gb327, m8_, m9_, ha, Q_BK318, Q_BK321, Q_HB, Q_NB327_326, Q_NB326_327, Q_BK326, Q_GW326, Q_GE326, Q_NB318_326, Q_NB326_318, Q_NB321_326, Q_NB326_321, Q_BK327, Q_GW327, Q_GE327, Q_NB318_327, Q_NB327_318, Q_NB321_327, Q_NB327_321, Q_BK326_e10, Q_BK327_e11, Q_X8_, Q_X9_⟩ hb_ hon hoff
     refine ⟨_, rfl, fun K hK => ?_⟩
     have e22 : a.tmps[22]? = some (.int .u64 t319) := by rw [ha]; exact putSel_on (e := (5, 22, .int .u64 t319)) 2 rfl rfl (hon 5 (by kernel_rfl)) rfl
     have e23 : a.tmps[23]? = some (.int .u64 a1) := by rw [ha]; exact (putSel_off rfl).trans rfl
     replace ha := Aside0.mk ha
     have BK318 := Aside0.mk Q_BK318
     have BK321 := Aside0.mk Q_BK321
     have HB := Aside0.mk Q_HB
     refine goes_ Try.func30 (by kernel_rfl) rfl #[.int .u64 t319, .int .u64 a1] (by rfl) rfl rfl (by first | (simp only [List.map_toArray, List.map_cons, List.map_nil, Act.eval, Array.getD_eq_getD_getElem?, Option.getD_some, e22, e23]; done) | (simp only [List.map_toArray, List.map_cons, List.map_nil, Act.eval, Array.getD_eq_getD_getElem?, Option.getD_some, e22, e23]; rfl)) ?_
     with_reducible refine (overfallref01_Mul.calls k t319 a1 t324 t325 _ A7.out).mono ?_
     rintro e w19 ⟨rfl, hb⟩
     refine ⟨_, rfl, ?_⟩
     have n0_ := Aside0.mk (blk_below (by exact BK318.out) hb)
     have n1_ := Aside0.mk (blk_below (by exact BK321.out) hb)
     have n2_ := Aside0.mk (below_step (by repeat (first | (with_reducible first | exact HB.out | apply below_alloc | apply pw_below_drewN | apply below_drew1 | refine below_set ?_ GE318.out | refine below_set ?_ GE321.out) | exact HB.out)) hb)
     have z_BK326 := fun (h0_ : b 8 = true) (h1_ : b 10 = false) => (show w19.heap[gb326]? = some (.cells #[.int .u64 0, .int .u64 0] 50 (0, 0)) from by first | exact (blk_below (g := gb326) (o := .cells #[.int .u64 0, .int .u64 0] 50 (0, 0)) (by exact (Q_BK326 h0_ h1_)) hb))
     have z_BK327 := fun (h0_ : b 9 = true) (h1_ : b 11 = false) => (show w19.heap[gb327]? = some (.cells #[.int .u64 0, .int .u64 0] 50 (0, 0)) from by first | exact (blk_below (g := gb327) (o := .cells #[.int .u64 0, .int .u64 0] 50 (0, 0)) (by exact (Q_BK327 h0_ h1_)) hb))
     clear BK318
     clear BK321
     clear HB
     have BK318 := n0_
     have BK321 := n1_
     have HB := n2_
     clear n0_ n1_ n2_
     (try clear hb)
     (try clear hb2)
     (try clear hk)
     (try clear hi)
     refine hK.out _ _ ⟨gb326, gb327, m8_, m9_, (by rw [ha.out]; exact putSel_upk 3 hb_ rfl rfl rfl), (by exact BK318.out), (by exact BK321.out), (by repeat (first | (with_reducible first | exact HB.out | apply below_alloc | apply pw_below_drewN | apply below_drew1 | refine below_set ?_ GE318.out | refine below_set ?_ GE321.out) | exact HB.out)), Q_NB327_326, Q_NB326_327, z_BK326, Q_GW326, Q_GE326, Q_NB318_326, Q_NB326_318, Q_NB321_326, Q_NB326_321, z_BK327, Q_GW327, Q_GE327, Q_NB318_327, Q_NB327_318, Q_NB321_327, Q_NB327_321, fun h0_ => absurd ((hoff 10 (by kernel_rfl)).symm.trans h0_) (by decide), fun h0_ => absurd ((hoff 11 (by kernel_rfl)).symm.trans h0_) (by decide), Q_X8_, Q_X9_⟩
    refine steps_cons ?_ ?_
    ·rintro b a w' ⟨gb326, gb327, m8_, m9_, ha, Q_BK318, Q_BK321, Q_HB, Q_NB327_326, Q_NB326_327, Q_BK326, Q_GW326, Q_GE326, Q_NB318_326, Q_NB326_318, Q_NB321_326, Q_NB326_321, Q_BK327, Q_GW327, Q_GE327, Q_NB318_327, Q_NB327_318, Q_NB321_327, Q_NB327_321, Q_BK326_e10, Q_BK327_e11, Q_X8_, Q_X9_⟩ hb_ hon hoff
     refine ⟨_, rfl, fun K hK => ?_⟩
     replace ha := Aside0.mk ha
     have BK318 := Aside0.mk Q_BK318
     have BK321 := Aside0.mk Q_BK321
     have HB := Aside0.mk Q_HB
     refine box_step ?hg (N := 8) ?hd (cs := #[.int .u64 0, .int .u64 0]) (t := 50) ?hr ?_; (case hd => rfl); (case hg => rfl); (case hr => first | (go_simp; done) | (go_simp; rfl))
     intro gb326 hg w17 hbox hb
     have n0_ := Aside0.mk (blk_below (by exact BK318.out) hb)
     have n1_ := Aside0.mk (blk_below (by exact BK321.out) hb)
     have n2_ := Aside0.mk (below_step (by repeat (first | (with_reducible first | exact HB.out | apply below_alloc | apply pw_below_drewN | apply below_drew1 | refine below_set ?_ GE318.out | refine below_set ?_ GE321.out) | exact HB.out)) hb)
     have n3_ := Aside0.mk (hbox)
     have n4_ := Aside0.mk ((by rw [hg]; exact (below_size (by repeat (first | (with_reducible first | exact HB.out | apply below_alloc | apply pw_below_drewN | apply below_drew1 | refine below_set ?_ GE318.out | refine below_set ?_ GE321.out) | exact HB.out))) : w.heap.size ≤ gb326))
     have n5_ := Aside0.mk ((by rw [hg]; exact (below_size (by repeat (first | (with_reducible first | exact HB.out | apply below_alloc | apply pw_below_drewN | apply below_drew1 | refine below_set ?_ GE318.out | refine below_set ?_ GE321.out) | exact HB.out))) : w.heap.size ≤ gb326))
     have n6_ := Aside0.mk ((by rw [hg]; exact Nat.ne_of_lt (blk_lt (by exact BK318.out)) : gb318 ≠ gb326))
     have n7_ := Aside0.mk ((by rw [hg]; exact Nat.ne_of_gt (blk_lt (by exact BK318.out)) : gb326 ≠ gb318))
     have n8_ := Aside0.mk ((by rw [hg]; exact Nat.ne_of_lt (blk_lt (by exact BK321.out)) : gb321 ≠ gb326))
     have n9_ := Aside0.mk ((by rw [hg]; exact Nat.ne_of_gt (blk_lt (by exact BK321.out)) : gb326 ≠ gb321))
     have z_NB327_326 := fun (h0_ : up b 8 8 = true) (h1_ : up b 8 9 = true) => (show gb327 ≠ gb326 from ((by rw [hg]; exact Nat.ne_of_lt (blk_lt (by exact (Q_BK327 h1_ (hoff 11 (by kernel_rfl))))) : gb327 ≠ gb326)))
     have z_NB326_327 := fun (h0_ : up b 8 8 = true) (h1_ : up b 8 9 = true) => (show gb326 ≠ gb327 from ((by rw [hg]; exact Nat.ne_of_gt (blk_lt (by exact (Q_BK327 h1_ (hoff 11 (by kernel_rfl))))) : gb326 ≠ gb327)))
     have z_BK327 := fun (h0_ : b 9 = true) (h1_ : b 11 = false) => (show w17.heap[gb327]? = some (.cells #[.int .u64 0, .int .u64 0] 50 (0, 0)) from by first | exact (blk_below (g := gb327) (o := .cells #[.int .u64 0, .int .u64 0] 50 (0, 0)) (by exact (Q_BK327 h0_ h1_)) hb))
     clear BK318
     clear BK321
     clear HB
     have BK318 := n0_
     have BK321 := n1_
     have HB := n2_
     have BK326 := n3_
     have GW326 := n4_
     have GE326 := n5_
     have NB318_326 := n6_
     have NB326_318 := n7_
     have NB321_326 := n8_
     have NB326_321 := n9_
     clear n0_ n1_ n2_ n3_ n4_ n5_ n6_ n7_ n8_ n9_
     clear hb hbox hg
     refine hK.out _ _ ⟨gb326, gb327, (.pointer (some ⟨gb326, 0, none⟩)), m9_, (by rw [ha.out]; exact putSel_upk 4 hb_ rfl rfl rfl), (by exact BK318.out), (by exact BK321.out), (by repeat (first | (with_reducible first | exact HB.out | apply below_alloc | apply pw_below_drewN | apply below_drew1 | refine below_set ?_ GE318.out | refine below_set ?_ GE321.out | refine below_set ?_ GE326.out) | exact HB.out)), @z_NB327_326, @z_NB326_327, fun _ _ => (by exact BK326.out), fun _ => GW326.out, fun _ => GE326.out, fun _ => NB318_326.out, fun _ => NB326_318.out, fun _ => NB321_326.out, fun _ => NB326_321.out, z_BK327, Q_GW327, Q_GE327, Q_NB318_327, Q_NB327_318, Q_NB321_327, Q_NB327_321, fun h0_ => absurd ((hoff 10 (by kernel_rfl)).symm.trans h0_) (by decide), fun h0_ => absurd ((hoff 11 (by kernel_rfl)).symm.trans h0_) (by decide), fun _ => rfl, Q_X9_⟩
    refine steps_cons ?_ ?_
    ·rintro b a w' ⟨gb326, gb327, m8_, m9_, ha, Q_BK318, Q_BK321, Q_HB, Q_NB327_326, Q_NB326_327, Q_BK326, Q_GW326, Q_GE326, Q_NB318_326, Q_NB326_318, Q_NB321_326, Q_NB326_321, Q_BK327, Q_GW327, Q_GE327, Q_NB318_327, Q_NB327_318, Q_NB321_327, Q_NB327_321, Q_BK326_e10, Q_BK327_e11, Q_X8_, Q_X9_⟩ hb_ hon hoff
     refine ⟨_, rfl, fun K hK => ?_⟩
     replace ha := Aside0.mk ha
     have BK318 := Aside0.mk Q_BK318
     have BK321 := Aside0.mk Q_BK321
     have HB := Aside0.mk Q_HB
     refine box_step ?hg (N := 9) ?hd (cs := #[.int .u64 0, .int .u64 0]) (t := 50) ?hr ?_; (case hd => rfl); (case hg => rfl); (case hr => first | (go_simp; done) | (go_simp; rfl))
     intro gb327 hg w17 hbox hb
     have n0_ := Aside0.mk (blk_below (by exact BK318.out) hb)
     have n1_ := Aside0.mk (blk_below (by exact BK321.out) hb)
     have n2_ := Aside0.mk (below_step (by repeat (first | (with_reducible first | exact HB.out | apply below_alloc | apply pw_below_drewN | apply below_drew1 | refine below_set ?_ GE318.out | refine below_set ?_ GE321.out) | exact HB.out)) hb)
     have n3_ := Aside0.mk (hbox)
     have n4_ := Aside0.mk ((by rw [hg]; exact (below_size (by repeat (first | (with_reducible first | exact HB.out | apply below_alloc | apply pw_below_drewN | apply below_drew1 | refine below_set ?_ GE318.out | refine below_set ?_ GE321.out) | exact HB.out))) : w.heap.size ≤ gb327))
     have n5_ := Aside0.mk ((by rw [hg]; exact (below_size (by repeat (first | (with_reducible first | exact HB.out | apply below_alloc | apply pw_below_drewN | apply below_drew1 | refine below_set ?_ GE318.out | refine below_set ?_ GE321.out) | exact HB.out))) : w.heap.size ≤ gb327))
     have n6_ := Aside0.mk ((by rw [hg]; exact Nat.ne_of_lt (blk_lt (by exact BK318.out)) : gb318 ≠ gb327))
     have n7_ := Aside0.mk ((by rw [hg]; exact Nat.ne_of_gt (blk_lt (by exact BK318.out)) : gb327 ≠ gb318))
     have n8_ := Aside0.mk ((by rw [hg]; exact Nat.ne_of_lt (blk_lt (by exact BK321.out)) : gb321 ≠ gb327))
     have n9_ := Aside0.mk ((by rw [hg]; exact Nat.ne_of_gt (blk_lt (by exact BK321.out)) : gb327 ≠ gb321))
     have z_NB327_326 := fun (h0_ : up b 9 8 = true) (h1_ : up b 9 9 = true) => (show gb327 ≠ gb326 from ((by rw [hg]; exact Nat.ne_of_gt (blk_lt (by exact (Q_BK326 h0_ (hoff 10 (by kernel_rfl))))) : gb327 ≠ gb326)))
     have z_NB326_327 := fun (h0_ : up b 9 8 = true) (h1_ : up b 9 9 = true) => (show gb326 ≠ gb327 from ((by rw [hg]; exact Nat.ne_of_lt (blk_lt (by exact (Q_BK326 h0_ (hoff 10 (by kernel_rfl))))) : gb326 ≠ gb327)))
     have z_BK326 := fun (h0_ : b 8 = true) (h1_ : b 10 = false) => (show w17.heap[gb326]? = some (.cells #[.int .u64 0, .int .u64 0] 50 (0, 0)) from by first | exact (blk_below (g := gb326) (o := .cells #[.int .u64 0, .int .u64 0] 50 (0, 0)) (by exact (Q_BK326 h0_ h1_)) hb))
     clear BK318
     clear BK321
     clear HB
     have BK318 := n0_
     have BK321 := n1_
     have HB := n2_
     have BK327 := n3_
     have GW327 := n4_
     have GE327 := n5_
     have NB318_327 := n6_
     have NB327_318 := n7_
     have NB321_327 := n8_
     have NB327_321 := n9_
     clear n0_ n1_ n2_ n3_ n4_ n5_ n6_ n7_ n8_ n9_
     clear hb hbox hg
     refine hK.out _ _ ⟨gb326, gb327, m8_, (.pointer (some ⟨gb327, 0, none⟩)), (by rw [ha.out]; exact putSel_upk 5 hb_ rfl rfl rfl), (by exact BK318.out), (by exact BK321.out), (by repeat (first | (with_reducible first | exact HB.out | apply below_alloc | apply pw_below_drewN | apply below_drew1 | refine below_set ?_ GE318.out | refine below_set ?_ GE321.out | refine below_set ?_ GE327.out) | exact HB.out)), @z_NB327_326, @z_NB326_327, z_BK326, Q_GW326, Q_GE326, Q_NB318_326, Q_NB326_318, Q_NB321_326, Q_NB326_321, fun _ _ => (by exact BK327.out), fun _ => GW327.out, fun _ => GE327.out, fun _ => NB318_327.out, fun _ => NB327_318.out, fun _ => NB321_327.out, fun _ => NB327_321.out, fun h0_ => absurd ((hoff 10 (by kernel_rfl)).symm.trans h0_) (by decide), fun h0_ => absurd ((hoff 11 (by kernel_rfl)).symm.trans h0_) (by decide), Q_X8_, fun _ => rfl⟩
    refine steps_cons ?_ ?_
    ·rintro b a w' ⟨gb326, gb327, m8_, m9_, ha, Q_BK318, Q_BK321, Q_HB, Q_NB327_326, Q_NB326_327, Q_BK326, Q_GW326, Q_GE326, Q_NB318_326, Q_NB326_318, Q_NB321_326, Q_NB326_321, Q_BK327, Q_GW327, Q_GE327, Q_NB318_327, Q_NB327_318, Q_NB321_327, Q_NB327_321, Q_BK326_e10, Q_BK327_e11, Q_X8_, Q_X9_⟩ hb_ hon hoff
     refine ⟨_, rfl, fun K hK => ?_⟩
     have e8 : a.tmps[8]? = some (m8_) := by rw [ha]; exact putSel_on (e := (8, 8, m8_)) 4 rfl rfl (hon 8 (by kernel_rfl)) rfl
     rw [Q_X8_ (hon 8 (by kernel_rfl))] at e8
     have e20 : a.tmps[20]? = some (.agg #[.int .u64 t322, .int .u64 t323]) := by rw [ha]; exact putSel_on (e := (3, 20, .agg #[.int .u64 t322, .int .u64 t323])) 1 rfl rfl (hon 3 (by kernel_rfl)) rfl
     replace ha := Aside0.mk ha
     have BK318 := Aside0.mk Q_BK318
     have BK321 := Aside0.mk Q_BK321
     have HB := Aside0.mk Q_HB
     have NB327_326 := Aside0.mk (Q_NB327_326 (hon 8 (by kernel_rfl)) (hon 9 (by kernel_rfl)))
     have NB326_327 := Aside0.mk (Q_NB326_327 (hon 8 (by kernel_rfl)) (hon 9 (by kernel_rfl)))
     have BK326 := Aside0.mk (Q_BK326 (hon 8 (by kernel_rfl)) hb_)
     have GW326 := Aside0.mk (Q_GW326 (hon 8 (by kernel_rfl)))
     have GE326 := Aside0.mk (Q_GE326 (hon 8 (by kernel_rfl)))
     have NB318_326 := Aside0.mk (Q_NB318_326 (hon 8 (by kernel_rfl)))
     have NB326_318 := Aside0.mk (Q_NB326_318 (hon 8 (by kernel_rfl)))
     have NB321_326 := Aside0.mk (Q_NB321_326 (hon 8 (by kernel_rfl)))
     have NB326_321 := Aside0.mk (Q_NB326_321 (hon 8 (by kernel_rfl)))
     have BK327 := Aside0.mk (Q_BK327 (hon 9 (by kernel_rfl)) (hoff 11 (by kernel_rfl)))
     have GW327 := Aside0.mk (Q_GW327 (hon 9 (by kernel_rfl)))
     have GE327 := Aside0.mk (Q_GE327 (hon 9 (by kernel_rfl)))
     have NB318_327 := Aside0.mk (Q_NB318_327 (hon 9 (by kernel_rfl)))
     have NB327_318 := Aside0.mk (Q_NB327_318 (hon 9 (by kernel_rfl)))
     have NB321_327 := Aside0.mk (Q_NB321_327 (hon 9 (by kernel_rfl)))
     have NB327_321 := Aside0.mk (Q_NB327_321 (hon 9 (by kernel_rfl)))
     have hs22 : w'.cell? ⟨gb326, 0, none⟩ = some (.int .u64 0) := (blk_cell BK326.out 0).trans rfl
     have hfs22 := blk_frozen BK326.out 0
     have hns22_0 := NB318_326.out
     have hns22_1 := NB321_326.out
     have hns22_3 := NB327_326.out
     have hms22_0 := NB326_318.out
     have hms22_1 := NB326_321.out
     have hms22_3 := NB326_327.out
     have hs23 : w'.cell? ⟨gb326, 1, none⟩ = some (.int .u64 0) := (blk_cell BK326.out 1).trans rfl
     have hfs23 := blk_frozen BK326.out 1
     have hns23_0 := NB318_326.out
     have hns23_1 := NB321_326.out
     have hns23_3 := NB327_326.out
     have hms23_0 := NB326_318.out
     have hms23_1 := NB326_321.out
     have hms23_3 := NB326_327.out
     refine skip_ (w1 := ?_) (by rfl) rfl ?_ ?_
     rotate_left
     ·go_simp
      rfl
     refine hK.out _ _ ⟨gb326, gb327, m8_, m9_, (by rw [ha.out]; exact putSel_none (v := undef) rfl), (by refine blk_far ?_ NB318_326.out _; refine blk_far ?_ NB318_326.out _; exact BK318.out), (by refine blk_far ?_ NB321_326.out _; refine blk_far ?_ NB321_326.out _; exact BK321.out), (by repeat (first | (with_reducible first | exact HB.out | apply below_alloc | apply pw_below_drewN | apply below_drew1 | refine below_set ?_ GE318.out | refine below_set ?_ GE321.out | refine below_set ?_ GE326.out | refine below_set ?_ GE327.out) | exact HB.out)), fun _ _ => NB327_326.out, fun _ _ => NB326_327.out, fun _ h1_ => absurd ((up_self b 10).symm.trans h1_) (by decide), fun _ => GW326.out, fun _ => GE326.out, fun _ => NB318_326.out, fun _ => NB326_318.out, fun _ => NB321_326.out, fun _ => NB326_321.out, fun _ _ => (by refine blk_far ?_ NB327_326.out _; refine blk_far ?_ NB327_326.out _; exact BK327.out), fun _ => GW327.out, fun _ => GE327.out, fun _ => NB318_327.out, fun _ => NB327_318.out, fun _ => NB321_327.out, fun _ => NB327_321.out, fun _ => (by refine blk_put (cs := #[.int .u64 t322, .int .u64 0]) ?_ 1 _ rfl; refine blk_put (cs := #[.int .u64 0, .int .u64 0]) ?_ 0 _ rfl; exact BK326.out), fun h0_ => absurd ((hoff 11 (by kernel_rfl)).symm.trans h0_) (by decide), Q_X8_, Q_X9_⟩
    refine steps_cons ?_ ?_
    ·rintro b a w' ⟨gb326, gb327, m8_, m9_, ha, Q_BK318, Q_BK321, Q_HB, Q_NB327_326, Q_NB326_327, Q_BK326, Q_GW326, Q_GE326, Q_NB318_326, Q_NB326_318, Q_NB321_326, Q_NB326_321, Q_BK327, Q_GW327, Q_GE327, Q_NB318_327, Q_NB327_318, Q_NB321_327, Q_NB327_321, Q_BK326_e10, Q_BK327_e11, Q_X8_, Q_X9_⟩ hb_ hon hoff
     refine ⟨_, rfl, fun K hK => ?_⟩
     have e9 : a.tmps[9]? = some (m9_) := by rw [ha]; exact putSel_on (e := (9, 9, m9_)) 5 rfl rfl (hon 9 (by kernel_rfl)) rfl
     rw [Q_X9_ (hon 9 (by kernel_rfl))] at e9
     have e24 : a.tmps[24]? = some (.agg #[.int .u64 t324, .int .u64 t325]) := by rw [ha]; exact putSel_on (e := (7, 24, .agg #[.int .u64 t324, .int .u64 t325])) 3 rfl rfl (hon 7 (by kernel_rfl)) rfl
     replace ha := Aside0.mk ha
     have BK318 := Aside0.mk Q_BK318
     have BK321 := Aside0.mk Q_BK321
     have HB := Aside0.mk Q_HB
     have NB327_326 := Aside0.mk (Q_NB327_326 (hon 8 (by kernel_rfl)) (hon 9 (by kernel_rfl)))
     have NB326_327 := Aside0.mk (Q_NB326_327 (hon 8 (by kernel_rfl)) (hon 9 (by kernel_rfl)))
     have GW326 := Aside0.mk (Q_GW326 (hon 8 (by kernel_rfl)))
     have GE326 := Aside0.mk (Q_GE326 (hon 8 (by kernel_rfl)))
     have NB318_326 := Aside0.mk (Q_NB318_326 (hon 8 (by kernel_rfl)))
     have NB326_318 := Aside0.mk (Q_NB326_318 (hon 8 (by kernel_rfl)))
     have NB321_326 := Aside0.mk (Q_NB321_326 (hon 8 (by kernel_rfl)))
     have NB326_321 := Aside0.mk (Q_NB326_321 (hon 8 (by kernel_rfl)))
     have BK327 := Aside0.mk (Q_BK327 (hon 9 (by kernel_rfl)) hb_)
     have GW327 := Aside0.mk (Q_GW327 (hon 9 (by kernel_rfl)))
     have GE327 := Aside0.mk (Q_GE327 (hon 9 (by kernel_rfl)))
     have NB318_327 := Aside0.mk (Q_NB318_327 (hon 9 (by kernel_rfl)))
     have NB327_318 := Aside0.mk (Q_NB327_318 (hon 9 (by kernel_rfl)))
     have NB321_327 := Aside0.mk (Q_NB321_327 (hon 9 (by kernel_rfl)))
     have NB327_321 := Aside0.mk (Q_NB327_321 (hon 9 (by kernel_rfl)))
     have BK326 := Aside0.mk (Q_BK326_e10 (hon 10 (by kernel_rfl)))
     have hs24 : w'.cell? ⟨gb327, 0, none⟩ = some (.int .u64 0) := (blk_cell BK327.out 0).trans rfl
     have hfs24 := blk_frozen BK327.out 0
     have hns24_0 := NB318_327.out
     have hns24_1 := NB321_327.out
     have hns24_2 := NB326_327.out
     have hms24_0 := NB327_318.out
     have hms24_1 := NB327_321.out
     have hms24_2 := NB327_326.out
     have hs25 : w'.cell? ⟨gb327, 1, none⟩ = some (.int .u64 0) := (blk_cell BK327.out 1).trans rfl
     have hfs25 := blk_frozen BK327.out 1
     have hns25_0 := NB318_327.out
     have hns25_1 := NB321_327.out
     have hns25_2 := NB326_327.out
     have hms25_0 := NB327_318.out
     have hms25_1 := NB327_321.out
     have hms25_2 := NB327_326.out
     refine skip_ (w1 := ?_) (by rfl) rfl ?_ ?_
     rotate_left
     ·go_simp
      rfl
     refine hK.out _ _ ⟨gb326, gb327, m8_, m9_, (by rw [ha.out]; exact putSel_none (v := undef) rfl), (by refine blk_far ?_ NB318_327.out _; refine blk_far ?_ NB318_327.out _; exact BK318.out), (by refine blk_far ?_ NB321_327.out _; refine blk_far ?_ NB321_327.out _; exact BK321.out), (by repeat (first | (with_reducible first | exact HB.out | apply below_alloc | apply pw_below_drewN | apply below_drew1 | refine below_set ?_ GE318.out | refine below_set ?_ GE321.out | refine below_set ?_ GE326.out | refine below_set ?_ GE327.out) | exact HB.out)), fun _ _ => NB327_326.out, fun _ _ => NB326_327.out, fun _ h1_ => absurd ((hon 10 (by kernel_rfl)).symm.trans h1_) (by decide), fun _ => GW326.out, fun _ => GE326.out, fun _ => NB318_326.out, fun _ => NB326_318.out, fun _ => NB321_326.out, fun _ => NB326_321.out, fun _ h1_ => absurd ((up_self b 11).symm.trans h1_) (by decide), fun _ => GW327.out, fun _ => GE327.out, fun _ => NB318_327.out, fun _ => NB327_318.out, fun _ => NB321_327.out, fun _ => NB327_321.out, fun _ => (by refine blk_far ?_ NB326_327.out _; refine blk_far ?_ NB326_327.out _; exact BK326.out), fun _ => (by refine blk_put (cs := #[.int .u64 t324, .int .u64 0]) ?_ 1 _ rfl; refine blk_put (cs := #[.int .u64 0, .int .u64 0]) ?_ 0 _ rfl; exact BK327.out), Q_X8_, Q_X9_⟩
    exact steps_nil
   rintro b a w25 hall ⟨gb326, gb327, m8_, m9_, ha, Q_BK318, Q_BK321, Q_HB, Q_NB327_326, Q_NB326_327, Q_BK326, Q_GW326, Q_GE326, Q_NB318_326, Q_NB326_318, Q_NB321_326, Q_NB326_321, Q_BK327, Q_GW327, Q_GE327, Q_NB318_327, Q_NB327_318, Q_NB321_327, Q_NB327_321, Q_BK326_e10, Q_BK327_e11, Q_X8_, Q_X9_⟩
   clear BK318 BK321 HB
   have hb1_ := hall 1 (by kernel_rfl)
   have hb3_ := hall 3 (by kernel_rfl)
   have hb5_ := hall 5 (by kernel_rfl)
   have hb7_ := hall 7 (by kernel_rfl)
   have hb8_ := hall 8 (by kernel_rfl)
   have hb9_ := hall 9 (by kernel_rfl)
   have hb10_ := hall 10 (by kernel_rfl)
   have hb11_ := hall 11 (by kernel_rfl)
   subst ha
   obtain rfl := Q_X8_ hb8_
   obtain rfl := Q_X9_ hb9_
   simp only [putSel, hb1_, hb3_, hb5_, hb7_, hb8_, hb9_, hb10_, hb11_, if_true, Act.put, List.setIfInBounds_toArray, List.set_cons_zero, List.set_cons_succ]
   have BK318 := Aside0.mk Q_BK318
   clear Q_BK318
   have BK321 := Aside0.mk Q_BK321
   clear Q_BK321
   have HB := Aside0.mk Q_HB
   clear Q_HB
   have NB327_326 := Aside0.mk (Q_NB327_326 hb8_ hb9_)
   clear Q_NB327_326
   have NB326_327 := Aside0.mk (Q_NB326_327 hb8_ hb9_)
   clear Q_NB326_327
   clear Q_BK326
   have GW326 := Aside0.mk (Q_GW326 hb8_)
   clear Q_GW326
   have GE326 := Aside0.mk (Q_GE326 hb8_)
   clear Q_GE326
   have NB318_326 := Aside0.mk (Q_NB318_326 hb8_)
   clear Q_NB318_326
   have NB326_318 := Aside0.mk (Q_NB326_318 hb8_)
   clear Q_NB326_318
   have NB321_326 := Aside0.mk (Q_NB321_326 hb8_)
   clear Q_NB321_326
   have NB326_321 := Aside0.mk (Q_NB326_321 hb8_)
   clear Q_NB326_321
   clear Q_BK327
   have GW327 := Aside0.mk (Q_GW327 hb9_)
   clear Q_GW327
   have GE327 := Aside0.mk (Q_GE327 hb9_)
   clear Q_GE327
   have NB318_327 := Aside0.mk (Q_NB318_327 hb9_)
   clear Q_NB318_327
   have NB327_318 := Aside0.mk (Q_NB327_318 hb9_)
   clear Q_NB327_318
   have NB321_327 := Aside0.mk (Q_NB321_327 hb9_)
   clear Q_NB321_327
   have NB327_321 := Aside0.mk (Q_NB327_321 hb9_)
   clear Q_NB327_321
   have BK326 := Aside0.mk (Q_BK326_e10 hb10_)
   clear Q_BK326_e10
   have BK327 := Aside0.mk (Q_BK327_e11 hb11_)
   clear Q_BK327_e11
   clear hall hb1_ hb3_ hb5_ hb7_ hb8_ hb9_ hb10_ hb11_
   have hnb26 := NB326_318.out
   have hnc26 := NB318_326.out
   have hnb27 := NB326_321.out
   have hnc27 := NB321_326.out
   have hnb28 := NB326_327.out
   have hnc28 := NB327_326.out
   have hcz29_0 : w25.cell? ⟨gb326, 0, none⟩ = some (.int .u64 t322) := (blk_cell BK326.out 0).trans rfl
   have hcz29_1 : w25.cell? ⟨gb326, 1, none⟩ = some (.int .u64 t323) := (blk_cell BK326.out 1).trans rfl
   have hfz29_0 := blk_frozen BK326.out 0
   have hfz29_1 := blk_frozen BK326.out 1
   have hnb30 := NB327_318.out
   have hnc30 := NB318_327.out
   have hnb31 := NB327_321.out
   have hnc31 := NB321_327.out
   have hcz32_0 : w25.cell? ⟨gb327, 0, none⟩ = some (.int .u64 t324) := (blk_cell BK327.out 0).trans rfl
   have hcz32_1 : w25.cell? ⟨gb327, 1, none⟩ = some (.int .u64 t325) := (blk_cell BK327.out 1).trans rfl
   have hfz32_0 := blk_frozen BK327.out 0
   have hfz32_1 := blk_frozen BK327.out 1
   try go_wp2_with (first | ((with_reducible refine gate_callee (f := 23) rfl ?_); refine goesL_ (some 30) rfl rfl Try.func23 (by kernel_rfl) rfl #[.agg #[.int .u64 t322, .int .u64 t323], .agg #[.int .u64 t325, .int .u64 0]] rfl (by (try simp only [List.map_toArray, List.map_cons, List.map_nil]); first | done | rfl | (simp only [List.length_drop, List.length_take]; rfl)) ?_; (with_reducible refine (overfallref01_Add.calls k t322 t323 t325 0 t328 t329 t330 _ A8.out).mono ?_); rintro e w33 ⟨rfl, hb⟩; refine ⟨_, rfl, ?_⟩; have n0_ := Aside0.mk (blk_below (by exact BK318.out) hb); have n1_ := Aside0.mk (blk_below (by exact BK321.out) hb); have n2_ := Aside0.mk (blk_below (by exact BK326.out) hb); have n3_ := Aside0.mk (blk_below (by exact BK327.out) hb); have n4_ := Aside0.mk (below_step (by repeat (first | (with_reducible first | exact HB.out | apply below_alloc | apply pw_below_drewN | apply below_drew1 | refine below_set ?_ GE318.out | refine below_set ?_ GE321.out | refine below_set ?_ GE326.out | refine below_set ?_ GE327.out) | exact HB.out)) hb); clear BK318; clear BK321; clear BK326; clear BK327; clear HB; have BK318 := n0_; have BK321 := n1_; have BK326 := n2_; have BK327 := n3_; have HB := n4_; clear n0_ n1_ n2_ n3_ n4_; (try clear hb); (try clear hb2); (try clear hk); (try clear hi)) | ((with_reducible refine gate_dst (N := 10) rfl ?_); refine box_event ?hg (N := 10) ?hd (cs := #[.int .u64 0, .int .u64 0]) (t := 50) ?hr ?_; (case hd => rfl); (case hg => rfl); (case hr => first | (go_simp; done) | (go_simp; rfl)); intro gb331 hg w34 hbox hb; have n0_ := Aside0.mk (blk_below (by exact BK318.out) hb); have n1_ := Aside0.mk (blk_below (by exact BK321.out) hb); have n2_ := Aside0.mk (blk_below (by exact BK326.out) hb); have n3_ := Aside0.mk (blk_below (by exact BK327.out) hb); have n4_ := Aside0.mk (below_step (by repeat (first | (with_reducible first | exact HB.out | apply below_alloc | apply pw_below_drewN | apply below_drew1 | refine below_set ?_ GE318.out | refine below_set ?_ GE321.out | refine below_set ?_ GE326.out | refine below_set ?_ GE327.out) | exact HB.out)) hb); have n5_ := Aside0.mk (hbox); have n6_ := Aside0.mk ((by rw [hg]; exact (below_size (by repeat (first | (with_reducible first | exact HB.out | apply below_alloc | apply pw_below_drewN | apply below_drew1 | refine below_set ?_ GE318.out | refine below_set ?_ GE321.out | refine below_set ?_ GE326.out | refine below_set ?_ GE327.out) | exact HB.out))) : w.heap.size ≤ gb331)); have n7_ := Aside0.mk ((by rw [hg]; exact (below_size (by repeat (first | (with_reducible first | exact HB.out | apply below_alloc | apply pw_below_drewN | apply below_drew1 | refine below_set ?_ GE318.out | refine below_set ?_ GE321.out | refine below_set ?_ GE326.out | refine below_set ?_ GE327.out) | exact HB.out))) : w.heap.size ≤ gb331)); have n8_ := Aside0.mk ((by rw [hg]; exact Nat.ne_of_lt (blk_lt (by exact BK318.out)) : gb318 ≠ gb331)); have n9_ := Aside0.mk ((by rw [hg]; exact Nat.ne_of_gt (blk_lt (by exact BK318.out)) : gb331 ≠ gb318)); have n10_ := Aside0.mk ((by rw [hg]; exact Nat.ne_of_lt (blk_lt (by exact BK321.out)) : gb321 ≠ gb331)); have n11_ := Aside0.mk ((by rw [hg]; exact Nat.ne_of_gt (blk_lt (by exact BK321.out)) : gb331 ≠ gb321)); have n12_ := Aside0.mk ((by rw [hg]; exact Nat.ne_of_lt (blk_lt (by exact BK326.out)) : gb326 ≠ gb331)); have n13_ := Aside0.mk ((by rw [hg]; exact Nat.ne_of_gt (blk_lt (by exact BK326.out)) : gb331 ≠ gb326)); have n14_ := Aside0.mk ((by rw [hg]; exact Nat.ne_of_lt (blk_lt (by exact BK327.out)) : gb327 ≠ gb331)); have n15_ := Aside0.mk ((by rw [hg]; exact Nat.ne_of_gt (blk_lt (by exact BK327.out)) : gb331 ≠ gb327)); clear BK318; clear BK321; clear BK326; clear BK327; clear HB; have BK318 := n0_; have BK321 := n1_; have BK326 := n2_; have BK327 := n3_; have HB := n4_; have BK331 := n5_; have GW331 := n6_; have GE331 := n7_; have NB318_331 := n8_; have NB331_318 := n9_; have NB321_331 := n10_; have NB331_321 := n11_; have NB326_331 := n12_; have NB331_326 := n13_; have NB327_331 := n14_; have NB331_327 := n15_; clear n0_ n1_ n2_ n3_ n4_ n5_ n6_ n7_ n8_ n9_ n10_ n11_ n12_ n13_ n14_ n15_; clear hb hbox hg; have hnb35 := NB331_318.out; have hnc35 := NB318_331.out; have hnb36 := NB331_321.out; have hnc36 := NB321_331.out; have hnb37 := NB331_326.out; have hnc37 := NB326_331.out; have hnb38 := NB331_327.out; have hnc38 := NB327_331.out; have hcz39_0 : w34.cell? ⟨gb331, 0, none⟩ = some (.int .u64 0) := (blk_cell BK331.out 0).trans rfl; have hcz39_1 : w34.cell? ⟨gb331, 1, none⟩ = some (.int .u64 0) := (blk_cell BK331.out 1).trans rfl; have hfz39_0 := blk_frozen BK331.out 0; have hfz39_1 := blk_frozen BK331.out 1; have hcz40_0 : w34.cell? ⟨gb327, 0, none⟩ = some (.int .u64 t324) := (blk_cell BK327.out 0).trans rfl; have hcz40_1 : w34.cell? ⟨gb327, 1, none⟩ = some (.int .u64 t325) := (blk_cell BK327.out 1).trans rfl; have hfz40_0 := blk_frozen BK327.out 0; have hfz40_1 := blk_frozen BK327.out 1))
   go_ret
   exact ⟨by first | rfl | (simp [errW_none, errW_some] <;> rfl) | (simp [*, errW_none, errW_some] <;> rfl), by repeat (first | (with_reducible first | exact HB.out | apply below_alloc | apply pw_below_drewN | apply below_drew1 | refine below_set ?_ GE318.out | refine below_set ?_ GE321.out | refine below_set ?_ GE326.out | refine below_set ?_ GE327.out | refine below_set ?_ GE331.out) | exact HB.out)⟩
  ·rw [if_neg c9] at H
   have c9b0 : decide (0 < t324) = false := decide_eq_false c9
   clear c9
   by_cases c41 : t330 = true
   ·subst c41
    have H1 : (some false) = some r := by rw [if_pos rfl] at H; exact H
    clear H
    have H := H1
    clear H1
    obtain rfl := Option.some.inj H
    go_enter Try.func39, Try.ntmps39
    try go_wp2_with (first | ((with_reducible refine gate_dst (N := 5) rfl ?_); refine box_event ?hg (N := 5) ?hd (cs := #[.int .u64 a2_0, .int .u64 a2_1]) (t := 50) ?hr ?_; (case hd => rfl); (case hg => rfl); (case hr => first | (go_simp; done) | (go_simp; rfl)); intro gb318 hg w42 hbox hb; have n0_ := Aside0.mk (below_step (by repeat (first | (with_reducible first | exact HB.out | apply below_alloc | apply pw_below_drewN | apply below_drew1) | exact HB.out)) hb); have n1_ := Aside0.mk (hbox); have n2_ := Aside0.mk ((by rw [hg]; exact (below_size (by repeat (first | (with_reducible first | exact HB.out | apply below_alloc | apply pw_below_drewN | apply below_drew1) | exact HB.out))) : w.heap.size ≤ gb318)); have n3_ := Aside0.mk ((by rw [hg]; exact (below_size (by repeat (first | (with_reducible first | exact HB.out | apply below_alloc | apply pw_below_drewN | apply below_drew1) | exact HB.out))) : w.heap.size ≤ gb318)); clear HB; have HB := n0_; have BK318 := n1_; have GW318 := n2_; have GE318 := n3_; clear n0_ n1_ n2_ n3_; clear hb hbox hg) | ((with_reducible refine gate_callee (f := 30) rfl ?_); refine goesL_ (some 14) rfl rfl Try.func30 (by kernel_rfl) rfl #[.int .u64 a0, .int .u64 a0] rfl (by (try simp only [List.map_toArray, List.map_cons, List.map_nil]); first | done | rfl | (simp only [List.length_drop, List.length_take]; rfl)) ?_; (with_reducible refine (overfallref01_Mul.calls k a0 a0 t319 t320 _ A4.out).mono ?_); rintro e w43 ⟨rfl, hb⟩; refine ⟨_, rfl, ?_⟩; have n0_ := Aside0.mk (blk_below (by exact BK318.out) hb); have n1_ := Aside0.mk (below_step (by repeat (first | (with_reducible first | exact HB.out | apply below_alloc | apply pw_below_drewN | apply below_drew1 | refine below_set ?_ GE318.out) | exact HB.out)) hb); clear BK318; clear HB; have BK318 := n0_; have HB := n1_; clear n0_ n1_; (try clear hb); (try clear hb2); (try clear hk); (try clear hi)) | ((with_reducible refine gate_dst (N := 7) rfl ?_); refine box_event ?hg (N := 7) ?hd (cs := #[.int .u64 0, .int .u64 0]) (t := 50) ?hr ?_; (case hd => rfl); (case hg => rfl); (case hr => first | (go_simp; done) | (go_simp; rfl)); intro gb321 hg w44 hbox hb; have n0_ := Aside0.mk (blk_below (by exact BK318.out) hb); have n1_ := Aside0.mk (below_step (by repeat (first | (with_reducible first | exact HB.out | apply below_alloc | apply pw_below_drewN | apply below_drew1 | refine below_set ?_ GE318.out) | exact HB.out)) hb); have n2_ := Aside0.mk (hbox); have n3_ := Aside0.mk ((by rw [hg]; exact (below_size (by repeat (first | (with_reducible first | exact HB.out | apply below_alloc | apply pw_below_drewN | apply below_drew1 | refine below_set ?_ GE318.out) | exact HB.out))) : w.heap.size ≤ gb321)); have n4_ := Aside0.mk ((by rw [hg]; exact (below_size (by repeat (first | (with_reducible first | exact HB.out | apply below_alloc | apply pw_below_drewN | apply below_drew1 | refine below_set ?_ GE318.out) | exact HB.out))) : w.heap.size ≤ gb321)); have n5_ := Aside0.mk ((by rw [hg]; exact Nat.ne_of_lt (blk_lt (by exact BK318.out)) : gb318 ≠ gb321)); have n6_ := Aside0.mk ((by rw [hg]; exact Nat.ne_of_gt (blk_lt (by exact BK318.out)) : gb321 ≠ gb318)); clear BK318; clear HB; have BK318 := n0_; have HB := n1_; have BK321 := n2_; have GW321 := n3_; have GE321 := n4_; have NB318_321 := n5_; have NB321_318 := n6_; clear n0_ n1_ n2_ n3_ n4_ n5_ n6_; clear hb hbox hg; have hnb45 := NB321_318.out; have hnc45 := NB318_321.out; have hcz46_0 : w44.cell? ⟨gb321, 0, none⟩ = some (.int .u64 0) := (blk_cell BK321.out 0).trans rfl; have hcz46_1 : w44.cell? ⟨gb321, 1, none⟩ = some (.int .u64 0) := (blk_cell BK321.out 1).trans rfl; have hfz46_0 := blk_frozen BK321.out 0; have hfz46_1 := blk_frozen BK321.out 1))
    have n0_ : Aside0 (((w44.setCell ⟨gb321, 0, none⟩ (.int .u64 t319)).setCell ⟨gb321, 1, none⟩ (.int .u64 t320)).heap[gb318]? = some (.cells #[.int .u64 a2_0, .int .u64 a2_1] 50 (0, 0))) := ⟨by refine blk_far ?_ NB318_321.out _; refine blk_far ?_ NB318_321.out _; exact BK318.out⟩
    have n1_ : Aside0 (((w44.setCell ⟨gb321, 0, none⟩ (.int .u64 t319)).setCell ⟨gb321, 1, none⟩ (.int .u64 t320)).heap[gb321]? = some (.cells #[.int .u64 t319, .int .u64 t320] 50 (0, 0))) := ⟨by refine blk_put (cs := #[.int .u64 t319, .int .u64 0]) ?_ 1 _ rfl; refine blk_put (cs := #[.int .u64 0, .int .u64 0]) ?_ 0 _ rfl; exact BK321.out⟩
    have n2_ : Aside0 (Below w.heap.size w ((w44.setCell ⟨gb321, 0, none⟩ (.int .u64 t319)).setCell ⟨gb321, 1, none⟩ (.int .u64 t320))) := ⟨by repeat (first | (with_reducible first | exact HB.out | apply below_alloc | apply pw_below_drewN | apply below_drew1 | refine below_set ?_ GE318.out | refine below_set ?_ GE321.out) | exact HB.out)⟩
    (try clear BK318)
    (try clear BK321)
    (try clear HB)
    generalize ((w44.setCell ⟨gb321, 0, none⟩ (.int .u64 t319)).setCell ⟨gb321, 1, none⟩ (.int .u64 t320)) = w47 at n0_ n1_ n2_ ⊢
    have BK318 := n0_
    have BK321 := n1_
    have HB := n2_
    clear n0_ n1_ n2_
    have n0_ := Aside0.mk (blk_drew BK318.out)
    have n1_ := Aside0.mk (blk_drew BK321.out)
    have n2_ := Aside0.mk (below_drew1 HB.out)
    clear BK318
    clear BK321
    clear HB
    have BK318 := n0_
    have BK321 := n1_
    have HB := n2_
    clear n0_ n1_ n2_
    refine start_ (n := 12) (S := fun w' => True) (ds := []) #[false, false, false, false, false, false, false, false, false, false, false, false] (by kernel_rfl) rfl rfl trivial (fun hHeld => ?_); refine with_tabW overfallref03_Fits.tab3 overfallref03_Fits.bits3 (fun HT_ HW_ => ?_)
    generalize w47.drew = w48 at BK318 BK321 HB hHeld ⊢
    refine pure_ (i := 0) (N := some 17) (v := ?_) (a' := ?_) #[true, false, false, false, false, false, false, false, false, false, false, false] rfl rfl (any_of HT_.out (by kernel_rfl)) (fun _ _ _ h => h) (Or.inl ⟨by rfl, ?_⟩) ?_ ?_
    rotate_left
    ·intro w'
     go_simp
     with_reducible rfl
    rotate_left
    ·simp only [Act.put, List.setIfInBounds_toArray, List.set_cons_zero, List.set_cons_succ, i64_w, i32_w]
     rfl
    refine pure_ (i := 2) (N := some 19) (v := ?_) (a' := ?_) #[true, false, true, false, false, false, false, false, false, false, false, false] rfl rfl (any_of HT_.out (by kernel_rfl)) (fun _ _ _ h => h) (Or.inl ⟨by rfl, ?_⟩) ?_ ?_
    rotate_left
    ·intro w'
     go_simp
     with_reducible rfl
    rotate_left
    ·simp only [Act.put, List.setIfInBounds_toArray, List.set_cons_zero, List.set_cons_succ, i64_w, i32_w]
     rfl
    refine pure_ (i := 4) (N := some 21) (v := ?_) (a' := ?_) #[true, false, true, false, true, false, false, false, false, false, false, false] rfl rfl (any_of HT_.out (by kernel_rfl)) (fun _ _ _ h => h) (Or.inl ⟨by rfl, ?_⟩) ?_ ?_
    rotate_left
    ·intro w'
     go_simp
     with_reducible rfl
    rotate_left
    ·simp only [Act.put, List.setIfInBounds_toArray, List.set_cons_zero, List.set_cons_succ, i64_w, i32_w]
     rfl
    refine pure_ (i := 6) (N := some 23) (v := ?_) (a' := ?_) #[true, false, true, false, true, false, true, false, false, false, false, false] rfl rfl (any_of HT_.out (by kernel_rfl)) (fun _ _ _ h => h) (Or.inl ⟨by rfl, ?_⟩) ?_ ?_
    rotate_left
    ·intro w'
     go_simp
     with_reducible rfl
    rotate_left
    ·simp only [Act.put, List.setIfInBounds_toArray, List.set_cons_zero, List.set_cons_succ, i64_w, i32_w]
     rfl
    refine inv_at [1, 3, 5, 7, 8, 9, 10, 11] (fun a0_ b a w' => ∃ (gb326 : Nat) (gb327 : Nat) (m8_ : Value) (m9_ : Value), a = putSel a0_ b [(1, 18, .int .u64 t320), (3, 20, .agg #[.int .u64 t322, .int .u64 t323]), (5, 22, .int .u64 t319), (7, 24, .agg #[.int .u64 t324, .int .u64 t325]), (8, 8, m8_), (9, 9, m9_)] ∧ (w'.heap[gb318]? = some (.cells #[.int .u64 a2_0, .int .u64 a2_1] 50 (0, 0))) ∧ (w'.heap[gb321]? = some (.cells #[.int .u64 t319, .int .u64 t320] 50 (0, 0))) ∧ (Below w.heap.size w w') ∧ (b 8 = true → b 9 = true → gb327 ≠ gb326) ∧ (b 8 = true → b 9 = true → gb326 ≠ gb327) ∧ (b 8 = true → b 10 = false → w'.heap[gb326]? = some (.cells #[.int .u64 0, .int .u64 0] 50 (0, 0))) ∧ (b 8 = true → w.heap.size ≤ gb326) ∧ (b 8 = true → w.heap.size ≤ gb326) ∧ (b 8 = true → gb318 ≠ gb326) ∧ (b 8 = true → gb326 ≠ gb318) ∧ (b 8 = true → gb321 ≠ gb326) ∧ (b 8 = true → gb326 ≠ gb321) ∧ (b 9 = true → b 11 = false → w'.heap[gb327]? = some (.cells #[.int .u64 0, .int .u64 0] 50 (0, 0))) ∧ (b 9 = true → w.heap.size ≤ gb327) ∧ (b 9 = true → w.heap.size ≤ gb327) ∧ (b 9 = true → gb318 ≠ gb327) ∧ (b 9 = true → gb327 ≠ gb318) ∧ (b 9 = true → gb321 ≠ gb327) ∧ (b 9 = true → gb327 ≠ gb321) ∧ (b 10 = true → w'.heap[gb326]? = some (.cells #[.int .u64 t322, .int .u64 t323] 50 (0, 0))) ∧ (b 11 = true → w'.heap[gb327]? = some (.cells #[.int .u64 t324, .int .u64 t325] 50 (0, 0))) ∧ (b 8 = true → (m8_ : Value) = .pointer (some ⟨gb326, 0, none⟩)) ∧ (b 9 = true → (m9_ : Value) = .pointer (some ⟨gb327, 0, none⟩))) HT_.out HW_.out (by kernel_rfl) (by kernel_rfl) ?_ ?_ ?_
    ·exact ⟨0, 0, .bool false, .bool false, by simp only [putSel, Bool.false_eq_true, if_false], BK318.out, BK321.out, HB.out, fun h_ => absurd h_ (by decide), fun h_ => absurd h_ (by decide), fun h_ => absurd h_ (by decide), fun h_ => absurd h_ (by decide), fun h_ => absurd h_ (by decide), fun h_ => absurd h_ (by decide), fun h_ => absurd h_ (by decide), fun h_ => absurd h_ (by decide), fun h_ => absurd h_ (by decide), fun h_ => absurd h_ (by decide), fun h_ => absurd h_ (by decide), fun h_ => absurd h_ (by decide), fun h_ => absurd h_ (by decide), fun h_ => absurd h_ (by decide), fun h_ => absurd h_ (by decide), fun h_ => absurd h_ (by decide), fun h_ => absurd h_ (by decide), fun h_ => absurd h_ (by decide), fun h_ => absurd h_ (by decide), fun h_ => absurd h_ (by decide)⟩
    ·skip
     clear BK318 BK321 HB
     refine steps_cons ?_ ?_
     ·rintro b a w' ⟨gb326, gb327, m8_, m9_, ha, Q_BK318, Q_BK321, Q_HB, Q_NB327_326, Q_NB326_327, Q_BK326, Q_GW326, Q_GE326, Q_NB318_326, Q_NB326_318, Q_NB321_326, Q_NB326_321, Q_BK327, Q_GW327, Q_GE327, Q_NB318_327, Q_NB327_318, Q_NB321_327, Q_NB327_321, Q_BK326_e10, Q_BK327_e11, Q_X8_, Q_X9_⟩ hb_ hon hoff
      refine ⟨_, rfl, fun K hK => ?_⟩
      have e17 : a.tmps[17]? = some (.pointer (some ⟨gb321, 1, none⟩)) := by rw [ha]; exact (putSel_off rfl).trans rfl
      replace ha := Aside0.mk ha
      have BK318 := Aside0.mk Q_BK318
      have BK321 := Aside0.mk Q_BK321
      have HB := Aside0.mk Q_HB
      have hc0_ : w'.cell? ⟨gb321, 0, none⟩ = some (.int .u64 t319) := (blk_cell BK321.out 0).trans rfl
      have hc1_ : w'.cell? ⟨gb321, 1, none⟩ = some (.int .u64 t320) := (blk_cell BK321.out 1).trans rfl
      refine value_ (w1 := w') (v := .int .u64 t320) (by rfl) rfl ?_ ?_
      ·go_simp
       (try simp only [i64_w])
       try rfl
      refine hK.out _ _ ⟨gb326, gb327, m8_, m9_, (by rw [ha.out]; exact putSel_upk 0 hb_ rfl rfl rfl), Q_BK318, Q_BK321, Q_HB, Q_NB327_326, Q_NB326_327, Q_BK326, Q_GW326, Q_GE326, Q_NB318_326, Q_NB326_318, Q_NB321_326, Q_NB326_321, Q_BK327, Q_GW327, Q_GE327, Q_NB318_327, Q_NB327_318, Q_NB321_327, Q_NB327_321, fun h0_ => absurd ((hoff 10 (by kernel_rfl)).symm.trans h0_) (by decide), fun h0_ => absurd ((hoff 11 (by kernel_rfl)).symm.trans h0_) (by decide), Q_X8_, Q_X9_⟩
     refine steps_cons ?_ ?_
     ·rintro b a w' ⟨gb326, gb327, m8_, m9_, ha, Q_BK318, Q_BK321, Q_HB, Q_NB327_326, Q_NB326_327, Q_BK326, Q_GW326, Q_GE326, Q_NB318_326, Q_NB326_318, Q_NB321_326, Q_NB326_321, Q_BK327, Q_GW327, Q_GE327, Q_NB318_327, Q_NB327_318, Q_NB321_327, Q_NB327_321, Q_BK326_e10, Q_BK327_e11, Q_X8_, Q_X9_⟩ hb_ hon hoff
      refine ⟨_, rfl, fun K hK => ?_⟩
      have e18 : a.tmps[18]? = some (.int .u64 t320) := by rw [ha]; exact putSel_on (e := (1, 18, .int .u64 t320)) 0 rfl rfl (hon 1 (by kernel_rfl)) rfl
      have e19 : a.tmps[19]? = some (.int .u64 a1) := by rw [ha]; exact (putSel_off rfl).trans rfl
      replace ha := Aside0.mk ha
      have BK318 := Aside0.mk Q_BK318
      have BK321 := Aside0.mk Q_BK321
      have HB := Aside0.mk Q_HB
      refine goes_ Try.func30 (by kernel_rfl) rfl #[.int .u64 t320, .int .u64 a1] (by rfl) rfl rfl (by first | (simp only [List.map_toArray, List.map_cons, List.map_nil, Act.eval, Array.getD_eq_getD_getElem?, Option.getD_some, e18, e19]; done) | (simp only [List.map_toArray, List.map_cons, List.map_nil, Act.eval, Array.getD_eq_getD_getElem?, Option.getD_some, e18, e19]; rfl)) ?_
      with_reducible refine (overfallref01_Mul.calls k t320 a1 t322 t323 _ A6.out).mono ?_
      rintro e w49 ⟨rfl, hb⟩
      refine ⟨_, rfl, ?_⟩
      have n0_ := Aside0.mk (blk_below (by exact BK318.out) hb)
      have n1_ := Aside0.mk (blk_below (by exact BK321.out) hb)
      have n2_ := Aside0.mk (below_step (by repeat (first | (with_reducible first | exact HB.out | apply below_alloc | apply pw_below_drewN | apply below_drew1 | refine below_set ?_ GE318.out | refine below_set ?_ GE321.out) | exact HB.out)) hb)
      have z_BK326 := fun (h0_ : b 8 = true) (h1_ : b 10 = false) => (show w49.heap[gb326]? = some (.cells #[.int .u64 0, .int .u64 0] 50 (0, 0)) from by first | exact (blk_below (g := gb326) (o := .cells #[.int .u64 0, .int .u64 0] 50 (0, 0)) (by exact (Q_BK326 h0_ h1_)) hb))
      have z_BK327 := fun (h0_ : b 9 = true) (h1_ : b 11 = false) => (show w49.heap[gb327]? = some (.cells #[.int .u64 0, .int .u64 0] 50 (0, 0)) from by first | exact (blk_below (g := gb327) (o := .cells #[.int .u64 0, .int .u64 0] 50 (0, 0)) (by exact (Q_BK327 h0_ h1_)) hb))
      clear BK318
      clear BK321
      clear HB
      have BK318 := n0_
      have BK321 := n1_
      have HB := n2_
      clear n0_ n1_ n2_
      (try clear hb)
      (try clear hb2)
      (try clear hk)
      (try clear hi)
      refine hK.out _ _ ⟨gb326, gb327, m8_, m9_, (by rw [ha.out]; exact putSel_upk 1 hb_ rfl rfl rfl), (by exact BK318.out), (by exact BK321.out), (by repeat (first | (with_reducible first | exact HB.out | apply below_alloc | apply pw_below_drewN | apply below_drew1 | refine below_set ?_ GE318.out | refine below_set ?_ GE321.out) | exact HB.out)), Q_NB327_326, Q_NB326_327, z_BK326, Q_GW326, Q_GE326, Q_NB318_326, Q_NB326_318, Q_NB321_326, Q_NB326_321, z_BK327, Q_GW327, Q_GE327, Q_NB318_327, Q_NB327_318, Q_NB321_327, Q_NB327_321, fun h0_ => absurd ((hoff 10 (by kernel_rfl)).symm.trans h0_) (by decide), fun h0_ => absurd ((hoff 11 (by kernel_rfl)).symm.trans h0_) (by decide), Q_X8_, Q_X9_⟩
     refine steps_cons ?_ ?_
     ·rintro b a w' ⟨gb326, gb327, m8_, m9_, ha, Q_BK318, Q_BK321, Q_HB, Q_NB327_326, Q_NB326_327, Q_BK326, Q_GW326, Q_GE326, Q_NB318_326, Q_NB326_318, Q_NB321_326, Q_NB326_321, Q_BK327, Q_GW327, Q_GE327, Q_NB318_327, Q_NB327_318, Q_NB321_327, Q_NB327_321, Q_BK326_e10, Q_BK327_e11, Q_X8_, Q_X9_⟩ hb_ hon hoff
      refine ⟨_, rfl, fun K hK => ?_⟩
      have e21 : a.tmps[21]? = some (.pointer (some ⟨gb321, 0, none⟩)) := by rw [ha]; exact (putSel_off rfl).trans rfl
      replace ha := Aside0.mk ha
      have BK318 := Aside0.mk Q_BK318
      have BK321 := Aside0.mk Q_BK321
      have HB := Aside0.mk Q_HB
      have hc0_ : w'.cell? ⟨gb321, 0, none⟩ = some (.int .u64 t319) := (blk_cell BK321.out 0).trans rfl
      have hc1_ : w'.cell? ⟨gb321, 1, none⟩ = some (.int .u64 t320) := (blk_cell BK321.out 1).trans rfl
      refine value_ (w1 := w') (v := .int .u64 t319) (by rfl) rfl ?_ ?_
      ·go_simp
       (try simp only [i64_w])
       try rfl
      refine hK.out _ _ ⟨gb326, gb327, m8_, m9_, (by rw [ha.out]; exact putSel_upk 2 hb_ rfl rfl rfl), Q_BK318, Q_BK321, Q_HB, Q_NB327_326, Q_NB326_327, Q_BK326, Q_GW326, Q_GE326, Q_NB318_326, Q_NB326_318, Q_NB321_326, Q_NB326_321, Q_BK327, Q_GW327, Q_GE327, Q_NB318_327, Q_NB327_318, Q_NB321_327, Q_NB327_321, fun h0_ => absurd ((hoff 10 (by kernel_rfl)).symm.trans h0_) (by decide), fun h0_ => absurd ((hoff 11 (by kernel_rfl)).symm.trans h0_) (by decide), Q_X8_, Q_X9_⟩
     refine steps_cons ?_ ?_
     ·rintro b a w' ⟨gb326, gb327, m8_, m9_, ha, Q_BK318, Q_BK321, Q_HB, Q_NB327_326, Q_NB326_327, Q_BK326, Q_GW326, Q_GE326, Q_NB318_326, Q_NB326_318, Q_NB321_326, Q_NB326_321, Q_BK327, Q_GW327, Q_GE327, Q_NB318_327, Q_NB327_318, Q_NB321_327, Q_NB327_321, Q_BK326_e10, Q_BK327_e11, Q_X8_, Q_X9_⟩ hb_ hon hoff
      refine ⟨_, rfl, fun K hK => ?_⟩
      have e22 : a.tmps[22]? = some (.int .u64 t319) := by rw [ha]; exact putSel_on (e := (5, 22, .int .u64 t319)) 2 rfl rfl (hon 5 (by kernel_rfl)) rfl
      have e23 : a.tmps[23]? = some (.int .u64 a1) := by rw [ha]; exact (putSel_off rfl).trans rfl
      replace ha := Aside0.mk ha
      have BK318 := Aside0.mk Q_BK318
      have BK321 := Aside0.mk Q_BK321
      have HB := Aside0.mk Q_HB
      refine goes_ Try.func30 (by kernel_rfl) rfl #[.int .u64 t319, .int .u64 a1] (by rfl) rfl rfl (by first | (simp only [List.map_toArray, List.map_cons, List.map_nil, Act.eval, Array.getD_eq_getD_getElem?, Option.getD_some, e22, e23]; done) | (simp only [List.map_toArray, List.map_cons, List.map_nil, Act.eval, Array.getD_eq_getD_getElem?, Option.getD_some, e22, e23]; rfl)) ?_
      with_reducible refine (overfallref01_Mul.calls k t319 a1 t324 t325 _ A7.out).mono ?_
      rintro e w51 ⟨rfl, hb⟩
      refine ⟨_, rfl, ?_⟩
      have n0_ := Aside0.mk (blk_below (by exact BK318.out) hb)
      have n1_ := Aside0.mk (blk_below (by exact BK321.out) hb)
      have n2_ := Aside0.mk (below_step (by repeat (first | (with_reducible first | exact HB.out | apply below_alloc | apply pw_below_drewN | apply below_drew1 | refine below_set ?_ GE318.out | refine below_set ?_ GE321.out) | exact HB.out)) hb)
      have z_BK326 := fun (h0_ : b 8 = true) (h1_ : b 10 = false) => (show w51.heap[gb326]? = some (.cells #[.int .u64 0, .int .u64 0] 50 (0, 0)) from by first | exact (blk_below (g := gb326) (o := .cells #[.int .u64 0, .int .u64 0] 50 (0, 0)) (by exact (Q_BK326 h0_ h1_)) hb))
      have z_BK327 := fun (h0_ : b 9 = true) (h1_ : b 11 = false) => (show w51.heap[gb327]? = some (.cells #[.int .u64 0, .int .u64 0] 50 (0, 0)) from by first | exact (blk_below (g := gb327) (o := .cells #[.int .u64 0, .int .u64 0] 50 (0, 0)) (by exact (Q_BK327 h0_ h1_)) hb))
      clear BK318
      clear BK321
      clear HB
      have BK318 := n0_
      have BK321 := n1_
      have HB := n2_
      clear n0_ n1_ n2_
      (try clear hb)
      (try clear hb2)
      (try clear hk)
      (try clear hi)
      refine hK.out _ _ ⟨gb326, gb327, m8_, m9_, (by rw [ha.out]; exact putSel_upk 3 hb_ rfl rfl rfl), (by exact BK318.out), (by exact BK321.out), (by repeat (first | (with_reducible first | exact HB.out | apply below_alloc | apply pw_below_drewN | apply below_drew1 | refine below_set ?_ GE318.out | refine below_set ?_ GE321.out) | exact HB.out)), Q_NB327_326, Q_NB326_327, z_BK326, Q_GW326, Q_GE326, Q_NB318_326, Q_NB326_318, Q_NB321_326, Q_NB326_321, z_BK327, Q_GW327, Q_GE327, Q_NB318_327, Q_NB327_318, Q_NB321_327, Q_NB327_321, fun h0_ => absurd ((hoff 10 (by kernel_rfl)).symm.trans h0_) (by decide), fun h0_ => absurd ((hoff 11 (by kernel_rfl)).symm.trans h0_) (by decide), Q_X8_, Q_X9_⟩
     refine steps_cons ?_ ?_
     ·rintro b a w' ⟨gb326, gb327, m8_, m9_, ha, Q_BK318, Q_BK321, Q_HB, Q_NB327_326, Q_NB326_327, Q_BK326, Q_GW326, Q_GE326, Q_NB318_326, Q_NB326_318, Q_NB321_326, Q_NB326_321, Q_BK327, Q_GW327, Q_GE327, Q_NB318_327, Q_NB327_318, Q_NB321_327, Q_NB327_321, Q_BK326_e10, Q_BK327_e11, Q_X8_, Q_X9_⟩ hb_ hon hoff
      refine ⟨_, rfl, fun K hK => ?_⟩
      replace ha := Aside0.mk ha
      have BK318 := Aside0.mk Q_BK318
      have BK321 := Aside0.mk Q_BK321
      have HB := Aside0.mk Q_HB
      refine box_step ?hg (N := 8) ?hd (cs := #[.int .u64 0, .int .u64 0]) (t := 50) ?hr ?_; (case hd => rfl); (case hg => rfl); (case hr => first | (go_simp; done) | (go_simp; rfl))
      intro gb326 hg w49 hbox hb
      have n0_ := Aside0.mk (blk_below (by exact BK318.out) hb)
      have n1_ := Aside0.mk (blk_below (by exact BK321.out) hb)
      have n2_ := Aside0.mk (below_step (by repeat (first | (with_reducible first | exact HB.out | apply below_alloc | apply pw_below_drewN | apply below_drew1 | refine below_set ?_ GE318.out | refine below_set ?_ GE321.out) | exact HB.out)) hb)
      have n3_ := Aside0.mk (hbox)
      have n4_ := Aside0.mk ((by rw [hg]; exact (below_size (by repeat (first | (with_reducible first | exact HB.out | apply below_alloc | apply pw_below_drewN | apply below_drew1 | refine below_set ?_ GE318.out | refine below_set ?_ GE321.out) | exact HB.out))) : w.heap.size ≤ gb326))
      have n5_ := Aside0.mk ((by rw [hg]; exact (below_size (by repeat (first | (with_reducible first | exact HB.out | apply below_alloc | apply pw_below_drewN | apply below_drew1 | refine below_set ?_ GE318.out | refine below_set ?_ GE321.out) | exact HB.out))) : w.heap.size ≤ gb326))
      have n6_ := Aside0.mk ((by rw [hg]; exact Nat.ne_of_lt (blk_lt (by exact BK318.out)) : gb318 ≠ gb326))
      have n7_ := Aside0.mk ((by rw [hg]; exact Nat.ne_of_gt (blk_lt (by exact BK318.out)) : gb326 ≠ gb318))
      have n8_ := Aside0.mk ((by rw [hg]; exact Nat.ne_of_lt (blk_lt (by exact BK321.out)) : gb321 ≠ gb326))
      have n9_ := Aside0.mk ((by rw [hg]; exact Nat.ne_of_gt (blk_lt (by exact BK321.out)) : gb326 ≠ gb321))
      have z_NB327_326 := fun (h0_ : up b 8 8 = true) (h1_ : up b 8 9 = true) => (show gb327 ≠ gb326 from ((by rw [hg]; exact Nat.ne_of_lt (blk_lt (by exact (Q_BK327 h1_ (hoff 11 (by kernel_rfl))))) : gb327 ≠ gb326)))
      have z_NB326_327 := fun (h0_ : up b 8 8 = true) (h1_ : up b 8 9 = true) => (show gb326 ≠ gb327 from ((by rw [hg]; exact Nat.ne_of_gt (blk_lt (by exact (Q_BK327 h1_ (hoff 11 (by kernel_rfl))))) : gb326 ≠ gb327)))
      have z_BK327 := fun (h0_ : b 9 = true) (h1_ : b 11 = false) => (show w49.heap[gb327]? = some (.cells #[.int .u64 0, .int .u64 0] 50 (0, 0)) from by first | exact (blk_below (g := gb327) (o := .cells #[.int .u64 0, .int .u64 0] 50 (0, 0)) (by exact (Q_BK327 h0_ h1_)) hb))
      clear BK318
      clear BK321
      clear HB
      have BK318 := n0_
      have BK321 := n1_
      have HB := n2_
      have BK326 := n3_
      have GW326 := n4_
      have GE326 := n5_
      have NB318_326 := n6_
      have NB326_318 := n7_
      have NB321_326 := n8_
      have NB326_321 := n9_
      clear n0_ n1_ n2_ n3_ n4_ n5_ n6_ n7_ n8_ n9_
      clear hb hbox hg
      refine hK.out _ _ ⟨gb326, gb327, (.pointer (some ⟨gb326, 0, none⟩)), m9_, (by rw [ha.out]; exact putSel_upk 4 hb_ rfl rfl rfl), (by exact BK318.out), (by exact BK321.out), (by repeat (first | (with_reducible first | exact HB.out | apply below_alloc | apply pw_below_drewN | apply below_drew1 | refine below_set ?_ GE318.out | refine below_set ?_ GE321.out | refine below_set ?_ GE326.out) | exact HB.out)), @z_NB327_326, @z_NB326_327, fun _ _ => (by exact BK326.out), fun _ => GW326.out, fun _ => GE326.out, fun _ => NB318_326.out, fun _ => NB326_318.out, fun _ => NB321_326.out, fun _ => NB326_321.out, z_BK327, Q_GW327, Q_GE327, Q_NB318_327, Q_NB327_318, Q_NB321_327, Q_NB327_321, fun h0_ => absurd ((hoff 10 (by kernel_rfl)).symm.trans h0_) (by decide), fun h0_ => absurd ((hoff 11 (by kernel_rfl)).symm.trans h0_) (by decide), fun _ => rfl, Q_X9_⟩
     refine steps_cons ?_ ?_
     ·rintro b a w' ⟨gb326, gb327, m8_, m9_, ha, Q_BK318, Q_BK321, Q_HB, Q_NB327_326, Q_NB326_327, Q_BK326, Q_GW326, Q_GE326, Q_NB318_326, Q_NB326_318, Q_NB321_326, Q_NB326_321, Q_BK327, Q_GW327, Q_GE327, Q_NB318_327, Q_NB327_318, Q_NB321_327, Q_NB327_321, Q_BK326_e10, Q_BK327_e11, Q_X8_, Q_X9_⟩ hb_ hon hoff
      refine ⟨_, rfl, fun K hK => ?_⟩
      replace ha := Aside0.mk ha
      have BK318 := Aside0.mk Q_BK318
      have BK321 := Aside0.mk Q_BK321
      have HB := Aside0.mk Q_HB
      refine box_step ?hg (N := 9) ?hd (cs := #[.int .u64 0, .int .u64 0]) (t := 50) ?hr ?_; (case hd => rfl); (case hg => rfl); (case hr => first | (go_simp; done) | (go_simp; rfl))
      intro gb327 hg w49 hbox hb
      have n0_ := Aside0.mk (blk_below (by exact BK318.out) hb)
      have n1_ := Aside0.mk (blk_below (by exact BK321.out) hb)
      have n2_ := Aside0.mk (below_step (by repeat (first | (with_reducible first | exact HB.out | apply below_alloc | apply pw_below_drewN | apply below_drew1 | refine below_set ?_ GE318.out | refine below_set ?_ GE321.out) | exact HB.out)) hb)
      have n3_ := Aside0.mk (hbox)
      have n4_ := Aside0.mk ((by rw [hg]; exact (below_size (by repeat (first | (with_reducible first | exact HB.out | apply below_alloc | apply pw_below_drewN | apply below_drew1 | refine below_set ?_ GE318.out | refine below_set ?_ GE321.out) | exact HB.out))) : w.heap.size ≤ gb327))
      have n5_ := Aside0.mk ((by rw [hg]; exact (below_size (by repeat (first | (with_reducible first | exact HB.out | apply below_alloc | apply pw_below_drewN | apply below_drew1 | refine below_set ?_ GE318.out | refine below_set ?_ GE321.out) | exact HB.out))) : w.heap.size ≤ gb327))
      have n6_ := Aside0.mk ((by rw [hg]; exact Nat.ne_of_lt (blk_lt (by exact BK318.out)) : gb318 ≠ gb327))
      have n7_ := Aside0.mk ((by rw [hg]; exact Nat.ne_of_gt (blk_lt (by exact BK318.out)) : gb327 ≠ gb318))
      have n8_ := Aside0.mk ((by rw [hg]; exact Nat.ne_of_lt (blk_lt (by exact BK321.out)) : gb321 ≠ gb327))
      have n9_ := Aside0.mk ((by rw [hg]; exact Nat.ne_of_gt (blk_lt (by exact BK321.out)) : gb327 ≠ gb321))
      have z_NB327_326 := fun (h0_ : up b 9 8 = true) (h1_ : up b 9 9 = true) => (show gb327 ≠ gb326 from ((by rw [hg]; exact Nat.ne_of_gt (blk_lt (by exact (Q_BK326 h0_ (hoff 10 (by kernel_rfl))))) : gb327 ≠ gb326)))
      have z_NB326_327 := fun (h0_ : up b 9 8 = true) (h1_ : up b 9 9 = true) => (show gb326 ≠ gb327 from ((by rw [hg]; exact Nat.ne_of_lt (blk_lt (by exact (Q_BK326 h0_ (hoff 10 (by kernel_rfl))))) : gb326 ≠ gb327)))
      have z_BK326 := fun (h0_ : b 8 = true) (h1_ : b 10 = false) => (show w49.heap[gb326]? = some (.cells #[.int .u64 0, .int .u64 0] 50 (0, 0)) from by first | exact (blk_below (g := gb326) (o := .cells #[.int .u64 0, .int .u64 0] 50 (0, 0)) (by exact (Q_BK326 h0_ h1_)) hb))
      clear BK318
      clear BK321
      clear HB
      have BK318 := n0_
      have BK321 := n1_
      have HB := n2_
      have BK327 := n3_
      have GW327 := n4_
      have GE327 := n5_
      have NB318_327 := n6_
      have NB327_318 := n7_
      have NB321_327 := n8_
      have NB327_321 := n9_
      clear n0_ n1_ n2_ n3_ n4_ n5_ n6_ n7_ n8_ n9_
      clear hb hbox hg
      refine hK.out _ _ ⟨gb326, gb327, m8_, (.pointer (some ⟨gb327, 0, none⟩)), (by rw [ha.out]; exact putSel_upk 5 hb_ rfl rfl rfl), (by exact BK318.out), (by exact BK321.out), (by repeat (first | (with_reducible first | exact HB.out | apply below_alloc | apply pw_below_drewN | apply below_drew1 | refine below_set ?_ GE318.out | refine below_set ?_ GE321.out | refine below_set ?_ GE327.out) | exact HB.out)), @z_NB327_326, @z_NB326_327, z_BK326, Q_GW326, Q_GE326, Q_NB318_326, Q_NB326_318, Q_NB321_326, Q_NB326_321, fun _ _ => (by exact BK327.out), fun _ => GW327.out, fun _ => GE327.out, fun _ => NB318_327.out, fun _ => NB327_318.out, fun _ => NB321_327.out, fun _ => NB327_321.out, fun h0_ => absurd ((hoff 10 (by kernel_rfl)).symm.trans h0_) (by decide), fun h0_ => absurd ((hoff 11 (by kernel_rfl)).symm.trans h0_) (by decide), Q_X8_, fun _ => rfl⟩
     refine steps_cons ?_ ?_
     ·rintro b a w' ⟨gb326, gb327, m8_, m9_, ha, Q_BK318, Q_BK321, Q_HB, Q_NB327_326, Q_NB326_327, Q_BK326, Q_GW326, Q_GE326, Q_NB318_326, Q_NB326_318, Q_NB321_326, Q_NB326_321, Q_BK327, Q_GW327, Q_GE327, Q_NB318_327, Q_NB327_318, Q_NB321_327, Q_NB327_321, Q_BK326_e10, Q_BK327_e11, Q_X8_, Q_X9_⟩ hb_ hon hoff
      refine ⟨_, rfl, fun K hK => ?_⟩
      have e8 : a.tmps[8]? = some (m8_) := by rw [ha]; exact putSel_on (e := (8, 8, m8_)) 4 rfl rfl (hon 8 (by kernel_rfl)) rfl
      rw [Q_X8_ (hon 8 (by kernel_rfl))] at e8
      have e20 : a.tmps[20]? = some (.agg #[.int .u64 t322, .int .u64 t323]) := by rw [ha]; exact putSel_on (e := (3, 20, .agg #[.int .u64 t322, .int .u64 t323])) 1 rfl rfl (hon 3 (by kernel_rfl)) rfl
      replace ha := Aside0.mk ha
      have BK318 := Aside0.mk Q_BK318
      have BK321 := Aside0.mk Q_BK321
      have HB := Aside0.mk Q_HB
      have NB327_326 := Aside0.mk (Q_NB327_326 (hon 8 (by kernel_rfl)) (hon 9 (by kernel_rfl)))
      have NB326_327 := Aside0.mk (Q_NB326_327 (hon 8 (by kernel_rfl)) (hon 9 (by kernel_rfl)))
      have BK326 := Aside0.mk (Q_BK326 (hon 8 (by kernel_rfl)) hb_)
      have GW326 := Aside0.mk (Q_GW326 (hon 8 (by kernel_rfl)))
      have GE326 := Aside0.mk (Q_GE326 (hon 8 (by kernel_rfl)))
      have NB318_326 := Aside0.mk (Q_NB318_326 (hon 8 (by kernel_rfl)))
      have NB326_318 := Aside0.mk (Q_NB326_318 (hon 8 (by kernel_rfl)))
      have NB321_326 := Aside0.mk (Q_NB321_326 (hon 8 (by kernel_rfl)))
      have NB326_321 := Aside0.mk (Q_NB326_321 (hon 8 (by kernel_rfl)))
      have BK327 := Aside0.mk (Q_BK327 (hon 9 (by kernel_rfl)) (hoff 11 (by kernel_rfl)))
      have GW327 := Aside0.mk (Q_GW327 (hon 9 (by kernel_rfl)))
      have GE327 := Aside0.mk (Q_GE327 (hon 9 (by kernel_rfl)))
      have NB318_327 := Aside0.mk (Q_NB318_327 (hon 9 (by kernel_rfl)))
      have NB327_318 := Aside0.mk (Q_NB327_318 (hon 9 (by kernel_rfl)))
      have NB321_327 := Aside0.mk (Q_NB321_327 (hon 9 (by kernel_rfl)))
      have NB327_321 := Aside0.mk (Q_NB327_321 (hon 9 (by kernel_rfl)))
      have hs54 : w'.cell? ⟨gb326, 0, none⟩ = some (.int .u64 0) := (blk_cell BK326.out 0).trans rfl
      have hfs54 := blk_frozen BK326.out 0
      have hns54_0 := NB318_326.out
      have hns54_1 := NB321_326.out
      have hns54_3 := NB327_326.out
      have hms54_0 := NB326_318.out
      have hms54_1 := NB326_321.out
      have hms54_3 := NB326_327.out
      have hs55 : w'.cell? ⟨gb326, 1, none⟩ = some (.int .u64 0) := (blk_cell BK326.out 1).trans rfl
      have hfs55 := blk_frozen BK326.out 1
      have hns55_0 := NB318_326.out
      have hns55_1 := NB321_326.out
      have hns55_3 := NB327_326.out
      have hms55_0 := NB326_318.out
      have hms55_1 := NB326_321.out
      have hms55_3 := NB326_327.out
      refine skip_ (w1 := ?_) (by rfl) rfl ?_ ?_
      rotate_left
      ·go_simp
       rfl
      refine hK.out _ _ ⟨gb326, gb327, m8_, m9_, (by rw [ha.out]; exact putSel_none (v := undef) rfl), (by refine blk_far ?_ NB318_326.out _; refine blk_far ?_ NB318_326.out _; exact BK318.out), (by refine blk_far ?_ NB321_326.out _; refine blk_far ?_ NB321_326.out _; exact BK321.out), (by repeat (first | (with_reducible first | exact HB.out | apply below_alloc | apply pw_below_drewN | apply below_drew1 | refine below_set ?_ GE318.out | refine below_set ?_ GE321.out | refine below_set ?_ GE326.out | refine below_set ?_ GE327.out) | exact HB.out)), fun _ _ => NB327_326.out, fun _ _ => NB326_327.out, fun _ h1_ => absurd ((up_self b 10).symm.trans h1_) (by decide), fun _ => GW326.out, fun _ => GE326.out, fun _ => NB318_326.out, fun _ => NB326_318.out, fun _ => NB321_326.out, fun _ => NB326_321.out, fun _ _ => (by refine blk_far ?_ NB327_326.out _; refine blk_far ?_ NB327_326.out _; exact BK327.out), fun _ => GW327.out, fun _ => GE327.out, fun _ => NB318_327.out, fun _ => NB327_318.out, fun _ => NB321_327.out, fun _ => NB327_321.out, fun _ => (by refine blk_put (cs := #[.int .u64 t322, .int .u64 0]) ?_ 1 _ rfl; refine blk_put (cs := #[.int .u64 0, .int .u64 0]) ?_ 0 _ rfl; exact BK326.out), fun h0_ => absurd ((hoff 11 (by kernel_rfl)).symm.trans h0_) (by decide), Q_X8_, Q_X9_⟩
     refine steps_cons ?_ ?_
     ·rintro b a w' ⟨gb326, gb327, m8_, m9_, ha, Q_BK318, Q_BK321, Q_HB, Q_NB327_326, Q_NB326_327, Q_BK326, Q_GW326, Q_GE326, Q_NB318_326, Q_NB326_318, Q_NB321_326, Q_NB326_321, Q_BK327, Q_GW327, Q_GE327, Q_NB318_327, Q_NB327_318, Q_NB321_327, Q_NB327_321, Q_BK326_e10, Q_BK327_e11, Q_X8_, Q_X9_⟩ hb_ hon hoff
      refine ⟨_, rfl, fun K hK => ?_⟩
      have e9 : a.tmps[9]? = some (m9_) := by rw [ha]; exact putSel_on (e := (9, 9, m9_)) 5 rfl rfl (hon 9 (by kernel_rfl)) rfl
      rw [Q_X9_ (hon 9 (by kernel_rfl))] at e9
      have e24 : a.tmps[24]? = some (.agg #[.int .u64 t324, .int .u64 t325]) := by rw [ha]; exact putSel_on (e := (7, 24, .agg #[.int .u64 t324, .int .u64 t325])) 3 rfl rfl (hon 7 (by kernel_rfl)) rfl
      replace ha := Aside0.mk ha
      have BK318 := Aside0.mk Q_BK318
      have BK321 := Aside0.mk Q_BK321
      have HB := Aside0.mk Q_HB
      have NB327_326 := Aside0.mk (Q_NB327_326 (hon 8 (by kernel_rfl)) (hon 9 (by kernel_rfl)))
      have NB326_327 := Aside0.mk (Q_NB326_327 (hon 8 (by kernel_rfl)) (hon 9 (by kernel_rfl)))
      have GW326 := Aside0.mk (Q_GW326 (hon 8 (by kernel_rfl)))
      have GE326 := Aside0.mk (Q_GE326 (hon 8 (by kernel_rfl)))
      have NB318_326 := Aside0.mk (Q_NB318_326 (hon 8 (by kernel_rfl)))
      have NB326_318 := Aside0.mk (Q_NB326_318 (hon 8 (by kernel_rfl)))
      have NB321_326 := Aside0.mk (Q_NB321_326 (hon 8 (by kernel_rfl)))
      have NB326_321 := Aside0.mk (Q_NB326_321 (hon 8 (by kernel_rfl)))
      have BK327 := Aside0.mk (Q_BK327 (hon 9 (by kernel_rfl)) hb_)
      have GW327 := Aside0.mk (Q_GW327 (hon 9 (by kernel_rfl)))
      have GE327 := Aside0.mk (Q_GE327 (hon 9 (by kernel_rfl)))
      have NB318_327 := Aside0.mk (Q_NB318_327 (hon 9 (by kernel_rfl)))
      have NB327_318 := Aside0.mk (Q_NB327_318 (hon 9 (by kernel_rfl)))
      have NB321_327 := Aside0.mk (Q_NB321_327 (hon 9 (by kernel_rfl)))
      have NB327_321 := Aside0.mk (Q_NB327_321 (hon 9 (by kernel_rfl)))
      have BK326 := Aside0.mk (Q_BK326_e10 (hon 10 (by kernel_rfl)))
      have hs56 : w'.cell? ⟨gb327, 0, none⟩ = some (.int .u64 0) := (blk_cell BK327.out 0).trans rfl
      have hfs56 := blk_frozen BK327.out 0
      have hns56_0 := NB318_327.out
      have hns56_1 := NB321_327.out
      have hns56_2 := NB326_327.out
      have hms56_0 := NB327_318.out
      have hms56_1 := NB327_321.out
      have hms56_2 := NB327_326.out
      have hs57 : w'.cell? ⟨gb327, 1, none⟩ = some (.int .u64 0) := (blk_cell BK327.out 1).trans rfl
      have hfs57 := blk_frozen BK327.out 1
      have hns57_0 := NB318_327.out
      have hns57_1 := NB321_327.out
      have hns57_2 := NB326_327.out
      have hms57_0 := NB327_318.out
      have hms57_1 := NB327_321.out
      have hms57_2 := NB327_326.out
      refine skip_ (w1 := ?_) (by rfl) rfl ?_ ?_
      rotate_left
      ·go_simp
       rfl
      refine hK.out _ _ ⟨gb326, gb327, m8_, m9_, (by rw [ha.out]; exact putSel_none (v := undef) rfl), (by refine blk_far ?_ NB318_327.out _; refine blk_far ?_ NB318_327.out _; exact BK318.out), (by refine blk_far ?_ NB321_327.out _; refine blk_far ?_ NB321_327.out _; exact BK321.out), (by repeat (first | (with_reducible first | exact HB.out | apply below_alloc | apply pw_below_drewN | apply below_drew1 | refine below_set ?_ GE318.out | refine below_set ?_ GE321.out | refine below_set ?_ GE326.out | refine below_set ?_ GE327.out) | exact HB.out)), fun _ _ => NB327_326.out, fun _ _ => NB326_327.out, fun _ h1_ => absurd ((hon 10 (by kernel_rfl)).symm.trans h1_) (by decide), fun _ => GW326.out, fun _ => GE326.out, fun _ => NB318_326.out, fun _ => NB326_318.out, fun _ => NB321_326.out, fun _ => NB326_321.out, fun _ h1_ => absurd ((up_self b 11).symm.trans h1_) (by decide), fun _ => GW327.out, fun _ => GE327.out, fun _ => NB318_327.out, fun _ => NB327_318.out, fun _ => NB321_327.out, fun _ => NB327_321.out, fun _ => (by refine blk_far ?_ NB326_327.out _; refine blk_far ?_ NB326_327.out _; exact BK326.out), fun _ => (by refine blk_put (cs := #[.int .u64 t324, .int .u64 0]) ?_ 1 _ rfl; refine blk_put (cs := #[.int .u64 0, .int .u64 0]) ?_ 0 _ rfl; exact BK327.out), Q_X8_, Q_X9_⟩
     exact steps_nil
    rintro b a w57 hall ⟨gb326, gb327, m8_, m9_, ha, Q_BK318, Q_BK321, Q_HB, Q_NB327_326, Q_NB326_327, Q_BK326, Q_GW326, Q_GE326, Q_NB318_326, Q_NB326_318, Q_NB321_326, Q_NB326_321, Q_BK327, Q_GW327, Q_GE327, Q_NB318_327, Q_NB327_318, Q_NB321_327, Q_NB327_321, Q_BK326_e10, Q_BK327_e11, Q_X8_, Q_X9_⟩
    clear BK318 BK321 HB
    have hb1_ := hall 1 (by kernel_rfl)
    have hb3_ := hall 3 (by kernel_rfl)
    have hb5_ := hall 5 (by kernel_rfl)
    have hb7_ := hall 7 (by kernel_rfl)
    have hb8_ := hall 8 (by kernel_rfl)
    have hb9_ := hall 9 (by kernel_rfl)
    have hb10_ := hall 10 (by kernel_rfl)
    have hb11_ := hall 11 (by kernel_rfl)
    subst ha
    obtain rfl := Q_X8_ hb8_
    obtain rfl := Q_X9_ hb9_
    simp only [putSel, hb1_, hb3_, hb5_, hb7_, hb8_, hb9_, hb10_, hb11_, if_true, Act.put, List.setIfInBounds_toArray, List.set_cons_zero, List.set_cons_succ]
    have BK318 := Aside0.mk Q_BK318
    clear Q_BK318
    have BK321 := Aside0.mk Q_BK321
    clear Q_BK321
    have HB := Aside0.mk Q_HB
    clear Q_HB
    have NB327_326 := Aside0.mk (Q_NB327_326 hb8_ hb9_)
    clear Q_NB327_326
    have NB326_327 := Aside0.mk (Q_NB326_327 hb8_ hb9_)
    clear Q_NB326_327
    clear Q_BK326
    have GW326 := Aside0.mk (Q_GW326 hb8_)
    clear Q_GW326
    have GE326 := Aside0.mk (Q_GE326 hb8_)
    clear Q_GE326
    have NB318_326 := Aside0.mk (Q_NB318_326 hb8_)
    clear Q_NB318_326
    have NB326_318 := Aside0.mk (Q_NB326_318 hb8_)
    clear Q_NB326_318
    have NB321_326 := Aside0.mk (Q_NB321_326 hb8_)
    clear Q_NB321_326
    have NB326_321 := Aside0.mk (Q_NB326_321 hb8_)
    clear Q_NB326_321
    clear Q_BK327
    have GW327 := Aside0.mk (Q_GW327 hb9_)
    clear Q_GW327
    have GE327 := Aside0.mk (Q_GE327 hb9_)
    clear Q_GE327
    have NB318_327 := Aside0.mk (Q_NB318_327 hb9_)
    clear Q_NB318_327
    have NB327_318 := Aside0.mk (Q_NB327_318 hb9_)
    clear Q_NB327_318
    have NB321_327 := Aside0.mk (Q_NB321_327 hb9_)
    clear Q_NB321_327
    have NB327_321 := Aside0.mk (Q_NB327_321 hb9_)
    clear Q_NB327_321
    have BK326 := Aside0.mk (Q_BK326_e10 hb10_)
    clear Q_BK326_e10
    have BK327 := Aside0.mk (Q_BK327_e11 hb11_)
    clear Q_BK327_e11
    clear hall hb1_ hb3_ hb5_ hb7_ hb8_ hb9_ hb10_ hb11_
    have hnb58 := NB326_318.out
    have hnc58 := NB318_326.out
    have hnb59 := NB326_321.out
    have hnc59 := NB321_326.out
    have hnb60 := NB326_327.out
    have hnc60 := NB327_326.out
    have hcz61_0 : w57.cell? ⟨gb326, 0, none⟩ = some (.int .u64 t322) := (blk_cell BK326.out 0).trans rfl
    have hcz61_1 : w57.cell? ⟨gb326, 1, none⟩ = some (.int .u64 t323) := (blk_cell BK326.out 1).trans rfl
    have hfz61_0 := blk_frozen BK326.out 0
    have hfz61_1 := blk_frozen BK326.out 1
    have hnb62 := NB327_318.out
    have hnc62 := NB318_327.out
    have hnb63 := NB327_321.out
    have hnc63 := NB321_327.out
    have hcz64_0 : w57.cell? ⟨gb327, 0, none⟩ = some (.int .u64 t324) := (blk_cell BK327.out 0).trans rfl
    have hcz64_1 : w57.cell? ⟨gb327, 1, none⟩ = some (.int .u64 t325) := (blk_cell BK327.out 1).trans rfl
    have hfz64_0 := blk_frozen BK327.out 0
    have hfz64_1 := blk_frozen BK327.out 1
    try go_wp2_with (first | ((with_reducible refine gate_callee (f := 23) rfl ?_); refine goesL_ (some 30) rfl rfl Try.func23 (by kernel_rfl) rfl #[.agg #[.int .u64 t322, .int .u64 t323], .agg #[.int .u64 t325, .int .u64 0]] rfl (by (try simp only [List.map_toArray, List.map_cons, List.map_nil]); first | done | rfl | (simp only [List.length_drop, List.length_take]; rfl)) ?_; (with_reducible refine (overfallref01_Add.calls k t322 t323 t325 0 t328 t329 true _ A8.out).mono ?_); rintro e w65 ⟨rfl, hb⟩; refine ⟨_, rfl, ?_⟩; have n0_ := Aside0.mk (blk_below (by exact BK318.out) hb); have n1_ := Aside0.mk (blk_below (by exact BK321.out) hb); have n2_ := Aside0.mk (blk_below (by exact BK326.out) hb); have n3_ := Aside0.mk (blk_below (by exact BK327.out) hb); have n4_ := Aside0.mk (below_step (by repeat (first | (with_reducible first | exact HB.out | apply below_alloc | apply pw_below_drewN | apply below_drew1 | refine below_set ?_ GE318.out | refine below_set ?_ GE321.out | refine below_set ?_ GE326.out | refine below_set ?_ GE327.out) | exact HB.out)) hb); clear BK318; clear BK321; clear BK326; clear BK327; clear HB; have BK318 := n0_; have BK321 := n1_; have BK326 := n2_; have BK327 := n3_; have HB := n4_; clear n0_ n1_ n2_ n3_ n4_; (try clear hb); (try clear hb2); (try clear hk); (try clear hi)) | ((with_reducible refine gate_dst (N := 10) rfl ?_); refine box_event ?hg (N := 10) ?hd (cs := #[.int .u64 0, .int .u64 0]) (t := 50) ?hr ?_; (case hd => rfl); (case hg => rfl); (case hr => first | (go_simp; done) | (go_simp; rfl)); intro gb331 hg w66 hbox hb; have n0_ := Aside0.mk (blk_below (by exact BK318.out) hb); have n1_ := Aside0.mk (blk_below (by exact BK321.out) hb); have n2_ := Aside0.mk (blk_below (by exact BK326.out) hb); have n3_ := Aside0.mk (blk_below (by exact BK327.out) hb); have n4_ := Aside0.mk (below_step (by repeat (first | (with_reducible first | exact HB.out | apply below_alloc | apply pw_below_drewN | apply below_drew1 | refine below_set ?_ GE318.out | refine below_set ?_ GE321.out | refine below_set ?_ GE326.out | refine below_set ?_ GE327.out) | exact HB.out)) hb); have n5_ := Aside0.mk (hbox); have n6_ := Aside0.mk ((by rw [hg]; exact (below_size (by repeat (first | (with_reducible first | exact HB.out | apply below_alloc | apply pw_below_drewN | apply below_drew1 | refine below_set ?_ GE318.out | refine below_set ?_ GE321.out | refine below_set ?_ GE326.out | refine below_set ?_ GE327.out) | exact HB.out))) : w.heap.size ≤ gb331)); have n7_ := Aside0.mk ((by rw [hg]; exact (below_size (by repeat (first | (with_reducible first | exact HB.out | apply below_alloc | apply pw_below_drewN | apply below_drew1 | refine below_set ?_ GE318.out | refine below_set ?_ GE321.out | refine below_set ?_ GE326.out | refine below_set ?_ GE327.out) | exact HB.out))) : w.heap.size ≤ gb331)); have n8_ := Aside0.mk ((by rw [hg]; exact Nat.ne_of_lt (blk_lt (by exact BK318.out)) : gb318 ≠ gb331)); have n9_ := Aside0.mk ((by rw [hg]; exact Nat.ne_of_gt (blk_lt (by exact BK318.out)) : gb331 ≠ gb318)); have n10_ := Aside0.mk ((by rw [hg]; exact Nat.ne_of_lt (blk_lt (by exact BK321.out)) : gb321 ≠ gb331)); have n11_ := Aside0.mk ((by rw [hg]; exact Nat.ne_of_gt (blk_lt (by exact BK321.out)) : gb331 ≠ gb321)); have n12_ := Aside0.mk ((by rw [hg]; exact Nat.ne_of_lt (blk_lt (by exact BK326.out)) : gb326 ≠ gb331)); have n13_ := Aside0.mk ((by rw [hg]; exact Nat.ne_of_gt (blk_lt (by exact BK326.out)) : gb331 ≠ gb326)); have n14_ := Aside0.mk ((by rw [hg]; exact Nat.ne_of_lt (blk_lt (by exact BK327.out)) : gb327 ≠ gb331)); have n15_ := Aside0.mk ((by rw [hg]; exact Nat.ne_of_gt (blk_lt (by exact BK327.out)) : gb331 ≠ gb327)); clear BK318; clear BK321; clear BK326; clear BK327; clear HB; have BK318 := n0_; have BK321 := n1_; have BK326 := n2_; have BK327 := n3_; have HB := n4_; have BK331 := n5_; have GW331 := n6_; have GE331 := n7_; have NB318_331 := n8_; have NB331_318 := n9_; have NB321_331 := n10_; have NB331_321 := n11_; have NB326_331 := n12_; have NB331_326 := n13_; have NB327_331 := n14_; have NB331_327 := n15_; clear n0_ n1_ n2_ n3_ n4_ n5_ n6_ n7_ n8_ n9_ n10_ n11_ n12_ n13_ n14_ n15_; clear hb hbox hg; have hnb67 := NB331_318.out; have hnc67 := NB318_331.out; have hnb68 := NB331_321.out; have hnc68 := NB321_331.out; have hnb69 := NB331_326.out; have hnc69 := NB326_331.out; have hnb70 := NB331_327.out; have hnc70 := NB327_331.out; have hcz71_0 : w66.cell? ⟨gb331, 0, none⟩ = some (.int .u64 0) := (blk_cell BK331.out 0).trans rfl; have hcz71_1 : w66.cell? ⟨gb331, 1, none⟩ = some (.int .u64 0) := (blk_cell BK331.out 1).trans rfl; have hfz71_0 := blk_frozen BK331.out 0; have hfz71_1 := blk_frozen BK331.out 1; have hcz72_0 : w66.cell? ⟨gb327, 0, none⟩ = some (.int .u64 t324) := (blk_cell BK327.out 0).trans rfl; have hcz72_1 : w66.cell? ⟨gb327, 1, none⟩ = some (.int .u64 t325) := (blk_cell BK327.out 1).trans rfl; have hfz72_0 := blk_frozen BK327.out 0; have hfz72_1 := blk_frozen BK327.out 1))
    go_ret
    exact ⟨by first | rfl | (simp [errW_none, errW_some] <;> rfl) | (simp [*, errW_none, errW_some] <;> rfl), by repeat (first | (with_reducible first | exact HB.out | apply below_alloc | apply pw_below_drewN | apply below_drew1 | refine below_set ?_ GE318.out | refine below_set ?_ GE321.out | refine below_set ?_ GE326.out | refine below_set ?_ GE327.out | refine below_set ?_ GE331.out) | exact HB.out)⟩
   ·replace c41 := Bool.eq_false_iff.mpr c41
    subst c41
    have H1 : ((overfallref01_Less.f a2_0 a2_1 t328 t329).bind fun t332 => (some (!t332))) = some r := by rw [if_neg (show ¬ (false = true) by decide)] at H; exact H
    clear H
    have H := H1
    clear H1
    replace H := Option.bind_eq_some_iff.mp H
    obtain ⟨t332, A730, H⟩ := H
    replace H : (some (!t332)) = some r := H
    have A73 := Aside0.mk A730
    clear A730
    obtain rfl := Option.some.inj H
    go_enter Try.func39, Try.ntmps39
    try go_wp2_with (first | ((with_reducible refine gate_dst (N := 5) rfl ?_); refine box_event ?hg (N := 5) ?hd (cs := #[.int .u64 a2_0, .int .u64 a2_1]) (t := 50) ?hr ?_; (case hd => rfl); (case hg => rfl); (case hr => first | (go_simp; done) | (go_simp; rfl)); intro gb318 hg w74 hbox hb; have n0_ := Aside0.mk (below_step (by repeat (first | (with_reducible first | exact HB.out | apply below_alloc | apply pw_below_drewN | apply below_drew1) | exact HB.out)) hb); have n1_ := Aside0.mk (hbox); have n2_ := Aside0.mk ((by rw [hg]; exact (below_size (by repeat (first | (with_reducible first | exact HB.out | apply below_alloc | apply pw_below_drewN | apply below_drew1) | exact HB.out))) : w.heap.size ≤ gb318)); have n3_ := Aside0.mk ((by rw [hg]; exact (below_size (by repeat (first | (with_reducible first | exact HB.out | apply below_alloc | apply pw_below_drewN | apply below_drew1) | exact HB.out))) : w.heap.size ≤ gb318)); clear HB; have HB := n0_; have BK318 := n1_; have GW318 := n2_; have GE318 := n3_; clear n0_ n1_ n2_ n3_; clear hb hbox hg) | ((with_reducible refine gate_callee (f := 30) rfl ?_); refine goesL_ (some 14) rfl rfl Try.func30 (by kernel_rfl) rfl #[.int .u64 a0, .int .u64 a0] rfl (by (try simp only [List.map_toArray, List.map_cons, List.map_nil]); first | done | rfl | (simp only [List.length_drop, List.length_take]; rfl)) ?_; (with_reducible refine (overfallref01_Mul.calls k a0 a0 t319 t320 _ A4.out).mono ?_); rintro e w75 ⟨rfl, hb⟩; refine ⟨_, rfl, ?_⟩; have n0_ := Aside0.mk (blk_below (by exact BK318.out) hb); have n1_ := Aside0.mk (below_step (by repeat (first | (with_reducible first | exact HB.out | apply below_alloc | apply pw_below_drewN | apply below_drew1 | refine below_set ?_ GE318.out) | exact HB.out)) hb); clear BK318; clear HB; have BK318 := n0_; have HB := n1_; clear n0_ n1_; (try clear hb); (try clear hb2); (try clear hk); (try clear hi)) | ((with_reducible refine gate_dst (N := 7) rfl ?_); refine box_event ?hg (N := 7) ?hd (cs := #[.int .u64 0, .int .u64 0]) (t := 50) ?hr ?_; (case hd => rfl); (case hg => rfl); (case hr => first | (go_simp; done) | (go_simp; rfl)); intro gb321 hg w76 hbox hb; have n0_ := Aside0.mk (blk_below (by exact BK318.out) hb); have n1_ := Aside0.mk (below_step (by repeat (first | (with_reducible first | exact HB.out | apply below_alloc | apply pw_below_drewN | apply below_drew1 | refine below_set ?_ GE318.out) | exact HB.out)) hb); have n2_ := Aside0.mk (hbox); have n3_ := Aside0.mk ((by rw [hg]; exact (below_size (by repeat (first | (with_reducible first | exact HB.out | apply below_alloc | apply pw_below_drewN | apply below_drew1 | refine below_set ?_ GE318.out) | exact HB.out))) : w.heap.size ≤ gb321)); have n4_ := Aside0.mk ((by rw [hg]; exact (below_size (by repeat (first | (with_reducible first | exact HB.out | apply below_alloc | apply pw_below_drewN | apply below_drew1 | refine below_set ?_ GE318.out) | exact HB.out))) : w.heap.size ≤ gb321)); have n5_ := Aside0.mk ((by rw [hg]; exact Nat.ne_of_lt (blk_lt (by exact BK318.out)) : gb318 ≠ gb321)); have n6_ := Aside0.mk ((by rw [hg]; exact Nat.ne_of_gt (blk_lt (by exact BK318.out)) : gb321 ≠ gb318)); clear BK318; clear HB; have BK318 := n0_; have HB := n1_; have BK321 := n2_; have GW321 := n3_; have GE321 := n4_; have NB318_321 := n5_; have NB321_318 := n6_; clear n0_ n1_ n2_ n3_ n4_ n5_ n6_; clear hb hbox hg; have hnb77 := NB321_318.out; have hnc77 := NB318_321.out; have hcz78_0 : w76.cell? ⟨gb321, 0, none⟩ = some (.int .u64 0) := (blk_cell BK321.out 0).trans rfl; have hcz78_1 : w76.cell? ⟨gb321, 1, none⟩ = some (.int .u64 0) := (blk_cell BK321.out 1).trans rfl; have hfz78_0 := blk_frozen BK321.out 0; have hfz78_1 := blk_frozen BK321.out 1))
    have n0_ : Aside0 (((w76.setCell ⟨gb321, 0, none⟩ (.int .u64 t319)).setCell ⟨gb321, 1, none⟩ (.int .u64 t320)).heap[gb318]? = some (.cells #[.int .u64 a2_0, .int .u64 a2_1] 50 (0, 0))) := ⟨by refine blk_far ?_ NB318_321.out _; refine blk_far ?_ NB318_321.out _; exact BK318.out⟩
    have n1_ : Aside0 (((w76.setCell ⟨gb321, 0, none⟩ (.int .u64 t319)).setCell ⟨gb321, 1, none⟩ (.int .u64 t320)).heap[gb321]? = some (.cells #[.int .u64 t319, .int .u64 t320] 50 (0, 0))) := ⟨by refine blk_put (cs := #[.int .u64 t319, .int .u64 0]) ?_ 1 _ rfl; refine blk_put (cs := #[.int .u64 0, .int .u64 0]) ?_ 0 _ rfl; exact BK321.out⟩
    have n2_ : Aside0 (Below w.heap.size w ((w76.setCell ⟨gb321, 0, none⟩ (.int .u64 t319)).setCell ⟨gb321, 1, none⟩ (.int .u64 t320))) := ⟨by repeat (first | (with_reducible first | exact HB.out | apply below_alloc | apply pw_below_drewN | apply below_drew1 | refine below_set ?_ GE318.out | refine below_set ?_ GE321.out) | exact HB.out)⟩
    (try clear BK318)
    (try clear BK321)
    (try clear HB)
    generalize ((w76.setCell ⟨gb321, 0, none⟩ (.int .u64 t319)).setCell ⟨gb321, 1, none⟩ (.int .u64 t320)) = w79 at n0_ n1_ n2_ ⊢
    have BK318 := n0_
    have BK321 := n1_
    have HB := n2_
    clear n0_ n1_ n2_
    have n0_ := Aside0.mk (blk_drew BK318.out)
    have n1_ := Aside0.mk (blk_drew BK321.out)
    have n2_ := Aside0.mk (below_drew1 HB.out)
    clear BK318
    clear BK321
    clear HB
    have BK318 := n0_
    have BK321 := n1_
    have HB := n2_
    clear n0_ n1_ n2_
    refine start_ (n := 12) (S := fun w' => True) (ds := []) #[false, false, false, false, false, false, false, false, false, false, false, false] (by kernel_rfl) rfl rfl trivial (fun hHeld => ?_); refine with_tabW overfallref03_Fits.tab3 overfallref03_Fits.bits3 (fun HT_ HW_ => ?_)
    generalize w79.drew = w80 at BK318 BK321 HB hHeld ⊢
    refine pure_ (i := 0) (N := some 17) (v := ?_) (a' := ?_) #[true, false, false, false, false, false, false, false, false, false, false, false] rfl rfl (any_of HT_.out (by kernel_rfl)) (fun _ _ _ h => h) (Or.inl ⟨by rfl, ?_⟩) ?_ ?_
    rotate_left
    ·intro w'
     go_simp
     with_reducible rfl
    rotate_left
    ·simp only [Act.put, List.setIfInBounds_toArray, List.set_cons_zero, List.set_cons_succ, i64_w, i32_w]
     rfl
    refine pure_ (i := 2) (N := some 19) (v := ?_) (a' := ?_) #[true, false, true, false, false, false, false, false, false, false, false, false] rfl rfl (any_of HT_.out (by kernel_rfl)) (fun _ _ _ h => h) (Or.inl ⟨by rfl, ?_⟩) ?_ ?_
    rotate_left
    ·intro w'
     go_simp
     with_reducible rfl
    rotate_left
    ·simp only [Act.put, List.setIfInBounds_toArray, List.set_cons_zero, List.set_cons_succ, i64_w, i32_w]
     rfl
    refine pure_ (i := 4) (N := some 21) (v := ?_) (a' := ?_) #[true, false, true, false, true, false, false, false, false, false, false, false] rfl rfl (any_of HT_.out (by kernel_rfl)) (fun _ _ _ h => h) (Or.inl ⟨by rfl, ?_⟩) ?_ ?_
    rotate_left
    ·intro w'
     go_simp
     with_reducible rfl
    rotate_left
    ·simp only [Act.put, List.setIfInBounds_toArray, List.set_cons_zero, List.set_cons_succ, i64_w, i32_w]
     rfl
    refine pure_ (i := 6) (N := some 23) (v := ?_) (a' := ?_) #[true, false, true, false, true, false, true, false, false, false, false, false] rfl rfl (any_of HT_.out (by kernel_rfl)) (fun _ _ _ h => h) (Or.inl ⟨by rfl, ?_⟩) ?_ ?_
    rotate_left
    ·intro w'
     go_simp
     with_reducible rfl
    rotate_left
    ·simp only [Act.put, List.setIfInBounds_toArray, List.set_cons_zero, List.set_cons_succ, i64_w, i32_w]
     rfl
    refine inv_at [1, 3, 5, 7, 8, 9, 10, 11] (fun a0_ b a w' => ∃ (gb326 : Nat) (gb327 : Nat) (m8_ : Value) (m9_ : Value), a = putSel a0_ b [(1, 18, .int .u64 t320), (3, 20, .agg #[.int .u64 t322, .int .u64 t323]), (5, 22, .int .u64 t319), (7, 24, .agg #[.int .u64 t324, .int .u64 t325]), (8, 8, m8_), (9, 9, m9_)] ∧ (w'.heap[gb318]? = some (.cells #[.int .u64 a2_0, .int .u64 a2_1] 50 (0, 0))) ∧ (w'.heap[gb321]? = some (.cells #[.int .u64 t319, .int .u64 t320] 50 (0, 0))) ∧ (Below w.heap.size w w') ∧ (b 8 = true → b 9 = true → gb327 ≠ gb326) ∧ (b 8 = true → b 9 = true → gb326 ≠ gb327) ∧ (b 8 = true → b 10 = false → w'.heap[gb326]? = some (.cells #[.int .u64 0, .int .u64 0] 50 (0, 0))) ∧ (b 8 = true → w.heap.size ≤ gb326) ∧ (b 8 = true → w.heap.size ≤ gb326) ∧ (b 8 = true → gb318 ≠ gb326) ∧ (b 8 = true → gb326 ≠ gb318) ∧ (b 8 = true → gb321 ≠ gb326) ∧ (b 8 = true → gb326 ≠ gb321) ∧ (b 9 = true → b 11 = false → w'.heap[gb327]? = some (.cells #[.int .u64 0, .int .u64 0] 50 (0, 0))) ∧ (b 9 = true → w.heap.size ≤ gb327) ∧ (b 9 = true → w.heap.size ≤ gb327) ∧ (b 9 = true → gb318 ≠ gb327) ∧ (b 9 = true → gb327 ≠ gb318) ∧ (b 9 = true → gb321 ≠ gb327) ∧ (b 9 = true → gb327 ≠ gb321) ∧ (b 10 = true → w'.heap[gb326]? = some (.cells #[.int .u64 t322, .int .u64 t323] 50 (0, 0))) ∧ (b 11 = true → w'.heap[gb327]? = some (.cells #[.int .u64 t324, .int .u64 t325] 50 (0, 0))) ∧ (b 8 = true → (m8_ : Value) = .pointer (some ⟨gb326, 0, none⟩)) ∧ (b 9 = true → (m9_ : Value) = .pointer (some ⟨gb327, 0, none⟩))) HT_.out HW_.out (by kernel_rfl) (by kernel_rfl) ?_ ?_ ?_
    ·exact ⟨0, 0, .bool false, .bool false, by simp only [putSel, Bool.false_eq_true, if_false], BK318.out, BK321.out, HB.out, fun h_ => absurd h_ (by decide), fun h_ => absurd h_ (by decide), fun h_ => absurd h_ (by decide), fun h_ => absurd h_ (by decide), fun h_ => absurd h_ (by decide), fun h_ => absurd h_ (by decide), fun h_ => absurd h_ (by decide), fun h_ => absurd h_ (by decide), fun h_ => absurd h_ (by decide), fun h_ => absurd h_ (by decide), fun h_ => absurd h_ (by decide), fun h_ => absurd h_ (by decide), fun h_ => absurd h_ (by decide), fun h_ => absurd h_ (by decide), fun h_ => absurd h_ (by decide), fun h_ => absurd h_ (by decide), fun h_ => absurd h_ (by decide), fun h_ => absurd h_ (by decide), fun h_ => absurd h_ (by decide), fun h_ => absurd h_ (by decide)⟩
    ·skip
     clear BK318 BK321 HB
     refine steps_cons ?_ ?_
     ·rintro b a w' ⟨gb326, gb327, m8_, m9_, ha, Q_BK318, Q_BK321, Q_HB, Q_NB327_326, Q_NB326_327, Q_BK326, Q_GW326, Q_GE326, Q_NB318_326, Q_NB326_318, Q_NB321_326, Q_NB326_321, Q_BK327, Q_GW327, Q_GE327, Q_NB318_327, Q_NB327_318, Q_NB321_327, Q_NB327_321, Q_BK326_e10, Q_BK327_e11, Q_X8_, Q_X9_⟩ hb_ hon hoff
      refine ⟨_, rfl, fun K hK => ?_⟩
      have e17 : a.tmps[17]? = some (.pointer (some ⟨gb321, 1, none⟩)) := by rw [ha]; exact (putSel_off rfl).trans rfl
      replace ha := Aside0.mk ha
      have BK318 := Aside0.mk Q_BK318
      have BK321 := Aside0.mk Q_BK321
      have HB := Aside0.mk Q_HB
      have hc0_ : w'.cell? ⟨gb321, 0, none⟩ = some (.int .u64 t319) := (blk_cell BK321.out 0).trans rfl
      have hc1_ : w'.cell? ⟨gb321, 1, none⟩ = some (.int .u64 t320) := (blk_cell BK321.out 1).trans rfl
      refine value_ (w1 := w') (v := .int .u64 t320) (by rfl) rfl ?_ ?_
      ·go_simp
       (try simp only [i64_w])
       try rfl
      refine hK.out _ _ ⟨gb326, gb327, m8_, m9_, (by rw [ha.out]; exact putSel_upk 0 hb_ rfl rfl rfl), Q_BK318, Q_BK321, Q_HB, Q_NB327_326, Q_NB326_327, Q_BK326, Q_GW326, Q_GE326, Q_NB318_326, Q_NB326_318, Q_NB321_326, Q_NB326_321, Q_BK327, Q_GW327, Q_GE327, Q_NB318_327, Q_NB327_318, Q_NB321_327, Q_NB327_321, fun h0_ => absurd ((hoff 10 (by kernel_rfl)).symm.trans h0_) (by decide), fun h0_ => absurd ((hoff 11 (by kernel_rfl)).symm.trans h0_) (by decide), Q_X8_, Q_X9_⟩
     refine steps_cons ?_ ?_
     ·rintro b a w' ⟨gb326, gb327, m8_, m9_, ha, Q_BK318, Q_BK321, Q_HB, Q_NB327_326, Q_NB326_327, Q_BK326, Q_GW326, Q_GE326, Q_NB318_326, Q_NB326_318, Q_NB321_326, Q_NB326_321, Q_BK327, Q_GW327, Q_GE327, Q_NB318_327, Q_NB327_318, Q_NB321_327, Q_NB327_321, Q_BK326_e10, Q_BK327_e11, Q_X8_, Q_X9_⟩ hb_ hon hoff
      refine ⟨_, rfl, fun K hK => ?_⟩
      have e18 : a.tmps[18]? = some (.int .u64 t320) := by rw [ha]; exact putSel_on (e := (1, 18, .int .u64 t320)) 0 rfl rfl (hon 1 (by kernel_rfl)) rfl
      have e19 : a.tmps[19]? = some (.int .u64 a1) := by rw [ha]; exact (putSel_off rfl).trans rfl
      replace ha := Aside0.mk ha
      have BK318 := Aside0.mk Q_BK318
      have BK321 := Aside0.mk Q_BK321
      have HB := Aside0.mk Q_HB
      refine goes_ Try.func30 (by kernel_rfl) rfl #[.int .u64 t320, .int .u64 a1] (by rfl) rfl rfl (by first | (simp only [List.map_toArray, List.map_cons, List.map_nil, Act.eval, Array.getD_eq_getD_getElem?, Option.getD_some, e18, e19]; done) | (simp only [List.map_toArray, List.map_cons, List.map_nil, Act.eval, Array.getD_eq_getD_getElem?, Option.getD_some, e18, e19]; rfl)) ?_
      with_reducible refine (overfallref01_Mul.calls k t320 a1 t322 t323 _ A6.out).mono ?_
      rintro e w81 ⟨rfl, hb⟩
      refine ⟨_, rfl, ?_⟩
      have n0_ := Aside0.mk (blk_below (by exact BK318.out) hb)
      have n1_ := Aside0.mk (blk_below (by exact BK321.out) hb)
      have n2_ := Aside0.mk (below_step (by repeat (first | (with_reducible first | exact HB.out | apply below_alloc | apply pw_below_drewN | apply below_drew1 | refine below_set ?_ GE318.out | refine below_set ?_ GE321.out) | exact HB.out)) hb)
      have z_BK326 := fun (h0_ : b 8 = true) (h1_ : b 10 = false) => (show w81.heap[gb326]? = some (.cells #[.int .u64 0, .int .u64 0] 50 (0, 0)) from by first | exact (blk_below (g := gb326) (o := .cells #[.int .u64 0, .int .u64 0] 50 (0, 0)) (by exact (Q_BK326 h0_ h1_)) hb))
      have z_BK327 := fun (h0_ : b 9 = true) (h1_ : b 11 = false) => (show w81.heap[gb327]? = some (.cells #[.int .u64 0, .int .u64 0] 50 (0, 0)) from by first | exact (blk_below (g := gb327) (o := .cells #[.int .u64 0, .int .u64 0] 50 (0, 0)) (by exact (Q_BK327 h0_ h1_)) hb))
      clear BK318
      clear BK321
      clear HB
      have BK318 := n0_
      have BK321 := n1_
      have HB := n2_
      clear n0_ n1_ n2_
      (try clear hb)
      (try clear hb2)
      (try clear hk)
      (try clear hi)
      refine hK.out _ _ ⟨gb326, gb327, m8_, m9_, (by rw [ha.out]; exact putSel_upk 1 hb_ rfl rfl rfl), (by exact BK318.out), (by exact BK321.out), (by repeat (first | (with_reducible first | exact HB.out | apply below_alloc | apply pw_below_drewN | apply below_drew1 | refine below_set ?_ GE318.out | refine below_set ?_ GE321.out) | exact HB.out)), Q_NB327_326, Q_NB326_327, z_BK326, Q_GW326, Q_GE326, Q_NB318_326, Q_NB326_318, Q_NB321_326, Q_NB326_321, z_BK327, Q_GW327, Q_GE327, Q_NB318_327, Q_NB327_318, Q_NB321_327, Q_NB327_321, fun h0_ => absurd ((hoff 10 (by kernel_rfl)).symm.trans h0_) (by decide), fun h0_ => absurd ((hoff 11 (by kernel_rfl)).symm.trans h0_) (by decide), Q_X8_, Q_X9_⟩
     refine steps_cons ?_ ?_
     ·rintro b a w' ⟨gb326, gb327, m8_, m9_, ha, Q_BK318, Q_BK321, Q_HB, Q_NB327_326, Q_NB326_327, Q_BK326, Q_GW326, Q_GE326, Q_NB318_326, Q_NB326_318, Q_NB321_326, Q_NB326_321, Q_BK327, Q_GW327, Q_GE327, Q_NB318_327, Q_NB327_318, Q_NB321_327, Q_NB327_321, Q_BK326_e10, Q_BK327_e11, Q_X8_, Q_X9_⟩ hb_ hon hoff
      refine ⟨_, rfl, fun K hK => ?_⟩
      have e21 : a.tmps[21]? = some (.pointer (some ⟨gb321, 0, none⟩)) := by rw [ha]; exact (putSel_off rfl).trans rfl
      replace ha := Aside0.mk ha
      have BK318 := Aside0.mk Q_BK318
      have BK321 := Aside0.mk Q_BK321
      have HB := Aside0.mk Q_HB
      have hc0_ : w'.cell? ⟨gb321, 0, none⟩ = some (.int .u64 t319) := (blk_cell BK321.out 0).trans rfl
      have hc1_ : w'.cell? ⟨gb321, 1, none⟩ = some (.int .u64 t320) := (blk_cell BK321.out 1).trans rfl
      refine value_ (w1 := w') (v := .int .u64 t319) (by rfl) rfl ?_ ?_
      ·go_simp
       (try simp only [i64_w])
       try rfl
      refine hK.out _ _ ⟨gb326, gb327, m8_, m9_, (by rw [ha.out]; exact putSel_upk 2 hb_ rfl rfl rfl), Q_BK318, Q_BK321, Q_HB, Q_NB327_326, Q_NB326_327, Q_BK326, Q_GW326, Q_GE326, Q_NB318_326, Q_NB326_318, Q_NB321_326, Q_NB326_321, Q_BK327, Q_GW327, Q_GE327, Q_NB318_327, Q_NB327_318, Q_NB321_327, Q_NB327_321, fun h0_ => absurd ((hoff 10 (by kernel_rfl)).symm.trans h0_) (by decide), fun h0_ => absurd ((hoff 11 (by kernel_rfl)).symm.trans h0_) (by decide), Q_X8_, Q_X9_⟩
     refine steps_cons ?_ ?_
     ·rintro b a w' ⟨gb326, gb327, m8_, m9_, ha, Q_BK318, Q_BK321, Q_HB, Q_NB327_326, Q_NB326_327, Q_BK326, Q_GW326, Q_GE326, Q_NB318_326, Q_NB326_318, Q_NB321_326, Q_NB326_321, Q_BK327, Q_GW327, Q_GE327, Q_NB318_327, Q_NB327_318, Q_NB321_327, Q_NB327_321, Q_BK326_e10, Q_BK327_e11, Q_X8_, Q_X9_⟩ hb_ hon hoff
      refine ⟨_, rfl, fun K hK => ?_⟩
      have e22 : a.tmps[22]? = some (.int .u64 t319) := by rw [ha]; exact putSel_on (e := (5, 22, .int .u64 t319)) 2 rfl rfl (hon 5 (by kernel_rfl)) rfl
      have e23 : a.tmps[23]? = some (.int .u64 a1) := by rw [ha]; exact (putSel_off rfl).trans rfl
      replace ha := Aside0.mk ha
      have BK318 := Aside0.mk Q_BK318
      have BK321 := Aside0.mk Q_BK321
      have HB := Aside0.mk Q_HB
      refine goes_ Try.func30 (by kernel_rfl) rfl #[.int .u64 t319, .int .u64 a1] (by rfl) rfl rfl (by first | (simp only [List.map_toArray, List.map_cons, List.map_nil, Act.eval, Array.getD_eq_getD_getElem?, Option.getD_some, e22, e23]; done) | (simp only [List.map_toArray, List.map_cons, List.map_nil, Act.eval, Array.getD_eq_getD_getElem?, Option.getD_some, e22, e23]; rfl)) ?_
      with_reducible refine (overfallref01_Mul.calls k t319 a1 t324 t325 _ A7.out).mono ?_
      rintro e w83 ⟨rfl, hb⟩
      refine ⟨_, rfl, ?_⟩
      have n0_ := Aside0.mk (blk_below (by exact BK318.out) hb)
      have n1_ := Aside0.mk (blk_below (by exact BK321.out) hb)
      have n2_ := Aside0.mk (below_step (by repeat (first | (with_reducible first | exact HB.out | apply below_alloc | apply pw_below_drewN | apply below_drew1 | refine below_set ?_ GE318.out | refine below_set ?_ GE321.out) | exact HB.out)) hb)
      have z_BK326 := fun (h0_ : b 8 = true) (h1_ : b 10 = false) => (show w83.heap[gb326]? = some (.cells #[.int .u64 0, .int .u64 0] 50 (0, 0)) from by first | exact (blk_below (g := gb326) (o := .cells #[.int .u64 0, .int .u64 0] 50 (0, 0)) (by exact (Q_BK326 h0_ h1_)) hb))
      have z_BK327 := fun (h0_ : b 9 = true) (h1_ : b 11 = false) => (show w83.heap[gb327]? = some (.cells #[.int .u64 0, .int .u64 0] 50 (0, 0)) from by first | exact (blk_below (g := gb327) (o := .cells #[.int .u64 0, .int .u64 0] 50 (0, 0)) (by exact (Q_BK327 h0_ h1_)) hb))
      clear BK318
      clear BK321
      clear HB
      have BK318 := n0_
      have BK321 := n1_
      have HB := n2_
      clear n0_ n1_ n2_
      (try clear hb)
      (try clear hb2)
      (try clear hk)
      (try clear hi)
      refine hK.out _ _ ⟨gb326, gb327, m8_, m9_, (by rw [ha.out]; exact putSel_upk 3 hb_ rfl rfl rfl), (by exact BK318.out), (by exact BK321.out), (by repeat (first | (with_reducible first | exact HB.out | apply below_alloc | apply pw_below_drewN | apply below_drew1 | refine below_set ?_ GE318.out | refine below_set ?_ GE321.out) | exact HB.out)), Q_NB327_326, Q_NB326_327, z_BK326, Q_GW326, Q_GE326, Q_NB318_326, Q_NB326_318, Q_NB321_326, Q_NB326_321, z_BK327, Q_GW327, Q_GE327, Q_NB318_327, Q_NB327_318, Q_NB321_327, Q_NB327_321, fun h0_ => absurd ((hoff 10 (by kernel_rfl)).symm.trans h0_) (by decide), fun h0_ => absurd ((hoff 11 (by kernel_rfl)).symm.trans h0_) (by decide), Q_X8_, Q_X9_⟩
     refine steps_cons ?_ ?_
     ·rintro b a w' ⟨gb326, gb327, m8_, m9_, ha, Q_BK318, Q_BK321, Q_HB, Q_NB327_326, Q_NB326_327, Q_BK326, Q_GW326, Q_GE326, Q_NB318_326, Q_NB326_318, Q_NB321_326, Q_NB326_321, Q_BK327, Q_GW327, Q_GE327, Q_NB318_327, Q_NB327_318, Q_NB321_327, Q_NB327_321, Q_BK326_e10, Q_BK327_e11, Q_X8_, Q_X9_⟩ hb_ hon hoff
      refine ⟨_, rfl, fun K hK => ?_⟩
      replace ha := Aside0.mk ha
      have BK318 := Aside0.mk Q_BK318
      have BK321 := Aside0.mk Q_BK321
      have HB := Aside0.mk Q_HB
      refine box_step ?hg (N := 8) ?hd (cs := #[.int .u64 0, .int .u64 0]) (t := 50) ?hr ?_; (case hd => rfl); (case hg => rfl); (case hr => first | (go_simp; done) | (go_simp; rfl))
      intro gb326 hg w81 hbox hb
      have n0_ := Aside0.mk (blk_below (by exact BK318.out) hb)
      have n1_ := Aside0.mk (blk_below (by exact BK321.out) hb)
      have n2_ := Aside0.mk (below_step (by repeat (first | (with_reducible first | exact HB.out | apply below_alloc | apply pw_below_drewN | apply below_drew1 | refine below_set ?_ GE318.out | refine below_set ?_ GE321.out) | exact HB.out)) hb)
      have n3_ := Aside0.mk (hbox)
      have n4_ := Aside0.mk ((by rw [hg]; exact (below_size (by repeat (first | (with_reducible first | exact HB.out | apply below_alloc | apply pw_below_drewN | apply below_drew1 | refine below_set ?_ GE318.out | refine below_set ?_ GE321.out) | exact HB.out))) : w.heap.size ≤ gb326))
      have n5_ := Aside0.mk ((by rw [hg]; exact (below_size (by repeat (first | (with_reducible first | exact HB.out | apply below_alloc | apply pw_below_drewN | apply below_drew1 | refine below_set ?_ GE318.out | refine below_set ?_ GE321.out) | exact HB.out))) : w.heap.size ≤ gb326))
      have n6_ := Aside0.mk ((by rw [hg]; exact Nat.ne_of_lt (blk_lt (by exact BK318.out)) : gb318 ≠ gb326))
      have n7_ := Aside0.mk ((by rw [hg]; exact Nat.ne_of_gt (blk_lt (by exact BK318.out)) : gb326 ≠ gb318))
      have n8_ := Aside0.mk ((by rw [hg]; exact Nat.ne_of_lt (blk_lt (by exact BK321.out)) : gb321 ≠ gb326))
      have n9_ := Aside0.mk ((by rw [hg]; exact Nat.ne_of_gt (blk_lt (by exact BK321.out)) : gb326 ≠ gb321))
      have z_NB327_326 := fun (h0_ : up b 8 8 = true) (h1_ : up b 8 9 = true) => (show gb327 ≠ gb326 from ((by rw [hg]; exact Nat.ne_of_lt (blk_lt (by exact (Q_BK327 h1_ (hoff 11 (by kernel_rfl))))) : gb327 ≠ gb326)))
      have z_NB326_327 := fun (h0_ : up b 8 8 = true) (h1_ : up b 8 9 = true) => (show gb326 ≠ gb327 from ((by rw [hg]; exact Nat.ne_of_gt (blk_lt (by exact (Q_BK327 h1_ (hoff 11 (by kernel_rfl))))) : gb326 ≠ gb327)))
      have z_BK327 := fun (h0_ : b 9 = true) (h1_ : b 11 = false) => (show w81.heap[gb327]? = some (.cells #[.int .u64 0, .int .u64 0] 50 (0, 0)) from by first | exact (blk_below (g := gb327) (o := .cells #[.int .u64 0, .int .u64 0] 50 (0, 0)) (by exact (Q_BK327 h0_ h1_)) hb))
      clear BK318
      clear BK321
      clear HB
      have BK318 := n0_
      have BK321 := n1_
      have HB := n2_
      have BK326 := n3_
      have GW326 := n4_
      have GE326 := n5_
      have NB318_326 := n6_
      have NB326_318 := n7_
      have NB321_326 := n8_
      have NB326_321 := n9_
      clear n0_ n1_ n2_ n3_ n4_ n5_ n6_ n7_ n8_ n9_
      clear hb hbox hg
      refine hK.out _ _ ⟨gb326, gb327, (.pointer (some ⟨gb326, 0, none⟩)), m9_, (by rw [ha.out]; exact putSel_upk 4 hb_ rfl rfl rfl), (by exact BK318.out), (by exact BK321.out), (by repeat (first | (with_reducible first | exact HB.out | apply below_alloc | apply pw_below_drewN | apply below_drew1 | refine below_set ?_ GE318.out | refine below_set ?_ GE321.out | refine below_set ?_ GE326.out) | exact HB.out)), @z_NB327_326, @z_NB326_327, fun _ _ => (by exact BK326.out), fun _ => GW326.out, fun _ => GE326.out, fun _ => NB318_326.out, fun _ => NB326_318.out, fun _ => NB321_326.out, fun _ => NB326_321.out, z_BK327, Q_GW327, Q_GE327, Q_NB318_327, Q_NB327_318, Q_NB321_327, Q_NB327_321, fun h0_ => absurd ((hoff 10 (by kernel_rfl)).symm.trans h0_) (by decide), fun h0_ => absurd ((hoff 11 (by kernel_rfl)).symm.trans h0_) (by decide), fun _ => rfl, Q_X9_⟩
     refine steps_cons ?_ ?_
     ·rintro b a w' ⟨gb326, gb327, m8_, m9_, ha, Q_BK318, Q_BK321, Q_HB, Q_NB327_326, Q_NB326_327, Q_BK326, Q_GW326, Q_GE326, Q_NB318_326, Q_NB326_318, Q_NB321_326, Q_NB326_321, Q_BK327, Q_GW327, Q_GE327, Q_NB318_327, Q_NB327_318, Q_NB321_327, Q_NB327_321, Q_BK326_e10, Q_BK327_e11, Q_X8_, Q_X9_⟩ hb_ hon hoff
      refine ⟨_, rfl, fun K hK => ?_⟩
      replace ha := Aside0.mk ha
      have BK318 := Aside0.mk Q_BK318
      have BK321 := Aside0.mk Q_BK321
      have HB := Aside0.mk Q_HB
      refine box_step ?hg (N := 9) ?hd (cs := #[.int .u64 0, .int .u64 0]) (t := 50) ?hr ?_; (case hd => rfl); (case hg => rfl); (case hr => first | (go_simp; done) | (go_simp; rfl))
      intro gb327 hg w81 hbox hb
      have n0_ := Aside0.mk (blk_below (by exact BK318.out) hb)
      have n1_ := Aside0.mk (blk_below (by exact BK321.out) hb)
      have n2_ := Aside0.mk (below_step (by repeat (first | (with_reducible first | exact HB.out | apply below_alloc | apply pw_below_drewN | apply below_drew1 | refine below_set ?_ GE318.out | refine below_set ?_ GE321.out) | exact HB.out)) hb)
      have n3_ := Aside0.mk (hbox)
      have n4_ := Aside0.mk ((by rw [hg]; exact (below_size (by repeat (first | (with_reducible first | exact HB.out | apply below_alloc | apply pw_below_drewN | apply below_drew1 | refine below_set ?_ GE318.out | refine below_set ?_ GE321.out) | exact HB.out))) : w.heap.size ≤ gb327))
      have n5_ := Aside0.mk ((by rw [hg]; exact (below_size (by repeat (first | (with_reducible first | exact HB.out | apply below_alloc | apply pw_below_drewN | apply below_drew1 | refine below_set ?_ GE318.out | refine below_set ?_ GE321.out) | exact HB.out))) : w.heap.size ≤ gb327))
      have n6_ := Aside0.mk ((by rw [hg]; exact Nat.ne_of_lt (blk_lt (by exact BK318.out)) : gb318 ≠ gb327))
      have n7_ := Aside0.mk ((by rw [hg]; exact Nat.ne_of_gt (blk_lt (by exact BK318.out)) : gb327 ≠ gb318))
      have n8_ := Aside0.mk ((by rw [hg]; exact Nat.ne_of_lt (blk_lt (by exact BK321.out)) : gb321 ≠ gb327))
      have n9_ := Aside0.mk ((by rw [hg]; exact Nat.ne_of_gt (blk_lt (by exact BK321.out)) : gb327 ≠ gb321))
      have z_NB327_326 := fun (h0_ : up b 9 8 = true) (h1_ : up b 9 9 = true) => (show gb327 ≠ gb326 from ((by rw [hg]; exact Nat.ne_of_gt (blk_lt (by exact (Q_BK326 h0_ (hoff 10 (by kernel_rfl))))) : gb327 ≠ gb326)))
      have z_NB326_327 := fun (h0_ : up b 9 8 = true) (h1_ : up b 9 9 = true) => (show gb326 ≠ gb327 from ((by rw [hg]; exact Nat.ne_of_lt (blk_lt (by exact (Q_BK326 h0_ (hoff 10 (by kernel_rfl))))) : gb326 ≠ gb327)))
      have z_BK326 := fun (h0_ : b 8 = true) (h1_ : b 10 = false) => (show w81.heap[gb326]? = some (.cells #[.int .u64 0, .int .u64 0] 50 (0, 0)) from by first | exact (blk_below (g := gb326) (o := .cells #[.int .u64 0, .int .u64 0] 50 (0, 0)) (by exact (Q_BK326 h0_ h1_)) hb))
      clear BK318
      clear BK321
      clear HB
      have BK318 := n0_
      have BK321 := n1_
      have HB := n2_
      have BK327 := n3_
      have GW327 := n4_
      have GE327 := n5_
      have NB318_327 := n6_
      have NB327_318 := n7_
      have NB321_327 := n8_
      have NB327_321 := n9_
      clear n0_ n1_ n2_ n3_ n4_ n5_ n6_ n7_ n8_ n9_
      clear hb hbox hg
      refine hK.out _ _ ⟨gb326, gb327, m8_, (.pointer (some ⟨gb327, 0, none⟩)), (by rw [ha.out]; exact putSel_upk 5 hb_ rfl rfl rfl), (by exact BK318.out), (by exact BK321.out), (by repeat (first | (with_reducible first | exact HB.out | apply below_alloc | apply pw_below_drewN | apply below_drew1 | refine below_set ?_ GE318.out | refine below_set ?_ GE321.out | refine below_set ?_ GE327.out) | exact HB.out)), @z_NB327_326, @z_NB326_327, z_BK326, Q_GW326, Q_GE326, Q_NB318_326, Q_NB326_318, Q_NB321_326, Q_NB326_321, fun _ _ => (by exact BK327.out), fun _ => GW327.out, fun _ => GE327.out, fun _ => NB318_327.out, fun _ => NB327_318.out, fun _ => NB321_327.out, fun _ => NB327_321.out, fun h0_ => absurd ((hoff 10 (by kernel_rfl)).symm.trans h0_) (by decide), fun h0_ => absurd ((hoff 11 (by kernel_rfl)).symm.trans h0_) (by decide), Q_X8_, fun _ => rfl⟩
     refine steps_cons ?_ ?_
     ·rintro b a w' ⟨gb326, gb327, m8_, m9_, ha, Q_BK318, Q_BK321, Q_HB, Q_NB327_326, Q_NB326_327, Q_BK326, Q_GW326, Q_GE326, Q_NB318_326, Q_NB326_318, Q_NB321_326, Q_NB326_321, Q_BK327, Q_GW327, Q_GE327, Q_NB318_327, Q_NB327_318, Q_NB321_327, Q_NB327_321, Q_BK326_e10, Q_BK327_e11, Q_X8_, Q_X9_⟩ hb_ hon hoff
      refine ⟨_, rfl, fun K hK => ?_⟩
      have e8 : a.tmps[8]? = some (m8_) := by rw [ha]; exact putSel_on (e := (8, 8, m8_)) 4 rfl rfl (hon 8 (by kernel_rfl)) rfl
      rw [Q_X8_ (hon 8 (by kernel_rfl))] at e8
      have e20 : a.tmps[20]? = some (.agg #[.int .u64 t322, .int .u64 t323]) := by rw [ha]; exact putSel_on (e := (3, 20, .agg #[.int .u64 t322, .int .u64 t323])) 1 rfl rfl (hon 3 (by kernel_rfl)) rfl
      replace ha := Aside0.mk ha
      have BK318 := Aside0.mk Q_BK318
      have BK321 := Aside0.mk Q_BK321
      have HB := Aside0.mk Q_HB
      have NB327_326 := Aside0.mk (Q_NB327_326 (hon 8 (by kernel_rfl)) (hon 9 (by kernel_rfl)))
      have NB326_327 := Aside0.mk (Q_NB326_327 (hon 8 (by kernel_rfl)) (hon 9 (by kernel_rfl)))
      have BK326 := Aside0.mk (Q_BK326 (hon 8 (by kernel_rfl)) hb_)
      have GW326 := Aside0.mk (Q_GW326 (hon 8 (by kernel_rfl)))
      have GE326 := Aside0.mk (Q_GE326 (hon 8 (by kernel_rfl)))
      have NB318_326 := Aside0.mk (Q_NB318_326 (hon 8 (by kernel_rfl)))
      have NB326_318 := Aside0.mk (Q_NB326_318 (hon 8 (by kernel_rfl)))
      have NB321_326 := Aside0.mk (Q_NB321_326 (hon 8 (by kernel_rfl)))
      have NB326_321 := Aside0.mk (Q_NB326_321 (hon 8 (by kernel_rfl)))
      have BK327 := Aside0.mk (Q_BK327 (hon 9 (by kernel_rfl)) (hoff 11 (by kernel_rfl)))
      have GW327 := Aside0.mk (Q_GW327 (hon 9 (by kernel_rfl)))
      have GE327 := Aside0.mk (Q_GE327 (hon 9 (by kernel_rfl)))
      have NB318_327 := Aside0.mk (Q_NB318_327 (hon 9 (by kernel_rfl)))
      have NB327_318 := Aside0.mk (Q_NB327_318 (hon 9 (by kernel_rfl)))
      have NB321_327 := Aside0.mk (Q_NB321_327 (hon 9 (by kernel_rfl)))
      have NB327_321 := Aside0.mk (Q_NB327_321 (hon 9 (by kernel_rfl)))
      have hs86 : w'.cell? ⟨gb326, 0, none⟩ = some (.int .u64 0) := (blk_cell BK326.out 0).trans rfl
      have hfs86 := blk_frozen BK326.out 0
      have hns86_0 := NB318_326.out
      have hns86_1 := NB321_326.out
      have hns86_3 := NB327_326.out
      have hms86_0 := NB326_318.out
      have hms86_1 := NB326_321.out
      have hms86_3 := NB326_327.out
      have hs87 : w'.cell? ⟨gb326, 1, none⟩ = some (.int .u64 0) := (blk_cell BK326.out 1).trans rfl
      have hfs87 := blk_frozen BK326.out 1
      have hns87_0 := NB318_326.out
      have hns87_1 := NB321_326.out
      have hns87_3 := NB327_326.out
      have hms87_0 := NB326_318.out
      have hms87_1 := NB326_321.out
      have hms87_3 := NB326_327.out
      refine skip_ (w1 := ?_) (by rfl) rfl ?_ ?_
      rotate_left
      ·go_simp
       rfl
      refine hK.out _ _ ⟨gb326, gb327, m8_, m9_, (by rw [ha.out]; exact putSel_none (v := undef) rfl), (by refine blk_far ?_ NB318_326.out _; refine blk_far ?_ NB318_326.out _; exact BK318.out), (by refine blk_far ?_ NB321_326.out _; refine blk_far ?_ NB321_326.out _; exact BK321.out), (by repeat (first | (with_reducible first | exact HB.out | apply below_alloc | apply pw_below_drewN | apply below_drew1 | refine below_set ?_ GE318.out | refine below_set ?_ GE321.out | refine below_set ?_ GE326.out | refine below_set ?_ GE327.out) | exact HB.out)), fun _ _ => NB327_326.out, fun _ _ => NB326_327.out, fun _ h1_ => absurd ((up_self b 10).symm.trans h1_) (by decide), fun _ => GW326.out, fun _ => GE326.out, fun _ => NB318_326.out, fun _ => NB326_318.out, fun _ => NB321_326.out, fun _ => NB326_321.out, fun _ _ => (by refine blk_far ?_ NB327_326.out _; refine blk_far ?_ NB327_326.out _; exact BK327.out), fun _ => GW327.out, fun _ => GE327.out, fun _ => NB318_327.out, fun _ => NB327_318.out, fun _ => NB321_327.out, fun _ => NB327_321.out, fun _ => (by refine blk_put (cs := #[.int .u64 t322, .int .u64 0]) ?_ 1 _ rfl; refine blk_put (cs := #[.int .u64 0, .int .u64 0]) ?_ 0 _ rfl; exact BK326.out), fun h0_ => absurd ((hoff 11 (by kernel_rfl)).symm.trans h0_) (by decide), Q_X8_, Q_X9_⟩
     refine steps_cons ?_ ?_
     ·rintro b a w' ⟨gb326, gb327, m8_, m9_, ha, Q_BK318, Q_BK321, Q_HB, Q_NB327_326, Q_NB326_327, Q_BK326, Q_GW326, Q_GE326, Q_NB318_326, Q_NB326_318, Q_NB321_326, Q_NB326_321, Q_BK327, Q_GW327, Q_GE327, Q_NB318_327, Q_NB327_318, Q_NB321_327, Q_NB327_321, Q_BK326_e10, Q_BK327_e11, Q_X8_, Q_X9_⟩ hb_ hon hoff
      refine ⟨_, rfl, fun K hK => ?_⟩
      have e9 : a.tmps[9]? = some (m9_) := by rw [ha]; exact putSel_on (e := (9, 9, m9_)) 5 rfl rfl (hon 9 (by kernel_rfl)) rfl
      rw [Q_X9_ (hon 9 (by kernel_rfl))] at e9
      have e24 : a.tmps[24]? = some (.agg #[.int .u64 t324, .int .u64 t325]) := by rw [ha]; exact putSel_on (e := (7, 24, .agg #[.int .u64 t324, .int .u64 t325])) 3 rfl rfl (hon 7 (by kernel_rfl)) rfl
      replace ha := Aside0.mk ha
      have BK318 := Aside0.mk Q_BK318
      have BK321 := Aside0.mk Q_BK321
      have HB := Aside0.mk Q_HB
      have NB327_326 := Aside0.mk (Q_NB327_326 (hon 8 (by kernel_rfl)) (hon 9 (by kernel_rfl)))
      have NB326_327 := Aside0.mk (Q_NB326_327 (hon 8 (by kernel_rfl)) (hon 9 (by kernel_rfl)))
      have GW326 := Aside0.mk (Q_GW326 (hon 8 (by kernel_rfl)))
      have GE326 := Aside0.mk (Q_GE326 (hon 8 (by kernel_rfl)))
      have NB318_326 := Aside0.mk (Q_NB318_326 (hon 8 (by kernel_rfl)))
      have NB326_318 := Aside0.mk (Q_NB326_318 (hon 8 (by kernel_rfl)))
      have NB321_326 := Aside0.mk (Q_NB321_326 (hon 8 (by kernel_rfl)))
      have NB326_321 := Aside0.mk (Q_NB326_321 (hon 8 (by kernel_rfl)))
      have BK327 := Aside0.mk (Q_BK327 (hon 9 (by kernel_rfl)) hb_)
      have GW327 := Aside0.mk (Q_GW327 (hon 9 (by kernel_rfl)))
      have GE327 := Aside0.mk (Q_GE327 (hon 9 (by kernel_rfl)))
      have NB318_327 := Aside0.mk (Q_NB318_327 (hon 9 (by kernel_rfl)))
      have NB327_318 := Aside0.mk (Q_NB327_318 (hon 9 (by kernel_rfl)))
      have NB321_327 := Aside0.mk (Q_NB321_327 (hon 9 (by kernel_rfl)))
      have NB327_321 := Aside0.mk (Q_NB327_321 (hon 9 (by kernel_rfl)))
      have BK326 := Aside0.mk (Q_BK326_e10 (hon 10 (by kernel_rfl)))
      have hs88 : w'.cell? ⟨gb327, 0, none⟩ = some (.int .u64 0) := (blk_cell BK327.out 0).trans rfl
      have hfs88 := blk_frozen BK327.out 0
      have hns88_0 := NB318_327.out
      have hns88_1 := NB321_327.out
      have hns88_2 := NB326_327.out
      have hms88_0 := NB327_318.out
      have hms88_1 := NB327_321.out
      have hms88_2 := NB327_326.out
      have hs89 : w'.cell? ⟨gb327, 1, none⟩ = some (.int .u64 0) := (blk_cell BK327.out 1).trans rfl
      have hfs89 := blk_frozen BK327.out 1
      have hns89_0 := NB318_327.out
      have hns89_1 := NB321_327.out
      have hns89_2 := NB326_327.out
      have hms89_0 := NB327_318.out
      have hms89_1 := NB327_321.out
      have hms89_2 := NB327_326.out
      refine skip_ (w1 := ?_) (by rfl) rfl ?_ ?_
      rotate_left
      ·go_simp
       rfl
      refine hK.out _ _ ⟨gb326, gb327, m8_, m9_, (by rw [ha.out]; exact putSel_none (v := undef) rfl), (by refine blk_far ?_ NB318_327.out _; refine blk_far ?_ NB318_327.out _; exact BK318.out), (by refine blk_far ?_ NB321_327.out _; refine blk_far ?_ NB321_327.out _; exact BK321.out), (by repeat (first | (with_reducible first | exact HB.out | apply below_alloc | apply pw_below_drewN | apply below_drew1 | refine below_set ?_ GE318.out | refine below_set ?_ GE321.out | refine below_set ?_ GE326.out | refine below_set ?_ GE327.out) | exact HB.out)), fun _ _ => NB327_326.out, fun _ _ => NB326_327.out, fun _ h1_ => absurd ((hon 10 (by kernel_rfl)).symm.trans h1_) (by decide), fun _ => GW326.out, fun _ => GE326.out, fun _ => NB318_326.out, fun _ => NB326_318.out, fun _ => NB321_326.out, fun _ => NB326_321.out, fun _ h1_ => absurd ((up_self b 11).symm.trans h1_) (by decide), fun _ => GW327.out, fun _ => GE327.out, fun _ => NB318_327.out, fun _ => NB327_318.out, fun _ => NB321_327.out, fun _ => NB327_321.out, fun _ => (by refine blk_far ?_ NB326_327.out _; refine blk_far ?_ NB326_327.out _; exact BK326.out), fun _ => (by refine blk_put (cs := #[.int .u64 t324, .int .u64 0]) ?_ 1 _ rfl; refine blk_put (cs := #[.int .u64 0, .int .u64 0]) ?_ 0 _ rfl; exact BK327.out), Q_X8_, Q_X9_⟩
     exact steps_nil
    rintro b a w89 hall ⟨gb326, gb327, m8_, m9_, ha, Q_BK318, Q_BK321, Q_HB, Q_NB327_326, Q_NB326_327, Q_BK326, Q_GW326, Q_GE326, Q_NB318_326, Q_NB326_318, Q_NB321_326, Q_NB326_321, Q_BK327, Q_GW327, Q_GE327, Q_NB318_327, Q_NB327_318, Q_NB321_327, Q_NB327_321, Q_BK326_e10, Q_BK327_e11, Q_X8_, Q_X9_⟩
    clear BK318 BK321 HB
    have hb1_ := hall 1 (by kernel_rfl)
    have hb3_ := hall 3 (by kernel_rfl)
    have hb5_ := hall 5 (by kernel_rfl)
    have hb7_ := hall 7 (by kernel_rfl)
    have hb8_ := hall 8 (by kernel_rfl)
    have hb9_ := hall 9 (by kernel_rfl)
    have hb10_ := hall 10 (by kernel_rfl)
    have hb11_ := hall 11 (by kernel_rfl)
    subst ha
    obtain rfl := Q_X8_ hb8_
    obtain rfl := Q_X9_ hb9_
    simp only [putSel, hb1_, hb3_, hb5_, hb7_, hb8_, hb9_, hb10_, hb11_, if_true, Act.put, List.setIfInBounds_toArray, List.set_cons_zero, List.set_cons_succ]
    have BK318 := Aside0.mk Q_BK318
    clear Q_BK318
    have BK321 := Aside0.mk Q_BK321
    clear Q_BK321
    have HB := Aside0.mk Q_HB
    clear Q_HB
    have NB327_326 := Aside0.mk (Q_NB327_326 hb8_ hb9_)
    clear Q_NB327_326
    have NB326_327 := Aside0.mk (Q_NB326_327 hb8_ hb9_)
    clear Q_NB326_327
    clear Q_BK326
    have GW326 := Aside0.mk (Q_GW326 hb8_)
    clear Q_GW326
    have GE326 := Aside0.mk (Q_GE326 hb8_)
    clear Q_GE326
    have NB318_326 := Aside0.mk (Q_NB318_326 hb8_)
    clear Q_NB318_326
    have NB326_318 := Aside0.mk (Q_NB326_318 hb8_)
    clear Q_NB326_318
    have NB321_326 := Aside0.mk (Q_NB321_326 hb8_)
    clear Q_NB321_326
    have NB326_321 := Aside0.mk (Q_NB326_321 hb8_)
    clear Q_NB326_321
    clear Q_BK327
    have GW327 := Aside0.mk (Q_GW327 hb9_)
    clear Q_GW327
    have GE327 := Aside0.mk (Q_GE327 hb9_)
    clear Q_GE327
    have NB318_327 := Aside0.mk (Q_NB318_327 hb9_)
    clear Q_NB318_327
    have NB327_318 := Aside0.mk (Q_NB327_318 hb9_)
    clear Q_NB327_318
    have NB321_327 := Aside0.mk (Q_NB321_327 hb9_)
    clear Q_NB321_327
    have NB327_321 := Aside0.mk (Q_NB327_321 hb9_)
    clear Q_NB327_321
    have BK326 := Aside0.mk (Q_BK326_e10 hb10_)
    clear Q_BK326_e10
    have BK327 := Aside0.mk (Q_BK327_e11 hb11_)
    clear Q_BK327_e11
    clear hall hb1_ hb3_ hb5_ hb7_ hb8_ hb9_ hb10_ hb11_
    have hnb90 := NB326_318.out
    have hnc90 := NB318_326.out
    have hnb91 := NB326_321.out
    have hnc91 := NB321_326.out
    have hnb92 := NB326_327.out
    have hnc92 := NB327_326.out
    have hcz93_0 : w89.cell? ⟨gb326, 0, none⟩ = some (.int .u64 t322) := (blk_cell BK326.out 0).trans rfl
    have hcz93_1 : w89.cell? ⟨gb326, 1, none⟩ = some (.int .u64 t323) := (blk_cell BK326.out 1).trans rfl
    have hfz93_0 := blk_frozen BK326.out 0
    have hfz93_1 := blk_frozen BK326.out 1
    have hnb94 := NB327_318.out
    have hnc94 := NB318_327.out
    have hnb95 := NB327_321.out
    have hnc95 := NB321_327.out
    have hcz96_0 : w89.cell? ⟨gb327, 0, none⟩ = some (.int .u64 t324) := (blk_cell BK327.out 0).trans rfl
    have hcz96_1 : w89.cell? ⟨gb327, 1, none⟩ = some (.int .u64 t325) := (blk_cell BK327.out 1).trans rfl
    have hfz96_0 := blk_frozen BK327.out 0
    have hfz96_1 := blk_frozen BK327.out 1
    try go_wp2_with (first | ((with_reducible refine gate_callee (f := 23) rfl ?_); refine goesL_ (some 30) rfl rfl Try.func23 (by kernel_rfl) rfl #[.agg #[.int .u64 t322, .int .u64 t323], .agg #[.int .u64 t325, .int .u64 0]] rfl (by (try simp only [List.map_toArray, List.map_cons, List.map_nil]); first | done | rfl | (simp only [List.length_drop, List.length_take]; rfl)) ?_; (with_reducible refine (overfallref01_Add.calls k t322 t323 t325 0 t328 t329 false _ A8.out).mono ?_); rintro e w97 ⟨rfl, hb⟩; refine ⟨_, rfl, ?_⟩; have n0_ := Aside0.mk (blk_below (by exact BK318.out) hb); have n1_ := Aside0.mk (blk_below (by exact BK321.out) hb); have n2_ := Aside0.mk (blk_below (by exact BK326.out) hb); have n3_ := Aside0.mk (blk_below (by exact BK327.out) hb); have n4_ := Aside0.mk (below_step (by repeat (first | (with_reducible first | exact HB.out | apply below_alloc | apply pw_below_drewN | apply below_drew1 | refine below_set ?_ GE318.out | refine below_set ?_ GE321.out | refine below_set ?_ GE326.out | refine below_set ?_ GE327.out) | exact HB.out)) hb); clear BK318; clear BK321; clear BK326; clear BK327; clear HB; have BK318 := n0_; have BK321 := n1_; have BK326 := n2_; have BK327 := n3_; have HB := n4_; clear n0_ n1_ n2_ n3_ n4_; (try clear hb); (try clear hb2); (try clear hk); (try clear hi)) | ((with_reducible refine gate_dst (N := 10) rfl ?_); refine box_event ?hg (N := 10) ?hd (cs := #[.int .u64 0, .int .u64 0]) (t := 50) ?hr ?_; (case hd => rfl); (case hg => rfl); (case hr => first | (go_simp; done) | (go_simp; rfl)); intro gb331 hg w98 hbox hb; have n0_ := Aside0.mk (blk_below (by exact BK318.out) hb); have n1_ := Aside0.mk (blk_below (by exact BK321.out) hb); have n2_ := Aside0.mk (blk_below (by exact BK326.out) hb); have n3_ := Aside0.mk (blk_below (by exact BK327.out) hb); have n4_ := Aside0.mk (below_step (by repeat (first | (with_reducible first | exact HB.out | apply below_alloc | apply pw_below_drewN | apply below_drew1 | refine below_set ?_ GE318.out | refine below_set ?_ GE321.out | refine below_set ?_ GE326.out | refine below_set ?_ GE327.out) | exact HB.out)) hb); have n5_ := Aside0.mk (hbox); have n6_ := Aside0.mk ((by rw [hg]; exact (below_size (by repeat (first | (with_reducible first | exact HB.out | apply below_alloc | apply pw_below_drewN | apply below_drew1 | refine below_set ?_ GE318.out | refine below_set ?_ GE321.out | refine below_set ?_ GE326.out | refine below_set ?_ GE327.out) | exact HB.out))) : w.heap.size ≤ gb331)); have n7_ := Aside0.mk ((by rw [hg]; exact (below_size (by repeat (first | (with_reducible first | exact HB.out | apply below_alloc | apply pw_below_drewN | apply below_drew1 | refine below_set ?_ GE318.out | refine below_set ?_ GE321.out | refine below_set ?_ GE326.out | refine below_set ?_ GE327.out) | exact HB.out))) : w.heap.size ≤ gb331)); have n8_ := Aside0.mk ((by rw [hg]; exact Nat.ne_of_lt (blk_lt (by exact BK318.out)) : gb318 ≠ gb331)); have n9_ := Aside0.mk ((by rw [hg]; exact Nat.ne_of_gt (blk_lt (by exact BK318.out)) : gb331 ≠ gb318)); have n10_ := Aside0.mk ((by rw [hg]; exact Nat.ne_of_lt (blk_lt (by exact BK321.out)) : gb321 ≠ gb331)); have n11_ := Aside0.mk ((by rw [hg]; exact Nat.ne_of_gt (blk_lt (by exact BK321.out)) : gb331 ≠ gb321)); have n12_ := Aside0.mk ((by rw [hg]; exact Nat.ne_of_lt (blk_lt (by exact BK326.out)) : gb326 ≠ gb331)); have n13_ := Aside0.mk ((by rw [hg]; exact Nat.ne_of_gt (blk_lt (by exact BK326.out)) : gb331 ≠ gb326)); have n14_ := Aside0.mk ((by rw [hg]; exact Nat.ne_of_lt (blk_lt (by exact BK327.out)) : gb327 ≠ gb331)); have n15_ := Aside0.mk ((by rw [hg]; exact Nat.ne_of_gt (blk_lt (by exact BK327.out)) : gb331 ≠ gb327)); clear BK318; clear BK321; clear BK326; clear BK327; clear HB; have BK318 := n0_; have BK321 := n1_; have BK326 := n2_; have BK327 := n3_; have HB := n4_; have BK331 := n5_; have GW331 := n6_; have GE331 := n7_; have NB318_331 := n8_; have NB331_318 := n9_; have NB321_331 := n10_; have NB331_321 := n11_; have NB326_331 := n12_; have NB331_326 := n13_; have NB327_331 := n14_; have NB331_327 := n15_; clear n0_ n1_ n2_ n3_ n4_ n5_ n6_ n7_ n8_ n9_ n10_ n11_ n12_ n13_ n14_ n15_; clear hb hbox hg; have hnb99 := NB331_318.out; have hnc99 := NB318_331.out; have hnb100 := NB331_321.out; have hnc100 := NB321_331.out; have hnb101 := NB331_326.out; have hnc101 := NB326_331.out; have hnb102 := NB331_327.out; have hnc102 := NB327_331.out; have hcz103_0 : w98.cell? ⟨gb331, 0, none⟩ = some (.int .u64 0) := (blk_cell BK331.out 0).trans rfl; have hcz103_1 : w98.cell? ⟨gb331, 1, none⟩ = some (.int .u64 0) := (blk_cell BK331.out 1).trans rfl; have hfz103_0 := blk_frozen BK331.out 0; have hfz103_1 := blk_frozen BK331.out 1; have hcz104_0 : w98.cell? ⟨gb327, 0, none⟩ = some (.int .u64 t324) := (blk_cell BK327.out 0).trans rfl; have hcz104_1 : w98.cell? ⟨gb327, 1, none⟩ = some (.int .u64 t325) := (blk_cell BK327.out 1).trans rfl; have hfz104_0 := blk_frozen BK327.out 0; have hfz104_1 := blk_frozen BK327.out 1; have hcz105_0 : w98.cell? ⟨gb321, 0, none⟩ = some (.int .u64 t319) := (blk_cell BK321.out 0).trans rfl; have hcz105_1 : w98.cell? ⟨gb321, 1, none⟩ = some (.int .u64 t320) := (blk_cell BK321.out 1).trans rfl; have hfz105_0 := blk_frozen BK321.out 0; have hfz105_1 := blk_frozen BK321.out 1; have hcz106_0 : w98.cell? ⟨gb318, 0, none⟩ = some (.int .u64 a2_0) := (blk_cell BK318.out 0).trans rfl; have hcz106_1 : w98.cell? ⟨gb318, 1, none⟩ = some (.int .u64 a2_1) := (blk_cell BK318.out 1).trans rfl; have hfz106_0 := blk_frozen BK318.out 0; have hfz106_1 := blk_frozen BK318.out 1) | ((with_reducible refine gate_callee (f := 25) rfl ?_); refine goesL_ (some 42) rfl rfl Try.func25 (by kernel_rfl) rfl #[.agg #[.int .u64 a2_0, .int .u64 a2_1], .agg #[.int .u64 t328, .int .u64 t329]] rfl (by (try simp only [List.map_toArray, List.map_cons, List.map_nil]); first | done | rfl | (simp only [List.length_drop, List.length_take]; rfl)) ?_; (with_reducible refine (overfallref01_Less.calls a2_0 a2_1 t328 t329 t332 _ A73.out).mono ?_); rintro e w107 ⟨rfl, hb⟩; refine ⟨_, rfl, ?_⟩; have n0_ := Aside0.mk (blk_below (g := gb318) (o := .cells #[.int .u64 a2_0, .int .u64 a2_1] 50 (0, 0)) (by refine blk_far ?_ NB318_321.out _; refine blk_far ?_ NB318_321.out _; refine blk_far ?_ NB318_331.out _; refine blk_far ?_ NB318_331.out _; exact BK318.out) hb); have n1_ := Aside0.mk (blk_below (g := gb321) (o := .cells #[.int .u64 t328, .int .u64 t329] 50 (0, 0)) (by refine blk_put (cs := #[.int .u64 t328, .int .u64 t320]) ?_ 1 _ rfl; refine blk_put (cs := #[.int .u64 t319, .int .u64 t320]) ?_ 0 _ rfl; refine blk_far ?_ NB321_331.out _; refine blk_far ?_ NB321_331.out _; exact BK321.out) hb); have n2_ := Aside0.mk (blk_below (g := gb326) (o := .cells #[.int .u64 t322, .int .u64 t323] 50 (0, 0)) (by refine blk_far ?_ NB326_321.out _; refine blk_far ?_ NB326_321.out _; refine blk_far ?_ NB326_331.out _; refine blk_far ?_ NB326_331.out _; exact BK326.out) hb); have n3_ := Aside0.mk (blk_below (g := gb327) (o := .cells #[.int .u64 t324, .int .u64 t325] 50 (0, 0)) (by refine blk_far ?_ NB327_321.out _; refine blk_far ?_ NB327_321.out _; refine blk_far ?_ NB327_331.out _; refine blk_far ?_ NB327_331.out _; exact BK327.out) hb); have n4_ := Aside0.mk (blk_below (g := gb331) (o := .cells #[.int .u64 t328, .int .u64 t329] 50 (0, 0)) (by refine blk_far ?_ NB331_321.out _; refine blk_far ?_ NB331_321.out _; refine blk_put (cs := #[.int .u64 t328, .int .u64 0]) ?_ 1 _ rfl; refine blk_put (cs := #[.int .u64 0, .int .u64 0]) ?_ 0 _ rfl; exact BK331.out) hb); have n5_ := Aside0.mk (below_step (by repeat (first | (with_reducible first | exact HB.out | apply below_alloc | apply pw_below_drewN | apply below_drew1 | refine below_set ?_ GE318.out | refine below_set ?_ GE321.out | refine below_set ?_ GE326.out | refine below_set ?_ GE327.out | refine below_set ?_ GE331.out) | exact HB.out)) hb); clear BK318; clear BK321; clear BK326; clear BK327; clear BK331; clear HB; have BK318 := n0_; have BK321 := n1_; have BK326 := n2_; have BK327 := n3_; have BK331 := n4_; have HB := n5_; clear n0_ n1_ n2_ n3_ n4_ n5_; (try clear hb); (try clear hb2); (try clear hk); (try clear hi)))
    go_ret
    exact ⟨by first | rfl | (simp [errW_none, errW_some] <;> rfl) | (simp [*, errW_none, errW_some] <;> rfl), by repeat (first | (with_reducible first | exact HB.out | apply below_alloc | apply pw_below_drewN | apply below_drew1 | refine below_set ?_ GE318.out | refine below_set ?_ GE321.out | refine below_set ?_ GE326.out | refine below_set ?_ GE327.out | refine below_set ?_ GE331.out) | exact HB.out)⟩
 ·rw [if_neg c5] at H
  have c5b0 : decide (1 < a1) = false := decide_eq_false c5
  clear c5
  replace H := Option.bind_eq_some_iff.mp H
  obtain ⟨t333, A1080, H⟩ := H
  replace H : (some (!t333)) = some r := H
  have A108 := Aside0.mk A1080
  clear A1080
  obtain rfl := Option.some.inj H
  go_enter Try.func39, Try.ntmps39
  go_wp2_with (first | ((with_reducible refine gate_dst (N := 5) rfl ?_); refine box_event ?hg (N := 5) ?hd (cs := #[.int .u64 a2_0, .int .u64 a2_1]) (t := 50) ?hr ?_; (case hd => rfl); (case hg => rfl); (case hr => first | (go_simp; done) | (go_simp; rfl)); intro gb318 hg w109 hbox hb; have n0_ := Aside0.mk (below_step (by repeat (first | (with_reducible first | exact HB.out | apply below_alloc | apply pw_below_drewN | apply below_drew1) | exact HB.out)) hb); have n1_ := Aside0.mk (hbox); have n2_ := Aside0.mk ((by rw [hg]; exact (below_size (by repeat (first | (with_reducible first | exact HB.out | apply below_alloc | apply pw_below_drewN | apply below_drew1) | exact HB.out))) : w.heap.size ≤ gb318)); have n3_ := Aside0.mk ((by rw [hg]; exact (below_size (by repeat (first | (with_reducible first | exact HB.out | apply below_alloc | apply pw_below_drewN | apply below_drew1) | exact HB.out))) : w.heap.size ≤ gb318)); clear HB; have HB := n0_; have BK318 := n1_; have GW318 := n2_; have GE318 := n3_; clear n0_ n1_ n2_ n3_; clear hb hbox hg) | ((with_reducible refine gate_callee (f := 30) rfl ?_); refine goesL_ (some 14) rfl rfl Try.func30 (by kernel_rfl) rfl #[.int .u64 a0, .int .u64 a0] rfl (by (try simp only [List.map_toArray, List.map_cons, List.map_nil]); first | done | rfl | (simp only [List.length_drop, List.length_take]; rfl)) ?_; (with_reducible refine (overfallref01_Mul.calls k a0 a0 t319 t320 _ A4.out).mono ?_); rintro e w110 ⟨rfl, hb⟩; refine ⟨_, rfl, ?_⟩; have n0_ := Aside0.mk (blk_below (by exact BK318.out) hb); have n1_ := Aside0.mk (below_step (by repeat (first | (with_reducible first | exact HB.out | apply below_alloc | apply pw_below_drewN | apply below_drew1 | refine below_set ?_ GE318.out) | exact HB.out)) hb); clear BK318; clear HB; have BK318 := n0_; have HB := n1_; clear n0_ n1_; (try clear hb); (try clear hb2); (try clear hk); (try clear hi)) | ((with_reducible refine gate_dst (N := 7) rfl ?_); refine box_event ?hg (N := 7) ?hd (cs := #[.int .u64 0, .int .u64 0]) (t := 50) ?hr ?_; (case hd => rfl); (case hg => rfl); (case hr => first | (go_simp; done) | (go_simp; rfl)); intro gb321 hg w111 hbox hb; have n0_ := Aside0.mk (blk_below (by exact BK318.out) hb); have n1_ := Aside0.mk (below_step (by repeat (first | (with_reducible first | exact HB.out | apply below_alloc | apply pw_below_drewN | apply below_drew1 | refine below_set ?_ GE318.out) | exact HB.out)) hb); have n2_ := Aside0.mk (hbox); have n3_ := Aside0.mk ((by rw [hg]; exact (below_size (by repeat (first | (with_reducible first | exact HB.out | apply below_alloc | apply pw_below_drewN | apply below_drew1 | refine below_set ?_ GE318.out) | exact HB.out))) : w.heap.size ≤ gb321)); have n4_ := Aside0.mk ((by rw [hg]; exact (below_size (by repeat (first | (with_reducible first | exact HB.out | apply below_alloc | apply pw_below_drewN | apply below_drew1 | refine below_set ?_ GE318.out) | exact HB.out))) : w.heap.size ≤ gb321)); have n5_ := Aside0.mk ((by rw [hg]; exact Nat.ne_of_lt (blk_lt (by exact BK318.out)) : gb318 ≠ gb321)); have n6_ := Aside0.mk ((by rw [hg]; exact Nat.ne_of_gt (blk_lt (by exact BK318.out)) : gb321 ≠ gb318)); clear BK318; clear HB; have BK318 := n0_; have HB := n1_; have BK321 := n2_; have GW321 := n3_; have GE321 := n4_; have NB318_321 := n5_; have NB321_318 := n6_; clear n0_ n1_ n2_ n3_ n4_ n5_ n6_; clear hb hbox hg; have hnb112 := NB321_318.out; have hnc112 := NB318_321.out; have hcz113_0 : w111.cell? ⟨gb321, 0, none⟩ = some (.int .u64 0) := (blk_cell BK321.out 0).trans rfl; have hcz113_1 : w111.cell? ⟨gb321, 1, none⟩ = some (.int .u64 0) := (blk_cell BK321.out 1).trans rfl; have hfz113_0 := blk_frozen BK321.out 0; have hfz113_1 := blk_frozen BK321.out 1; have hcz114_0 : w111.cell? ⟨gb318, 0, none⟩ = some (.int .u64 a2_0) := (blk_cell BK318.out 0).trans rfl; have hcz114_1 : w111.cell? ⟨gb318, 1, none⟩ = some (.int .u64 a2_1) := (blk_cell BK318.out 1).trans rfl; have hfz114_0 := blk_frozen BK318.out 0; have hfz114_1 := blk_frozen BK318.out 1) | ((with_reducible refine gate_callee (f := 25) rfl ?_); refine goesL_ (some 42) rfl rfl Try.func25 (by kernel_rfl) rfl #[.agg #[.int .u64 a2_0, .int .u64 a2_1], .agg #[.int .u64 t319, .int .u64 t320]] rfl (by (try simp only [List.map_toArray, List.map_cons, List.map_nil]); first | done | rfl | (simp only [List.length_drop, List.length_take]; rfl)) ?_; (with_reducible refine (overfallref01_Less.calls a2_0 a2_1 t319 t320 t333 _ A108.out).mono ?_); rintro e w115 ⟨rfl, hb⟩; refine ⟨_, rfl, ?_⟩; have n0_ := Aside0.mk (blk_below (g := gb318) (o := .cells #[.int .u64 a2_0, .int .u64 a2_1] 50 (0, 0)) (by refine blk_far ?_ NB318_321.out _; refine blk_far ?_ NB318_321.out _; exact BK318.out) hb); have n1_ := Aside0.mk (blk_below (g := gb321) (o := .cells #[.int .u64 t319, .int .u64 t320] 50 (0, 0)) (by refine blk_put (cs := #[.int .u64 t319, .int .u64 0]) ?_ 1 _ rfl; refine blk_put (cs := #[.int .u64 0, .int .u64 0]) ?_ 0 _ rfl; exact BK321.out) hb); have n2_ := Aside0.mk (below_step (by repeat (first | (with_reducible first | exact HB.out | apply below_alloc | apply pw_below_drewN | apply below_drew1 | refine below_set ?_ GE318.out | refine below_set ?_ GE321.out) | exact HB.out)) hb); clear BK318; clear BK321; clear HB; have BK318 := n0_; have BK321 := n1_; have HB := n2_; clear n0_ n1_ n2_; (try clear hb); (try clear hb2); (try clear hk); (try clear hi)))
  go_ret
  exact ⟨by first | rfl | (simp [errW_none, errW_some] <;> rfl) | (simp [*, errW_none, errW_some] <;> rfl), by repeat (first | (with_reducible first | exact HB.out | apply below_alloc | apply pw_below_drewN | apply below_drew1 | refine below_set ?_ GE318.out | refine below_set ?_ GE321.out) | exact HB.out)⟩

end Go.Proofs.Ytiiffgmbkajkhaa.B

-- Laid by a program of this claim's session (wip/tools/myprint.py) over the kit's printer.
import Derived.Test.YtiiffgmbkajkhaaAx0
import Derived.Test.YtiiffgmbkajkhaaAx1
import Derived.Test.YtiiffgmbkajkhaaAx3
import Derived.Test.YtiiffgmbkajkhaaAx4
namespace Go.Proofs.Ytiiffgmbkajkhaa.A
open Go.RowKit Go.Proofs.YtiiffgmbkajkhaaW.PrintWords Go.Proofs.YtiiffgmbkajkhaaW.PrintLast Go.Proofs.YtiiffgmbkajkhaaW.PrintMore
attribute [local go_sem] max2_int min2_int max_two min_two max_three min_three max_four min_four   -- for this text's walks alone
set_option linter.unusedVariables false
set_option linter.unusedSimpArgs false

/-! ### codel_State_enter: function 29 -/
def codel_State_enter.f (k : Nat) (a0_0 : Bool) (a0_1 : Int) (a0_2 : Bool) (a0_3 : Int) (a0_4 : Int) (a0_5 : Int) (a1_0 : Int) (a1_1 : Int) (a2 : Int) : Option (Bool × Int × Bool × Int × Int × Int) := if (IntKind.u64.wrap (a0_4 - a0_5)) > 1 then (if (IntKind.u64.wrap (a0_4 - a0_5)) ≤ 9223372036854775808 then ((fix_Sub.f a2 a0_3).bind fun t163 => ((fix_Mul.f k 16 a1_1).bind fun t164 => (if t163 < t164 then ((codel_State_later.f k a0_0 a0_1 true a0_3 (IntKind.u64.wrap (a0_4 - a0_5)) a0_5 a1_0 a1_1 a2).bind fun t165 => (some (a0_0, a0_1, true, t165, IntKind.u64.wrap (a0_4 - a0_5), IntKind.u64.wrap (a0_4 - a0_5)))) else ((codel_State_later.f k a0_0 a0_1 true a0_3 1 a0_5 a1_0 a1_1 a2).bind fun t166 => (some (a0_0, a0_1, true, t166, 1, 1)))))) else ((codel_State_later.f k a0_0 a0_1 true a0_3 1 a0_5 a1_0 a1_1 a2).bind fun t167 => (some (a0_0, a0_1, true, t167, 1, 1)))) else ((codel_State_later.f k a0_0 a0_1 true a0_3 1 a0_5 a1_0 a1_1 a2).bind fun t168 => (some (a0_0, a0_1, true, t168, 1, 1)))
theorem codel_State_enter.mono : ∀ a0 a1 a2 a3 a4 a5 a6 a7 a8 k, LeO (codel_State_enter.f k a0 a1 a2 a3 a4 a5 a6 a7 a8) (codel_State_enter.f (k + 1) a0 a1 a2 a3 a4 a5 a6 a7 a8) := by
 intro a0 a1 a2 a3 a4 a5 a6 a7 a8 k
 unfold codel_State_enter.f
 repeat' first
   | (with_reducible exact codel_State_later.mono _ _ _ _ _ _ _ _ _ _)
   | (with_reducible exact fix_Mul.mono _ _ _)
   | (with_reducible exact LeO.refl _)
   | (with_reducible exact LeO.none _)
   | (with_reducible refine LeO.ite ?_ ?_)
   | (with_reducible refine LeO.bind ?_ (fun _ => ?_))
   | exact codel_State_later.mono _ _ _ _ _ _ _ _ _ _
   | exact fix_Mul.mono _ _ _
   | exact LeO.none _
   | refine LeO.ite ?_ ?_
   | refine LeO.bind ?_ (fun _ => ?_)
def codel_State_enter.T3 : Bool × List (List Nat × List Nat) := (true, [([], []), ([0], [0]), ([1], [1]), ([2], [2]), ([3, 2], [2, 3]), ([2, 4], [2, 4]), ([5, 2], [5]), ([6], [6]), ([6], [6]), ([8, 6], [6, 8]), ([7, 9, 6, 6], [6, 7, 9]), ([6], [6]), ([11, 6], [6, 11]), ([12, 10, 6], [6, 12]), ([10, 13, 6], [6, 10, 13]), ([6, 14], [6, 14])])
def codel_State_enter.B3 : List Nat := [0, 1, 3, 7, 15, 31, 63, 127, 127, 383, 1023, 127, 2175, 8191, 16383, 32767]
theorem codel_State_enter.tab3 : rtab .any (opsOf Try.f29 3) = codel_State_enter.T3 := by kernel_rfl
theorem codel_State_enter.bits3 : waitsOk codel_State_enter.T3.2 codel_State_enter.B3 = true := by kernel_rfl
set_option maxHeartbeats 8000000 in
set_option maxRecDepth 100000 in
theorem codel_State_enter.calls (k : Nat) (a0_0 : Bool) (a0_1 : Int) (a0_2 : Bool) (a0_3 : Int) (a0_4 : Int) (a0_5 : Int) (a1_0 : Int) (a1_1 : Int) (a2 : Int) (r1 : Bool) (r2 : Int) (r3 : Bool) (r4 : Int) (r5 : Int) (r6 : Int) (w : World) (h : codel_State_enter.f k a0_0 a0_1 a0_2 a0_3 a0_4 a0_5 a1_0 a1_1 a2 = some (r1, r2, r3, r4, r5, r6)) :
  Calls Try.prog 29 #[.agg #[.bool a0_0, .int .i64 a0_1, .bool a0_2, .int .i64 a0_3, .int .u64 a0_4, .int .u64 a0_5], .agg #[.int .i64 a1_0, .int .i64 a1_1], .int .i64 a2] w fun e w' => e = .returned (.agg #[.bool r1, .int .i64 r2, .bool r3, .int .i64 r4, .int .u64 r5, .int .u64 r6]) ∧ Below w.heap.size w w' := by
 have hu24 := Try.underlying24
 have hu26 := Try.underlying26
 have HB := Aside0.mk (Below.refl w.heap.size w)
 have H : (if (IntKind.u64.wrap (a0_4 - a0_5)) > 1 then (if (IntKind.u64.wrap (a0_4 - a0_5)) ≤ 9223372036854775808 then ((fix_Sub.f a2 a0_3).bind fun t163 => ((fix_Mul.f k 16 a1_1).bind fun t164 => (if t163 < t164 then ((codel_State_later.f k a0_0 a0_1 true a0_3 (IntKind.u64.wrap (a0_4 - a0_5)) a0_5 a1_0 a1_1 a2).bind fun t165 => (some (a0_0, a0_1, true, t165, IntKind.u64.wrap (a0_4 - a0_5), IntKind.u64.wrap (a0_4 - a0_5)))) else ((codel_State_later.f k a0_0 a0_1 true a0_3 1 a0_5 a1_0 a1_1 a2).bind fun t166 => (some (a0_0, a0_1, true, t166, 1, 1)))))) else ((codel_State_later.f k a0_0 a0_1 true a0_3 1 a0_5 a1_0 a1_1 a2).bind fun t167 => (some (a0_0, a0_1, true, t167, 1, 1)))) else ((codel_State_later.f k a0_0 a0_1 true a0_3 1 a0_5 a1_0 a1_1 a2).bind fun t168 => (some (a0_0, a0_1, true, t168, 1, 1)))) = some (r1, r2, r3, r4, r5, r6) := h
 clear h
 by_cases c4 : (IntKind.u64.wrap (a0_4 - a0_5)) > 1
 ·rw [if_pos c4] at H
  have c4b0 : decide (1 < (IntKind.u64.wrap (a0_4 - a0_5))) = true := decide_eq_true c4
  clear c4
  by_cases c5 : (IntKind.u64.wrap (a0_4 - a0_5)) ≤ 9223372036854775808
  ·rw [if_pos c5] at H
   have c5b0 : decide ((IntKind.u64.wrap (a0_4 - a0_5)) ≤ 9223372036854775808) = true := decide_eq_true c5
   clear c5
   replace H := Option.bind_eq_some_iff.mp H
   obtain ⟨t163, A60, H⟩ := H
   replace H : ((fix_Mul.f k 16 a1_1).bind fun t164 => (if t163 < t164 then ((codel_State_later.f k a0_0 a0_1 true a0_3 (IntKind.u64.wrap (a0_4 - a0_5)) a0_5 a1_0 a1_1 a2).bind fun t165 => (some (a0_0, a0_1, true, t165, IntKind.u64.wrap (a0_4 - a0_5), IntKind.u64.wrap (a0_4 - a0_5)))) else ((codel_State_later.f k a0_0 a0_1 true a0_3 1 a0_5 a1_0 a1_1 a2).bind fun t166 => (some (a0_0, a0_1, true, t166, 1, 1))))) = some (r1, r2, r3, r4, r5, r6) := H
   have A6 := Aside0.mk A60
   clear A60
   replace H := Option.bind_eq_some_iff.mp H
   obtain ⟨t164, A70, H⟩ := H
   replace H : (if t163 < t164 then ((codel_State_later.f k a0_0 a0_1 true a0_3 (IntKind.u64.wrap (a0_4 - a0_5)) a0_5 a1_0 a1_1 a2).bind fun t165 => (some (a0_0, a0_1, true, t165, IntKind.u64.wrap (a0_4 - a0_5), IntKind.u64.wrap (a0_4 - a0_5)))) else ((codel_State_later.f k a0_0 a0_1 true a0_3 1 a0_5 a1_0 a1_1 a2).bind fun t166 => (some (a0_0, a0_1, true, t166, 1, 1)))) = some (r1, r2, r3, r4, r5, r6) := H
   have A7 := Aside0.mk A70
   clear A70
   by_cases c8 : t163 < t164
   ·rw [if_pos c8] at H
    have c8b0 : decide (t163 < t164) = true := decide_eq_true c8
    clear c8
    replace H := Option.bind_eq_some_iff.mp H
    obtain ⟨t165, A90, H⟩ := H
    replace H : (some (a0_0, a0_1, true, t165, IntKind.u64.wrap (a0_4 - a0_5), IntKind.u64.wrap (a0_4 - a0_5))) = some (r1, r2, r3, r4, r5, r6) := H
    have A9 := Aside0.mk A90
    clear A90
    simp only [Option.some.injEq, Prod.mk.injEq] at H
    obtain ⟨rfl, rfl, rfl, rfl, rfl, rfl⟩ := H
    go_enter Try.func29, Try.ntmps29
    try go_wp2_with (first | ((with_reducible refine gate_dst (N := 3) rfl ?_); refine box_event ?hg (N := 3) ?hd (cs := #[.bool a0_0, .int .i64 a0_1, .bool a0_2, .int .i64 a0_3, .int .u64 a0_4, .int .u64 a0_5]) (t := 24) ?hr ?_; (case hd => rfl); (case hg => rfl); (case hr => first | (go_simp; done) | (go_simp; rfl)); intro gb160 hg w10 hbox hb; have n0_ := Aside0.mk (below_step (by repeat (first | (with_reducible first | exact HB.out | apply below_alloc | apply pw_below_drewN | apply below_drew1) | exact HB.out)) hb); have n1_ := Aside0.mk (hbox); have n2_ := Aside0.mk ((by rw [hg]; exact (below_size (by repeat (first | (with_reducible first | exact HB.out | apply below_alloc | apply pw_below_drewN | apply below_drew1) | exact HB.out))) : w.heap.size ≤ gb160)); have n3_ := Aside0.mk ((by rw [hg]; exact (below_size (by repeat (first | (with_reducible first | exact HB.out | apply below_alloc | apply pw_below_drewN | apply below_drew1) | exact HB.out))) : w.heap.size ≤ gb160)); clear HB; have HB := n0_; have BK160 := n1_; have GW160 := n2_; have GE160 := n3_; clear n0_ n1_ n2_ n3_; clear hb hbox hg) | ((with_reducible refine gate_dst (N := 4) rfl ?_); refine box_event ?hg (N := 4) ?hd (cs := #[.int .i64 a1_0, .int .i64 a1_1]) (t := 26) ?hr ?_; (case hd => rfl); (case hg => rfl); (case hr => first | (go_simp; done) | (go_simp; rfl)); intro gb161 hg w11 hbox hb; have n0_ := Aside0.mk (blk_below (by exact BK160.out) hb); have n1_ := Aside0.mk (below_step (by repeat (first | (with_reducible first | exact HB.out | apply below_alloc | apply pw_below_drewN | apply below_drew1 | refine below_set ?_ GE160.out) | exact HB.out)) hb); have n2_ := Aside0.mk (hbox); have n3_ := Aside0.mk ((by rw [hg]; exact (below_size (by repeat (first | (with_reducible first | exact HB.out | apply below_alloc | apply pw_below_drewN | apply below_drew1 | refine below_set ?_ GE160.out) | exact HB.out))) : w.heap.size ≤ gb161)); have n4_ := Aside0.mk ((by rw [hg]; exact (below_size (by repeat (first | (with_reducible first | exact HB.out | apply below_alloc | apply pw_below_drewN | apply below_drew1 | refine below_set ?_ GE160.out) | exact HB.out))) : w.heap.size ≤ gb161)); have n5_ := Aside0.mk ((by rw [hg]; exact Nat.ne_of_lt (blk_lt (by exact BK160.out)) : gb160 ≠ gb161)); have n6_ := Aside0.mk ((by rw [hg]; exact Nat.ne_of_gt (blk_lt (by exact BK160.out)) : gb161 ≠ gb160)); clear BK160; clear HB; have BK160 := n0_; have HB := n1_; have BK161 := n2_; have GW161 := n3_; have GE161 := n4_; have NB160_161 := n5_; have NB161_160 := n6_; clear n0_ n1_ n2_ n3_ n4_ n5_ n6_; clear hb hbox hg) | ((with_reducible refine gate_dst (N := 6) rfl ?_); refine box_event ?hg (N := 6) ?hd (cs := #[.bool false, .int .i64 0, .bool false, .int .i64 0, .int .u64 0, .int .u64 0]) (t := 24) ?hr ?_; (case hd => rfl); (case hg => rfl); (case hr => first | (go_simp; done) | (go_simp; rfl)); intro gb162 hg w12 hbox hb; have n0_ := Aside0.mk (blk_below (by exact BK160.out) hb); have n1_ := Aside0.mk (blk_below (by exact BK161.out) hb); have n2_ := Aside0.mk (below_step (by repeat (first | (with_reducible first | exact HB.out | apply below_alloc | apply pw_below_drewN | apply below_drew1 | refine below_set ?_ GE160.out | refine below_set ?_ GE161.out) | exact HB.out)) hb); have n3_ := Aside0.mk (hbox); have n4_ := Aside0.mk ((by rw [hg]; exact (below_size (by repeat (first | (with_reducible first | exact HB.out | apply below_alloc | apply pw_below_drewN | apply below_drew1 | refine below_set ?_ GE160.out | refine below_set ?_ GE161.out) | exact HB.out))) : w.heap.size ≤ gb162)); have n5_ := Aside0.mk ((by rw [hg]; exact (below_size (by repeat (first | (with_reducible first | exact HB.out | apply below_alloc | apply pw_below_drewN | apply below_drew1 | refine below_set ?_ GE160.out | refine below_set ?_ GE161.out) | exact HB.out))) : w.heap.size ≤ gb162)); have n6_ := Aside0.mk ((by rw [hg]; exact Nat.ne_of_lt (blk_lt (by exact BK160.out)) : gb160 ≠ gb162)); have n7_ := Aside0.mk ((by rw [hg]; exact Nat.ne_of_gt (blk_lt (by exact BK160.out)) : gb162 ≠ gb160)); have n8_ := Aside0.mk ((by rw [hg]; exact Nat.ne_of_lt (blk_lt (by exact BK161.out)) : gb161 ≠ gb162)); have n9_ := Aside0.mk ((by rw [hg]; exact Nat.ne_of_gt (blk_lt (by exact BK161.out)) : gb162 ≠ gb161)); clear BK160; clear BK161; clear HB; have BK160 := n0_; have BK161 := n1_; have HB := n2_; have BK162 := n3_; have GW162 := n4_; have GE162 := n5_; have NB160_162 := n6_; have NB162_160 := n7_; have NB161_162 := n8_; have NB162_161 := n9_; clear n0_ n1_ n2_ n3_ n4_ n5_ n6_ n7_ n8_ n9_; clear hb hbox hg; have hnb13 := NB160_161.out; have hnc13 := NB161_160.out; have hnb14 := NB160_162.out; have hnc14 := NB162_160.out; have hcz15_0 : w12.cell? ⟨gb160, 0, none⟩ = some (.bool a0_0) := (blk_cell BK160.out 0).trans rfl; have hcz15_1 : w12.cell? ⟨gb160, 1, none⟩ = some (.int .i64 a0_1) := (blk_cell BK160.out 1).trans rfl; have hcz15_2 : w12.cell? ⟨gb160, 2, none⟩ = some (.bool a0_2) := (blk_cell BK160.out 2).trans rfl; have hcz15_3 : w12.cell? ⟨gb160, 3, none⟩ = some (.int .i64 a0_3) := (blk_cell BK160.out 3).trans rfl; have hcz15_4 : w12.cell? ⟨gb160, 4, none⟩ = some (.int .u64 a0_4) := (blk_cell BK160.out 4).trans rfl; have hcz15_5 : w12.cell? ⟨gb160, 5, none⟩ = some (.int .u64 a0_5) := (blk_cell BK160.out 5).trans rfl; have hfz15_0 := blk_frozen BK160.out 0; have hfz15_1 := blk_frozen BK160.out 1; have hfz15_2 := blk_frozen BK160.out 2; have hfz15_3 := blk_frozen BK160.out 3; have hfz15_4 := blk_frozen BK160.out 4; have hfz15_5 := blk_frozen BK160.out 5))
    have n0_ : Aside0 (((w12.setCell ⟨gb160, 2, none⟩ (.bool true)).setCell ⟨gb160, 4, none⟩ (.int .u64 1)).heap[gb160]? = some (.cells #[.bool a0_0, .int .i64 a0_1, .bool true, .int .i64 a0_3, .int .u64 1, .int .u64 a0_5] 24 (0, 0))) := ⟨by refine blk_put (cs := #[.bool a0_0, .int .i64 a0_1, .bool true, .int .i64 a0_3, .int .u64 a0_4, .int .u64 a0_5]) ?_ 4 _ rfl; refine blk_put (cs := #[.bool a0_0, .int .i64 a0_1, .bool a0_2, .int .i64 a0_3, .int .u64 a0_4, .int .u64 a0_5]) ?_ 2 _ rfl; exact BK160.out⟩
    have n1_ : Aside0 (((w12.setCell ⟨gb160, 2, none⟩ (.bool true)).setCell ⟨gb160, 4, none⟩ (.int .u64 1)).heap[gb161]? = some (.cells #[.int .i64 a1_0, .int .i64 a1_1] 26 (0, 0))) := ⟨by refine blk_far ?_ NB161_160.out _; refine blk_far ?_ NB161_160.out _; exact BK161.out⟩
    have n2_ : Aside0 (((w12.setCell ⟨gb160, 2, none⟩ (.bool true)).setCell ⟨gb160, 4, none⟩ (.int .u64 1)).heap[gb162]? = some (.cells #[.bool false, .int .i64 0, .bool false, .int .i64 0, .int .u64 0, .int .u64 0] 24 (0, 0))) := ⟨by refine blk_far ?_ NB162_160.out _; refine blk_far ?_ NB162_160.out _; exact BK162.out⟩
    have n3_ : Aside0 (Below w.heap.size w ((w12.setCell ⟨gb160, 2, none⟩ (.bool true)).setCell ⟨gb160, 4, none⟩ (.int .u64 1))) := ⟨by repeat (first | (with_reducible first | exact HB.out | apply below_alloc | apply pw_below_drewN | apply below_drew1 | refine below_set ?_ GE160.out | refine below_set ?_ GE161.out | refine below_set ?_ GE162.out) | exact HB.out)⟩
    (try clear BK160)
    (try clear BK161)
    (try clear BK162)
    (try clear HB)
    generalize ((w12.setCell ⟨gb160, 2, none⟩ (.bool true)).setCell ⟨gb160, 4, none⟩ (.int .u64 1)) = w16 at n0_ n1_ n2_ n3_ ⊢
    have BK160 := n0_
    have BK161 := n1_
    have BK162 := n2_
    have HB := n3_
    clear n0_ n1_ n2_ n3_
    have n0_ := Aside0.mk (blk_drew BK160.out)
    have n1_ := Aside0.mk (blk_drew BK161.out)
    have n2_ := Aside0.mk (blk_drew BK162.out)
    have n3_ := Aside0.mk (below_drew1 HB.out)
    clear BK160
    clear BK161
    clear BK162
    clear HB
    have BK160 := n0_
    have BK161 := n1_
    have BK162 := n2_
    have HB := n3_
    clear n0_ n1_ n2_ n3_
    refine start_ (n := 16) (S := fun w' => w'.cell? ⟨gb160, 0, none⟩ = some (.bool a0_0) ∧ w'.cell? ⟨gb160, 1, none⟩ = some (.int .i64 a0_1) ∧ w'.cell? ⟨gb160, 2, none⟩ = some (.bool true) ∧ w'.cell? ⟨gb160, 3, none⟩ = some (.int .i64 a0_3) ∧ w'.cell? ⟨gb160, 4, none⟩ = some (.int .u64 1) ∧ w'.cell? ⟨gb160, 5, none⟩ = some (.int .u64 a0_5) ∧ w'.cell? ⟨gb161, 0, none⟩ = some (.int .i64 a1_0) ∧ w'.cell? ⟨gb161, 1, none⟩ = some (.int .i64 a1_1)) (ds := []) #[false, false, false, false, false, false, false, false, false, false, false, false, false, false, false, false] (by kernel_rfl) rfl rfl ⟨(blk_cell BK160.out 0).trans rfl, (blk_cell BK160.out 1).trans rfl, (blk_cell BK160.out 2).trans rfl, (blk_cell BK160.out 3).trans rfl, (blk_cell BK160.out 4).trans rfl, (blk_cell BK160.out 5).trans rfl, (blk_cell BK161.out 0).trans rfl, (blk_cell BK161.out 1).trans rfl⟩ (fun hHeld => ?_); refine with_tabW codel_State_enter.tab3 codel_State_enter.bits3 (fun HT_ HW_ => ?_)
    generalize w16.drew = w17 at BK160 BK161 BK162 HB hHeld ⊢
    refine pure_ (i := 0) (N := some 15) (v := ?_) (a' := ?_) #[true, false, false, false, false, false, false, false, false, false, false, false, false, false, false, false] rfl rfl (any_of HT_.out (by kernel_rfl)) (fun _ _ _ h => h) (Or.inl ⟨by rfl, ?_⟩) ?_ ?_
    rotate_left
    ·intro w'
     go_simp
     with_reducible rfl
    rotate_left
    ·simp only [Act.put, List.setIfInBounds_toArray, List.set_cons_zero, List.set_cons_succ, i64_w, i32_w]
     rfl
    refine pure_ (i := 1) (N := some 16) (v := ?_) (a' := ?_) #[true, true, false, false, false, false, false, false, false, false, false, false, false, false, false, false] rfl rfl (any_of HT_.out (by kernel_rfl)) (fun _ _ _ h => h) (Or.inl ⟨by rfl, ?_⟩) ?_ ?_
    rotate_left
    ·intro w'
     go_simp
     with_reducible rfl
    rotate_left
    ·simp only [Act.put, List.setIfInBounds_toArray, List.set_cons_zero, List.set_cons_succ, i64_w, i32_w]
     rfl
    refine pure_ (i := 2) (N := some 17) (v := ?_) (a' := ?_) #[true, true, true, false, false, false, false, false, false, false, false, false, false, false, false, false] rfl rfl (any_of HT_.out (by kernel_rfl)) (fun _ _ _ h => h) (Or.inl ⟨by rfl, ?_⟩) ?_ ?_
    rotate_left
    ·intro w'
     go_simp
     with_reducible rfl
    rotate_left
    ·simp only [Act.put, List.setIfInBounds_toArray, List.set_cons_zero, List.set_cons_succ, i64_w, i32_w]
     rfl
    refine pure_ (i := 3) (N := some 18) (v := ?_) (a' := ?_) #[true, true, true, true, false, false, false, false, false, false, false, false, false, false, false, false] rfl rfl (any_of HT_.out (by kernel_rfl)) (fun _ _ _ h => h) (Or.inl ⟨by rfl, ?_⟩) ?_ ?_
    rotate_left
    ·intro w'
     go_simp
     with_reducible rfl
    rotate_left
    ·simp only [Act.put, List.setIfInBounds_toArray, List.set_cons_zero, List.set_cons_succ, i64_w, i32_w]
     rfl
    refine pure_ (i := 4) (N := some 19) (v := ?_) (a' := ?_) #[true, true, true, true, true, false, false, false, false, false, false, false, false, false, false, false] rfl rfl (any_of HT_.out (by kernel_rfl)) (fun _ _ _ h => h) (Or.inl ⟨by rfl, ?_⟩) ?_ ?_
    rotate_left
    ·intro w'
     go_simp
     with_reducible rfl
    rotate_left
    ·simp only [Act.put, List.setIfInBounds_toArray, List.set_cons_zero, List.set_cons_succ, i64_w, i32_w]
     rfl
    refine pure_ (i := 5) (N := some 20) (v := ?_) (a' := ?_) #[true, true, true, true, true, true, false, false, false, false, false, false, false, false, false, false] rfl rfl (any_of HT_.out (by kernel_rfl)) (fun _ _ _ h => h) (Or.inl ⟨by rfl, ?_⟩) ?_ ?_
    rotate_left
    ·intro w'
     go_simp
     with_reducible rfl
    rotate_left
    ·simp only [Act.put, List.setIfInBounds_toArray, List.set_cons_zero, List.set_cons_succ, i64_w, i32_w]
     rfl
    refine pure_ (i := 6) (N := some 21) (v := ?_) (a' := ?_) #[true, true, true, true, true, true, true, false, false, false, false, false, false, false, false, false] rfl rfl (any_of HT_.out (by kernel_rfl)) (fun _ _ _ h => h) (Or.inl ⟨by rfl, ?_⟩) ?_ ?_
    rotate_left
    ·intro w'
     go_simp
     with_reducible rfl
    rotate_left
    ·simp only [Act.put, List.setIfInBounds_toArray, List.set_cons_zero, List.set_cons_succ, i64_w, i32_w]
     rfl
    refine pure_ (i := 7) (N := some 22) (v := ?_) (a' := ?_) #[true, true, true, true, true, true, true, true, false, false, false, false, false, false, false, false] rfl rfl (any_of HT_.out (by kernel_rfl)) (fun _ _ _ h => h) (Or.inl ⟨by rfl, ?_⟩) ?_ ?_
    rotate_left
    ·intro w'
     go_simp
     with_reducible rfl
    rotate_left
    ·simp only [Act.put, List.setIfInBounds_toArray, List.set_cons_zero, List.set_cons_succ, i64_w, i32_w]
     rfl
    refine pure_ (i := 8) (N := some 23) (v := ?_) (a' := ?_) #[true, true, true, true, true, true, true, true, true, false, false, false, false, false, false, false] rfl rfl (any_of HT_.out (by kernel_rfl)) (fun _ _ _ h => h) (Or.inl ⟨by rfl, ?_⟩) ?_ ?_
    rotate_left
    ·intro w'
     go_simp
     with_reducible rfl
    rotate_left
    ·simp only [Act.put, List.setIfInBounds_toArray, List.set_cons_zero, List.set_cons_succ, i64_w, i32_w]
     rfl
    refine pure_ (i := 11) (N := some 26) (v := ?_) (a' := ?_) #[true, true, true, true, true, true, true, true, true, false, false, true, false, false, false, false] rfl rfl (any_of HT_.out (by kernel_rfl)) (fun _ _ _ h => h) (Or.inl ⟨by rfl, ?_⟩) ?_ ?_
    rotate_left
    ·intro w'
     go_simp
     with_reducible rfl
    rotate_left
    ·simp only [Act.put, List.setIfInBounds_toArray, List.set_cons_zero, List.set_cons_succ, i64_w, i32_w]
     rfl
    refine take_ (i := 9) (N := some 24) (v := ?_) (a' := ?_) #[true, true, true, true, true, true, true, true, true, true, false, true, false, false, false, false] rfl rfl (take_ofW HT_.out HW_.out (by kernel_rfl)) (fun _ _ _ h => h) (Or.inl ⟨by rfl, ?_⟩) hHeld ?_ ?_
    rotate_left
    ·rintro w' ⟨s0, s1, s2, s3, s4, s5, s6, s7⟩
     go_simp
     with_reducible rfl
    rotate_left
    ·simp only [Act.put, List.setIfInBounds_toArray, List.set_cons_zero, List.set_cons_succ, i64_w, i32_w]
     rfl
    refine take_ (i := 12) (N := some 27) (v := ?_) (a' := ?_) #[true, true, true, true, true, true, true, true, true, true, false, true, true, false, false, false] rfl rfl (take_ofW HT_.out HW_.out (by kernel_rfl)) (fun _ _ _ h => h) (Or.inl ⟨by rfl, ?_⟩) hHeld ?_ ?_
    rotate_left
    ·rintro w' ⟨s0, s1, s2, s3, s4, s5, s6, s7⟩
     go_simp
     with_reducible rfl
    rotate_left
    ·simp only [Act.put, List.setIfInBounds_toArray, List.set_cons_zero, List.set_cons_succ, i64_w, i32_w]
     rfl
    refine one_ (i := 10) (N := some 25) #[true, true, true, true, true, true, true, true, true, true, true, true, true, false, false, false] rfl rfl (one_of HT_.out (by kernel_rfl)) (by decide) (fun K hK => ?_)
    refine goes_ Try.func37 (by kernel_rfl) rfl #[.int .i64 a2, .int .i64 a0_3] (by rfl) rfl rfl (by (try simp only [List.map_toArray, List.map_cons, List.map_nil]); first | done | rfl | (simp only [List.length_drop, List.length_take]; rfl)) ?_
    with_reducible refine (fix_Sub.calls a2 a0_3 t163 _ A6.out).mono ?_
    rintro e w' ⟨rfl, ⟨nd, rfl⟩⟩
    refine ⟨_, rfl, ?_⟩
    refine hK.out _ _ ⟨(blk_cell BK160.out 0).trans rfl, (blk_cell BK160.out 1).trans rfl, (blk_cell BK160.out 2).trans rfl, (blk_cell BK160.out 3).trans rfl, (blk_cell BK160.out 4).trans rfl, (blk_cell BK160.out 5).trans rfl, (blk_cell BK161.out 0).trans rfl, (blk_cell BK161.out 1).trans rfl⟩ (fun hHeld => ?_)
    clear hK K
    refine norm_ (a' := ?_) ?_ ?_
    rotate_left
    ·show Act.put _ (some 25) _ = _
     simp only [Act.put, List.setIfInBounds_toArray, List.set_cons_zero, List.set_cons_succ, i64_w, i32_w]
     rfl
    refine one_ (i := 13) (N := some 28) #[true, true, true, true, true, true, true, true, true, true, true, true, true, true, false, false] rfl rfl (one_of HT_.out (by kernel_rfl)) (by decide) (fun K hK => ?_)
    refine goes_ Try.func38 (by kernel_rfl) rfl #[.int .i64 16, .int .i64 a1_1] (by rfl) rfl rfl (by (try simp only [List.map_toArray, List.map_cons, List.map_nil]); first | done | rfl | (simp only [List.length_drop, List.length_take]; rfl)) ?_
    with_reducible refine (fix_Mul.calls k 16 a1_1 t164 _ A7.out).mono ?_
    rintro e w18 ⟨rfl, hb⟩
    refine ⟨_, rfl, ?_⟩
    have n0_ := Aside0.mk (blk_below (by exact BK160.out) hb)
    have n1_ := Aside0.mk (blk_below (by exact BK161.out) hb)
    have n2_ := Aside0.mk (blk_below (by exact BK162.out) hb)
    have n3_ := Aside0.mk (below_step (by repeat (first | (with_reducible first | exact HB.out | apply below_alloc | apply pw_below_drewN | apply below_drew1 | refine below_set ?_ GE160.out | refine below_set ?_ GE161.out | refine below_set ?_ GE162.out) | exact HB.out)) hb)
    clear BK160
    clear BK161
    clear BK162
    clear HB
    have BK160 := n0_
    have BK161 := n1_
    have BK162 := n2_
    have HB := n3_
    clear n0_ n1_ n2_ n3_
    (try clear hb)
    (try clear hb2)
    (try clear hk)
    (try clear hi)
    refine hK.out _ _ ⟨(blk_cell BK160.out 0).trans rfl, (blk_cell BK160.out 1).trans rfl, (blk_cell BK160.out 2).trans rfl, (blk_cell BK160.out 3).trans rfl, (blk_cell BK160.out 4).trans rfl, (blk_cell BK160.out 5).trans rfl, (blk_cell BK161.out 0).trans rfl, (blk_cell BK161.out 1).trans rfl⟩ (fun hHeld => ?_)
    clear hK K
    refine norm_ (a' := ?_) ?_ ?_
    rotate_left
    ·show Act.put _ (some 28) _ = _
     simp only [Act.put, List.setIfInBounds_toArray, List.set_cons_zero, List.set_cons_succ, i64_w, i32_w]
     rfl
    refine pure_ (i := 14) (N := some 29) (v := ?_) (a' := ?_) #[true, true, true, true, true, true, true, true, true, true, true, true, true, true, true, false] rfl rfl (any_of HT_.out (by kernel_rfl)) (fun _ _ _ h => h) (Or.inl ⟨by rfl, ?_⟩) ?_ ?_
    rotate_left
    ·intro w'
     go_simp
     with_reducible rfl
    rotate_left
    ·simp only [Act.put, List.setIfInBounds_toArray, List.set_cons_zero, List.set_cons_succ, i64_w, i32_w]
     rfl
    refine pure_ (i := 15) (N := some 30) (v := ?_) (a' := ?_) #[true, true, true, true, true, true, true, true, true, true, true, true, true, true, true, true] rfl rfl (any_of HT_.out (by kernel_rfl)) (fun _ _ _ h => h) (Or.inl ⟨by rfl, ?_⟩) ?_ ?_
    rotate_left
    ·intro w'
     go_simp
     with_reducible rfl
    rotate_left
    ·simp only [Act.put, List.setIfInBounds_toArray, List.set_cons_zero, List.set_cons_succ, i64_w, i32_w]
     rfl
    refine done_ (done_of HT_.out (by kernel_rfl)) ?_
    have hcz19_0 : w18.cell? ⟨gb160, 0, none⟩ = some (.bool a0_0) := (blk_cell BK160.out 0).trans rfl
    have hcz19_1 : w18.cell? ⟨gb160, 1, none⟩ = some (.int .i64 a0_1) := (blk_cell BK160.out 1).trans rfl
    have hcz19_2 : w18.cell? ⟨gb160, 2, none⟩ = some (.bool true) := (blk_cell BK160.out 2).trans rfl
    have hcz19_3 : w18.cell? ⟨gb160, 3, none⟩ = some (.int .i64 a0_3) := (blk_cell BK160.out 3).trans rfl
    have hcz19_4 : w18.cell? ⟨gb160, 4, none⟩ = some (.int .u64 1) := (blk_cell BK160.out 4).trans rfl
    have hcz19_5 : w18.cell? ⟨gb160, 5, none⟩ = some (.int .u64 a0_5) := (blk_cell BK160.out 5).trans rfl
    have hfz19_0 := blk_frozen BK160.out 0
    have hfz19_1 := blk_frozen BK160.out 1
    have hfz19_2 := blk_frozen BK160.out 2
    have hfz19_3 := blk_frozen BK160.out 3
    have hfz19_4 := blk_frozen BK160.out 4
    have hfz19_5 := blk_frozen BK160.out 5
    have hnb20 := NB161_162.out
    have hnc20 := NB162_161.out
    have hcz21_0 : w18.cell? ⟨gb161, 0, none⟩ = some (.int .i64 a1_0) := (blk_cell BK161.out 0).trans rfl
    have hcz21_1 : w18.cell? ⟨gb161, 1, none⟩ = some (.int .i64 a1_1) := (blk_cell BK161.out 1).trans rfl
    have hfz21_0 := blk_frozen BK161.out 0
    have hfz21_1 := blk_frozen BK161.out 1
    try go_wp2_with (first | ((with_reducible refine gate_callee (f := 32) rfl ?_); refine goesL_ (some 36) rfl rfl Try.func32 (by kernel_rfl) rfl #[.agg #[.bool a0_0, .int .i64 a0_1, .bool true, .int .i64 a0_3, .int .u64 (IntKind.u64.wrap (a0_4 - a0_5)), .int .u64 a0_5], .agg #[.int .i64 a1_0, .int .i64 a1_1], .int .i64 a2] rfl (by (try simp only [List.map_toArray, List.map_cons, List.map_nil]); first | done | rfl | (simp only [List.length_drop, List.length_take]; rfl)) ?_; (with_reducible refine (codel_State_later.calls k a0_0 a0_1 true a0_3 (IntKind.u64.wrap (a0_4 - a0_5)) a0_5 a1_0 a1_1 a2 t165 _ A9.out).mono ?_); rintro e w22 ⟨rfl, hb⟩; refine ⟨_, rfl, ?_⟩; have n0_ := Aside0.mk (blk_below (g := gb160) (o := .cells #[.bool a0_0, .int .i64 a0_1, .bool true, .int .i64 a0_3, .int .u64 (IntKind.u64.wrap (a0_4 - a0_5)), .int .u64 a0_5] 24 (0, 0)) (by refine blk_put (cs := #[.bool a0_0, .int .i64 a0_1, .bool true, .int .i64 a0_3, .int .u64 1, .int .u64 a0_5]) ?_ 4 _ rfl; exact BK160.out) hb); have n1_ := Aside0.mk (blk_below (g := gb161) (o := .cells #[.int .i64 a1_0, .int .i64 a1_1] 26 (0, 0)) (by refine blk_far ?_ NB161_160.out _; exact BK161.out) hb); have n2_ := Aside0.mk (blk_below (g := gb162) (o := .cells #[.bool false, .int .i64 0, .bool false, .int .i64 0, .int .u64 0, .int .u64 0] 24 (0, 0)) (by refine blk_far ?_ NB162_160.out _; exact BK162.out) hb); have n3_ := Aside0.mk (below_step (by repeat (first | (with_reducible first | exact HB.out | apply below_alloc | apply pw_below_drewN | apply below_drew1 | refine below_set ?_ GE160.out | refine below_set ?_ GE161.out | refine below_set ?_ GE162.out) | exact HB.out)) hb); clear BK160; clear BK161; clear BK162; clear HB; have BK160 := n0_; have BK161 := n1_; have BK162 := n2_; have HB := n3_; clear n0_ n1_ n2_ n3_; (try clear hb); (try clear hb2); (try clear hk); (try clear hi); have hcz23_0 : w22.cell? ⟨gb160, 0, none⟩ = some (.bool a0_0) := (blk_cell BK160.out 0).trans rfl; have hcz23_1 : w22.cell? ⟨gb160, 1, none⟩ = some (.int .i64 a0_1) := (blk_cell BK160.out 1).trans rfl; have hcz23_2 : w22.cell? ⟨gb160, 2, none⟩ = some (.bool true) := (blk_cell BK160.out 2).trans rfl; have hcz23_3 : w22.cell? ⟨gb160, 3, none⟩ = some (.int .i64 a0_3) := (blk_cell BK160.out 3).trans rfl; have hcz23_4 : w22.cell? ⟨gb160, 4, none⟩ = some (.int .u64 (IntKind.u64.wrap (a0_4 - a0_5))) := (blk_cell BK160.out 4).trans rfl; have hcz23_5 : w22.cell? ⟨gb160, 5, none⟩ = some (.int .u64 a0_5) := (blk_cell BK160.out 5).trans rfl; have hfz23_0 := blk_frozen BK160.out 0; have hfz23_1 := blk_frozen BK160.out 1; have hfz23_2 := blk_frozen BK160.out 2; have hfz23_3 := blk_frozen BK160.out 3; have hfz23_4 := blk_frozen BK160.out 4; have hfz23_5 := blk_frozen BK160.out 5; have hcz24_0 : w22.cell? ⟨gb162, 0, none⟩ = some (.bool false) := (blk_cell BK162.out 0).trans rfl; have hcz24_1 : w22.cell? ⟨gb162, 1, none⟩ = some (.int .i64 0) := (blk_cell BK162.out 1).trans rfl; have hcz24_2 : w22.cell? ⟨gb162, 2, none⟩ = some (.bool false) := (blk_cell BK162.out 2).trans rfl; have hcz24_3 : w22.cell? ⟨gb162, 3, none⟩ = some (.int .i64 0) := (blk_cell BK162.out 3).trans rfl; have hcz24_4 : w22.cell? ⟨gb162, 4, none⟩ = some (.int .u64 0) := (blk_cell BK162.out 4).trans rfl; have hcz24_5 : w22.cell? ⟨gb162, 5, none⟩ = some (.int .u64 0) := (blk_cell BK162.out 5).trans rfl; have hfz24_0 := blk_frozen BK162.out 0; have hfz24_1 := blk_frozen BK162.out 1; have hfz24_2 := blk_frozen BK162.out 2; have hfz24_3 := blk_frozen BK162.out 3; have hfz24_4 := blk_frozen BK162.out 4; have hfz24_5 := blk_frozen BK162.out 5))
    refine bodyPost_ret (results_cell_row rfl _ _ gb162 24 #[.bool a0_0, .int .i64 a0_1, .bool true, .int .i64 t165, .int .u64 (IntKind.u64.wrap (a0_4 - a0_5)), .int .u64 (IntKind.u64.wrap (a0_4 - a0_5))] (0, 0) _ rfl (by refine blk_put (cs := #[.bool a0_0, .int .i64 a0_1, .bool true, .int .i64 t165, .int .u64 (IntKind.u64.wrap (a0_4 - a0_5)), .int .u64 0]) ?_ 5 _ rfl; refine blk_put (cs := #[.bool a0_0, .int .i64 a0_1, .bool true, .int .i64 t165, .int .u64 0, .int .u64 0]) ?_ 4 _ rfl; refine blk_put (cs := #[.bool a0_0, .int .i64 a0_1, .bool true, .int .i64 0, .int .u64 0, .int .u64 0]) ?_ 3 _ rfl; refine blk_put (cs := #[.bool a0_0, .int .i64 a0_1, .bool false, .int .i64 0, .int .u64 0, .int .u64 0]) ?_ 2 _ rfl; refine blk_put (cs := #[.bool a0_0, .int .i64 0, .bool false, .int .i64 0, .int .u64 0, .int .u64 0]) ?_ 1 _ rfl; refine blk_put (cs := #[.bool false, .int .i64 0, .bool false, .int .i64 0, .int .u64 0, .int .u64 0]) ?_ 0 _ rfl; refine blk_far ?_ NB162_160.out _; refine blk_far ?_ NB162_160.out _; exact BK162.out) Try.underlying24 rfl (by kernel_rfl)) rfl ?_
    exact ⟨by first | rfl | (simp [errW_none, errW_some] <;> rfl) | (simp [*, errW_none, errW_some] <;> rfl), by repeat (first | (with_reducible first | exact HB.out | apply below_alloc | apply pw_below_drewN | apply below_drew1 | refine below_set ?_ GE160.out | refine below_set ?_ GE161.out | refine below_set ?_ GE162.out) | exact HB.out)⟩
   ·rw [if_neg c8] at H
    have c8b0 : decide (t163 < t164) = false := decide_eq_false c8
    clear c8
    replace H := Option.bind_eq_some_iff.mp H
    obtain ⟨t166, A250, H⟩ := H
    replace H : (some (a0_0, a0_1, true, t166, 1, 1)) = some (r1, r2, r3, r4, r5, r6) := H
    have A25 := Aside0.mk A250
    clear A250
    simp only [Option.some.injEq, Prod.mk.injEq] at H
    obtain ⟨rfl, rfl, rfl, rfl, rfl, rfl⟩ := H
    go_enter Try.func29, Try.ntmps29
    try go_wp2_with (first | ((with_reducible refine gate_dst (N := 3) rfl ?_); refine box_event ?hg (N := 3) ?hd (cs := #[.bool a0_0, .int .i64 a0_1, .bool a0_2, .int .i64 a0_3, .int .u64 a0_4, .int .u64 a0_5]) (t := 24) ?hr ?_; (case hd => rfl); (case hg => rfl); (case hr => first | (go_simp; done) | (go_simp; rfl)); intro gb160 hg w26 hbox hb; have n0_ := Aside0.mk (below_step (by repeat (first | (with_reducible first | exact HB.out | apply below_alloc | apply pw_below_drewN | apply below_drew1) | exact HB.out)) hb); have n1_ := Aside0.mk (hbox); have n2_ := Aside0.mk ((by rw [hg]; exact (below_size (by repeat (first | (with_reducible first | exact HB.out | apply below_alloc | apply pw_below_drewN | apply below_drew1) | exact HB.out))) : w.heap.size ≤ gb160)); have n3_ := Aside0.mk ((by rw [hg]; exact (below_size (by repeat (first | (with_reducible first | exact HB.out | apply below_alloc | apply pw_below_drewN | apply below_drew1) | exact HB.out))) : w.heap.size ≤ gb160)); clear HB; have HB := n0_; have BK160 := n1_; have GW160 := n2_; have GE160 := n3_; clear n0_ n1_ n2_ n3_; clear hb hbox hg) | ((with_reducible refine gate_dst (N := 4) rfl ?_); refine box_event ?hg (N := 4) ?hd (cs := #[.int .i64 a1_0, .int .i64 a1_1]) (t := 26) ?hr ?_; (case hd => rfl); (case hg => rfl); (case hr => first | (go_simp; done) | (go_simp; rfl)); intro gb161 hg w27 hbox hb; have n0_ := Aside0.mk (blk_below (by exact BK160.out) hb); have n1_ := Aside0.mk (below_step (by repeat (first | (with_reducible first | exact HB.out | apply below_alloc | apply pw_below_drewN | apply below_drew1 | refine below_set ?_ GE160.out) | exact HB.out)) hb); have n2_ := Aside0.mk (hbox); have n3_ := Aside0.mk ((by rw [hg]; exact (below_size (by repeat (first | (with_reducible first | exact HB.out | apply below_alloc | apply pw_below_drewN | apply below_drew1 | refine below_set ?_ GE160.out) | exact HB.out))) : w.heap.size ≤ gb161)); have n4_ := Aside0.mk ((by rw [hg]; exact (below_size (by repeat (first | (with_reducible first | exact HB.out | apply below_alloc | apply pw_below_drewN | apply below_drew1 | refine below_set ?_ GE160.out) | exact HB.out))) : w.heap.size ≤ gb161)); have n5_ := Aside0.mk ((by rw [hg]; exact Nat.ne_of_lt (blk_lt (by exact BK160.out)) : gb160 ≠ gb161)); have n6_ := Aside0.mk ((by rw [hg]; exact Nat.ne_of_gt (blk_lt (by exact BK160.out)) : gb161 ≠ gb160)); clear BK160; clear HB; have BK160 := n0_; have HB := n1_; have BK161 := n2_; have GW161 := n3_; have GE161 := n4_; have NB160_161 := n5_; have NB161_160 := n6_; clear n0_ n1_ n2_ n3_ n4_ n5_ n6_; clear hb hbox hg) | ((with_reducible refine gate_dst (N := 6) rfl ?_); refine box_event ?hg (N := 6) ?hd (cs := #[.bool false, .int .i64 0, .bool false, .int .i64 0, .int .u64 0, .int .u64 0]) (t := 24) ?hr ?_; (case hd => rfl); (case hg => rfl); (case hr => first | (go_simp; done) | (go_simp; rfl)); intro gb162 hg w28 hbox hb; have n0_ := Aside0.mk (blk_below (by exact BK160.out) hb); have n1_ := Aside0.mk (blk_below (by exact BK161.out) hb); have n2_ := Aside0.mk (below_step (by repeat (first | (with_reducible first | exact HB.out | apply below_alloc | apply pw_below_drewN | apply below_drew1 | refine below_set ?_ GE160.out | refine below_set ?_ GE161.out) | exact HB.out)) hb); have n3_ := Aside0.mk (hbox); have n4_ := Aside0.mk ((by rw [hg]; exact (below_size (by repeat (first | (with_reducible first | exact HB.out | apply below_alloc | apply pw_below_drewN | apply below_drew1 | refine below_set ?_ GE160.out | refine below_set ?_ GE161.out) | exact HB.out))) : w.heap.size ≤ gb162)); have n5_ := Aside0.mk ((by rw [hg]; exact (below_size (by repeat (first | (with_reducible first | exact HB.out | apply below_alloc | apply pw_below_drewN | apply below_drew1 | refine below_set ?_ GE160.out | refine below_set ?_ GE161.out) | exact HB.out))) : w.heap.size ≤ gb162)); have n6_ := Aside0.mk ((by rw [hg]; exact Nat.ne_of_lt (blk_lt (by exact BK160.out)) : gb160 ≠ gb162)); have n7_ := Aside0.mk ((by rw [hg]; exact Nat.ne_of_gt (blk_lt (by exact BK160.out)) : gb162 ≠ gb160)); have n8_ := Aside0.mk ((by rw [hg]; exact Nat.ne_of_lt (blk_lt (by exact BK161.out)) : gb161 ≠ gb162)); have n9_ := Aside0.mk ((by rw [hg]; exact Nat.ne_of_gt (blk_lt (by exact BK161.out)) : gb162 ≠ gb161)); clear BK160; clear BK161; clear HB; have BK160 := n0_; have BK161 := n1_; have HB := n2_; have BK162 := n3_; have GW162 := n4_; have GE162 := n5_; have NB160_162 := n6_; have NB162_160 := n7_; have NB161_162 := n8_; have NB162_161 := n9_; clear n0_ n1_ n2_ n3_ n4_ n5_ n6_ n7_ n8_ n9_; clear hb hbox hg; have hnb29 := NB160_161.out; have hnc29 := NB161_160.out; have hnb30 := NB160_162.out; have hnc30 := NB162_160.out; have hcz31_0 : w28.cell? ⟨gb160, 0, none⟩ = some (.bool a0_0) := (blk_cell BK160.out 0).trans rfl; have hcz31_1 : w28.cell? ⟨gb160, 1, none⟩ = some (.int .i64 a0_1) := (blk_cell BK160.out 1).trans rfl; have hcz31_2 : w28.cell? ⟨gb160, 2, none⟩ = some (.bool a0_2) := (blk_cell BK160.out 2).trans rfl; have hcz31_3 : w28.cell? ⟨gb160, 3, none⟩ = some (.int .i64 a0_3) := (blk_cell BK160.out 3).trans rfl; have hcz31_4 : w28.cell? ⟨gb160, 4, none⟩ = some (.int .u64 a0_4) := (blk_cell BK160.out 4).trans rfl; have hcz31_5 : w28.cell? ⟨gb160, 5, none⟩ = some (.int .u64 a0_5) := (blk_cell BK160.out 5).trans rfl; have hfz31_0 := blk_frozen BK160.out 0; have hfz31_1 := blk_frozen BK160.out 1; have hfz31_2 := blk_frozen BK160.out 2; have hfz31_3 := blk_frozen BK160.out 3; have hfz31_4 := blk_frozen BK160.out 4; have hfz31_5 := blk_frozen BK160.out 5))
    have n0_ : Aside0 (((w28.setCell ⟨gb160, 2, none⟩ (.bool true)).setCell ⟨gb160, 4, none⟩ (.int .u64 1)).heap[gb160]? = some (.cells #[.bool a0_0, .int .i64 a0_1, .bool true, .int .i64 a0_3, .int .u64 1, .int .u64 a0_5] 24 (0, 0))) := ⟨by refine blk_put (cs := #[.bool a0_0, .int .i64 a0_1, .bool true, .int .i64 a0_3, .int .u64 a0_4, .int .u64 a0_5]) ?_ 4 _ rfl; refine blk_put (cs := #[.bool a0_0, .int .i64 a0_1, .bool a0_2, .int .i64 a0_3, .int .u64 a0_4, .int .u64 a0_5]) ?_ 2 _ rfl; exact BK160.out⟩
    have n1_ : Aside0 (((w28.setCell ⟨gb160, 2, none⟩ (.bool true)).setCell ⟨gb160, 4, none⟩ (.int .u64 1)).heap[gb161]? = some (.cells #[.int .i64 a1_0, .int .i64 a1_1] 26 (0, 0))) := ⟨by refine blk_far ?_ NB161_160.out _; refine blk_far ?_ NB161_160.out _; exact BK161.out⟩
    have n2_ : Aside0 (((w28.setCell ⟨gb160, 2, none⟩ (.bool true)).setCell ⟨gb160, 4, none⟩ (.int .u64 1)).heap[gb162]? = some (.cells #[.bool false, .int .i64 0, .bool false, .int .i64 0, .int .u64 0, .int .u64 0] 24 (0, 0))) := ⟨by refine blk_far ?_ NB162_160.out _; refine blk_far ?_ NB162_160.out _; exact BK162.out⟩
    have n3_ : Aside0 (Below w.heap.size w ((w28.setCell ⟨gb160, 2, none⟩ (.bool true)).setCell ⟨gb160, 4, none⟩ (.int .u64 1))) := ⟨by repeat (first | (with_reducible first | exact HB.out | apply below_alloc | apply pw_below_drewN | apply below_drew1 | refine below_set ?_ GE160.out | refine below_set ?_ GE161.out | refine below_set ?_ GE162.out) | exact HB.out)⟩
    (try clear BK160)
    (try clear BK161)
    (try clear BK162)
    (try clear HB)
    generalize ((w28.setCell ⟨gb160, 2, none⟩ (.bool true)).setCell ⟨gb160, 4, none⟩ (.int .u64 1)) = w32 at n0_ n1_ n2_ n3_ ⊢
    have BK160 := n0_
    have BK161 := n1_
    have BK162 := n2_
    have HB := n3_
    clear n0_ n1_ n2_ n3_
    have n0_ := Aside0.mk (blk_drew BK160.out)
    have n1_ := Aside0.mk (blk_drew BK161.out)
    have n2_ := Aside0.mk (blk_drew BK162.out)
    have n3_ := Aside0.mk (below_drew1 HB.out)
    clear BK160
    clear BK161
    clear BK162
    clear HB
    have BK160 := n0_
    have BK161 := n1_
    have BK162 := n2_
    have HB := n3_
    clear n0_ n1_ n2_ n3_
    refine start_ (n := 16) (S := fun w' => w'.cell? ⟨gb160, 0, none⟩ = some (.bool a0_0) ∧ w'.cell? ⟨gb160, 1, none⟩ = some (.int .i64 a0_1) ∧ w'.cell? ⟨gb160, 2, none⟩ = some (.bool true) ∧ w'.cell? ⟨gb160, 3, none⟩ = some (.int .i64 a0_3) ∧ w'.cell? ⟨gb160, 4, none⟩ = some (.int .u64 1) ∧ w'.cell? ⟨gb160, 5, none⟩ = some (.int .u64 a0_5) ∧ w'.cell? ⟨gb161, 0, none⟩ = some (.int .i64 a1_0) ∧ w'.cell? ⟨gb161, 1, none⟩ = some (.int .i64 a1_1)) (ds := []) #[false, false, false, false, false, false, false, false, false, false, false, false, false, false, false, false] (by kernel_rfl) rfl rfl ⟨(blk_cell BK160.out 0).trans rfl, (blk_cell BK160.out 1).trans rfl, (blk_cell BK160.out 2).trans rfl, (blk_cell BK160.out 3).trans rfl, (blk_cell BK160.out 4).trans rfl, (blk_cell BK160.out 5).trans rfl, (blk_cell BK161.out 0).trans rfl, (blk_cell BK161.out 1).trans rfl⟩ (fun hHeld => ?_); refine with_tabW codel_State_enter.tab3 codel_State_enter.bits3 (fun HT_ HW_ => ?_)
    generalize w32.drew = w33 at BK160 BK161 BK162 HB hHeld ⊢
    refine pure_ (i := 0) (N := some 15) (v := ?_) (a' := ?_) #[true, false, false, false, false, false, false, false, false, false, false, false, false, false, false, false] rfl rfl (any_of HT_.out (by kernel_rfl)) (fun _ _ _ h => h) (Or.inl ⟨by rfl, ?_⟩) ?_ ?_
    rotate_left
    ·intro w'
     go_simp
     with_reducible rfl
    rotate_left
    ·simp only [Act.put, List.setIfInBounds_toArray, List.set_cons_zero, List.set_cons_succ, i64_w, i32_w]
     rfl
    refine pure_ (i := 1) (N := some 16) (v := ?_) (a' := ?_) #[true, true, false, false, false, false, false, false, false, false, false, false, false, false, false, false] rfl rfl (any_of HT_.out (by kernel_rfl)) (fun _ _ _ h => h) (Or.inl ⟨by rfl, ?_⟩) ?_ ?_
    rotate_left
    ·intro w'
     go_simp
     with_reducible rfl
    rotate_left
    ·simp only [Act.put, List.setIfInBounds_toArray, List.set_cons_zero, List.set_cons_succ, i64_w, i32_w]
     rfl
    refine pure_ (i := 2) (N := some 17) (v := ?_) (a' := ?_) #[true, true, true, false, false, false, false, false, false, false, false, false, false, false, false, false] rfl rfl (any_of HT_.out (by kernel_rfl)) (fun _ _ _ h => h) (Or.inl ⟨by rfl, ?_⟩) ?_ ?_
    rotate_left
    ·intro w'
     go_simp
     with_reducible rfl
    rotate_left
    ·simp only [Act.put, List.setIfInBounds_toArray, List.set_cons_zero, List.set_cons_succ, i64_w, i32_w]
     rfl
    refine pure_ (i := 3) (N := some 18) (v := ?_) (a' := ?_) #[true, true, true, true, false, false, false, false, false, false, false, false, false, false, false, false] rfl rfl (any_of HT_.out (by kernel_rfl)) (fun _ _ _ h => h) (Or.inl ⟨by rfl, ?_⟩) ?_ ?_
    rotate_left
    ·intro w'
     go_simp
     with_reducible rfl
    rotate_left
    ·simp only [Act.put, List.setIfInBounds_toArray, List.set_cons_zero, List.set_cons_succ, i64_w, i32_w]
     rfl
    refine pure_ (i := 4) (N := some 19) (v := ?_) (a' := ?_) #[true, true, true, true, true, false, false, false, false, false, false, false, false, false, false, false] rfl rfl (any_of HT_.out (by kernel_rfl)) (fun _ _ _ h => h) (Or.inl ⟨by rfl, ?_⟩) ?_ ?_
    rotate_left
    ·intro w'
     go_simp
     with_reducible rfl
    rotate_left
    ·simp only [Act.put, List.setIfInBounds_toArray, List.set_cons_zero, List.set_cons_succ, i64_w, i32_w]
     rfl
    refine pure_ (i := 5) (N := some 20) (v := ?_) (a' := ?_) #[true, true, true, true, true, true, false, false, false, false, false, false, false, false, false, false] rfl rfl (any_of HT_.out (by kernel_rfl)) (fun _ _ _ h => h) (Or.inl ⟨by rfl, ?_⟩) ?_ ?_
    rotate_left
    ·intro w'
     go_simp
     with_reducible rfl
    rotate_left
    ·simp only [Act.put, List.setIfInBounds_toArray, List.set_cons_zero, List.set_cons_succ, i64_w, i32_w]
     rfl
    refine pure_ (i := 6) (N := some 21) (v := ?_) (a' := ?_) #[true, true, true, true, true, true, true, false, false, false, false, false, false, false, false, false] rfl rfl (any_of HT_.out (by kernel_rfl)) (fun _ _ _ h => h) (Or.inl ⟨by rfl, ?_⟩) ?_ ?_
    rotate_left
    ·intro w'
     go_simp
     with_reducible rfl
    rotate_left
    ·simp only [Act.put, List.setIfInBounds_toArray, List.set_cons_zero, List.set_cons_succ, i64_w, i32_w]
     rfl
    refine pure_ (i := 7) (N := some 22) (v := ?_) (a' := ?_) #[true, true, true, true, true, true, true, true, false, false, false, false, false, false, false, false] rfl rfl (any_of HT_.out (by kernel_rfl)) (fun _ _ _ h => h) (Or.inl ⟨by rfl, ?_⟩) ?_ ?_
    rotate_left
    ·intro w'
     go_simp
     with_reducible rfl
    rotate_left
    ·simp only [Act.put, List.setIfInBounds_toArray, List.set_cons_zero, List.set_cons_succ, i64_w, i32_w]
     rfl
    refine pure_ (i := 8) (N := some 23) (v := ?_) (a' := ?_) #[true, true, true, true, true, true, true, true, true, false, false, false, false, false, false, false] rfl rfl (any_of HT_.out (by kernel_rfl)) (fun _ _ _ h => h) (Or.inl ⟨by rfl, ?_⟩) ?_ ?_
    rotate_left
    ·intro w'
     go_simp
     with_reducible rfl
    rotate_left
    ·simp only [Act.put, List.setIfInBounds_toArray, List.set_cons_zero, List.set_cons_succ, i64_w, i32_w]
     rfl
    refine pure_ (i := 11) (N := some 26) (v := ?_) (a' := ?_) #[true, true, true, true, true, true, true, true, true, false, false, true, false, false, false, false] rfl rfl (any_of HT_.out (by kernel_rfl)) (fun _ _ _ h => h) (Or.inl ⟨by rfl, ?_⟩) ?_ ?_
    rotate_left
    ·intro w'
     go_simp
     with_reducible rfl
    rotate_left
    ·simp only [Act.put, List.setIfInBounds_toArray, List.set_cons_zero, List.set_cons_succ, i64_w, i32_w]
     rfl
    refine take_ (i := 9) (N := some 24) (v := ?_) (a' := ?_) #[true, true, true, true, true, true, true, true, true, true, false, true, false, false, false, false] rfl rfl (take_ofW HT_.out HW_.out (by kernel_rfl)) (fun _ _ _ h => h) (Or.inl ⟨by rfl, ?_⟩) hHeld ?_ ?_
    rotate_left
    ·rintro w' ⟨s0, s1, s2, s3, s4, s5, s6, s7⟩
     go_simp
     with_reducible rfl
    rotate_left
    ·simp only [Act.put, List.setIfInBounds_toArray, List.set_cons_zero, List.set_cons_succ, i64_w, i32_w]
     rfl
    refine take_ (i := 12) (N := some 27) (v := ?_) (a' := ?_) #[true, true, true, true, true, true, true, true, true, true, false, true, true, false, false, false] rfl rfl (take_ofW HT_.out HW_.out (by kernel_rfl)) (fun _ _ _ h => h) (Or.inl ⟨by rfl, ?_⟩) hHeld ?_ ?_
    rotate_left
    ·rintro w' ⟨s0, s1, s2, s3, s4, s5, s6, s7⟩
     go_simp
     with_reducible rfl
    rotate_left
    ·simp only [Act.put, List.setIfInBounds_toArray, List.set_cons_zero, List.set_cons_succ, i64_w, i32_w]
     rfl
    refine one_ (i := 10) (N := some 25) #[true, true, true, true, true, true, true, true, true, true, true, true, true, false, false, false] rfl rfl (one_of HT_.out (by kernel_rfl)) (by decide) (fun K hK => ?_)
    refine goes_ Try.func37 (by kernel_rfl) rfl #[.int .i64 a2, .int .i64 a0_3] (by rfl) rfl rfl (by (try simp only [List.map_toArray, List.map_cons, List.map_nil]); first | done | rfl | (simp only [List.length_drop, List.length_take]; rfl)) ?_
    with_reducible refine (fix_Sub.calls a2 a0_3 t163 _ A6.out).mono ?_
    rintro e w' ⟨rfl, ⟨nd, rfl⟩⟩
    refine ⟨_, rfl, ?_⟩
    refine hK.out _ _ ⟨(blk_cell BK160.out 0).trans rfl, (blk_cell BK160.out 1).trans rfl, (blk_cell BK160.out 2).trans rfl, (blk_cell BK160.out 3).trans rfl, (blk_cell BK160.out 4).trans rfl, (blk_cell BK160.out 5).trans rfl, (blk_cell BK161.out 0).trans rfl, (blk_cell BK161.out 1).trans rfl⟩ (fun hHeld => ?_)
    clear hK K
    refine norm_ (a' := ?_) ?_ ?_
    rotate_left
    ·show Act.put _ (some 25) _ = _
     simp only [Act.put, List.setIfInBounds_toArray, List.set_cons_zero, List.set_cons_succ, i64_w, i32_w]
     rfl
    refine one_ (i := 13) (N := some 28) #[true, true, true, true, true, true, true, true, true, true, true, true, true, true, false, false] rfl rfl (one_of HT_.out (by kernel_rfl)) (by decide) (fun K hK => ?_)
    refine goes_ Try.func38 (by kernel_rfl) rfl #[.int .i64 16, .int .i64 a1_1] (by rfl) rfl rfl (by (try simp only [List.map_toArray, List.map_cons, List.map_nil]); first | done | rfl | (simp only [List.length_drop, List.length_take]; rfl)) ?_
    with_reducible refine (fix_Mul.calls k 16 a1_1 t164 _ A7.out).mono ?_
    rintro e w34 ⟨rfl, hb⟩
    refine ⟨_, rfl, ?_⟩
    have n0_ := Aside0.mk (blk_below (by exact BK160.out) hb)
    have n1_ := Aside0.mk (blk_below (by exact BK161.out) hb)
    have n2_ := Aside0.mk (blk_below (by exact BK162.out) hb)
    have n3_ := Aside0.mk (below_step (by repeat (first | (with_reducible first | exact HB.out | apply below_alloc | apply pw_below_drewN | apply below_drew1 | refine below_set ?_ GE160.out | refine below_set ?_ GE161.out | refine below_set ?_ GE162.out) | exact HB.out)) hb)
    clear BK160
    clear BK161
    clear BK162
    clear HB
    have BK160 := n0_
    have BK161 := n1_
    have BK162 := n2_
    have HB := n3_
    clear n0_ n1_ n2_ n3_
    (try clear hb)
    (try clear hb2)
    (try clear hk)
    (try clear hi)
    refine hK.out _ _ ⟨(blk_cell BK160.out 0).trans rfl, (blk_cell BK160.out 1).trans rfl, (blk_cell BK160.out 2).trans rfl, (blk_cell BK160.out 3).trans rfl, (blk_cell BK160.out 4).trans rfl, (blk_cell BK160.out 5).trans rfl, (blk_cell BK161.out 0).trans rfl, (blk_cell BK161.out 1).trans rfl⟩ (fun hHeld => ?_)
    clear hK K
    refine norm_ (a' := ?_) ?_ ?_
    rotate_left
    ·show Act.put _ (some 28) _ = _
     simp only [Act.put, List.setIfInBounds_toArray, List.set_cons_zero, List.set_cons_succ, i64_w, i32_w]
     rfl
    refine pure_ (i := 14) (N := some 29) (v := ?_) (a' := ?_) #[true, true, true, true, true, true, true, true, true, true, true, true, true, true, true, false] rfl rfl (any_of HT_.out (by kernel_rfl)) (fun _ _ _ h => h) (Or.inl ⟨by rfl, ?_⟩) ?_ ?_
    rotate_left
    ·intro w'
     go_simp
     with_reducible rfl
    rotate_left
    ·simp only [Act.put, List.setIfInBounds_toArray, List.set_cons_zero, List.set_cons_succ, i64_w, i32_w]
     rfl
    refine pure_ (i := 15) (N := some 30) (v := ?_) (a' := ?_) #[true, true, true, true, true, true, true, true, true, true, true, true, true, true, true, true] rfl rfl (any_of HT_.out (by kernel_rfl)) (fun _ _ _ h => h) (Or.inl ⟨by rfl, ?_⟩) ?_ ?_
    rotate_left
    ·intro w'
     go_simp
     with_reducible rfl
    rotate_left
    ·simp only [Act.put, List.setIfInBounds_toArray, List.set_cons_zero, List.set_cons_succ, i64_w, i32_w]
     rfl
    refine done_ (done_of HT_.out (by kernel_rfl)) ?_
    have hcz35_0 : w34.cell? ⟨gb160, 0, none⟩ = some (.bool a0_0) := (blk_cell BK160.out 0).trans rfl
    have hcz35_1 : w34.cell? ⟨gb160, 1, none⟩ = some (.int .i64 a0_1) := (blk_cell BK160.out 1).trans rfl
    have hcz35_2 : w34.cell? ⟨gb160, 2, none⟩ = some (.bool true) := (blk_cell BK160.out 2).trans rfl
    have hcz35_3 : w34.cell? ⟨gb160, 3, none⟩ = some (.int .i64 a0_3) := (blk_cell BK160.out 3).trans rfl
    have hcz35_4 : w34.cell? ⟨gb160, 4, none⟩ = some (.int .u64 1) := (blk_cell BK160.out 4).trans rfl
    have hcz35_5 : w34.cell? ⟨gb160, 5, none⟩ = some (.int .u64 a0_5) := (blk_cell BK160.out 5).trans rfl
    have hfz35_0 := blk_frozen BK160.out 0
    have hfz35_1 := blk_frozen BK160.out 1
    have hfz35_2 := blk_frozen BK160.out 2
    have hfz35_3 := blk_frozen BK160.out 3
    have hfz35_4 := blk_frozen BK160.out 4
    have hfz35_5 := blk_frozen BK160.out 5
    have hnb36 := NB161_162.out
    have hnc36 := NB162_161.out
    have hcz37_0 : w34.cell? ⟨gb161, 0, none⟩ = some (.int .i64 a1_0) := (blk_cell BK161.out 0).trans rfl
    have hcz37_1 : w34.cell? ⟨gb161, 1, none⟩ = some (.int .i64 a1_1) := (blk_cell BK161.out 1).trans rfl
    have hfz37_0 := blk_frozen BK161.out 0
    have hfz37_1 := blk_frozen BK161.out 1
    try go_wp2_with (first | ((with_reducible refine gate_callee (f := 32) rfl ?_); refine goesL_ (some 36) rfl rfl Try.func32 (by kernel_rfl) rfl #[.agg #[.bool a0_0, .int .i64 a0_1, .bool true, .int .i64 a0_3, .int .u64 1, .int .u64 a0_5], .agg #[.int .i64 a1_0, .int .i64 a1_1], .int .i64 a2] rfl (by (try simp only [List.map_toArray, List.map_cons, List.map_nil]); first | done | rfl | (simp only [List.length_drop, List.length_take]; rfl)) ?_; (with_reducible refine (codel_State_later.calls k a0_0 a0_1 true a0_3 1 a0_5 a1_0 a1_1 a2 t166 _ A25.out).mono ?_); rintro e w38 ⟨rfl, hb⟩; refine ⟨_, rfl, ?_⟩; have n0_ := Aside0.mk (blk_below (by exact BK160.out) hb); have n1_ := Aside0.mk (blk_below (by exact BK161.out) hb); have n2_ := Aside0.mk (blk_below (by exact BK162.out) hb); have n3_ := Aside0.mk (below_step (by repeat (first | (with_reducible first | exact HB.out | apply below_alloc | apply pw_below_drewN | apply below_drew1 | refine below_set ?_ GE160.out | refine below_set ?_ GE161.out | refine below_set ?_ GE162.out) | exact HB.out)) hb); clear BK160; clear BK161; clear BK162; clear HB; have BK160 := n0_; have BK161 := n1_; have BK162 := n2_; have HB := n3_; clear n0_ n1_ n2_ n3_; (try clear hb); (try clear hb2); (try clear hk); (try clear hi); have hcz39_0 : w38.cell? ⟨gb160, 0, none⟩ = some (.bool a0_0) := (blk_cell BK160.out 0).trans rfl; have hcz39_1 : w38.cell? ⟨gb160, 1, none⟩ = some (.int .i64 a0_1) := (blk_cell BK160.out 1).trans rfl; have hcz39_2 : w38.cell? ⟨gb160, 2, none⟩ = some (.bool true) := (blk_cell BK160.out 2).trans rfl; have hcz39_3 : w38.cell? ⟨gb160, 3, none⟩ = some (.int .i64 a0_3) := (blk_cell BK160.out 3).trans rfl; have hcz39_4 : w38.cell? ⟨gb160, 4, none⟩ = some (.int .u64 1) := (blk_cell BK160.out 4).trans rfl; have hcz39_5 : w38.cell? ⟨gb160, 5, none⟩ = some (.int .u64 a0_5) := (blk_cell BK160.out 5).trans rfl; have hfz39_0 := blk_frozen BK160.out 0; have hfz39_1 := blk_frozen BK160.out 1; have hfz39_2 := blk_frozen BK160.out 2; have hfz39_3 := blk_frozen BK160.out 3; have hfz39_4 := blk_frozen BK160.out 4; have hfz39_5 := blk_frozen BK160.out 5; have hcz40_0 : w38.cell? ⟨gb162, 0, none⟩ = some (.bool false) := (blk_cell BK162.out 0).trans rfl; have hcz40_1 : w38.cell? ⟨gb162, 1, none⟩ = some (.int .i64 0) := (blk_cell BK162.out 1).trans rfl; have hcz40_2 : w38.cell? ⟨gb162, 2, none⟩ = some (.bool false) := (blk_cell BK162.out 2).trans rfl; have hcz40_3 : w38.cell? ⟨gb162, 3, none⟩ = some (.int .i64 0) := (blk_cell BK162.out 3).trans rfl; have hcz40_4 : w38.cell? ⟨gb162, 4, none⟩ = some (.int .u64 0) := (blk_cell BK162.out 4).trans rfl; have hcz40_5 : w38.cell? ⟨gb162, 5, none⟩ = some (.int .u64 0) := (blk_cell BK162.out 5).trans rfl; have hfz40_0 := blk_frozen BK162.out 0; have hfz40_1 := blk_frozen BK162.out 1; have hfz40_2 := blk_frozen BK162.out 2; have hfz40_3 := blk_frozen BK162.out 3; have hfz40_4 := blk_frozen BK162.out 4; have hfz40_5 := blk_frozen BK162.out 5))
    refine bodyPost_ret (results_cell_row rfl _ _ gb162 24 #[.bool a0_0, .int .i64 a0_1, .bool true, .int .i64 t166, .int .u64 1, .int .u64 1] (0, 0) _ rfl (by refine blk_put (cs := #[.bool a0_0, .int .i64 a0_1, .bool true, .int .i64 t166, .int .u64 1, .int .u64 0]) ?_ 5 _ rfl; refine blk_put (cs := #[.bool a0_0, .int .i64 a0_1, .bool true, .int .i64 t166, .int .u64 0, .int .u64 0]) ?_ 4 _ rfl; refine blk_put (cs := #[.bool a0_0, .int .i64 a0_1, .bool true, .int .i64 0, .int .u64 0, .int .u64 0]) ?_ 3 _ rfl; refine blk_put (cs := #[.bool a0_0, .int .i64 a0_1, .bool false, .int .i64 0, .int .u64 0, .int .u64 0]) ?_ 2 _ rfl; refine blk_put (cs := #[.bool a0_0, .int .i64 0, .bool false, .int .i64 0, .int .u64 0, .int .u64 0]) ?_ 1 _ rfl; refine blk_put (cs := #[.bool false, .int .i64 0, .bool false, .int .i64 0, .int .u64 0, .int .u64 0]) ?_ 0 _ rfl; refine blk_far ?_ NB162_160.out _; refine blk_far ?_ NB162_160.out _; exact BK162.out) Try.underlying24 rfl (by kernel_rfl)) rfl ?_
    exact ⟨by first | rfl | (simp [errW_none, errW_some] <;> rfl) | (simp [*, errW_none, errW_some] <;> rfl), by repeat (first | (with_reducible first | exact HB.out | apply below_alloc | apply pw_below_drewN | apply below_drew1 | refine below_set ?_ GE160.out | refine below_set ?_ GE161.out | refine below_set ?_ GE162.out) | exact HB.out)⟩
  ·rw [if_neg c5] at H
   have c5b0 : decide ((IntKind.u64.wrap (a0_4 - a0_5)) ≤ 9223372036854775808) = false := decide_eq_false c5
   clear c5
   replace H := Option.bind_eq_some_iff.mp H
   obtain ⟨t167, A410, H⟩ := H
   replace H : (some (a0_0, a0_1, true, t167, 1, 1)) = some (r1, r2, r3, r4, r5, r6) := H
   have A41 := Aside0.mk A410
   clear A410
   simp only [Option.some.injEq, Prod.mk.injEq] at H
   obtain ⟨rfl, rfl, rfl, rfl, rfl, rfl⟩ := H
   go_enter Try.func29, Try.ntmps29
   try go_wp2_with (first | ((with_reducible refine gate_dst (N := 3) rfl ?_); refine box_event ?hg (N := 3) ?hd (cs := #[.bool a0_0, .int .i64 a0_1, .bool a0_2, .int .i64 a0_3, .int .u64 a0_4, .int .u64 a0_5]) (t := 24) ?hr ?_; (case hd => rfl); (case hg => rfl); (case hr => first | (go_simp; done) | (go_simp; rfl)); intro gb160 hg w42 hbox hb; have n0_ := Aside0.mk (below_step (by repeat (first | (with_reducible first | exact HB.out | apply below_alloc | apply pw_below_drewN | apply below_drew1) | exact HB.out)) hb); have n1_ := Aside0.mk (hbox); have n2_ := Aside0.mk ((by rw [hg]; exact (below_size (by repeat (first | (with_reducible first | exact HB.out | apply below_alloc | apply pw_below_drewN | apply below_drew1) | exact HB.out))) : w.heap.size ≤ gb160)); have n3_ := Aside0.mk ((by rw [hg]; exact (below_size (by repeat (first | (with_reducible first | exact HB.out | apply below_alloc | apply pw_below_drewN | apply below_drew1) | exact HB.out))) : w.heap.size ≤ gb160)); clear HB; have HB := n0_; have BK160 := n1_; have GW160 := n2_; have GE160 := n3_; clear n0_ n1_ n2_ n3_; clear hb hbox hg) | ((with_reducible refine gate_dst (N := 4) rfl ?_); refine box_event ?hg (N := 4) ?hd (cs := #[.int .i64 a1_0, .int .i64 a1_1]) (t := 26) ?hr ?_; (case hd => rfl); (case hg => rfl); (case hr => first | (go_simp; done) | (go_simp; rfl)); intro gb161 hg w43 hbox hb; have n0_ := Aside0.mk (blk_below (by exact BK160.out) hb); have n1_ := Aside0.mk (below_step (by repeat (first | (with_reducible first | exact HB.out | apply below_alloc | apply pw_below_drewN | apply below_drew1 | refine below_set ?_ GE160.out) | exact HB.out)) hb); have n2_ := Aside0.mk (hbox); have n3_ := Aside0.mk ((by rw [hg]; exact (below_size (by repeat (first | (with_reducible first | exact HB.out | apply below_alloc | apply pw_below_drewN | apply below_drew1 | refine below_set ?_ GE160.out) | exact HB.out))) : w.heap.size ≤ gb161)); have n4_ := Aside0.mk ((by rw [hg]; exact (below_size (by repeat (first | (with_reducible first | exact HB.out | apply below_alloc | apply pw_below_drewN | apply below_drew1 | refine below_set ?_ GE160.out) | exact HB.out))) : w.heap.size ≤ gb161)); have n5_ := Aside0.mk ((by rw [hg]; exact Nat.ne_of_lt (blk_lt (by exact BK160.out)) : gb160 ≠ gb161)); have n6_ := Aside0.mk ((by rw [hg]; exact Nat.ne_of_gt (blk_lt (by exact BK160.out)) : gb161 ≠ gb160)); clear BK160; clear HB; have BK160 := n0_; have HB := n1_; have BK161 := n2_; have GW161 := n3_; have GE161 := n4_; have NB160_161 := n5_; have NB161_160 := n6_; clear n0_ n1_ n2_ n3_ n4_ n5_ n6_; clear hb hbox hg) | ((with_reducible refine gate_dst (N := 6) rfl ?_); refine box_event ?hg (N := 6) ?hd (cs := #[.bool false, .int .i64 0, .bool false, .int .i64 0, .int .u64 0, .int .u64 0]) (t := 24) ?hr ?_; (case hd => rfl); (case hg => rfl); (case hr => first | (go_simp; done) | (go_simp; rfl)); intro gb162 hg w44 hbox hb; have n0_ := Aside0.mk (blk_below (by exact BK160.out) hb); have n1_ := Aside0.mk (blk_below (by exact BK161.out) hb); have n2_ := Aside0.mk (below_step (by repeat (first | (with_reducible first | exact HB.out | apply below_alloc | apply pw_below_drewN | apply below_drew1 | refine below_set ?_ GE160.out | refine below_set ?_ GE161.out) | exact HB.out)) hb); have n3_ := Aside0.mk (hbox); have n4_ := Aside0.mk ((by rw [hg]; exact (below_size (by repeat (first | (with_reducible first | exact HB.out | apply below_alloc | apply pw_below_drewN | apply below_drew1 | refine below_set ?_ GE160.out | refine below_set ?_ GE161.out) | exact HB.out))) : w.heap.size ≤ gb162)); have n5_ := Aside0.mk ((by rw [hg]; exact (below_size (by repeat (first | (with_reducible first | exact HB.out | apply below_alloc | apply pw_below_drewN | apply below_drew1 | refine below_set ?_ GE160.out | refine below_set ?_ GE161.out) | exact HB.out))) : w.heap.size ≤ gb162)); have n6_ := Aside0.mk ((by rw [hg]; exact Nat.ne_of_lt (blk_lt (by exact BK160.out)) : gb160 ≠ gb162)); have n7_ := Aside0.mk ((by rw [hg]; exact Nat.ne_of_gt (blk_lt (by exact BK160.out)) : gb162 ≠ gb160)); have n8_ := Aside0.mk ((by rw [hg]; exact Nat.ne_of_lt (blk_lt (by exact BK161.out)) : gb161 ≠ gb162)); have n9_ := Aside0.mk ((by rw [hg]; exact Nat.ne_of_gt (blk_lt (by exact BK161.out)) : gb162 ≠ gb161)); clear BK160; clear BK161; clear HB; have BK160 := n0_; have BK161 := n1_; have HB := n2_; have BK162 := n3_; have GW162 := n4_; have GE162 := n5_; have NB160_162 := n6_; have NB162_160 := n7_; have NB161_162 := n8_; have NB162_161 := n9_; clear n0_ n1_ n2_ n3_ n4_ n5_ n6_ n7_ n8_ n9_; clear hb hbox hg; have hnb45 := NB160_161.out; have hnc45 := NB161_160.out; have hnb46 := NB160_162.out; have hnc46 := NB162_160.out; have hcz47_0 : w44.cell? ⟨gb160, 0, none⟩ = some (.bool a0_0) := (blk_cell BK160.out 0).trans rfl; have hcz47_1 : w44.cell? ⟨gb160, 1, none⟩ = some (.int .i64 a0_1) := (blk_cell BK160.out 1).trans rfl; have hcz47_2 : w44.cell? ⟨gb160, 2, none⟩ = some (.bool a0_2) := (blk_cell BK160.out 2).trans rfl; have hcz47_3 : w44.cell? ⟨gb160, 3, none⟩ = some (.int .i64 a0_3) := (blk_cell BK160.out 3).trans rfl; have hcz47_4 : w44.cell? ⟨gb160, 4, none⟩ = some (.int .u64 a0_4) := (blk_cell BK160.out 4).trans rfl; have hcz47_5 : w44.cell? ⟨gb160, 5, none⟩ = some (.int .u64 a0_5) := (blk_cell BK160.out 5).trans rfl; have hfz47_0 := blk_frozen BK160.out 0; have hfz47_1 := blk_frozen BK160.out 1; have hfz47_2 := blk_frozen BK160.out 2; have hfz47_3 := blk_frozen BK160.out 3; have hfz47_4 := blk_frozen BK160.out 4; have hfz47_5 := blk_frozen BK160.out 5))
   have n0_ : Aside0 (((w44.setCell ⟨gb160, 2, none⟩ (.bool true)).setCell ⟨gb160, 4, none⟩ (.int .u64 1)).heap[gb160]? = some (.cells #[.bool a0_0, .int .i64 a0_1, .bool true, .int .i64 a0_3, .int .u64 1, .int .u64 a0_5] 24 (0, 0))) := ⟨by refine blk_put (cs := #[.bool a0_0, .int .i64 a0_1, .bool true, .int .i64 a0_3, .int .u64 a0_4, .int .u64 a0_5]) ?_ 4 _ rfl; refine blk_put (cs := #[.bool a0_0, .int .i64 a0_1, .bool a0_2, .int .i64 a0_3, .int .u64 a0_4, .int .u64 a0_5]) ?_ 2 _ rfl; exact BK160.out⟩
   have n1_ : Aside0 (((w44.setCell ⟨gb160, 2, none⟩ (.bool true)).setCell ⟨gb160, 4, none⟩ (.int .u64 1)).heap[gb161]? = some (.cells #[.int .i64 a1_0, .int .i64 a1_1] 26 (0, 0))) := ⟨by refine blk_far ?_ NB161_160.out _; refine blk_far ?_ NB161_160.out _; exact BK161.out⟩
   have n2_ : Aside0 (((w44.setCell ⟨gb160, 2, none⟩ (.bool true)).setCell ⟨gb160, 4, none⟩ (.int .u64 1)).heap[gb162]? = some (.cells #[.bool false, .int .i64 0, .bool false, .int .i64 0, .int .u64 0, .int .u64 0] 24 (0, 0))) := ⟨by refine blk_far ?_ NB162_160.out _; refine blk_far ?_ NB162_160.out _; exact BK162.out⟩
   have n3_ : Aside0 (Below w.heap.size w ((w44.setCell ⟨gb160, 2, none⟩ (.bool true)).setCell ⟨gb160, 4, none⟩ (.int .u64 1))) := ⟨by repeat (first | (with_reducible first | exact HB.out | apply below_alloc | apply pw_below_drewN | apply below_drew1 | refine below_set ?_ GE160.out | refine below_set ?_ GE161.out | refine below_set ?_ GE162.out) | exact HB.out)⟩
   (try clear BK160)
   (try clear BK161)
   (try clear BK162)
   (try clear HB)
   generalize ((w44.setCell ⟨gb160, 2, none⟩ (.bool true)).setCell ⟨gb160, 4, none⟩ (.int .u64 1)) = w48 at n0_ n1_ n2_ n3_ ⊢
   have BK160 := n0_
   have BK161 := n1_
   have BK162 := n2_
   have HB := n3_
   clear n0_ n1_ n2_ n3_
   have n0_ := Aside0.mk (blk_drew BK160.out)
   have n1_ := Aside0.mk (blk_drew BK161.out)
   have n2_ := Aside0.mk (blk_drew BK162.out)
   have n3_ := Aside0.mk (below_drew1 HB.out)
   clear BK160
   clear BK161
   clear BK162
   clear HB
   have BK160 := n0_
   have BK161 := n1_
   have BK162 := n2_
   have HB := n3_
   clear n0_ n1_ n2_ n3_
   refine start_ (n := 16) (S := fun w' => True) (ds := []) #[false, false, false, false, false, false, false, false, false, false, false, false, false, false, false, false] (by kernel_rfl) rfl rfl trivial (fun hHeld => ?_); refine with_tabW codel_State_enter.tab3 codel_State_enter.bits3 (fun HT_ HW_ => ?_)
   generalize w48.drew = w49 at BK160 BK161 BK162 HB hHeld ⊢
   refine pure_ (i := 0) (N := some 15) (v := ?_) (a' := ?_) #[true, false, false, false, false, false, false, false, false, false, false, false, false, false, false, false] rfl rfl (any_of HT_.out (by kernel_rfl)) (fun _ _ _ h => h) (Or.inl ⟨by rfl, ?_⟩) ?_ ?_
   rotate_left
   ·intro w'
    go_simp
    with_reducible rfl
   rotate_left
   ·simp only [Act.put, List.setIfInBounds_toArray, List.set_cons_zero, List.set_cons_succ, i64_w, i32_w]
    rfl
   refine pure_ (i := 1) (N := some 16) (v := ?_) (a' := ?_) #[true, true, false, false, false, false, false, false, false, false, false, false, false, false, false, false] rfl rfl (any_of HT_.out (by kernel_rfl)) (fun _ _ _ h => h) (Or.inl ⟨by rfl, ?_⟩) ?_ ?_
   rotate_left
   ·intro w'
    go_simp
    with_reducible rfl
   rotate_left
   ·simp only [Act.put, List.setIfInBounds_toArray, List.set_cons_zero, List.set_cons_succ, i64_w, i32_w]
    rfl
   refine pure_ (i := 2) (N := some 17) (v := ?_) (a' := ?_) #[true, true, true, false, false, false, false, false, false, false, false, false, false, false, false, false] rfl rfl (any_of HT_.out (by kernel_rfl)) (fun _ _ _ h => h) (Or.inl ⟨by rfl, ?_⟩) ?_ ?_
   rotate_left
   ·intro w'
    go_simp
    with_reducible rfl
   rotate_left
   ·simp only [Act.put, List.setIfInBounds_toArray, List.set_cons_zero, List.set_cons_succ, i64_w, i32_w]
    rfl
   refine pure_ (i := 3) (N := some 18) (v := ?_) (a' := ?_) #[true, true, true, true, false, false, false, false, false, false, false, false, false, false, false, false] rfl rfl (any_of HT_.out (by kernel_rfl)) (fun _ _ _ h => h) (Or.inl ⟨by rfl, ?_⟩) ?_ ?_
   rotate_left
   ·intro w'
    go_simp
    with_reducible rfl
   rotate_left
   ·simp only [Act.put, List.setIfInBounds_toArray, List.set_cons_zero, List.set_cons_succ, i64_w, i32_w]
    rfl
   refine pure_ (i := 4) (N := some 19) (v := ?_) (a' := ?_) #[true, true, true, true, true, false, false, false, false, false, false, false, false, false, false, false] rfl rfl (any_of HT_.out (by kernel_rfl)) (fun _ _ _ h => h) (Or.inl ⟨by rfl, ?_⟩) ?_ ?_
   rotate_left
   ·intro w'
    go_simp
    with_reducible rfl
   rotate_left
   ·simp only [Act.put, List.setIfInBounds_toArray, List.set_cons_zero, List.set_cons_succ, i64_w, i32_w]
    rfl
   refine pure_ (i := 5) (N := some 20) (v := ?_) (a' := ?_) #[true, true, true, true, true, true, false, false, false, false, false, false, false, false, false, false] rfl rfl (any_of HT_.out (by kernel_rfl)) (fun _ _ _ h => h) (Or.inl ⟨by rfl, ?_⟩) ?_ ?_
   rotate_left
   ·intro w'
    go_simp
    with_reducible rfl
   rotate_left
   ·simp only [Act.put, List.setIfInBounds_toArray, List.set_cons_zero, List.set_cons_succ, i64_w, i32_w]
    rfl
   refine pure_ (i := 6) (N := some 21) (v := ?_) (a' := ?_) #[true, true, true, true, true, true, true, false, false, false, false, false, false, false, false, false] rfl rfl (any_of HT_.out (by kernel_rfl)) (fun _ _ _ h => h) (Or.inl ⟨by rfl, ?_⟩) ?_ ?_
   rotate_left
   ·intro w'
    go_simp
    with_reducible rfl
   rotate_left
   ·simp only [Act.put, List.setIfInBounds_toArray, List.set_cons_zero, List.set_cons_succ, i64_w, i32_w]
    rfl
   refine pure_ (i := 7) (N := some 22) (v := undef) (a' := ?_) #[true, true, true, true, true, true, true, true, false, false, false, false, false, false, false, false] rfl rfl (any_of HT_.out (by kernel_rfl)) (fun _ _ _ h => h) (Or.inr ⟨by rfl, rfl⟩) ?_ ?_
   rotate_left
   ·simp only [Act.put, List.setIfInBounds_toArray, List.set_cons_zero, List.set_cons_succ, i64_w, i32_w]
    rfl
   refine pure_ (i := 8) (N := some 23) (v := undef) (a' := ?_) #[true, true, true, true, true, true, true, true, true, false, false, false, false, false, false, false] rfl rfl (any_of HT_.out (by kernel_rfl)) (fun _ _ _ h => h) (Or.inr ⟨by rfl, rfl⟩) ?_ ?_
   rotate_left
   ·simp only [Act.put, List.setIfInBounds_toArray, List.set_cons_zero, List.set_cons_succ, i64_w, i32_w]
    rfl
   refine pure_ (i := 9) (N := some 24) (v := undef) (a' := ?_) #[true, true, true, true, true, true, true, true, true, true, false, false, false, false, false, false] rfl rfl (any_of HT_.out (by kernel_rfl)) (fun _ _ _ h => h) (Or.inr ⟨by rfl, rfl⟩) ?_ ?_
   rotate_left
   ·simp only [Act.put, List.setIfInBounds_toArray, List.set_cons_zero, List.set_cons_succ, i64_w, i32_w]
    rfl
   refine pure_ (i := 10) (N := some 25) (v := undef) (a' := ?_) #[true, true, true, true, true, true, true, true, true, true, true, false, false, false, false, false] rfl rfl (any_of HT_.out (by kernel_rfl)) (fun _ _ _ h => h) (Or.inr ⟨by rfl, rfl⟩) ?_ ?_
   rotate_left
   ·simp only [Act.put, List.setIfInBounds_toArray, List.set_cons_zero, List.set_cons_succ, i64_w, i32_w]
    rfl
   refine pure_ (i := 11) (N := some 26) (v := undef) (a' := ?_) #[true, true, true, true, true, true, true, true, true, true, true, true, false, false, false, false] rfl rfl (any_of HT_.out (by kernel_rfl)) (fun _ _ _ h => h) (Or.inr ⟨by rfl, rfl⟩) ?_ ?_
   rotate_left
   ·simp only [Act.put, List.setIfInBounds_toArray, List.set_cons_zero, List.set_cons_succ, i64_w, i32_w]
    rfl
   refine pure_ (i := 12) (N := some 27) (v := undef) (a' := ?_) #[true, true, true, true, true, true, true, true, true, true, true, true, true, false, false, false] rfl rfl (any_of HT_.out (by kernel_rfl)) (fun _ _ _ h => h) (Or.inr ⟨by rfl, rfl⟩) ?_ ?_
   rotate_left
   ·simp only [Act.put, List.setIfInBounds_toArray, List.set_cons_zero, List.set_cons_succ, i64_w, i32_w]
    rfl
   refine pure_ (i := 13) (N := some 28) (v := undef) (a' := ?_) #[true, true, true, true, true, true, true, true, true, true, true, true, true, true, false, false] rfl rfl (any_of HT_.out (by kernel_rfl)) (fun _ _ _ h => h) (Or.inr ⟨by rfl, rfl⟩) ?_ ?_
   rotate_left
   ·simp only [Act.put, List.setIfInBounds_toArray, List.set_cons_zero, List.set_cons_succ, i64_w, i32_w]
    rfl
   refine pure_ (i := 14) (N := some 29) (v := undef) (a' := ?_) #[true, true, true, true, true, true, true, true, true, true, true, true, true, true, true, false] rfl rfl (any_of HT_.out (by kernel_rfl)) (fun _ _ _ h => h) (Or.inr ⟨by rfl, rfl⟩) ?_ ?_
   rotate_left
   ·simp only [Act.put, List.setIfInBounds_toArray, List.set_cons_zero, List.set_cons_succ, i64_w, i32_w]
    rfl
   refine pure_ (i := 15) (N := some 30) (v := ?_) (a' := ?_) #[true, true, true, true, true, true, true, true, true, true, true, true, true, true, true, true] rfl rfl (any_of HT_.out (by kernel_rfl)) (fun _ _ _ h => h) (Or.inl ⟨by rfl, ?_⟩) ?_ ?_
   rotate_left
   ·intro w'
    go_simp
    with_reducible rfl
   rotate_left
   ·simp only [Act.put, List.setIfInBounds_toArray, List.set_cons_zero, List.set_cons_succ, i64_w, i32_w]
    rfl
   refine done_ (done_of HT_.out (by kernel_rfl)) ?_
   have hcz50_0 : w49.cell? ⟨gb160, 0, none⟩ = some (.bool a0_0) := (blk_cell BK160.out 0).trans rfl
   have hcz50_1 : w49.cell? ⟨gb160, 1, none⟩ = some (.int .i64 a0_1) := (blk_cell BK160.out 1).trans rfl
   have hcz50_2 : w49.cell? ⟨gb160, 2, none⟩ = some (.bool true) := (blk_cell BK160.out 2).trans rfl
   have hcz50_3 : w49.cell? ⟨gb160, 3, none⟩ = some (.int .i64 a0_3) := (blk_cell BK160.out 3).trans rfl
   have hcz50_4 : w49.cell? ⟨gb160, 4, none⟩ = some (.int .u64 1) := (blk_cell BK160.out 4).trans rfl
   have hcz50_5 : w49.cell? ⟨gb160, 5, none⟩ = some (.int .u64 a0_5) := (blk_cell BK160.out 5).trans rfl
   have hfz50_0 := blk_frozen BK160.out 0
   have hfz50_1 := blk_frozen BK160.out 1
   have hfz50_2 := blk_frozen BK160.out 2
   have hfz50_3 := blk_frozen BK160.out 3
   have hfz50_4 := blk_frozen BK160.out 4
   have hfz50_5 := blk_frozen BK160.out 5
   have hnb51 := NB161_162.out
   have hnc51 := NB162_161.out
   have hcz52_0 : w49.cell? ⟨gb161, 0, none⟩ = some (.int .i64 a1_0) := (blk_cell BK161.out 0).trans rfl
   have hcz52_1 : w49.cell? ⟨gb161, 1, none⟩ = some (.int .i64 a1_1) := (blk_cell BK161.out 1).trans rfl
   have hfz52_0 := blk_frozen BK161.out 0
   have hfz52_1 := blk_frozen BK161.out 1
   try go_wp2_with (first | ((with_reducible refine gate_callee (f := 32) rfl ?_); refine goesL_ (some 36) rfl rfl Try.func32 (by kernel_rfl) rfl #[.agg #[.bool a0_0, .int .i64 a0_1, .bool true, .int .i64 a0_3, .int .u64 1, .int .u64 a0_5], .agg #[.int .i64 a1_0, .int .i64 a1_1], .int .i64 a2] rfl (by (try simp only [List.map_toArray, List.map_cons, List.map_nil]); first | done | rfl | (simp only [List.length_drop, List.length_take]; rfl)) ?_; (with_reducible refine (codel_State_later.calls k a0_0 a0_1 true a0_3 1 a0_5 a1_0 a1_1 a2 t167 _ A41.out).mono ?_); rintro e w53 ⟨rfl, hb⟩; refine ⟨_, rfl, ?_⟩; have n0_ := Aside0.mk (blk_below (by exact BK160.out) hb); have n1_ := Aside0.mk (blk_below (by exact BK161.out) hb); have n2_ := Aside0.mk (blk_below (by exact BK162.out) hb); have n3_ := Aside0.mk (below_step (by repeat (first | (with_reducible first | exact HB.out | apply below_alloc | apply pw_below_drewN | apply below_drew1 | refine below_set ?_ GE160.out | refine below_set ?_ GE161.out | refine below_set ?_ GE162.out) | exact HB.out)) hb); clear BK160; clear BK161; clear BK162; clear HB; have BK160 := n0_; have BK161 := n1_; have BK162 := n2_; have HB := n3_; clear n0_ n1_ n2_ n3_; (try clear hb); (try clear hb2); (try clear hk); (try clear hi); have hcz54_0 : w53.cell? ⟨gb160, 0, none⟩ = some (.bool a0_0) := (blk_cell BK160.out 0).trans rfl; have hcz54_1 : w53.cell? ⟨gb160, 1, none⟩ = some (.int .i64 a0_1) := (blk_cell BK160.out 1).trans rfl; have hcz54_2 : w53.cell? ⟨gb160, 2, none⟩ = some (.bool true) := (blk_cell BK160.out 2).trans rfl; have hcz54_3 : w53.cell? ⟨gb160, 3, none⟩ = some (.int .i64 a0_3) := (blk_cell BK160.out 3).trans rfl; have hcz54_4 : w53.cell? ⟨gb160, 4, none⟩ = some (.int .u64 1) := (blk_cell BK160.out 4).trans rfl; have hcz54_5 : w53.cell? ⟨gb160, 5, none⟩ = some (.int .u64 a0_5) := (blk_cell BK160.out 5).trans rfl; have hfz54_0 := blk_frozen BK160.out 0; have hfz54_1 := blk_frozen BK160.out 1; have hfz54_2 := blk_frozen BK160.out 2; have hfz54_3 := blk_frozen BK160.out 3; have hfz54_4 := blk_frozen BK160.out 4; have hfz54_5 := blk_frozen BK160.out 5; have hcz55_0 : w53.cell? ⟨gb162, 0, none⟩ = some (.bool false) := (blk_cell BK162.out 0).trans rfl; have hcz55_1 : w53.cell? ⟨gb162, 1, none⟩ = some (.int .i64 0) := (blk_cell BK162.out 1).trans rfl; have hcz55_2 : w53.cell? ⟨gb162, 2, none⟩ = some (.bool false) := (blk_cell BK162.out 2).trans rfl; have hcz55_3 : w53.cell? ⟨gb162, 3, none⟩ = some (.int .i64 0) := (blk_cell BK162.out 3).trans rfl; have hcz55_4 : w53.cell? ⟨gb162, 4, none⟩ = some (.int .u64 0) := (blk_cell BK162.out 4).trans rfl; have hcz55_5 : w53.cell? ⟨gb162, 5, none⟩ = some (.int .u64 0) := (blk_cell BK162.out 5).trans rfl; have hfz55_0 := blk_frozen BK162.out 0; have hfz55_1 := blk_frozen BK162.out 1; have hfz55_2 := blk_frozen BK162.out 2; have hfz55_3 := blk_frozen BK162.out 3; have hfz55_4 := blk_frozen BK162.out 4; have hfz55_5 := blk_frozen BK162.out 5))
   refine bodyPost_ret (results_cell_row rfl _ _ gb162 24 #[.bool a0_0, .int .i64 a0_1, .bool true, .int .i64 t167, .int .u64 1, .int .u64 1] (0, 0) _ rfl (by refine blk_put (cs := #[.bool a0_0, .int .i64 a0_1, .bool true, .int .i64 t167, .int .u64 1, .int .u64 0]) ?_ 5 _ rfl; refine blk_put (cs := #[.bool a0_0, .int .i64 a0_1, .bool true, .int .i64 t167, .int .u64 0, .int .u64 0]) ?_ 4 _ rfl; refine blk_put (cs := #[.bool a0_0, .int .i64 a0_1, .bool true, .int .i64 0, .int .u64 0, .int .u64 0]) ?_ 3 _ rfl; refine blk_put (cs := #[.bool a0_0, .int .i64 a0_1, .bool false, .int .i64 0, .int .u64 0, .int .u64 0]) ?_ 2 _ rfl; refine blk_put (cs := #[.bool a0_0, .int .i64 0, .bool false, .int .i64 0, .int .u64 0, .int .u64 0]) ?_ 1 _ rfl; refine blk_put (cs := #[.bool false, .int .i64 0, .bool false, .int .i64 0, .int .u64 0, .int .u64 0]) ?_ 0 _ rfl; refine blk_far ?_ NB162_160.out _; refine blk_far ?_ NB162_160.out _; exact BK162.out) Try.underlying24 rfl (by kernel_rfl)) rfl ?_
   exact ⟨by first | rfl | (simp [errW_none, errW_some] <;> rfl) | (simp [*, errW_none, errW_some] <;> rfl), by repeat (first | (with_reducible first | exact HB.out | apply below_alloc | apply pw_below_drewN | apply below_drew1 | refine below_set ?_ GE160.out | refine below_set ?_ GE161.out | refine below_set ?_ GE162.out) | exact HB.out)⟩
 ·rw [if_neg c4] at H
  have c4b0 : decide (1 < (IntKind.u64.wrap (a0_4 - a0_5))) = false := decide_eq_false c4
  clear c4
  replace H := Option.bind_eq_some_iff.mp H
  obtain ⟨t168, A560, H⟩ := H
  replace H : (some (a0_0, a0_1, true, t168, 1, 1)) = some (r1, r2, r3, r4, r5, r6) := H
  have A56 := Aside0.mk A560
  clear A560
  simp only [Option.some.injEq, Prod.mk.injEq] at H
  obtain ⟨rfl, rfl, rfl, rfl, rfl, rfl⟩ := H
  go_enter Try.func29, Try.ntmps29
  try go_wp2_with (first | ((with_reducible refine gate_dst (N := 3) rfl ?_); refine box_event ?hg (N := 3) ?hd (cs := #[.bool a0_0, .int .i64 a0_1, .bool a0_2, .int .i64 a0_3, .int .u64 a0_4, .int .u64 a0_5]) (t := 24) ?hr ?_; (case hd => rfl); (case hg => rfl); (case hr => first | (go_simp; done) | (go_simp; rfl)); intro gb160 hg w57 hbox hb; have n0_ := Aside0.mk (below_step (by repeat (first | (with_reducible first | exact HB.out | apply below_alloc | apply pw_below_drewN | apply below_drew1) | exact HB.out)) hb); have n1_ := Aside0.mk (hbox); have n2_ := Aside0.mk ((by rw [hg]; exact (below_size (by repeat (first | (with_reducible first | exact HB.out | apply below_alloc | apply pw_below_drewN | apply below_drew1) | exact HB.out))) : w.heap.size ≤ gb160)); have n3_ := Aside0.mk ((by rw [hg]; exact (below_size (by repeat (first | (with_reducible first | exact HB.out | apply below_alloc | apply pw_below_drewN | apply below_drew1) | exact HB.out))) : w.heap.size ≤ gb160)); clear HB; have HB := n0_; have BK160 := n1_; have GW160 := n2_; have GE160 := n3_; clear n0_ n1_ n2_ n3_; clear hb hbox hg) | ((with_reducible refine gate_dst (N := 4) rfl ?_); refine box_event ?hg (N := 4) ?hd (cs := #[.int .i64 a1_0, .int .i64 a1_1]) (t := 26) ?hr ?_; (case hd => rfl); (case hg => rfl); (case hr => first | (go_simp; done) | (go_simp; rfl)); intro gb161 hg w58 hbox hb; have n0_ := Aside0.mk (blk_below (by exact BK160.out) hb); have n1_ := Aside0.mk (below_step (by repeat (first | (with_reducible first | exact HB.out | apply below_alloc | apply pw_below_drewN | apply below_drew1 | refine below_set ?_ GE160.out) | exact HB.out)) hb); have n2_ := Aside0.mk (hbox); have n3_ := Aside0.mk ((by rw [hg]; exact (below_size (by repeat (first | (with_reducible first | exact HB.out | apply below_alloc | apply pw_below_drewN | apply below_drew1 | refine below_set ?_ GE160.out) | exact HB.out))) : w.heap.size ≤ gb161)); have n4_ := Aside0.mk ((by rw [hg]; exact (below_size (by repeat (first | (with_reducible first | exact HB.out | apply below_alloc | apply pw_below_drewN | apply below_drew1 | refine below_set ?_ GE160.out) | exact HB.out))) : w.heap.size ≤ gb161)); have n5_ := Aside0.mk ((by rw [hg]; exact Nat.ne_of_lt (blk_lt (by exact BK160.out)) : gb160 ≠ gb161)); have n6_ := Aside0.mk ((by rw [hg]; exact Nat.ne_of_gt (blk_lt (by exact BK160.out)) : gb161 ≠ gb160)); clear BK160; clear HB; have BK160 := n0_; have HB := n1_; have BK161 := n2_; have GW161 := n3_; have GE161 := n4_; have NB160_161 := n5_; have NB161_160 := n6_; clear n0_ n1_ n2_ n3_ n4_ n5_ n6_; clear hb hbox hg) | ((with_reducible refine gate_dst (N := 6) rfl ?_); refine box_event ?hg (N := 6) ?hd (cs := #[.bool false, .int .i64 0, .bool false, .int .i64 0, .int .u64 0, .int .u64 0]) (t := 24) ?hr ?_; (case hd => rfl); (case hg => rfl); (case hr => first | (go_simp; done) | (go_simp; rfl)); intro gb162 hg w59 hbox hb; have n0_ := Aside0.mk (blk_below (by exact BK160.out) hb); have n1_ := Aside0.mk (blk_below (by exact BK161.out) hb); have n2_ := Aside0.mk (below_step (by repeat (first | (with_reducible first | exact HB.out | apply below_alloc | apply pw_below_drewN | apply below_drew1 | refine below_set ?_ GE160.out | refine below_set ?_ GE161.out) | exact HB.out)) hb); have n3_ := Aside0.mk (hbox); have n4_ := Aside0.mk ((by rw [hg]; exact (below_size (by repeat (first | (with_reducible first | exact HB.out | apply below_alloc | apply pw_below_drewN | apply below_drew1 | refine below_set ?_ GE160.out | refine below_set ?_ GE161.out) | exact HB.out))) : w.heap.size ≤ gb162)); have n5_ := Aside0.mk ((by rw [hg]; exact (below_size (by repeat (first | (with_reducible first | exact HB.out | apply below_alloc | apply pw_below_drewN | apply below_drew1 | refine below_set ?_ GE160.out | refine below_set ?_ GE161.out) | exact HB.out))) : w.heap.size ≤ gb162)); have n6_ := Aside0.mk ((by rw [hg]; exact Nat.ne_of_lt (blk_lt (by exact BK160.out)) : gb160 ≠ gb162)); have n7_ := Aside0.mk ((by rw [hg]; exact Nat.ne_of_gt (blk_lt (by exact BK160.out)) : gb162 ≠ gb160)); have n8_ := Aside0.mk ((by rw [hg]; exact Nat.ne_of_lt (blk_lt (by exact BK161.out)) : gb161 ≠ gb162)); have n9_ := Aside0.mk ((by rw [hg]; exact Nat.ne_of_gt (blk_lt (by exact BK161.out)) : gb162 ≠ gb161)); clear BK160; clear BK161; clear HB; have BK160 := n0_; have BK161 := n1_; have HB := n2_; have BK162 := n3_; have GW162 := n4_; have GE162 := n5_; have NB160_162 := n6_; have NB162_160 := n7_; have NB161_162 := n8_; have NB162_161 := n9_; clear n0_ n1_ n2_ n3_ n4_ n5_ n6_ n7_ n8_ n9_; clear hb hbox hg; have hnb60 := NB160_161.out; have hnc60 := NB161_160.out; have hnb61 := NB160_162.out; have hnc61 := NB162_160.out; have hcz62_0 : w59.cell? ⟨gb160, 0, none⟩ = some (.bool a0_0) := (blk_cell BK160.out 0).trans rfl; have hcz62_1 : w59.cell? ⟨gb160, 1, none⟩ = some (.int .i64 a0_1) := (blk_cell BK160.out 1).trans rfl; have hcz62_2 : w59.cell? ⟨gb160, 2, none⟩ = some (.bool a0_2) := (blk_cell BK160.out 2).trans rfl; have hcz62_3 : w59.cell? ⟨gb160, 3, none⟩ = some (.int .i64 a0_3) := (blk_cell BK160.out 3).trans rfl; have hcz62_4 : w59.cell? ⟨gb160, 4, none⟩ = some (.int .u64 a0_4) := (blk_cell BK160.out 4).trans rfl; have hcz62_5 : w59.cell? ⟨gb160, 5, none⟩ = some (.int .u64 a0_5) := (blk_cell BK160.out 5).trans rfl; have hfz62_0 := blk_frozen BK160.out 0; have hfz62_1 := blk_frozen BK160.out 1; have hfz62_2 := blk_frozen BK160.out 2; have hfz62_3 := blk_frozen BK160.out 3; have hfz62_4 := blk_frozen BK160.out 4; have hfz62_5 := blk_frozen BK160.out 5))
  have n0_ : Aside0 (((w59.setCell ⟨gb160, 2, none⟩ (.bool true)).setCell ⟨gb160, 4, none⟩ (.int .u64 1)).heap[gb160]? = some (.cells #[.bool a0_0, .int .i64 a0_1, .bool true, .int .i64 a0_3, .int .u64 1, .int .u64 a0_5] 24 (0, 0))) := ⟨by refine blk_put (cs := #[.bool a0_0, .int .i64 a0_1, .bool true, .int .i64 a0_3, .int .u64 a0_4, .int .u64 a0_5]) ?_ 4 _ rfl; refine blk_put (cs := #[.bool a0_0, .int .i64 a0_1, .bool a0_2, .int .i64 a0_3, .int .u64 a0_4, .int .u64 a0_5]) ?_ 2 _ rfl; exact BK160.out⟩
  have n1_ : Aside0 (((w59.setCell ⟨gb160, 2, none⟩ (.bool true)).setCell ⟨gb160, 4, none⟩ (.int .u64 1)).heap[gb161]? = some (.cells #[.int .i64 a1_0, .int .i64 a1_1] 26 (0, 0))) := ⟨by refine blk_far ?_ NB161_160.out _; refine blk_far ?_ NB161_160.out _; exact BK161.out⟩
  have n2_ : Aside0 (((w59.setCell ⟨gb160, 2, none⟩ (.bool true)).setCell ⟨gb160, 4, none⟩ (.int .u64 1)).heap[gb162]? = some (.cells #[.bool false, .int .i64 0, .bool false, .int .i64 0, .int .u64 0, .int .u64 0] 24 (0, 0))) := ⟨by refine blk_far ?_ NB162_160.out _; refine blk_far ?_ NB162_160.out _; exact BK162.out⟩
  have n3_ : Aside0 (Below w.heap.size w ((w59.setCell ⟨gb160, 2, none⟩ (.bool true)).setCell ⟨gb160, 4, none⟩ (.int .u64 1))) := ⟨by repeat (first | (with_reducible first | exact HB.out | apply below_alloc | apply pw_below_drewN | apply below_drew1 | refine below_set ?_ GE160.out | refine below_set ?_ GE161.out | refine below_set ?_ GE162.out) | exact HB.out)⟩
  (try clear BK160)
  (try clear BK161)
  (try clear BK162)
  (try clear HB)
  generalize ((w59.setCell ⟨gb160, 2, none⟩ (.bool true)).setCell ⟨gb160, 4, none⟩ (.int .u64 1)) = w63 at n0_ n1_ n2_ n3_ ⊢
  have BK160 := n0_
  have BK161 := n1_
  have BK162 := n2_
  have HB := n3_
  clear n0_ n1_ n2_ n3_
  have n0_ := Aside0.mk (blk_drew BK160.out)
  have n1_ := Aside0.mk (blk_drew BK161.out)
  have n2_ := Aside0.mk (blk_drew BK162.out)
  have n3_ := Aside0.mk (below_drew1 HB.out)
  clear BK160
  clear BK161
  clear BK162
  clear HB
  have BK160 := n0_
  have BK161 := n1_
  have BK162 := n2_
  have HB := n3_
  clear n0_ n1_ n2_ n3_
  refine start_ (n := 16) (S := fun w' => True) (ds := []) #[false, false, false, false, false, false, false, false, false, false, false, false, false, false, false, false] (by kernel_rfl) rfl rfl trivial (fun hHeld => ?_); refine with_tabW codel_State_enter.tab3 codel_State_enter.bits3 (fun HT_ HW_ => ?_)
  generalize w63.drew = w64 at BK160 BK161 BK162 HB hHeld ⊢
  refine pure_ (i := 0) (N := some 15) (v := ?_) (a' := ?_) #[true, false, false, false, false, false, false, false, false, false, false, false, false, false, false, false] rfl rfl (any_of HT_.out (by kernel_rfl)) (fun _ _ _ h => h) (Or.inl ⟨by rfl, ?_⟩) ?_ ?_
  rotate_left
  ·intro w'
   go_simp
   with_reducible rfl
  rotate_left
  ·simp only [Act.put, List.setIfInBounds_toArray, List.set_cons_zero, List.set_cons_succ, i64_w, i32_w]
   rfl
  refine pure_ (i := 1) (N := some 16) (v := ?_) (a' := ?_) #[true, true, false, false, false, false, false, false, false, false, false, false, false, false, false, false] rfl rfl (any_of HT_.out (by kernel_rfl)) (fun _ _ _ h => h) (Or.inl ⟨by rfl, ?_⟩) ?_ ?_
  rotate_left
  ·intro w'
   go_simp
   with_reducible rfl
  rotate_left
  ·simp only [Act.put, List.setIfInBounds_toArray, List.set_cons_zero, List.set_cons_succ, i64_w, i32_w]
   rfl
  refine pure_ (i := 2) (N := some 17) (v := ?_) (a' := ?_) #[true, true, true, false, false, false, false, false, false, false, false, false, false, false, false, false] rfl rfl (any_of HT_.out (by kernel_rfl)) (fun _ _ _ h => h) (Or.inl ⟨by rfl, ?_⟩) ?_ ?_
  rotate_left
  ·intro w'
   go_simp
   with_reducible rfl
  rotate_left
  ·simp only [Act.put, List.setIfInBounds_toArray, List.set_cons_zero, List.set_cons_succ, i64_w, i32_w]
   rfl
  refine pure_ (i := 3) (N := some 18) (v := undef) (a' := ?_) #[true, true, true, true, false, false, false, false, false, false, false, false, false, false, false, false] rfl rfl (any_of HT_.out (by kernel_rfl)) (fun _ _ _ h => h) (Or.inr ⟨by rfl, rfl⟩) ?_ ?_
  rotate_left
  ·simp only [Act.put, List.setIfInBounds_toArray, List.set_cons_zero, List.set_cons_succ, i64_w, i32_w]
   rfl
  refine pure_ (i := 4) (N := some 19) (v := undef) (a' := ?_) #[true, true, true, true, true, false, false, false, false, false, false, false, false, false, false, false] rfl rfl (any_of HT_.out (by kernel_rfl)) (fun _ _ _ h => h) (Or.inr ⟨by rfl, rfl⟩) ?_ ?_
  rotate_left
  ·simp only [Act.put, List.setIfInBounds_toArray, List.set_cons_zero, List.set_cons_succ, i64_w, i32_w]
   rfl
  refine pure_ (i := 5) (N := some 20) (v := ?_) (a' := ?_) #[true, true, true, true, true, true, false, false, false, false, false, false, false, false, false, false] rfl rfl (any_of HT_.out (by kernel_rfl)) (fun _ _ _ h => h) (Or.inl ⟨by rfl, ?_⟩) ?_ ?_
  rotate_left
  ·intro w'
   go_simp
   with_reducible rfl
  rotate_left
  ·simp only [Act.put, List.setIfInBounds_toArray, List.set_cons_zero, List.set_cons_succ, i64_w, i32_w]
   rfl
  refine pure_ (i := 6) (N := some 21) (v := ?_) (a' := ?_) #[true, true, true, true, true, true, true, false, false, false, false, false, false, false, false, false] rfl rfl (any_of HT_.out (by kernel_rfl)) (fun _ _ _ h => h) (Or.inl ⟨by rfl, ?_⟩) ?_ ?_
  rotate_left
  ·intro w'
   go_simp
   with_reducible rfl
  rotate_left
  ·simp only [Act.put, List.setIfInBounds_toArray, List.set_cons_zero, List.set_cons_succ, i64_w, i32_w]
   rfl
  refine pure_ (i := 7) (N := some 22) (v := undef) (a' := ?_) #[true, true, true, true, true, true, true, true, false, false, false, false, false, false, false, false] rfl rfl (any_of HT_.out (by kernel_rfl)) (fun _ _ _ h => h) (Or.inr ⟨by rfl, rfl⟩) ?_ ?_
  rotate_left
  ·simp only [Act.put, List.setIfInBounds_toArray, List.set_cons_zero, List.set_cons_succ, i64_w, i32_w]
   rfl
  refine pure_ (i := 8) (N := some 23) (v := undef) (a' := ?_) #[true, true, true, true, true, true, true, true, true, false, false, false, false, false, false, false] rfl rfl (any_of HT_.out (by kernel_rfl)) (fun _ _ _ h => h) (Or.inr ⟨by rfl, rfl⟩) ?_ ?_
  rotate_left
  ·simp only [Act.put, List.setIfInBounds_toArray, List.set_cons_zero, List.set_cons_succ, i64_w, i32_w]
   rfl
  refine pure_ (i := 9) (N := some 24) (v := undef) (a' := ?_) #[true, true, true, true, true, true, true, true, true, true, false, false, false, false, false, false] rfl rfl (any_of HT_.out (by kernel_rfl)) (fun _ _ _ h => h) (Or.inr ⟨by rfl, rfl⟩) ?_ ?_
  rotate_left
  ·simp only [Act.put, List.setIfInBounds_toArray, List.set_cons_zero, List.set_cons_succ, i64_w, i32_w]
   rfl
  refine pure_ (i := 10) (N := some 25) (v := undef) (a' := ?_) #[true, true, true, true, true, true, true, true, true, true, true, false, false, false, false, false] rfl rfl (any_of HT_.out (by kernel_rfl)) (fun _ _ _ h => h) (Or.inr ⟨by rfl, rfl⟩) ?_ ?_
  rotate_left
  ·simp only [Act.put, List.setIfInBounds_toArray, List.set_cons_zero, List.set_cons_succ, i64_w, i32_w]
   rfl
  refine pure_ (i := 11) (N := some 26) (v := undef) (a' := ?_) #[true, true, true, true, true, true, true, true, true, true, true, true, false, false, false, false] rfl rfl (any_of HT_.out (by kernel_rfl)) (fun _ _ _ h => h) (Or.inr ⟨by rfl, rfl⟩) ?_ ?_
  rotate_left
  ·simp only [Act.put, List.setIfInBounds_toArray, List.set_cons_zero, List.set_cons_succ, i64_w, i32_w]
   rfl
  refine pure_ (i := 12) (N := some 27) (v := undef) (a' := ?_) #[true, true, true, true, true, true, true, true, true, true, true, true, true, false, false, false] rfl rfl (any_of HT_.out (by kernel_rfl)) (fun _ _ _ h => h) (Or.inr ⟨by rfl, rfl⟩) ?_ ?_
  rotate_left
  ·simp only [Act.put, List.setIfInBounds_toArray, List.set_cons_zero, List.set_cons_succ, i64_w, i32_w]
   rfl
  refine pure_ (i := 13) (N := some 28) (v := undef) (a' := ?_) #[true, true, true, true, true, true, true, true, true, true, true, true, true, true, false, false] rfl rfl (any_of HT_.out (by kernel_rfl)) (fun _ _ _ h => h) (Or.inr ⟨by rfl, rfl⟩) ?_ ?_
  rotate_left
  ·simp only [Act.put, List.setIfInBounds_toArray, List.set_cons_zero, List.set_cons_succ, i64_w, i32_w]
   rfl
  refine pure_ (i := 14) (N := some 29) (v := undef) (a' := ?_) #[true, true, true, true, true, true, true, true, true, true, true, true, true, true, true, false] rfl rfl (any_of HT_.out (by kernel_rfl)) (fun _ _ _ h => h) (Or.inr ⟨by rfl, rfl⟩) ?_ ?_
  rotate_left
  ·simp only [Act.put, List.setIfInBounds_toArray, List.set_cons_zero, List.set_cons_succ, i64_w, i32_w]
   rfl
  refine pure_ (i := 15) (N := some 30) (v := ?_) (a' := ?_) #[true, true, true, true, true, true, true, true, true, true, true, true, true, true, true, true] rfl rfl (any_of HT_.out (by kernel_rfl)) (fun _ _ _ h => h) (Or.inl ⟨by rfl, ?_⟩) ?_ ?_
  rotate_left
  ·intro w'
   go_simp
   with_reducible rfl
  rotate_left
  ·simp only [Act.put, List.setIfInBounds_toArray, List.set_cons_zero, List.set_cons_succ, i64_w, i32_w]
   rfl
  refine done_ (done_of HT_.out (by kernel_rfl)) ?_
  have hcz65_0 : w64.cell? ⟨gb160, 0, none⟩ = some (.bool a0_0) := (blk_cell BK160.out 0).trans rfl
  have hcz65_1 : w64.cell? ⟨gb160, 1, none⟩ = some (.int .i64 a0_1) := (blk_cell BK160.out 1).trans rfl
  have hcz65_2 : w64.cell? ⟨gb160, 2, none⟩ = some (.bool true) := (blk_cell BK160.out 2).trans rfl
  have hcz65_3 : w64.cell? ⟨gb160, 3, none⟩ = some (.int .i64 a0_3) := (blk_cell BK160.out 3).trans rfl
  have hcz65_4 : w64.cell? ⟨gb160, 4, none⟩ = some (.int .u64 1) := (blk_cell BK160.out 4).trans rfl
  have hcz65_5 : w64.cell? ⟨gb160, 5, none⟩ = some (.int .u64 a0_5) := (blk_cell BK160.out 5).trans rfl
  have hfz65_0 := blk_frozen BK160.out 0
  have hfz65_1 := blk_frozen BK160.out 1
  have hfz65_2 := blk_frozen BK160.out 2
  have hfz65_3 := blk_frozen BK160.out 3
  have hfz65_4 := blk_frozen BK160.out 4
  have hfz65_5 := blk_frozen BK160.out 5
  have hnb66 := NB161_162.out
  have hnc66 := NB162_161.out
  have hcz67_0 : w64.cell? ⟨gb161, 0, none⟩ = some (.int .i64 a1_0) := (blk_cell BK161.out 0).trans rfl
  have hcz67_1 : w64.cell? ⟨gb161, 1, none⟩ = some (.int .i64 a1_1) := (blk_cell BK161.out 1).trans rfl
  have hfz67_0 := blk_frozen BK161.out 0
  have hfz67_1 := blk_frozen BK161.out 1
  try go_wp2_with (first | ((with_reducible refine gate_callee (f := 32) rfl ?_); refine goesL_ (some 36) rfl rfl Try.func32 (by kernel_rfl) rfl #[.agg #[.bool a0_0, .int .i64 a0_1, .bool true, .int .i64 a0_3, .int .u64 1, .int .u64 a0_5], .agg #[.int .i64 a1_0, .int .i64 a1_1], .int .i64 a2] rfl (by (try simp only [List.map_toArray, List.map_cons, List.map_nil]); first | done | rfl | (simp only [List.length_drop, List.length_take]; rfl)) ?_; (with_reducible refine (codel_State_later.calls k a0_0 a0_1 true a0_3 1 a0_5 a1_0 a1_1 a2 t168 _ A56.out).mono ?_); rintro e w68 ⟨rfl, hb⟩; refine ⟨_, rfl, ?_⟩; have n0_ := Aside0.mk (blk_below (by exact BK160.out) hb); have n1_ := Aside0.mk (blk_below (by exact BK161.out) hb); have n2_ := Aside0.mk (blk_below (by exact BK162.out) hb); have n3_ := Aside0.mk (below_step (by repeat (first | (with_reducible first | exact HB.out | apply below_alloc | apply pw_below_drewN | apply below_drew1 | refine below_set ?_ GE160.out | refine below_set ?_ GE161.out | refine below_set ?_ GE162.out) | exact HB.out)) hb); clear BK160; clear BK161; clear BK162; clear HB; have BK160 := n0_; have BK161 := n1_; have BK162 := n2_; have HB := n3_; clear n0_ n1_ n2_ n3_; (try clear hb); (try clear hb2); (try clear hk); (try clear hi); have hcz69_0 : w68.cell? ⟨gb160, 0, none⟩ = some (.bool a0_0) := (blk_cell BK160.out 0).trans rfl; have hcz69_1 : w68.cell? ⟨gb160, 1, none⟩ = some (.int .i64 a0_1) := (blk_cell BK160.out 1).trans rfl; have hcz69_2 : w68.cell? ⟨gb160, 2, none⟩ = some (.bool true) := (blk_cell BK160.out 2).trans rfl; have hcz69_3 : w68.cell? ⟨gb160, 3, none⟩ = some (.int .i64 a0_3) := (blk_cell BK160.out 3).trans rfl; have hcz69_4 : w68.cell? ⟨gb160, 4, none⟩ = some (.int .u64 1) := (blk_cell BK160.out 4).trans rfl; have hcz69_5 : w68.cell? ⟨gb160, 5, none⟩ = some (.int .u64 a0_5) := (blk_cell BK160.out 5).trans rfl; have hfz69_0 := blk_frozen BK160.out 0; have hfz69_1 := blk_frozen BK160.out 1; have hfz69_2 := blk_frozen BK160.out 2; have hfz69_3 := blk_frozen BK160.out 3; have hfz69_4 := blk_frozen BK160.out 4; have hfz69_5 := blk_frozen BK160.out 5; have hcz70_0 : w68.cell? ⟨gb162, 0, none⟩ = some (.bool false) := (blk_cell BK162.out 0).trans rfl; have hcz70_1 : w68.cell? ⟨gb162, 1, none⟩ = some (.int .i64 0) := (blk_cell BK162.out 1).trans rfl; have hcz70_2 : w68.cell? ⟨gb162, 2, none⟩ = some (.bool false) := (blk_cell BK162.out 2).trans rfl; have hcz70_3 : w68.cell? ⟨gb162, 3, none⟩ = some (.int .i64 0) := (blk_cell BK162.out 3).trans rfl; have hcz70_4 : w68.cell? ⟨gb162, 4, none⟩ = some (.int .u64 0) := (blk_cell BK162.out 4).trans rfl; have hcz70_5 : w68.cell? ⟨gb162, 5, none⟩ = some (.int .u64 0) := (blk_cell BK162.out 5).trans rfl; have hfz70_0 := blk_frozen BK162.out 0; have hfz70_1 := blk_frozen BK162.out 1; have hfz70_2 := blk_frozen BK162.out 2; have hfz70_3 := blk_frozen BK162.out 3; have hfz70_4 := blk_frozen BK162.out 4; have hfz70_5 := blk_frozen BK162.out 5))
  refine bodyPost_ret (results_cell_row rfl _ _ gb162 24 #[.bool a0_0, .int .i64 a0_1, .bool true, .int .i64 t168, .int .u64 1, .int .u64 1] (0, 0) _ rfl (by refine blk_put (cs := #[.bool a0_0, .int .i64 a0_1, .bool true, .int .i64 t168, .int .u64 1, .int .u64 0]) ?_ 5 _ rfl; refine blk_put (cs := #[.bool a0_0, .int .i64 a0_1, .bool true, .int .i64 t168, .int .u64 0, .int .u64 0]) ?_ 4 _ rfl; refine blk_put (cs := #[.bool a0_0, .int .i64 a0_1, .bool true, .int .i64 0, .int .u64 0, .int .u64 0]) ?_ 3 _ rfl; refine blk_put (cs := #[.bool a0_0, .int .i64 a0_1, .bool false, .int .i64 0, .int .u64 0, .int .u64 0]) ?_ 2 _ rfl; refine blk_put (cs := #[.bool a0_0, .int .i64 0, .bool false, .int .i64 0, .int .u64 0, .int .u64 0]) ?_ 1 _ rfl; refine blk_put (cs := #[.bool false, .int .i64 0, .bool false, .int .i64 0, .int .u64 0, .int .u64 0]) ?_ 0 _ rfl; refine blk_far ?_ NB162_160.out _; refine blk_far ?_ NB162_160.out _; exact BK162.out) Try.underlying24 rfl (by kernel_rfl)) rfl ?_
  exact ⟨by first | rfl | (simp [errW_none, errW_some] <;> rfl) | (simp [*, errW_none, errW_some] <;> rfl), by repeat (first | (with_reducible first | exact HB.out | apply below_alloc | apply pw_below_drewN | apply below_drew1 | refine below_set ?_ GE160.out | refine below_set ?_ GE161.out | refine below_set ?_ GE162.out) | exact HB.out)⟩

/-! ### codel_State_Look: function 11 -/
def codel_State_Look.f (k : Nat) (a0_0 : Bool) (a0_1 : Int) (a0_2 : Bool) (a0_3 : Int) (a0_4 : Int) (a0_5 : Int) (a1_0 : Int) (a1_1 : Int) (a2 : Int) (a3 : Int) (a4 : Int) : Option (Bool × Int × Bool × Int × Int × Int × Int) := (codel_State_note.f k a0_0 a0_1 a0_2 a0_3 a0_4 a0_5 a1_0 a1_1 a2 a3 a4).bind fun bt172 => (if bt172.2.2.2.2.2.2 = true then (if bt172.2.2.1 = true then ((codel_State_due.f bt172.1 bt172.2.1 bt172.2.2.1 bt172.2.2.2.1 bt172.2.2.2.2.1 bt172.2.2.2.2.2.1 a2).bind fun bt179 => (some (bt179.1, bt179.2.1, bt179.2.2.1, bt179.2.2.2.1, bt179.2.2.2.2.1, bt179.2.2.2.2.2.1, bt179.2.2.2.2.2.2))) else ((codel_State_enter.f k bt172.1 bt172.2.1 bt172.2.2.1 bt172.2.2.2.1 bt172.2.2.2.2.1 bt172.2.2.2.2.2.1 a1_0 a1_1 a2).bind fun bt186 => (some (bt186.1, bt186.2.1, bt186.2.2.1, bt186.2.2.2.1, bt186.2.2.2.2.1, bt186.2.2.2.2.2, 2)))) else (some (bt172.1, bt172.2.1, false, bt172.2.2.2.1, bt172.2.2.2.2.1, bt172.2.2.2.2.2.1, 0)))
theorem codel_State_Look.mono : ∀ a0 a1 a2 a3 a4 a5 a6 a7 a8 a9 a10 k, LeO (codel_State_Look.f k a0 a1 a2 a3 a4 a5 a6 a7 a8 a9 a10) (codel_State_Look.f (k + 1) a0 a1 a2 a3 a4 a5 a6 a7 a8 a9 a10) := by
 intro a0 a1 a2 a3 a4 a5 a6 a7 a8 a9 a10 k
 unfold codel_State_Look.f
 repeat' first
   | (with_reducible exact codel_State_enter.mono _ _ _ _ _ _ _ _ _ _)
   | (with_reducible exact codel_State_note.mono _ _ _ _ _ _ _ _ _ _ _ _)
   | (with_reducible exact LeO.refl _)
   | (with_reducible exact LeO.none _)
   | (with_reducible refine LeO.ite ?_ ?_)
   | (with_reducible refine LeO.bind ?_ (fun _ => ?_))
   | exact codel_State_enter.mono _ _ _ _ _ _ _ _ _ _
   | exact codel_State_note.mono _ _ _ _ _ _ _ _ _ _ _ _
   | exact LeO.none _
   | refine LeO.ite ?_ ?_
   | refine LeO.bind ?_ (fun _ => ?_)
set_option maxHeartbeats 8000000 in
set_option maxRecDepth 100000 in
theorem codel_State_Look.calls (k : Nat) (a0_0 : Bool) (a0_1 : Int) (a0_2 : Bool) (a0_3 : Int) (a0_4 : Int) (a0_5 : Int) (a1_0 : Int) (a1_1 : Int) (a2 : Int) (a3 : Int) (a4 : Int) (r1 : Bool) (r2 : Int) (r3 : Bool) (r4 : Int) (r5 : Int) (r6 : Int) (r7 : Int) (w : World) (h : codel_State_Look.f k a0_0 a0_1 a0_2 a0_3 a0_4 a0_5 a1_0 a1_1 a2 a3 a4 = some (r1, r2, r3, r4, r5, r6, r7)) :
  Calls Try.prog 11 #[.agg #[.bool a0_0, .int .i64 a0_1, .bool a0_2, .int .i64 a0_3, .int .u64 a0_4, .int .u64 a0_5], .agg #[.int .i64 a1_0, .int .i64 a1_1], .int .i64 a2, .int .i64 a3, .int .i64 a4] w fun e w' => e = .returned (.tuple #[.agg #[.bool r1, .int .i64 r2, .bool r3, .int .i64 r4, .int .u64 r5, .int .u64 r6], .int .i64 r7]) ∧ Below w.heap.size w w' := by
 have hu24 := Try.underlying24
 have hu26 := Try.underlying26
 have HB := Aside0.mk (Below.refl w.heap.size w)
 have H : ((codel_State_note.f k a0_0 a0_1 a0_2 a0_3 a0_4 a0_5 a1_0 a1_1 a2 a3 a4).bind fun bt172 => (if bt172.2.2.2.2.2.2 = true then (if bt172.2.2.1 = true then ((codel_State_due.f bt172.1 bt172.2.1 bt172.2.2.1 bt172.2.2.2.1 bt172.2.2.2.2.1 bt172.2.2.2.2.2.1 a2).bind fun bt179 => (some (bt179.1, bt179.2.1, bt179.2.2.1, bt179.2.2.2.1, bt179.2.2.2.2.1, bt179.2.2.2.2.2.1, bt179.2.2.2.2.2.2))) else ((codel_State_enter.f k bt172.1 bt172.2.1 bt172.2.2.1 bt172.2.2.2.1 bt172.2.2.2.2.1 bt172.2.2.2.2.2.1 a1_0 a1_1 a2).bind fun bt186 => (some (bt186.1, bt186.2.1, bt186.2.2.1, bt186.2.2.2.1, bt186.2.2.2.2.1, bt186.2.2.2.2.2, 2)))) else (some (bt172.1, bt172.2.1, false, bt172.2.2.2.1, bt172.2.2.2.2.1, bt172.2.2.2.2.2.1, 0)))) = some (r1, r2, r3, r4, r5, r6, r7) := h
 clear h
 replace H := Option.bind_eq_some_iff.mp H
 obtain ⟨⟨t172, t173, t174, t175, t176, t177, t178⟩, A60, H⟩ := H
 replace H : (if t178 = true then (if t174 = true then ((codel_State_due.f t172 t173 t174 t175 t176 t177 a2).bind fun bt179 => (some (bt179.1, bt179.2.1, bt179.2.2.1, bt179.2.2.2.1, bt179.2.2.2.2.1, bt179.2.2.2.2.2.1, bt179.2.2.2.2.2.2))) else ((codel_State_enter.f k t172 t173 t174 t175 t176 t177 a1_0 a1_1 a2).bind fun bt186 => (some (bt186.1, bt186.2.1, bt186.2.2.1, bt186.2.2.2.1, bt186.2.2.2.2.1, bt186.2.2.2.2.2, 2)))) else (some (t172, t173, false, t175, t176, t177, 0))) = some (r1, r2, r3, r4, r5, r6, r7) := H
 have A6 := Aside0.mk A60
 clear A60
 by_cases c7 : t178 = true
 ·subst c7
  have H1 : (if t174 = true then ((codel_State_due.f t172 t173 t174 t175 t176 t177 a2).bind fun bt179 => (some (bt179.1, bt179.2.1, bt179.2.2.1, bt179.2.2.2.1, bt179.2.2.2.2.1, bt179.2.2.2.2.2.1, bt179.2.2.2.2.2.2))) else ((codel_State_enter.f k t172 t173 t174 t175 t176 t177 a1_0 a1_1 a2).bind fun bt186 => (some (bt186.1, bt186.2.1, bt186.2.2.1, bt186.2.2.2.1, bt186.2.2.2.2.1, bt186.2.2.2.2.2, 2)))) = some (r1, r2, r3, r4, r5, r6, r7) := by rw [if_pos rfl] at H; exact H
  clear H
  have H := H1
  clear H1
  by_cases c8 : t174 = true
  ·subst c8
   have H1 : ((codel_State_due.f t172 t173 true t175 t176 t177 a2).bind fun bt179 => (some (bt179.1, bt179.2.1, bt179.2.2.1, bt179.2.2.2.1, bt179.2.2.2.2.1, bt179.2.2.2.2.2.1, bt179.2.2.2.2.2.2))) = some (r1, r2, r3, r4, r5, r6, r7) := by rw [if_pos rfl] at H; exact H
   clear H
   have H := H1
   clear H1
   replace H := Option.bind_eq_some_iff.mp H
   obtain ⟨⟨t179, t180, t181, t182, t183, t184, t185⟩, A90, H⟩ := H
   replace H : (some (t179, t180, t181, t182, t183, t184, t185)) = some (r1, r2, r3, r4, r5, r6, r7) := H
   have A9 := Aside0.mk A90
   clear A90
   simp only [Option.some.injEq, Prod.mk.injEq] at H
   obtain ⟨rfl, rfl, rfl, rfl, rfl, rfl, rfl⟩ := H
   go_enter Try.func11, Try.ntmps11
   have mk_ : True := trivial
   go_wp2_with (first | ((first | (with_reducible refine gate_dst (N := 25) rfl ?_) | (with_reducible refine gate_dst (N := 26) rfl ?_) | (with_reducible refine gate_dst (N := 28) rfl ?_) | (with_reducible refine gate_dst (N := 30) rfl ?_) | (with_reducible refine gate_dst (N := 35) rfl ?_)); clear mk_; generalize hq_ : World.setCell (World.setCell (World.setCell (World.setCell (World.setCell (World.setCell (w18) _ _) _ _) _ _) _ _) _ _) _ _ = wq; have n0_ : Aside0 (wq.heap[gb169]? = some (.cells #[.bool t172, .int .i64 t173, .bool true, .int .i64 t175, .int .u64 t176, .int .u64 t177] 24 (0, 0))) := ⟨by rw [← hq_]; refine blk_put (cs := #[.bool t172, .int .i64 t173, .bool true, .int .i64 t175, .int .u64 t176, .int .u64 a0_5]) ?_ 5 _ rfl; refine blk_put (cs := #[.bool t172, .int .i64 t173, .bool true, .int .i64 t175, .int .u64 a0_4, .int .u64 a0_5]) ?_ 4 _ rfl; refine blk_put (cs := #[.bool t172, .int .i64 t173, .bool true, .int .i64 a0_3, .int .u64 a0_4, .int .u64 a0_5]) ?_ 3 _ rfl; refine blk_put (cs := #[.bool t172, .int .i64 t173, .bool a0_2, .int .i64 a0_3, .int .u64 a0_4, .int .u64 a0_5]) ?_ 2 _ rfl; refine blk_put (cs := #[.bool t172, .int .i64 a0_1, .bool a0_2, .int .i64 a0_3, .int .u64 a0_4, .int .u64 a0_5]) ?_ 1 _ rfl; refine blk_put (cs := #[.bool a0_0, .int .i64 a0_1, .bool a0_2, .int .i64 a0_3, .int .u64 a0_4, .int .u64 a0_5]) ?_ 0 _ rfl; exact BK169.out⟩; have n1_ : Aside0 (wq.heap[gb170]? = some (.cells #[.int .i64 a1_0, .int .i64 a1_1] 26 (0, 0))) := ⟨by rw [← hq_]; refine blk_far ?_ NB170_169.out _; refine blk_far ?_ NB170_169.out _; refine blk_far ?_ NB170_169.out _; refine blk_far ?_ NB170_169.out _; refine blk_far ?_ NB170_169.out _; refine blk_far ?_ NB170_169.out _; exact BK170.out⟩; have n2_ : Aside0 (wq.heap[gb171]? = some (.cells #[.bool false, .int .i64 0, .bool false, .int .i64 0, .int .u64 0, .int .u64 0] 24 (0, 0))) := ⟨by rw [← hq_]; refine blk_far ?_ NB171_169.out _; refine blk_far ?_ NB171_169.out _; refine blk_far ?_ NB171_169.out _; refine blk_far ?_ NB171_169.out _; refine blk_far ?_ NB171_169.out _; refine blk_far ?_ NB171_169.out _; exact BK171.out⟩; have n3_ : Aside0 (Below w.heap.size w wq) := ⟨by rw [← hq_]; repeat (first | (with_reducible first | exact HB.out | refine below_set ?_ GE169.out | refine below_set ?_ GE170.out | refine below_set ?_ GE171.out) | exact HB.out)⟩; clear BK169 BK170 BK171 HB hq_; have BK169 := n0_; have BK170 := n1_; have BK171 := n2_; have HB := n3_; clear n0_ n1_ n2_ n3_; have hcq169_0 : wq.cell? ⟨gb169, 0, none⟩ = some (.bool t172) := (blk_cell BK169.out 0).trans rfl; have hfq169_0 := blk_frozen BK169.out 0; have hcq169_1 : wq.cell? ⟨gb169, 1, none⟩ = some (.int .i64 t173) := (blk_cell BK169.out 1).trans rfl; have hfq169_1 := blk_frozen BK169.out 1; have hcq169_2 : wq.cell? ⟨gb169, 2, none⟩ = some (.bool true) := (blk_cell BK169.out 2).trans rfl; have hfq169_2 := blk_frozen BK169.out 2; have hcq169_3 : wq.cell? ⟨gb169, 3, none⟩ = some (.int .i64 t175) := (blk_cell BK169.out 3).trans rfl; have hfq169_3 := blk_frozen BK169.out 3; have hcq169_4 : wq.cell? ⟨gb169, 4, none⟩ = some (.int .u64 t176) := (blk_cell BK169.out 4).trans rfl; have hfq169_4 := blk_frozen BK169.out 4; have hcq169_5 : wq.cell? ⟨gb169, 5, none⟩ = some (.int .u64 t177) := (blk_cell BK169.out 5).trans rfl; have hfq169_5 := blk_frozen BK169.out 5; have hcq170_0 : wq.cell? ⟨gb170, 0, none⟩ = some (.int .i64 a1_0) := (blk_cell BK170.out 0).trans rfl; have hfq170_0 := blk_frozen BK170.out 0; have hcq170_1 : wq.cell? ⟨gb170, 1, none⟩ = some (.int .i64 a1_1) := (blk_cell BK170.out 1).trans rfl; have hfq170_1 := blk_frozen BK170.out 1; have hcq171_0 : wq.cell? ⟨gb171, 0, none⟩ = some (.bool false) := (blk_cell BK171.out 0).trans rfl; have hfq171_0 := blk_frozen BK171.out 0; have hcq171_1 : wq.cell? ⟨gb171, 1, none⟩ = some (.int .i64 0) := (blk_cell BK171.out 1).trans rfl; have hfq171_1 := blk_frozen BK171.out 1; have hcq171_2 : wq.cell? ⟨gb171, 2, none⟩ = some (.bool false) := (blk_cell BK171.out 2).trans rfl; have hfq171_2 := blk_frozen BK171.out 2; have hcq171_3 : wq.cell? ⟨gb171, 3, none⟩ = some (.int .i64 0) := (blk_cell BK171.out 3).trans rfl; have hfq171_3 := blk_frozen BK171.out 3; have hcq171_4 : wq.cell? ⟨gb171, 4, none⟩ = some (.int .u64 0) := (blk_cell BK171.out 4).trans rfl; have hfq171_4 := blk_frozen BK171.out 4; have hcq171_5 : wq.cell? ⟨gb171, 5, none⟩ = some (.int .u64 0) := (blk_cell BK171.out 5).trans rfl; have hfq171_5 := blk_frozen BK171.out 5) | ((with_reducible refine gate_dst (N := 5) rfl ?_); refine box_event ?hg (N := 5) ?hd (cs := #[.bool a0_0, .int .i64 a0_1, .bool a0_2, .int .i64 a0_3, .int .u64 a0_4, .int .u64 a0_5]) (t := 24) ?hr ?_; (case hd => rfl); (case hg => rfl); (case hr => first | (go_simp; done) | (go_simp; rfl)); intro gb169 hg w10 hbox hb; have n0_ := Aside0.mk (below_step (by repeat (first | (with_reducible first | exact HB.out | apply below_alloc | apply pw_below_drewN | apply below_drew1) | exact HB.out)) hb); have n1_ := Aside0.mk (hbox); have n2_ := Aside0.mk ((by rw [hg]; exact (below_size (by repeat (first | (with_reducible first | exact HB.out | apply below_alloc | apply pw_below_drewN | apply below_drew1) | exact HB.out))) : w.heap.size ≤ gb169)); have n3_ := Aside0.mk ((by rw [hg]; exact (below_size (by repeat (first | (with_reducible first | exact HB.out | apply below_alloc | apply pw_below_drewN | apply below_drew1) | exact HB.out))) : w.heap.size ≤ gb169)); clear HB; have HB := n0_; have BK169 := n1_; have GW169 := n2_; have GE169 := n3_; clear n0_ n1_ n2_ n3_; clear hb hbox hg) | ((with_reducible refine gate_dst (N := 6) rfl ?_); refine box_event ?hg (N := 6) ?hd (cs := #[.int .i64 a1_0, .int .i64 a1_1]) (t := 26) ?hr ?_; (case hd => rfl); (case hg => rfl); (case hr => first | (go_simp; done) | (go_simp; rfl)); intro gb170 hg w11 hbox hb; have n0_ := Aside0.mk (blk_below (by exact BK169.out) hb); have n1_ := Aside0.mk (below_step (by repeat (first | (with_reducible first | exact HB.out | apply below_alloc | apply pw_below_drewN | apply below_drew1 | refine below_set ?_ GE169.out) | exact HB.out)) hb); have n2_ := Aside0.mk (hbox); have n3_ := Aside0.mk ((by rw [hg]; exact (below_size (by repeat (first | (with_reducible first | exact HB.out | apply below_alloc | apply pw_below_drewN | apply below_drew1 | refine below_set ?_ GE169.out) | exact HB.out))) : w.heap.size ≤ gb170)); have n4_ := Aside0.mk ((by rw [hg]; exact (below_size (by repeat (first | (with_reducible first | exact HB.out | apply below_alloc | apply pw_below_drewN | apply below_drew1 | refine below_set ?_ GE169.out) | exact HB.out))) : w.heap.size ≤ gb170)); have n5_ := Aside0.mk ((by rw [hg]; exact Nat.ne_of_lt (blk_lt (by exact BK169.out)) : gb169 ≠ gb170)); have n6_ := Aside0.mk ((by rw [hg]; exact Nat.ne_of_gt (blk_lt (by exact BK169.out)) : gb170 ≠ gb169)); clear BK169; clear HB; have BK169 := n0_; have HB := n1_; have BK170 := n2_; have GW170 := n3_; have GE170 := n4_; have NB169_170 := n5_; have NB170_169 := n6_; clear n0_ n1_ n2_ n3_ n4_ n5_ n6_; clear hb hbox hg) | ((with_reducible refine gate_dst (N := 10) rfl ?_); refine box_event ?hg (N := 10) ?hd (cs := #[.bool false, .int .i64 0, .bool false, .int .i64 0, .int .u64 0, .int .u64 0]) (t := 24) ?hr ?_; (case hd => rfl); (case hg => rfl); (case hr => first | (go_simp; done) | (go_simp; rfl)); intro gb171 hg w12 hbox hb; have n0_ := Aside0.mk (blk_below (by exact BK169.out) hb); have n1_ := Aside0.mk (blk_below (by exact BK170.out) hb); have n2_ := Aside0.mk (below_step (by repeat (first | (with_reducible first | exact HB.out | apply below_alloc | apply pw_below_drewN | apply below_drew1 | refine below_set ?_ GE169.out | refine below_set ?_ GE170.out) | exact HB.out)) hb); have n3_ := Aside0.mk (hbox); have n4_ := Aside0.mk ((by rw [hg]; exact (below_size (by repeat (first | (with_reducible first | exact HB.out | apply below_alloc | apply pw_below_drewN | apply below_drew1 | refine below_set ?_ GE169.out | refine below_set ?_ GE170.out) | exact HB.out))) : w.heap.size ≤ gb171)); have n5_ := Aside0.mk ((by rw [hg]; exact (below_size (by repeat (first | (with_reducible first | exact HB.out | apply below_alloc | apply pw_below_drewN | apply below_drew1 | refine below_set ?_ GE169.out | refine below_set ?_ GE170.out) | exact HB.out))) : w.heap.size ≤ gb171)); have n6_ := Aside0.mk ((by rw [hg]; exact Nat.ne_of_lt (blk_lt (by exact BK169.out)) : gb169 ≠ gb171)); have n7_ := Aside0.mk ((by rw [hg]; exact Nat.ne_of_gt (blk_lt (by exact BK169.out)) : gb171 ≠ gb169)); have n8_ := Aside0.mk ((by rw [hg]; exact Nat.ne_of_lt (blk_lt (by exact BK170.out)) : gb170 ≠ gb171)); have n9_ := Aside0.mk ((by rw [hg]; exact Nat.ne_of_gt (blk_lt (by exact BK170.out)) : gb171 ≠ gb170)); clear BK169; clear BK170; clear HB; have BK169 := n0_; have BK170 := n1_; have HB := n2_; have BK171 := n3_; have GW171 := n4_; have GE171 := n5_; have NB169_171 := n6_; have NB171_169 := n7_; have NB170_171 := n8_; have NB171_170 := n9_; clear n0_ n1_ n2_ n3_ n4_ n5_ n6_ n7_ n8_ n9_; clear hb hbox hg; have hnb13 := NB169_170.out; have hnc13 := NB170_169.out; have hnb14 := NB169_171.out; have hnc14 := NB171_169.out; have hcz15_0 : w12.cell? ⟨gb169, 0, none⟩ = some (.bool a0_0) := (blk_cell BK169.out 0).trans rfl; have hcz15_1 : w12.cell? ⟨gb169, 1, none⟩ = some (.int .i64 a0_1) := (blk_cell BK169.out 1).trans rfl; have hcz15_2 : w12.cell? ⟨gb169, 2, none⟩ = some (.bool a0_2) := (blk_cell BK169.out 2).trans rfl; have hcz15_3 : w12.cell? ⟨gb169, 3, none⟩ = some (.int .i64 a0_3) := (blk_cell BK169.out 3).trans rfl; have hcz15_4 : w12.cell? ⟨gb169, 4, none⟩ = some (.int .u64 a0_4) := (blk_cell BK169.out 4).trans rfl; have hcz15_5 : w12.cell? ⟨gb169, 5, none⟩ = some (.int .u64 a0_5) := (blk_cell BK169.out 5).trans rfl; have hfz15_0 := blk_frozen BK169.out 0; have hfz15_1 := blk_frozen BK169.out 1; have hfz15_2 := blk_frozen BK169.out 2; have hfz15_3 := blk_frozen BK169.out 3; have hfz15_4 := blk_frozen BK169.out 4; have hfz15_5 := blk_frozen BK169.out 5; have hnb16 := NB170_171.out; have hnc16 := NB171_170.out; have hcz17_0 : w12.cell? ⟨gb170, 0, none⟩ = some (.int .i64 a1_0) := (blk_cell BK170.out 0).trans rfl; have hcz17_1 : w12.cell? ⟨gb170, 1, none⟩ = some (.int .i64 a1_1) := (blk_cell BK170.out 1).trans rfl; have hfz17_0 := blk_frozen BK170.out 0; have hfz17_1 := blk_frozen BK170.out 1) | ((with_reducible refine gate_callee (f := 27) rfl ?_); refine goesL_ (some 19) rfl rfl Try.func27 (by kernel_rfl) rfl #[.agg #[.bool a0_0, .int .i64 a0_1, .bool a0_2, .int .i64 a0_3, .int .u64 a0_4, .int .u64 a0_5], .agg #[.int .i64 a1_0, .int .i64 a1_1], .int .i64 a2, .int .i64 a3, .int .i64 a4] rfl (by (try simp only [List.map_toArray, List.map_cons, List.map_nil]); first | done | rfl | (simp only [List.length_drop, List.length_take]; rfl)) ?_; (with_reducible refine (codel_State_note.calls k a0_0 a0_1 a0_2 a0_3 a0_4 a0_5 a1_0 a1_1 a2 a3 a4 t172 t173 true t175 t176 t177 true _ A6.out).mono ?_); rintro e w18 ⟨rfl, hb⟩; refine ⟨_, rfl, ?_⟩; have n0_ := Aside0.mk (blk_below (by exact BK169.out) hb); have n1_ := Aside0.mk (blk_below (by exact BK170.out) hb); have n2_ := Aside0.mk (blk_below (by exact BK171.out) hb); have n3_ := Aside0.mk (below_step (by repeat (first | (with_reducible first | exact HB.out | apply below_alloc | apply pw_below_drewN | apply below_drew1 | refine below_set ?_ GE169.out | refine below_set ?_ GE170.out | refine below_set ?_ GE171.out) | exact HB.out)) hb); clear BK169; clear BK170; clear BK171; clear HB; have BK169 := n0_; have BK170 := n1_; have BK171 := n2_; have HB := n3_; clear n0_ n1_ n2_ n3_; (try clear hb); (try clear hb2); (try clear hk); (try clear hi); have hcz19_0 : w18.cell? ⟨gb169, 0, none⟩ = some (.bool a0_0) := (blk_cell BK169.out 0).trans rfl; have hcz19_1 : w18.cell? ⟨gb169, 1, none⟩ = some (.int .i64 a0_1) := (blk_cell BK169.out 1).trans rfl; have hcz19_2 : w18.cell? ⟨gb169, 2, none⟩ = some (.bool a0_2) := (blk_cell BK169.out 2).trans rfl; have hcz19_3 : w18.cell? ⟨gb169, 3, none⟩ = some (.int .i64 a0_3) := (blk_cell BK169.out 3).trans rfl; have hcz19_4 : w18.cell? ⟨gb169, 4, none⟩ = some (.int .u64 a0_4) := (blk_cell BK169.out 4).trans rfl; have hcz19_5 : w18.cell? ⟨gb169, 5, none⟩ = some (.int .u64 a0_5) := (blk_cell BK169.out 5).trans rfl; have hfz19_0 := blk_frozen BK169.out 0; have hfz19_1 := blk_frozen BK169.out 1; have hfz19_2 := blk_frozen BK169.out 2; have hfz19_3 := blk_frozen BK169.out 3; have hfz19_4 := blk_frozen BK169.out 4; have hfz19_5 := blk_frozen BK169.out 5) | ((with_reducible refine gate_callee (f := 28) rfl ?_); refine goesL_ (some 32) rfl rfl Try.func28 (by kernel_rfl) rfl #[.agg #[.bool t172, .int .i64 t173, .bool true, .int .i64 t175, .int .u64 t176, .int .u64 t177], .int .i64 a2] rfl (by (try simp only [List.map_toArray, List.map_cons, List.map_nil]); first | done | rfl | (simp only [List.length_drop, List.length_take]; rfl)) ?_; (with_reducible refine (codel_State_due.calls t172 t173 true t175 t176 t177 a2 t179 t180 t181 t182 t183 t184 t185 _ A9.out).mono ?_); rintro e w20 ⟨rfl, hb⟩; refine ⟨_, rfl, ?_⟩; have n0_ := Aside0.mk (blk_below (g := gb169) (o := .cells #[.bool t172, .int .i64 t173, .bool true, .int .i64 t175, .int .u64 t176, .int .u64 t177] 24 (0, 0)) (by exact BK169.out) hb); have n1_ := Aside0.mk (blk_below (g := gb170) (o := .cells #[.int .i64 a1_0, .int .i64 a1_1] 26 (0, 0)) (by exact BK170.out) hb); have n2_ := Aside0.mk (blk_below (g := gb171) (o := .cells #[.bool false, .int .i64 0, .bool false, .int .i64 0, .int .u64 0, .int .u64 0] 24 (0, 0)) (by exact BK171.out) hb); have n3_ := Aside0.mk (below_step (by repeat (first | (with_reducible first | exact HB.out | apply below_alloc | apply pw_below_drewN | apply below_drew1 | refine below_set ?_ GE169.out | refine below_set ?_ GE170.out | refine below_set ?_ GE171.out) | exact HB.out)) hb); clear BK169; clear BK170; clear BK171; clear HB; have BK169 := n0_; have BK170 := n1_; have BK171 := n2_; have HB := n3_; clear n0_ n1_ n2_ n3_; (try clear hb); (try clear hb2); (try clear hk); (try clear hi); have hcz21_0 : w20.cell? ⟨gb171, 0, none⟩ = some (.bool false) := (blk_cell BK171.out 0).trans rfl; have hcz21_1 : w20.cell? ⟨gb171, 1, none⟩ = some (.int .i64 0) := (blk_cell BK171.out 1).trans rfl; have hcz21_2 : w20.cell? ⟨gb171, 2, none⟩ = some (.bool false) := (blk_cell BK171.out 2).trans rfl; have hcz21_3 : w20.cell? ⟨gb171, 3, none⟩ = some (.int .i64 0) := (blk_cell BK171.out 3).trans rfl; have hcz21_4 : w20.cell? ⟨gb171, 4, none⟩ = some (.int .u64 0) := (blk_cell BK171.out 4).trans rfl; have hcz21_5 : w20.cell? ⟨gb171, 5, none⟩ = some (.int .u64 0) := (blk_cell BK171.out 5).trans rfl; have hfz21_0 := blk_frozen BK171.out 0; have hfz21_1 := blk_frozen BK171.out 1; have hfz21_2 := blk_frozen BK171.out 2; have hfz21_3 := blk_frozen BK171.out 3; have hfz21_4 := blk_frozen BK171.out 4; have hfz21_5 := blk_frozen BK171.out 5))
   refine bodyPost_ret (results_ct rfl _ _ gb171 24 #[.bool t179, .int .i64 t180, .bool t181, .int .i64 t182, .int .u64 t183, .int .u64 t184] (0, 0) _ rfl (by refine blk_put (cs := #[.bool t179, .int .i64 t180, .bool t181, .int .i64 t182, .int .u64 t183, .int .u64 0]) ?_ 5 _ rfl; refine blk_put (cs := #[.bool t179, .int .i64 t180, .bool t181, .int .i64 t182, .int .u64 0, .int .u64 0]) ?_ 4 _ rfl; refine blk_put (cs := #[.bool t179, .int .i64 t180, .bool t181, .int .i64 0, .int .u64 0, .int .u64 0]) ?_ 3 _ rfl; refine blk_put (cs := #[.bool t179, .int .i64 t180, .bool false, .int .i64 0, .int .u64 0, .int .u64 0]) ?_ 2 _ rfl; refine blk_put (cs := #[.bool t179, .int .i64 0, .bool false, .int .i64 0, .int .u64 0, .int .u64 0]) ?_ 1 _ rfl; refine blk_put (cs := #[.bool false, .int .i64 0, .bool false, .int .i64 0, .int .u64 0, .int .u64 0]) ?_ 0 _ rfl; exact BK171.out) Try.underlying24 rfl (by kernel_rfl)) rfl ?_
   exact ⟨by first | rfl | (simp [errW_none, errW_some] <;> rfl) | (simp [*, errW_none, errW_some] <;> rfl), by repeat (first | (with_reducible first | exact HB.out | apply below_alloc | apply pw_below_drewN | apply below_drew1 | refine below_set ?_ GE169.out | refine below_set ?_ GE170.out | refine below_set ?_ GE171.out) | exact HB.out)⟩
  ·replace c8 := Bool.eq_false_iff.mpr c8
   subst c8
   have H1 : ((codel_State_enter.f k t172 t173 false t175 t176 t177 a1_0 a1_1 a2).bind fun bt186 => (some (bt186.1, bt186.2.1, bt186.2.2.1, bt186.2.2.2.1, bt186.2.2.2.2.1, bt186.2.2.2.2.2, 2))) = some (r1, r2, r3, r4, r5, r6, r7) := by rw [if_neg (show ¬ (false = true) by decide)] at H; exact H
   clear H
   have H := H1
   clear H1
   replace H := Option.bind_eq_some_iff.mp H
   obtain ⟨⟨t186, t187, t188, t189, t190, t191⟩, A220, H⟩ := H
   replace H : (some (t186, t187, t188, t189, t190, t191, 2)) = some (r1, r2, r3, r4, r5, r6, r7) := H
   have A22 := Aside0.mk A220
   clear A220
   simp only [Option.some.injEq, Prod.mk.injEq] at H
   obtain ⟨rfl, rfl, rfl, rfl, rfl, rfl, rfl⟩ := H
   go_enter Try.func11, Try.ntmps11
   have mk_ : True := trivial
   go_wp2_with (first | ((first | (with_reducible refine gate_dst (N := 25) rfl ?_) | (with_reducible refine gate_dst (N := 26) rfl ?_) | (with_reducible refine gate_dst (N := 28) rfl ?_) | (with_reducible refine gate_dst (N := 30) rfl ?_) | (with_reducible refine gate_dst (N := 35) rfl ?_)); clear mk_; generalize hq_ : World.setCell (World.setCell (World.setCell (World.setCell (World.setCell (World.setCell (w31) _ _) _ _) _ _) _ _) _ _) _ _ = wq; have n0_ : Aside0 (wq.heap[gb169]? = some (.cells #[.bool t172, .int .i64 t173, .bool false, .int .i64 t175, .int .u64 t176, .int .u64 t177] 24 (0, 0))) := ⟨by rw [← hq_]; refine blk_put (cs := #[.bool t172, .int .i64 t173, .bool false, .int .i64 t175, .int .u64 t176, .int .u64 a0_5]) ?_ 5 _ rfl; refine blk_put (cs := #[.bool t172, .int .i64 t173, .bool false, .int .i64 t175, .int .u64 a0_4, .int .u64 a0_5]) ?_ 4 _ rfl; refine blk_put (cs := #[.bool t172, .int .i64 t173, .bool false, .int .i64 a0_3, .int .u64 a0_4, .int .u64 a0_5]) ?_ 3 _ rfl; refine blk_put (cs := #[.bool t172, .int .i64 t173, .bool a0_2, .int .i64 a0_3, .int .u64 a0_4, .int .u64 a0_5]) ?_ 2 _ rfl; refine blk_put (cs := #[.bool t172, .int .i64 a0_1, .bool a0_2, .int .i64 a0_3, .int .u64 a0_4, .int .u64 a0_5]) ?_ 1 _ rfl; refine blk_put (cs := #[.bool a0_0, .int .i64 a0_1, .bool a0_2, .int .i64 a0_3, .int .u64 a0_4, .int .u64 a0_5]) ?_ 0 _ rfl; exact BK169.out⟩; have n1_ : Aside0 (wq.heap[gb170]? = some (.cells #[.int .i64 a1_0, .int .i64 a1_1] 26 (0, 0))) := ⟨by rw [← hq_]; refine blk_far ?_ NB170_169.out _; refine blk_far ?_ NB170_169.out _; refine blk_far ?_ NB170_169.out _; refine blk_far ?_ NB170_169.out _; refine blk_far ?_ NB170_169.out _; refine blk_far ?_ NB170_169.out _; exact BK170.out⟩; have n2_ : Aside0 (wq.heap[gb171]? = some (.cells #[.bool false, .int .i64 0, .bool false, .int .i64 0, .int .u64 0, .int .u64 0] 24 (0, 0))) := ⟨by rw [← hq_]; refine blk_far ?_ NB171_169.out _; refine blk_far ?_ NB171_169.out _; refine blk_far ?_ NB171_169.out _; refine blk_far ?_ NB171_169.out _; refine blk_far ?_ NB171_169.out _; refine blk_far ?_ NB171_169.out _; exact BK171.out⟩; have n3_ : Aside0 (Below w.heap.size w wq) := ⟨by rw [← hq_]; repeat (first | (with_reducible first | exact HB.out | refine below_set ?_ GE169.out | refine below_set ?_ GE170.out | refine below_set ?_ GE171.out) | exact HB.out)⟩; clear BK169 BK170 BK171 HB hq_; have BK169 := n0_; have BK170 := n1_; have BK171 := n2_; have HB := n3_; clear n0_ n1_ n2_ n3_; have hcq169_0 : wq.cell? ⟨gb169, 0, none⟩ = some (.bool t172) := (blk_cell BK169.out 0).trans rfl; have hfq169_0 := blk_frozen BK169.out 0; have hcq169_1 : wq.cell? ⟨gb169, 1, none⟩ = some (.int .i64 t173) := (blk_cell BK169.out 1).trans rfl; have hfq169_1 := blk_frozen BK169.out 1; have hcq169_2 : wq.cell? ⟨gb169, 2, none⟩ = some (.bool false) := (blk_cell BK169.out 2).trans rfl; have hfq169_2 := blk_frozen BK169.out 2; have hcq169_3 : wq.cell? ⟨gb169, 3, none⟩ = some (.int .i64 t175) := (blk_cell BK169.out 3).trans rfl; have hfq169_3 := blk_frozen BK169.out 3; have hcq169_4 : wq.cell? ⟨gb169, 4, none⟩ = some (.int .u64 t176) := (blk_cell BK169.out 4).trans rfl; have hfq169_4 := blk_frozen BK169.out 4; have hcq169_5 : wq.cell? ⟨gb169, 5, none⟩ = some (.int .u64 t177) := (blk_cell BK169.out 5).trans rfl; have hfq169_5 := blk_frozen BK169.out 5; have hcq170_0 : wq.cell? ⟨gb170, 0, none⟩ = some (.int .i64 a1_0) := (blk_cell BK170.out 0).trans rfl; have hfq170_0 := blk_frozen BK170.out 0; have hcq170_1 : wq.cell? ⟨gb170, 1, none⟩ = some (.int .i64 a1_1) := (blk_cell BK170.out 1).trans rfl; have hfq170_1 := blk_frozen BK170.out 1; have hcq171_0 : wq.cell? ⟨gb171, 0, none⟩ = some (.bool false) := (blk_cell BK171.out 0).trans rfl; have hfq171_0 := blk_frozen BK171.out 0; have hcq171_1 : wq.cell? ⟨gb171, 1, none⟩ = some (.int .i64 0) := (blk_cell BK171.out 1).trans rfl; have hfq171_1 := blk_frozen BK171.out 1; have hcq171_2 : wq.cell? ⟨gb171, 2, none⟩ = some (.bool false) := (blk_cell BK171.out 2).trans rfl; have hfq171_2 := blk_frozen BK171.out 2; have hcq171_3 : wq.cell? ⟨gb171, 3, none⟩ = some (.int .i64 0) := (blk_cell BK171.out 3).trans rfl; have hfq171_3 := blk_frozen BK171.out 3; have hcq171_4 : wq.cell? ⟨gb171, 4, none⟩ = some (.int .u64 0) := (blk_cell BK171.out 4).trans rfl; have hfq171_4 := blk_frozen BK171.out 4; have hcq171_5 : wq.cell? ⟨gb171, 5, none⟩ = some (.int .u64 0) := (blk_cell BK171.out 5).trans rfl; have hfq171_5 := blk_frozen BK171.out 5) | ((with_reducible refine gate_dst (N := 5) rfl ?_); refine box_event ?hg (N := 5) ?hd (cs := #[.bool a0_0, .int .i64 a0_1, .bool a0_2, .int .i64 a0_3, .int .u64 a0_4, .int .u64 a0_5]) (t := 24) ?hr ?_; (case hd => rfl); (case hg => rfl); (case hr => first | (go_simp; done) | (go_simp; rfl)); intro gb169 hg w23 hbox hb; have n0_ := Aside0.mk (below_step (by repeat (first | (with_reducible first | exact HB.out | apply below_alloc | apply pw_below_drewN | apply below_drew1) | exact HB.out)) hb); have n1_ := Aside0.mk (hbox); have n2_ := Aside0.mk ((by rw [hg]; exact (below_size (by repeat (first | (with_reducible first | exact HB.out | apply below_alloc | apply pw_below_drewN | apply below_drew1) | exact HB.out))) : w.heap.size ≤ gb169)); have n3_ := Aside0.mk ((by rw [hg]; exact (below_size (by repeat (first | (with_reducible first | exact HB.out | apply below_alloc | apply pw_below_drewN | apply below_drew1) | exact HB.out))) : w.heap.size ≤ gb169)); clear HB; have HB := n0_; have BK169 := n1_; have GW169 := n2_; have GE169 := n3_; clear n0_ n1_ n2_ n3_; clear hb hbox hg) | ((with_reducible refine gate_dst (N := 6) rfl ?_); refine box_event ?hg (N := 6) ?hd (cs := #[.int .i64 a1_0, .int .i64 a1_1]) (t := 26) ?hr ?_; (case hd => rfl); (case hg => rfl); (case hr => first | (go_simp; done) | (go_simp; rfl)); intro gb170 hg w24 hbox hb; have n0_ := Aside0.mk (blk_below (by exact BK169.out) hb); have n1_ := Aside0.mk (below_step (by repeat (first | (with_reducible first | exact HB.out | apply below_alloc | apply pw_below_drewN | apply below_drew1 | refine below_set ?_ GE169.out) | exact HB.out)) hb); have n2_ := Aside0.mk (hbox); have n3_ := Aside0.mk ((by rw [hg]; exact (below_size (by repeat (first | (with_reducible first | exact HB.out | apply below_alloc | apply pw_below_drewN | apply below_drew1 | refine below_set ?_ GE169.out) | exact HB.out))) : w.heap.size ≤ gb170)); have n4_ := Aside0.mk ((by rw [hg]; exact (below_size (by repeat (first | (with_reducible first | exact HB.out | apply below_alloc | apply pw_below_drewN | apply below_drew1 | refine below_set ?_ GE169.out) | exact HB.out))) : w.heap.size ≤ gb170)); have n5_ := Aside0.mk ((by rw [hg]; exact Nat.ne_of_lt (blk_lt (by exact BK169.out)) : gb169 ≠ gb170)); have n6_ := Aside0.mk ((by rw [hg]; exact Nat.ne_of_gt (blk_lt (by exact BK169.out)) : gb170 ≠ gb169)); clear BK169; clear HB; have BK169 := n0_; have HB := n1_; have BK170 := n2_; have GW170 := n3_; have GE170 := n4_; have NB169_170 := n5_; have NB170_169 := n6_; clear n0_ n1_ n2_ n3_ n4_ n5_ n6_; clear hb hbox hg) | ((with_reducible refine gate_dst (N := 10) rfl ?_); refine box_event ?hg (N := 10) ?hd (cs := #[.bool false, .int .i64 0, .bool false, .int .i64 0, .int .u64 0, .int .u64 0]) (t := 24) ?hr ?_; (case hd => rfl); (case hg => rfl); (case hr => first | (go_simp; done) | (go_simp; rfl)); intro gb171 hg w25 hbox hb; have n0_ := Aside0.mk (blk_below (by exact BK169.out) hb); have n1_ := Aside0.mk (blk_below (by exact BK170.out) hb); have n2_ := Aside0.mk (below_step (by repeat (first | (with_reducible first | exact HB.out | apply below_alloc | apply pw_below_drewN | apply below_drew1 | refine below_set ?_ GE169.out | refine below_set ?_ GE170.out) | exact HB.out)) hb); have n3_ := Aside0.mk (hbox); have n4_ := Aside0.mk ((by rw [hg]; exact (below_size (by repeat (first | (with_reducible first | exact HB.out | apply below_alloc | apply pw_below_drewN | apply below_drew1 | refine below_set ?_ GE169.out | refine below_set ?_ GE170.out) | exact HB.out))) : w.heap.size ≤ gb171)); have n5_ := Aside0.mk ((by rw [hg]; exact (below_size (by repeat (first | (with_reducible first | exact HB.out | apply below_alloc | apply pw_below_drewN | apply below_drew1 | refine below_set ?_ GE169.out | refine below_set ?_ GE170.out) | exact HB.out))) : w.heap.size ≤ gb171)); have n6_ := Aside0.mk ((by rw [hg]; exact Nat.ne_of_lt (blk_lt (by exact BK169.out)) : gb169 ≠ gb171)); have n7_ := Aside0.mk ((by rw [hg]; exact Nat.ne_of_gt (blk_lt (by exact BK169.out)) : gb171 ≠ gb169)); have n8_ := Aside0.mk ((by rw [hg]; exact Nat.ne_of_lt (blk_lt (by exact BK170.out)) : gb170 ≠ gb171)); have n9_ := Aside0.mk ((by rw [hg]; exact Nat.ne_of_gt (blk_lt (by exact BK170.out)) : gb171 ≠ gb170)); clear BK169; clear BK170; clear HB; have BK169 := n0_; have BK170 := n1_; have HB := n2_; have BK171 := n3_; have GW171 := n4_; have GE171 := n5_; have NB169_171 := n6_; have NB171_169 := n7_; have NB170_171 := n8_; have NB171_170 := n9_; clear n0_ n1_ n2_ n3_ n4_ n5_ n6_ n7_ n8_ n9_; clear hb hbox hg; have hnb26 := NB169_170.out; have hnc26 := NB170_169.out; have hnb27 := NB169_171.out; have hnc27 := NB171_169.out; have hcz28_0 : w25.cell? ⟨gb169, 0, none⟩ = some (.bool a0_0) := (blk_cell BK169.out 0).trans rfl; have hcz28_1 : w25.cell? ⟨gb169, 1, none⟩ = some (.int .i64 a0_1) := (blk_cell BK169.out 1).trans rfl; have hcz28_2 : w25.cell? ⟨gb169, 2, none⟩ = some (.bool a0_2) := (blk_cell BK169.out 2).trans rfl; have hcz28_3 : w25.cell? ⟨gb169, 3, none⟩ = some (.int .i64 a0_3) := (blk_cell BK169.out 3).trans rfl; have hcz28_4 : w25.cell? ⟨gb169, 4, none⟩ = some (.int .u64 a0_4) := (blk_cell BK169.out 4).trans rfl; have hcz28_5 : w25.cell? ⟨gb169, 5, none⟩ = some (.int .u64 a0_5) := (blk_cell BK169.out 5).trans rfl; have hfz28_0 := blk_frozen BK169.out 0; have hfz28_1 := blk_frozen BK169.out 1; have hfz28_2 := blk_frozen BK169.out 2; have hfz28_3 := blk_frozen BK169.out 3; have hfz28_4 := blk_frozen BK169.out 4; have hfz28_5 := blk_frozen BK169.out 5; have hnb29 := NB170_171.out; have hnc29 := NB171_170.out; have hcz30_0 : w25.cell? ⟨gb170, 0, none⟩ = some (.int .i64 a1_0) := (blk_cell BK170.out 0).trans rfl; have hcz30_1 : w25.cell? ⟨gb170, 1, none⟩ = some (.int .i64 a1_1) := (blk_cell BK170.out 1).trans rfl; have hfz30_0 := blk_frozen BK170.out 0; have hfz30_1 := blk_frozen BK170.out 1) | ((with_reducible refine gate_callee (f := 27) rfl ?_); refine goesL_ (some 19) rfl rfl Try.func27 (by kernel_rfl) rfl #[.agg #[.bool a0_0, .int .i64 a0_1, .bool a0_2, .int .i64 a0_3, .int .u64 a0_4, .int .u64 a0_5], .agg #[.int .i64 a1_0, .int .i64 a1_1], .int .i64 a2, .int .i64 a3, .int .i64 a4] rfl (by (try simp only [List.map_toArray, List.map_cons, List.map_nil]); first | done | rfl | (simp only [List.length_drop, List.length_take]; rfl)) ?_; (with_reducible refine (codel_State_note.calls k a0_0 a0_1 a0_2 a0_3 a0_4 a0_5 a1_0 a1_1 a2 a3 a4 t172 t173 false t175 t176 t177 true _ A6.out).mono ?_); rintro e w31 ⟨rfl, hb⟩; refine ⟨_, rfl, ?_⟩; have n0_ := Aside0.mk (blk_below (by exact BK169.out) hb); have n1_ := Aside0.mk (blk_below (by exact BK170.out) hb); have n2_ := Aside0.mk (blk_below (by exact BK171.out) hb); have n3_ := Aside0.mk (below_step (by repeat (first | (with_reducible first | exact HB.out | apply below_alloc | apply pw_below_drewN | apply below_drew1 | refine below_set ?_ GE169.out | refine below_set ?_ GE170.out | refine below_set ?_ GE171.out) | exact HB.out)) hb); clear BK169; clear BK170; clear BK171; clear HB; have BK169 := n0_; have BK170 := n1_; have BK171 := n2_; have HB := n3_; clear n0_ n1_ n2_ n3_; (try clear hb); (try clear hb2); (try clear hk); (try clear hi); have hcz32_0 : w31.cell? ⟨gb169, 0, none⟩ = some (.bool a0_0) := (blk_cell BK169.out 0).trans rfl; have hcz32_1 : w31.cell? ⟨gb169, 1, none⟩ = some (.int .i64 a0_1) := (blk_cell BK169.out 1).trans rfl; have hcz32_2 : w31.cell? ⟨gb169, 2, none⟩ = some (.bool a0_2) := (blk_cell BK169.out 2).trans rfl; have hcz32_3 : w31.cell? ⟨gb169, 3, none⟩ = some (.int .i64 a0_3) := (blk_cell BK169.out 3).trans rfl; have hcz32_4 : w31.cell? ⟨gb169, 4, none⟩ = some (.int .u64 a0_4) := (blk_cell BK169.out 4).trans rfl; have hcz32_5 : w31.cell? ⟨gb169, 5, none⟩ = some (.int .u64 a0_5) := (blk_cell BK169.out 5).trans rfl; have hfz32_0 := blk_frozen BK169.out 0; have hfz32_1 := blk_frozen BK169.out 1; have hfz32_2 := blk_frozen BK169.out 2; have hfz32_3 := blk_frozen BK169.out 3; have hfz32_4 := blk_frozen BK169.out 4; have hfz32_5 := blk_frozen BK169.out 5; have hcz33_0 : w31.cell? ⟨gb170, 0, none⟩ = some (.int .i64 a1_0) := (blk_cell BK170.out 0).trans rfl; have hcz33_1 : w31.cell? ⟨gb170, 1, none⟩ = some (.int .i64 a1_1) := (blk_cell BK170.out 1).trans rfl; have hfz33_0 := blk_frozen BK170.out 0; have hfz33_1 := blk_frozen BK170.out 1) | ((with_reducible refine gate_callee (f := 29) rfl ?_); refine goesL_ (some 38) rfl rfl Try.func29 (by kernel_rfl) rfl #[.agg #[.bool t172, .int .i64 t173, .bool false, .int .i64 t175, .int .u64 t176, .int .u64 t177], .agg #[.int .i64 a1_0, .int .i64 a1_1], .int .i64 a2] rfl (by (try simp only [List.map_toArray, List.map_cons, List.map_nil]); first | done | rfl | (simp only [List.length_drop, List.length_take]; rfl)) ?_; (with_reducible refine (codel_State_enter.calls k t172 t173 false t175 t176 t177 a1_0 a1_1 a2 t186 t187 t188 t189 t190 t191 _ A22.out).mono ?_); rintro e w34 ⟨rfl, hb⟩; refine ⟨_, rfl, ?_⟩; have n0_ := Aside0.mk (blk_below (g := gb169) (o := .cells #[.bool t172, .int .i64 t173, .bool false, .int .i64 t175, .int .u64 t176, .int .u64 t177] 24 (0, 0)) (by exact BK169.out) hb); have n1_ := Aside0.mk (blk_below (g := gb170) (o := .cells #[.int .i64 a1_0, .int .i64 a1_1] 26 (0, 0)) (by exact BK170.out) hb); have n2_ := Aside0.mk (blk_below (g := gb171) (o := .cells #[.bool false, .int .i64 0, .bool false, .int .i64 0, .int .u64 0, .int .u64 0] 24 (0, 0)) (by exact BK171.out) hb); have n3_ := Aside0.mk (below_step (by repeat (first | (with_reducible first | exact HB.out | apply below_alloc | apply pw_below_drewN | apply below_drew1 | refine below_set ?_ GE169.out | refine below_set ?_ GE170.out | refine below_set ?_ GE171.out) | exact HB.out)) hb); clear BK169; clear BK170; clear BK171; clear HB; have BK169 := n0_; have BK170 := n1_; have BK171 := n2_; have HB := n3_; clear n0_ n1_ n2_ n3_; (try clear hb); (try clear hb2); (try clear hk); (try clear hi); have hcz35_0 : w34.cell? ⟨gb171, 0, none⟩ = some (.bool false) := (blk_cell BK171.out 0).trans rfl; have hcz35_1 : w34.cell? ⟨gb171, 1, none⟩ = some (.int .i64 0) := (blk_cell BK171.out 1).trans rfl; have hcz35_2 : w34.cell? ⟨gb171, 2, none⟩ = some (.bool false) := (blk_cell BK171.out 2).trans rfl; have hcz35_3 : w34.cell? ⟨gb171, 3, none⟩ = some (.int .i64 0) := (blk_cell BK171.out 3).trans rfl; have hcz35_4 : w34.cell? ⟨gb171, 4, none⟩ = some (.int .u64 0) := (blk_cell BK171.out 4).trans rfl; have hcz35_5 : w34.cell? ⟨gb171, 5, none⟩ = some (.int .u64 0) := (blk_cell BK171.out 5).trans rfl; have hfz35_0 := blk_frozen BK171.out 0; have hfz35_1 := blk_frozen BK171.out 1; have hfz35_2 := blk_frozen BK171.out 2; have hfz35_3 := blk_frozen BK171.out 3; have hfz35_4 := blk_frozen BK171.out 4; have hfz35_5 := blk_frozen BK171.out 5))
   refine bodyPost_ret (results_ct rfl _ _ gb171 24 #[.bool t186, .int .i64 t187, .bool t188, .int .i64 t189, .int .u64 t190, .int .u64 t191] (0, 0) _ rfl (by refine blk_put (cs := #[.bool t186, .int .i64 t187, .bool t188, .int .i64 t189, .int .u64 t190, .int .u64 0]) ?_ 5 _ rfl; refine blk_put (cs := #[.bool t186, .int .i64 t187, .bool t188, .int .i64 t189, .int .u64 0, .int .u64 0]) ?_ 4 _ rfl; refine blk_put (cs := #[.bool t186, .int .i64 t187, .bool t188, .int .i64 0, .int .u64 0, .int .u64 0]) ?_ 3 _ rfl; refine blk_put (cs := #[.bool t186, .int .i64 t187, .bool false, .int .i64 0, .int .u64 0, .int .u64 0]) ?_ 2 _ rfl; refine blk_put (cs := #[.bool t186, .int .i64 0, .bool false, .int .i64 0, .int .u64 0, .int .u64 0]) ?_ 1 _ rfl; refine blk_put (cs := #[.bool false, .int .i64 0, .bool false, .int .i64 0, .int .u64 0, .int .u64 0]) ?_ 0 _ rfl; exact BK171.out) Try.underlying24 rfl (by kernel_rfl)) rfl ?_
   exact ⟨by first | rfl | (simp [errW_none, errW_some] <;> rfl) | (simp [*, errW_none, errW_some] <;> rfl), by repeat (first | (with_reducible first | exact HB.out | apply below_alloc | apply pw_below_drewN | apply below_drew1 | refine below_set ?_ GE169.out | refine below_set ?_ GE170.out | refine below_set ?_ GE171.out) | exact HB.out)⟩
 ·replace c7 := Bool.eq_false_iff.mpr c7
  subst c7
  have H1 : (some (t172, t173, false, t175, t176, t177, 0)) = some (r1, r2, r3, r4, r5, r6, r7) := by rw [if_neg (show ¬ (false = true) by decide)] at H; exact H
  clear H
  have H := H1
  clear H1
  simp only [Option.some.injEq, Prod.mk.injEq] at H
  obtain ⟨rfl, rfl, rfl, rfl, rfl, rfl, rfl⟩ := H
  go_enter Try.func11, Try.ntmps11
  have mk_ : True := trivial
  go_wp2_with (first | ((first | (with_reducible refine gate_dst (N := 25) rfl ?_) | (with_reducible refine gate_dst (N := 26) rfl ?_) | (with_reducible refine gate_dst (N := 28) rfl ?_) | (with_reducible refine gate_dst (N := 30) rfl ?_) | (with_reducible refine gate_dst (N := 35) rfl ?_)); clear mk_; generalize hq_ : World.setCell (World.setCell (World.setCell (World.setCell (World.setCell (World.setCell (w44) _ _) _ _) _ _) _ _) _ _) _ _ = wq; have n0_ : Aside0 (wq.heap[gb169]? = some (.cells #[.bool t172, .int .i64 t173, .bool t174, .int .i64 t175, .int .u64 t176, .int .u64 t177] 24 (0, 0))) := ⟨by rw [← hq_]; refine blk_put (cs := #[.bool t172, .int .i64 t173, .bool t174, .int .i64 t175, .int .u64 t176, .int .u64 a0_5]) ?_ 5 _ rfl; refine blk_put (cs := #[.bool t172, .int .i64 t173, .bool t174, .int .i64 t175, .int .u64 a0_4, .int .u64 a0_5]) ?_ 4 _ rfl; refine blk_put (cs := #[.bool t172, .int .i64 t173, .bool t174, .int .i64 a0_3, .int .u64 a0_4, .int .u64 a0_5]) ?_ 3 _ rfl; refine blk_put (cs := #[.bool t172, .int .i64 t173, .bool a0_2, .int .i64 a0_3, .int .u64 a0_4, .int .u64 a0_5]) ?_ 2 _ rfl; refine blk_put (cs := #[.bool t172, .int .i64 a0_1, .bool a0_2, .int .i64 a0_3, .int .u64 a0_4, .int .u64 a0_5]) ?_ 1 _ rfl; refine blk_put (cs := #[.bool a0_0, .int .i64 a0_1, .bool a0_2, .int .i64 a0_3, .int .u64 a0_4, .int .u64 a0_5]) ?_ 0 _ rfl; exact BK169.out⟩; have n1_ : Aside0 (wq.heap[gb170]? = some (.cells #[.int .i64 a1_0, .int .i64 a1_1] 26 (0, 0))) := ⟨by rw [← hq_]; refine blk_far ?_ NB170_169.out _; refine blk_far ?_ NB170_169.out _; refine blk_far ?_ NB170_169.out _; refine blk_far ?_ NB170_169.out _; refine blk_far ?_ NB170_169.out _; refine blk_far ?_ NB170_169.out _; exact BK170.out⟩; have n2_ : Aside0 (wq.heap[gb171]? = some (.cells #[.bool false, .int .i64 0, .bool false, .int .i64 0, .int .u64 0, .int .u64 0] 24 (0, 0))) := ⟨by rw [← hq_]; refine blk_far ?_ NB171_169.out _; refine blk_far ?_ NB171_169.out _; refine blk_far ?_ NB171_169.out _; refine blk_far ?_ NB171_169.out _; refine blk_far ?_ NB171_169.out _; refine blk_far ?_ NB171_169.out _; exact BK171.out⟩; have n3_ : Aside0 (Below w.heap.size w wq) := ⟨by rw [← hq_]; repeat (first | (with_reducible first | exact HB.out | refine below_set ?_ GE169.out | refine below_set ?_ GE170.out | refine below_set ?_ GE171.out) | exact HB.out)⟩; clear BK169 BK170 BK171 HB hq_; have BK169 := n0_; have BK170 := n1_; have BK171 := n2_; have HB := n3_; clear n0_ n1_ n2_ n3_; have hcq169_0 : wq.cell? ⟨gb169, 0, none⟩ = some (.bool t172) := (blk_cell BK169.out 0).trans rfl; have hfq169_0 := blk_frozen BK169.out 0; have hcq169_1 : wq.cell? ⟨gb169, 1, none⟩ = some (.int .i64 t173) := (blk_cell BK169.out 1).trans rfl; have hfq169_1 := blk_frozen BK169.out 1; have hcq169_2 : wq.cell? ⟨gb169, 2, none⟩ = some (.bool t174) := (blk_cell BK169.out 2).trans rfl; have hfq169_2 := blk_frozen BK169.out 2; have hcq169_3 : wq.cell? ⟨gb169, 3, none⟩ = some (.int .i64 t175) := (blk_cell BK169.out 3).trans rfl; have hfq169_3 := blk_frozen BK169.out 3; have hcq169_4 : wq.cell? ⟨gb169, 4, none⟩ = some (.int .u64 t176) := (blk_cell BK169.out 4).trans rfl; have hfq169_4 := blk_frozen BK169.out 4; have hcq169_5 : wq.cell? ⟨gb169, 5, none⟩ = some (.int .u64 t177) := (blk_cell BK169.out 5).trans rfl; have hfq169_5 := blk_frozen BK169.out 5; have hcq170_0 : wq.cell? ⟨gb170, 0, none⟩ = some (.int .i64 a1_0) := (blk_cell BK170.out 0).trans rfl; have hfq170_0 := blk_frozen BK170.out 0; have hcq170_1 : wq.cell? ⟨gb170, 1, none⟩ = some (.int .i64 a1_1) := (blk_cell BK170.out 1).trans rfl; have hfq170_1 := blk_frozen BK170.out 1; have hcq171_0 : wq.cell? ⟨gb171, 0, none⟩ = some (.bool false) := (blk_cell BK171.out 0).trans rfl; have hfq171_0 := blk_frozen BK171.out 0; have hcq171_1 : wq.cell? ⟨gb171, 1, none⟩ = some (.int .i64 0) := (blk_cell BK171.out 1).trans rfl; have hfq171_1 := blk_frozen BK171.out 1; have hcq171_2 : wq.cell? ⟨gb171, 2, none⟩ = some (.bool false) := (blk_cell BK171.out 2).trans rfl; have hfq171_2 := blk_frozen BK171.out 2; have hcq171_3 : wq.cell? ⟨gb171, 3, none⟩ = some (.int .i64 0) := (blk_cell BK171.out 3).trans rfl; have hfq171_3 := blk_frozen BK171.out 3; have hcq171_4 : wq.cell? ⟨gb171, 4, none⟩ = some (.int .u64 0) := (blk_cell BK171.out 4).trans rfl; have hfq171_4 := blk_frozen BK171.out 4; have hcq171_5 : wq.cell? ⟨gb171, 5, none⟩ = some (.int .u64 0) := (blk_cell BK171.out 5).trans rfl; have hfq171_5 := blk_frozen BK171.out 5) | ((with_reducible refine gate_dst (N := 5) rfl ?_); refine box_event ?hg (N := 5) ?hd (cs := #[.bool a0_0, .int .i64 a0_1, .bool a0_2, .int .i64 a0_3, .int .u64 a0_4, .int .u64 a0_5]) (t := 24) ?hr ?_; (case hd => rfl); (case hg => rfl); (case hr => first | (go_simp; done) | (go_simp; rfl)); intro gb169 hg w36 hbox hb; have n0_ := Aside0.mk (below_step (by repeat (first | (with_reducible first | exact HB.out | apply below_alloc | apply pw_below_drewN | apply below_drew1) | exact HB.out)) hb); have n1_ := Aside0.mk (hbox); have n2_ := Aside0.mk ((by rw [hg]; exact (below_size (by repeat (first | (with_reducible first | exact HB.out | apply below_alloc | apply pw_below_drewN | apply below_drew1) | exact HB.out))) : w.heap.size ≤ gb169)); have n3_ := Aside0.mk ((by rw [hg]; exact (below_size (by repeat (first | (with_reducible first | exact HB.out | apply below_alloc | apply pw_below_drewN | apply below_drew1) | exact HB.out))) : w.heap.size ≤ gb169)); clear HB; have HB := n0_; have BK169 := n1_; have GW169 := n2_; have GE169 := n3_; clear n0_ n1_ n2_ n3_; clear hb hbox hg) | ((with_reducible refine gate_dst (N := 6) rfl ?_); refine box_event ?hg (N := 6) ?hd (cs := #[.int .i64 a1_0, .int .i64 a1_1]) (t := 26) ?hr ?_; (case hd => rfl); (case hg => rfl); (case hr => first | (go_simp; done) | (go_simp; rfl)); intro gb170 hg w37 hbox hb; have n0_ := Aside0.mk (blk_below (by exact BK169.out) hb); have n1_ := Aside0.mk (below_step (by repeat (first | (with_reducible first | exact HB.out | apply below_alloc | apply pw_below_drewN | apply below_drew1 | refine below_set ?_ GE169.out) | exact HB.out)) hb); have n2_ := Aside0.mk (hbox); have n3_ := Aside0.mk ((by rw [hg]; exact (below_size (by repeat (first | (with_reducible first | exact HB.out | apply below_alloc | apply pw_below_drewN | apply below_drew1 | refine below_set ?_ GE169.out) | exact HB.out))) : w.heap.size ≤ gb170)); have n4_ := Aside0.mk ((by rw [hg]; exact (below_size (by repeat (first | (with_reducible first | exact HB.out | apply below_alloc | apply pw_below_drewN | apply below_drew1 | refine below_set ?_ GE169.out) | exact HB.out))) : w.heap.size ≤ gb170)); have n5_ := Aside0.mk ((by rw [hg]; exact Nat.ne_of_lt (blk_lt (by exact BK169.out)) : gb169 ≠ gb170)); have n6_ := Aside0.mk ((by rw [hg]; exact Nat.ne_of_gt (blk_lt (by exact BK169.out)) : gb170 ≠ gb169)); clear BK169; clear HB; have BK169 := n0_; have HB := n1_; have BK170 := n2_; have GW170 := n3_; have GE170 := n4_; have NB169_170 := n5_; have NB170_169 := n6_; clear n0_ n1_ n2_ n3_ n4_ n5_ n6_; clear hb hbox hg) | ((with_reducible refine gate_dst (N := 10) rfl ?_); refine box_event ?hg (N := 10) ?hd (cs := #[.bool false, .int .i64 0, .bool false, .int .i64 0, .int .u64 0, .int .u64 0]) (t := 24) ?hr ?_; (case hd => rfl); (case hg => rfl); (case hr => first | (go_simp; done) | (go_simp; rfl)); intro gb171 hg w38 hbox hb; have n0_ := Aside0.mk (blk_below (by exact BK169.out) hb); have n1_ := Aside0.mk (blk_below (by exact BK170.out) hb); have n2_ := Aside0.mk (below_step (by repeat (first | (with_reducible first | exact HB.out | apply below_alloc | apply pw_below_drewN | apply below_drew1 | refine below_set ?_ GE169.out | refine below_set ?_ GE170.out) | exact HB.out)) hb); have n3_ := Aside0.mk (hbox); have n4_ := Aside0.mk ((by rw [hg]; exact (below_size (by repeat (first | (with_reducible first | exact HB.out | apply below_alloc | apply pw_below_drewN | apply below_drew1 | refine below_set ?_ GE169.out | refine below_set ?_ GE170.out) | exact HB.out))) : w.heap.size ≤ gb171)); have n5_ := Aside0.mk ((by rw [hg]; exact (below_size (by repeat (first | (with_reducible first | exact HB.out | apply below_alloc | apply pw_below_drewN | apply below_drew1 | refine below_set ?_ GE169.out | refine below_set ?_ GE170.out) | exact HB.out))) : w.heap.size ≤ gb171)); have n6_ := Aside0.mk ((by rw [hg]; exact Nat.ne_of_lt (blk_lt (by exact BK169.out)) : gb169 ≠ gb171)); have n7_ := Aside0.mk ((by rw [hg]; exact Nat.ne_of_gt (blk_lt (by exact BK169.out)) : gb171 ≠ gb169)); have n8_ := Aside0.mk ((by rw [hg]; exact Nat.ne_of_lt (blk_lt (by exact BK170.out)) : gb170 ≠ gb171)); have n9_ := Aside0.mk ((by rw [hg]; exact Nat.ne_of_gt (blk_lt (by exact BK170.out)) : gb171 ≠ gb170)); clear BK169; clear BK170; clear HB; have BK169 := n0_; have BK170 := n1_; have HB := n2_; have BK171 := n3_; have GW171 := n4_; have GE171 := n5_; have NB169_171 := n6_; have NB171_169 := n7_; have NB170_171 := n8_; have NB171_170 := n9_; clear n0_ n1_ n2_ n3_ n4_ n5_ n6_ n7_ n8_ n9_; clear hb hbox hg; have hnb39 := NB169_170.out; have hnc39 := NB170_169.out; have hnb40 := NB169_171.out; have hnc40 := NB171_169.out; have hcz41_0 : w38.cell? ⟨gb169, 0, none⟩ = some (.bool a0_0) := (blk_cell BK169.out 0).trans rfl; have hcz41_1 : w38.cell? ⟨gb169, 1, none⟩ = some (.int .i64 a0_1) := (blk_cell BK169.out 1).trans rfl; have hcz41_2 : w38.cell? ⟨gb169, 2, none⟩ = some (.bool a0_2) := (blk_cell BK169.out 2).trans rfl; have hcz41_3 : w38.cell? ⟨gb169, 3, none⟩ = some (.int .i64 a0_3) := (blk_cell BK169.out 3).trans rfl; have hcz41_4 : w38.cell? ⟨gb169, 4, none⟩ = some (.int .u64 a0_4) := (blk_cell BK169.out 4).trans rfl; have hcz41_5 : w38.cell? ⟨gb169, 5, none⟩ = some (.int .u64 a0_5) := (blk_cell BK169.out 5).trans rfl; have hfz41_0 := blk_frozen BK169.out 0; have hfz41_1 := blk_frozen BK169.out 1; have hfz41_2 := blk_frozen BK169.out 2; have hfz41_3 := blk_frozen BK169.out 3; have hfz41_4 := blk_frozen BK169.out 4; have hfz41_5 := blk_frozen BK169.out 5; have hnb42 := NB170_171.out; have hnc42 := NB171_170.out; have hcz43_0 : w38.cell? ⟨gb170, 0, none⟩ = some (.int .i64 a1_0) := (blk_cell BK170.out 0).trans rfl; have hcz43_1 : w38.cell? ⟨gb170, 1, none⟩ = some (.int .i64 a1_1) := (blk_cell BK170.out 1).trans rfl; have hfz43_0 := blk_frozen BK170.out 0; have hfz43_1 := blk_frozen BK170.out 1) | ((with_reducible refine gate_callee (f := 27) rfl ?_); refine goesL_ (some 19) rfl rfl Try.func27 (by kernel_rfl) rfl #[.agg #[.bool a0_0, .int .i64 a0_1, .bool a0_2, .int .i64 a0_3, .int .u64 a0_4, .int .u64 a0_5], .agg #[.int .i64 a1_0, .int .i64 a1_1], .int .i64 a2, .int .i64 a3, .int .i64 a4] rfl (by (try simp only [List.map_toArray, List.map_cons, List.map_nil]); first | done | rfl | (simp only [List.length_drop, List.length_take]; rfl)) ?_; (with_reducible refine (codel_State_note.calls k a0_0 a0_1 a0_2 a0_3 a0_4 a0_5 a1_0 a1_1 a2 a3 a4 t172 t173 t174 t175 t176 t177 false _ A6.out).mono ?_); rintro e w44 ⟨rfl, hb⟩; refine ⟨_, rfl, ?_⟩; have n0_ := Aside0.mk (blk_below (by exact BK169.out) hb); have n1_ := Aside0.mk (blk_below (by exact BK170.out) hb); have n2_ := Aside0.mk (blk_below (by exact BK171.out) hb); have n3_ := Aside0.mk (below_step (by repeat (first | (with_reducible first | exact HB.out | apply below_alloc | apply pw_below_drewN | apply below_drew1 | refine below_set ?_ GE169.out | refine below_set ?_ GE170.out | refine below_set ?_ GE171.out) | exact HB.out)) hb); clear BK169; clear BK170; clear BK171; clear HB; have BK169 := n0_; have BK170 := n1_; have BK171 := n2_; have HB := n3_; clear n0_ n1_ n2_ n3_; (try clear hb); (try clear hb2); (try clear hk); (try clear hi); have hcz45_0 : w44.cell? ⟨gb169, 0, none⟩ = some (.bool a0_0) := (blk_cell BK169.out 0).trans rfl; have hcz45_1 : w44.cell? ⟨gb169, 1, none⟩ = some (.int .i64 a0_1) := (blk_cell BK169.out 1).trans rfl; have hcz45_2 : w44.cell? ⟨gb169, 2, none⟩ = some (.bool a0_2) := (blk_cell BK169.out 2).trans rfl; have hcz45_3 : w44.cell? ⟨gb169, 3, none⟩ = some (.int .i64 a0_3) := (blk_cell BK169.out 3).trans rfl; have hcz45_4 : w44.cell? ⟨gb169, 4, none⟩ = some (.int .u64 a0_4) := (blk_cell BK169.out 4).trans rfl; have hcz45_5 : w44.cell? ⟨gb169, 5, none⟩ = some (.int .u64 a0_5) := (blk_cell BK169.out 5).trans rfl; have hfz45_0 := blk_frozen BK169.out 0; have hfz45_1 := blk_frozen BK169.out 1; have hfz45_2 := blk_frozen BK169.out 2; have hfz45_3 := blk_frozen BK169.out 3; have hfz45_4 := blk_frozen BK169.out 4; have hfz45_5 := blk_frozen BK169.out 5; have hcz46_0 : w44.cell? ⟨gb171, 0, none⟩ = some (.bool false) := (blk_cell BK171.out 0).trans rfl; have hcz46_1 : w44.cell? ⟨gb171, 1, none⟩ = some (.int .i64 0) := (blk_cell BK171.out 1).trans rfl; have hcz46_2 : w44.cell? ⟨gb171, 2, none⟩ = some (.bool false) := (blk_cell BK171.out 2).trans rfl; have hcz46_3 : w44.cell? ⟨gb171, 3, none⟩ = some (.int .i64 0) := (blk_cell BK171.out 3).trans rfl; have hcz46_4 : w44.cell? ⟨gb171, 4, none⟩ = some (.int .u64 0) := (blk_cell BK171.out 4).trans rfl; have hcz46_5 : w44.cell? ⟨gb171, 5, none⟩ = some (.int .u64 0) := (blk_cell BK171.out 5).trans rfl; have hfz46_0 := blk_frozen BK171.out 0; have hfz46_1 := blk_frozen BK171.out 1; have hfz46_2 := blk_frozen BK171.out 2; have hfz46_3 := blk_frozen BK171.out 3; have hfz46_4 := blk_frozen BK171.out 4; have hfz46_5 := blk_frozen BK171.out 5))
  refine bodyPost_ret (results_ct rfl _ _ gb171 24 #[.bool t172, .int .i64 t173, .bool false, .int .i64 t175, .int .u64 t176, .int .u64 t177] (0, 0) _ rfl (by refine blk_put (cs := #[.bool t172, .int .i64 t173, .bool false, .int .i64 t175, .int .u64 t176, .int .u64 0]) ?_ 5 _ rfl; refine blk_put (cs := #[.bool t172, .int .i64 t173, .bool false, .int .i64 t175, .int .u64 0, .int .u64 0]) ?_ 4 _ rfl; refine blk_put (cs := #[.bool t172, .int .i64 t173, .bool false, .int .i64 0, .int .u64 0, .int .u64 0]) ?_ 3 _ rfl; refine blk_put (cs := #[.bool t172, .int .i64 t173, .bool false, .int .i64 0, .int .u64 0, .int .u64 0]) ?_ 2 _ rfl; refine blk_put (cs := #[.bool t172, .int .i64 0, .bool false, .int .i64 0, .int .u64 0, .int .u64 0]) ?_ 1 _ rfl; refine blk_put (cs := #[.bool false, .int .i64 0, .bool false, .int .i64 0, .int .u64 0, .int .u64 0]) ?_ 0 _ rfl; refine blk_far ?_ NB171_169.out _; exact BK171.out) Try.underlying24 rfl (by kernel_rfl)) rfl ?_
  exact ⟨by first | rfl | (simp [errW_none, errW_some] <;> rfl) | (simp [*, errW_none, errW_some] <;> rfl), by repeat (first | (with_reducible first | exact HB.out | apply below_alloc | apply pw_below_drewN | apply below_drew1 | refine below_set ?_ GE169.out | refine below_set ?_ GE170.out | refine below_set ?_ GE171.out) | exact HB.out)⟩

end Go.Proofs.Ytiiffgmbkajkhaa.A

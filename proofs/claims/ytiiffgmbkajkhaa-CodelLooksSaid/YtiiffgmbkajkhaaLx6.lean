-- Laid by a program of this claim's session (wip/tools/myprint.py) over the kit's printer.
import Derived.Test.YtiiffgmbkajkhaaLx0
import Derived.Test.YtiiffgmbkajkhaaLx2
import Derived.Test.YtiiffgmbkajkhaaLx4
import Derived.Test.YtiiffgmbkajkhaaLx5
namespace Go.Proofs.Ytiiffgmbkajkhaa.L
open Go.RowKit Go.Proofs.YtiiffgmbkajkhaaW.PrintWords Go.Proofs.YtiiffgmbkajkhaaW.PrintLast Go.Proofs.YtiiffgmbkajkhaaW.PrintMore
attribute [local go_sem] max2_int min2_int max_two min_two max_three min_three max_four min_four   -- for this text's walks alone
set_option linter.unusedVariables false
set_option linter.unusedSimpArgs false

/-! ### codel_State_enter: function 29 -/
def codel_State_enter.f (k : Nat) (a0_0 : Bool) (a0_1 : Int) (a0_2 : Bool) (a0_3 : Int) (a0_4 : Int) (a0_5 : Int) (a1_0 : Int) (a1_1 : Int) (a2 : Int) : Option (Bool × Int × Bool × Int × Int × Int) := if (IntKind.u64.wrap (a0_4 - a0_5)) > 1 then (if (IntKind.u64.wrap (a0_4 - a0_5)) ≤ 9223372036854775808 then ((fix_Sub.f a2 a0_3).bind fun t163 => ((fix_Mul.f k 16 a1_1).bind fun t164 => (if t163 < t164 then ((codel_State_later.f k a0_0 a0_1 true a0_3 (IntKind.u64.wrap (a0_4 - a0_5)) a0_5 a1_0 a1_1 a2).bind fun t165 => (some (a0_0, a0_1, true, t165, IntKind.u64.wrap (a0_4 - a0_5), IntKind.u64.wrap (a0_4 - a0_5)))) else ((codel_State_later.f k a0_0 a0_1 true a0_3 1 a0_5 a1_0 a1_1 a2).bind fun t166 => (some (a0_0, a0_1, true, t166, 1, 1)))))) else ((codel_State_later.f k a0_0 a0_1 true a0_3 1 a0_5 a1_0 a1_1 a2).bind fun t167 => (some (a0_0, a0_1, true, t167, 1, 1)))) else ((codel_State_later.f k a0_0 a0_1 true a0_3 1 a0_5 a1_0 a1_1 a2).bind fun t168 => (some (a0_0, a0_1, true, t168, 1, 1)))
theorem codel_State_enter.mono : ∀ a0 a1 a2 a3 a4 a5 a6 a7 a8 k, LeO (codel_State_enter.f k a0 a1 a2 a3 a4 a5 a6 a7 a8) (codel_State_enter.f (k + 1) a0 a1 a2 a3 a4 a5 a6 a7 a8) := by
 intro a0 a1 a2 a3 a4 a5 a6 a7 a8 k
 unfold codel_State_enter.f
 repeat' first
   | (with_reducible exact codel_State_later.mono _ _ _ _ _ _ _ _ _ _)
   | (with_reducible exact fix_Mul.mono _ _ _)
   | (with_reducible exact LeO.refl _)
   | (with_reducible exact LeO.none _)
   | (with_reducible refine LeO.ite ?_ ?_)
   | (with_reducible refine LeO.bind ?_ (fun _ => ?_))
   | exact codel_State_later.mono _ _ _ _ _ _ _ _ _ _
   | exact fix_Mul.mono _ _ _
   | exact LeO.none _
   | refine LeO.ite ?_ ?_
   | refine LeO.bind ?_ (fun _ => ?_)
def codel_State_enter.T3 : Bool × List (List Nat × List Nat) := (true, [([], []), ([0], [0]), ([1], [1]), ([2], [2]), ([3, 2], [2, 3]), ([2, 4], [2, 4]), ([5, 2], [5]), ([6], [6]), ([6], [6]), ([8, 6], [6, 8]), ([7, 9, 6, 6], [6, 7, 9]), ([6], [6]), ([11, 6], [6, 11]), ([12, 10, 6], [6, 12]), ([10, 13, 6], [6, 10, 13]), ([6, 14], [6, 14])])
def codel_State_enter.B3 : List Nat := [0, 1, 3, 7, 15, 31, 63, 127, 127, 383, 1023, 127, 2175, 8191, 16383, 32767]
theorem codel_State_enter.tab3 : rtab .any (opsOf Try.f29 3) = codel_State_enter.T3 := by kernel_rfl
theorem codel_State_enter.bits3 : waitsOk codel_State_enter.T3.2 codel_State_enter.B3 = true := by kernel_rfl
set_option maxHeartbeats 8000000 in
set_option maxRecDepth 100000 in
theorem codel_State_enter.calls (k : Nat) (a0_0 : Bool) (a0_1 : Int) (a0_2 : Bool) (a0_3 : Int) (a0_4 : Int) (a0_5 : Int) (a1_0 : Int) (a1_1 : Int) (a2 : Int) (r1 : Bool) (r2 : Int) (r3 : Bool) (r4 : Int) (r5 : Int) (r6 : Int) (w : World) (h : codel_State_enter.f k a0_0 a0_1 a0_2 a0_3 a0_4 a0_5 a1_0 a1_1 a2 = some (r1, r2, r3, r4, r5, r6)) :
  Calls Try.prog 29 #[.agg #[.bool a0_0, .int .i64 a0_1, .bool a0_2, .int .i64 a0_3, .int .u64 a0_4, .int .u64 a0_5], .agg #[.int .i64 a1_0, .int .i64 a1_1], .int .i64 a2] w fun e w' => e = .returned (.agg #[.bool r1, .int .i64 r2, .bool r3, .int .i64 r4, .int .u64 r5, .int .u64 r6]) ∧ Below w.heap.size w w' := by
 have hu24 := Try.underlying24
 have hu26 := Try.underlying26
 have HB := m_ (Below.refl w.heap.size w)
 have H : (if (IntKind.u64.wrap (a0_4 - a0_5)) > 1 then (if (IntKind.u64.wrap (a0_4 - a0_5)) ≤ 9223372036854775808 then ((fix_Sub.f a2 a0_3).bind fun t163 => ((fix_Mul.f k 16 a1_1).bind fun t164 => (if t163 < t164 then ((codel_State_later.f k a0_0 a0_1 true a0_3 (IntKind.u64.wrap (a0_4 - a0_5)) a0_5 a1_0 a1_1 a2).bind fun t165 => (some (a0_0, a0_1, true, t165, IntKind.u64.wrap (a0_4 - a0_5), IntKind.u64.wrap (a0_4 - a0_5)))) else ((codel_State_later.f k a0_0 a0_1 true a0_3 1 a0_5 a1_0 a1_1 a2).bind fun t166 => (some (a0_0, a0_1, true, t166, 1, 1)))))) else ((codel_State_later.f k a0_0 a0_1 true a0_3 1 a0_5 a1_0 a1_1 a2).bind fun t167 => (some (a0_0, a0_1, true, t167, 1, 1)))) else ((codel_State_later.f k a0_0 a0_1 true a0_3 1 a0_5 a1_0 a1_1 a2).bind fun t168 => (some (a0_0, a0_1, true, t168, 1, 1)))) = some (r1, r2, r3, r4, r5, r6) := h
 clear h
 by_cases c4 : (IntKind.u64.wrap (a0_4 - a0_5)) > 1
 ·rw [if_pos c4] at H
  have c4b0 : decide (1 < (IntKind.u64.wrap (a0_4 - a0_5))) = true := decide_eq_true c4
  clear c4
  by_cases c5 : (IntKind.u64.wrap (a0_4 - a0_5)) ≤ 9223372036854775808
  ·rw [if_pos c5] at H
   have c5b0 : decide ((IntKind.u64.wrap (a0_4 - a0_5)) ≤ 9223372036854775808) = true := decide_eq_true c5
   clear c5
   replace H := Option.bind_eq_some_iff.mp H
   obtain ⟨t163, A60, H⟩ := H
   replace H : ((fix_Mul.f k 16 a1_1).bind fun t164 => (if t163 < t164 then ((codel_State_later.f k a0_0 a0_1 true a0_3 (IntKind.u64.wrap (a0_4 - a0_5)) a0_5 a1_0 a1_1 a2).bind fun t165 => (some (a0_0, a0_1, true, t165, IntKind.u64.wrap (a0_4 - a0_5), IntKind.u64.wrap (a0_4 - a0_5)))) else ((codel_State_later.f k a0_0 a0_1 true a0_3 1 a0_5 a1_0 a1_1 a2).bind fun t166 => (some (a0_0, a0_1, true, t166, 1, 1))))) = some (r1, r2, r3, r4, r5, r6) := H
   have A6 := Aside0.mk A60
   clear A60
   replace H := Option.bind_eq_some_iff.mp H
   obtain ⟨t164, A70, H⟩ := H
   replace H : (if t163 < t164 then ((codel_State_later.f k a0_0 a0_1 true a0_3 (IntKind.u64.wrap (a0_4 - a0_5)) a0_5 a1_0 a1_1 a2).bind fun t165 => (some (a0_0, a0_1, true, t165, IntKind.u64.wrap (a0_4 - a0_5), IntKind.u64.wrap (a0_4 - a0_5)))) else ((codel_State_later.f k a0_0 a0_1 true a0_3 1 a0_5 a1_0 a1_1 a2).bind fun t166 => (some (a0_0, a0_1, true, t166, 1, 1)))) = some (r1, r2, r3, r4, r5, r6) := H
   have A7 := Aside0.mk A70
   clear A70
   by_cases c8 : t163 < t164
   ·rw [if_pos c8] at H
    have c8b0 : decide (t163 < t164) = true := decide_eq_true c8
    clear c8
    replace H := Option.bind_eq_some_iff.mp H
    obtain ⟨t165, A90, H⟩ := H
    replace H : (some (a0_0, a0_1, true, t165, IntKind.u64.wrap (a0_4 - a0_5), IntKind.u64.wrap (a0_4 - a0_5))) = some (r1, r2, r3, r4, r5, r6) := H
    have A9 := Aside0.mk A90
    clear A90
    simp only [Option.some.injEq, Prod.mk.injEq] at H
    obtain ⟨rfl, rfl, rfl, rfl, rfl, rfl⟩ := H
    go_enter Try.func29, Try.ntmps29
    try go_wp2_with (first | ((with_reducible refine gate_dst (N := 3) rfl ?_); refine box_event ?hg (N := 3) ?hd (cs := #[.bool a0_0, .int .i64 a0_1, .bool a0_2, .int .i64 a0_3, .int .u64 a0_4, .int .u64 a0_5]) (t := 24) ?hr ?_; (case hd => rfl); (case hg => rfl); (case hr => first | (go_simp; done) | (go_simp; rfl)); intro gb160 hg w10 hbox hb; have BK160 := m_ (hbox); have GW160 := m_ ((by rw [hg]; exact (below_size (by repeat (first | (with_reducible first | exact HB.out | apply below_alloc | apply pw_below_drewN | apply below_drew1) | exact HB.out))) : w.heap.size ≤ gb160)); have GE160 := GW160; replace HB := m_ (below_step (by repeat (first | (with_reducible first | exact HB.out | apply below_alloc | apply pw_below_drewN | apply below_drew1) | exact HB.out)) hb); clear hb hbox hg) | ((with_reducible refine gate_dst (N := 4) rfl ?_); refine box_event ?hg (N := 4) ?hd (cs := #[.int .i64 a1_0, .int .i64 a1_1]) (t := 26) ?hr ?_; (case hd => rfl); (case hg => rfl); (case hr => first | (go_simp; done) | (go_simp; rfl)); intro gb161 hg w11 hbox hb; have BK161 := m_ (hbox); have GW161 := m_ ((by rw [hg]; exact (below_size (by repeat (first | (with_reducible first | exact HB.out | apply below_alloc | apply pw_below_drewN | apply below_drew1 | refine below_set ?_ GE160.out) | exact HB.out))) : w.heap.size ≤ gb161)); have GE161 := GW161; have NB160_161 := m_ ((by rw [hg]; exact Nat.ne_of_lt (blk_lt (by exact BK160.out)) : gb160 ≠ gb161)); have NB161_160 := m_ ((by rw [hg]; exact Nat.ne_of_gt (blk_lt (by exact BK160.out)) : gb161 ≠ gb160)); replace BK160 := m_ (blk_below (by exact BK160.out) hb); replace HB := m_ (below_step (by repeat (first | (with_reducible first | exact HB.out | apply below_alloc | apply pw_below_drewN | apply below_drew1 | refine below_set ?_ GE160.out) | exact HB.out)) hb); clear hb hbox hg) | ((with_reducible refine gate_dst (N := 6) rfl ?_); refine box_event ?hg (N := 6) ?hd (cs := #[.bool false, .int .i64 0, .bool false, .int .i64 0, .int .u64 0, .int .u64 0]) (t := 24) ?hr ?_; (case hd => rfl); (case hg => rfl); (case hr => first | (go_simp; done) | (go_simp; rfl)); intro gb162 hg w12 hbox hb; have BK162 := m_ (hbox); have GW162 := m_ ((by rw [hg]; exact (below_size (by repeat (first | (with_reducible first | exact HB.out | apply below_alloc | apply pw_below_drewN | apply below_drew1 | refine below_set ?_ GE160.out | refine below_set ?_ GE161.out) | exact HB.out))) : w.heap.size ≤ gb162)); have GE162 := GW162; have NB160_162 := m_ ((by rw [hg]; exact Nat.ne_of_lt (blk_lt (by exact BK160.out)) : gb160 ≠ gb162)); have NB162_160 := m_ ((by rw [hg]; exact Nat.ne_of_gt (blk_lt (by exact BK160.out)) : gb162 ≠ gb160)); have NB161_162 := m_ ((by rw [hg]; exact Nat.ne_of_lt (blk_lt (by exact BK161.out)) : gb161 ≠ gb162)); have NB162_161 := m_ ((by rw [hg]; exact Nat.ne_of_gt (blk_lt (by exact BK161.out)) : gb162 ≠ gb161)); replace BK160 := m_ (blk_below (by exact BK160.out) hb); replace BK161 := m_ (blk_below (by exact BK161.out) hb); replace HB := m_ (below_step (by repeat (first | (with_reducible first | exact HB.out | apply below_alloc | apply pw_below_drewN | apply below_drew1 | refine below_set ?_ GE160.out | refine below_set ?_ GE161.out) | exact HB.out)) hb); clear hb hbox hg; have hnb13 := NB160_161.out; have hnc13 := NB161_160.out; have hnb14 := NB160_162.out; have hnc14 := NB162_160.out; obtain ⟨hcz15_0, hcz15_1, hcz15_2, hcz15_3, hcz15_4, hcz15_5, hfz15_0, hfz15_1, hfz15_2, hfz15_3, hfz15_4, hfz15_5⟩ := cf6 BK160))
    have n0_ : Aside0 (((w12.setCell ⟨gb160, 2, none⟩ (.bool true)).setCell ⟨gb160, 4, none⟩ (.int .u64 1)).heap[gb160]? = some (.cells #[.bool a0_0, .int .i64 a0_1, .bool true, .int .i64 a0_3, .int .u64 1, .int .u64 a0_5] 24 (0, 0))) := ⟨by refine blk_put (cs := #[.bool a0_0, .int .i64 a0_1, .bool true, .int .i64 a0_3, .int .u64 a0_4, .int .u64 a0_5]) ?_ 4 _ rfl; refine blk_put (cs := #[.bool a0_0, .int .i64 a0_1, .bool a0_2, .int .i64 a0_3, .int .u64 a0_4, .int .u64 a0_5]) ?_ 2 _ rfl; exact BK160.out⟩
    have n1_ : Aside0 (((w12.setCell ⟨gb160, 2, none⟩ (.bool true)).setCell ⟨gb160, 4, none⟩ (.int .u64 1)).heap[gb161]? = some (.cells #[.int .i64 a1_0, .int .i64 a1_1] 26 (0, 0))) := ⟨by refine far2_ NB161_160 ?_; exact BK161.out⟩
    have n2_ : Aside0 (((w12.setCell ⟨gb160, 2, none⟩ (.bool true)).setCell ⟨gb160, 4, none⟩ (.int .u64 1)).heap[gb162]? = some (.cells #[.bool false, .int .i64 0, .bool false, .int .i64 0, .int .u64 0, .int .u64 0] 24 (0, 0))) := ⟨by refine far2_ NB162_160 ?_; exact BK162.out⟩
    have n3_ : Aside0 (Below w.heap.size w ((w12.setCell ⟨gb160, 2, none⟩ (.bool true)).setCell ⟨gb160, 4, none⟩ (.int .u64 1))) := ⟨by repeat (first | (with_reducible first | exact HB.out | apply below_alloc | apply pw_below_drewN | apply below_drew1 | refine below_set ?_ GE160.out | refine below_set ?_ GE161.out | refine below_set ?_ GE162.out) | exact HB.out)⟩
    (try clear BK160)
    (try clear BK161)
    (try clear BK162)
    (try clear HB)
    generalize ((w12.setCell ⟨gb160, 2, none⟩ (.bool true)).setCell ⟨gb160, 4, none⟩ (.int .u64 1)) = w16 at n0_ n1_ n2_ n3_ ⊢
    have BK160 := n0_
    have BK161 := n1_
    have BK162 := n2_
    have HB := n3_
    clear n0_ n1_ n2_ n3_
    replace BK160 := m_ (blk_drew BK160.out)
    replace BK161 := m_ (blk_drew BK161.out)
    replace BK162 := m_ (blk_drew BK162.out)
    replace HB := m_ (below_drew1 HB.out)
    refine start_ (n := 16) (S := fun w' => w'.cell? ⟨gb160, 0, none⟩ = some (.bool a0_0) ∧ w'.cell? ⟨gb160, 1, none⟩ = some (.int .i64 a0_1) ∧ w'.cell? ⟨gb160, 2, none⟩ = some (.bool true) ∧ w'.cell? ⟨gb160, 3, none⟩ = some (.int .i64 a0_3) ∧ w'.cell? ⟨gb160, 4, none⟩ = some (.int .u64 1) ∧ w'.cell? ⟨gb160, 5, none⟩ = some (.int .u64 a0_5) ∧ w'.cell? ⟨gb161, 0, none⟩ = some (.int .i64 a1_0) ∧ w'.cell? ⟨gb161, 1, none⟩ = some (.int .i64 a1_1)) (ds := []) #[false, false, false, false, false, false, false, false, false, false, false, false, false, false, false, false] (by kernel_rfl) rfl rfl ⟨(blk_cell BK160.out 0).trans rfl, (blk_cell BK160.out 1).trans rfl, (blk_cell BK160.out 2).trans rfl, (blk_cell BK160.out 3).trans rfl, (blk_cell BK160.out 4).trans rfl, (blk_cell BK160.out 5).trans rfl, (blk_cell BK161.out 0).trans rfl, (blk_cell BK161.out 1).trans rfl⟩ (fun hHeld => ?_); refine with_tabW codel_State_enter.tab3 codel_State_enter.bits3 (fun HT_ HW_ => ?_)
    generalize w16.drew = w17 at BK160 BK161 BK162 HB hHeld ⊢
    refine pure_ (i := 0) (N := some 15) (v := ?_) (a' := ?_) #[true, false, false, false, false, false, false, false, false, false, false, false, false, false, false, false] rfl rfl (any_of HT_.out (by kernel_rfl)) (fun _ _ _ h => h) (Or.inl ⟨by rfl, ?_⟩) ?_ ?_
    rotate_left
    ·intro w'
     go_simp
     with_reducible rfl
    rotate_left
    ·simp only [Act.put, sa_, s0_, ss_, i64_w, i32_w]
     rfl
    refine pure_ (i := 1) (N := some 16) (v := ?_) (a' := ?_) #[true, true, false, false, false, false, false, false, false, false, false, false, false, false, false, false] rfl rfl (any_of HT_.out (by kernel_rfl)) (fun _ _ _ h => h) (Or.inl ⟨by rfl, ?_⟩) ?_ ?_
    rotate_left
    ·intro w'
     go_simp
     with_reducible rfl
    rotate_left
    ·simp only [Act.put, sa_, s0_, ss_, i64_w, i32_w]
     rfl
    refine pure_ (i := 2) (N := some 17) (v := ?_) (a' := ?_) #[true, true, true, false, false, false, false, false, false, false, false, false, false, false, false, false] rfl rfl (any_of HT_.out (by kernel_rfl)) (fun _ _ _ h => h) (Or.inl ⟨by rfl, ?_⟩) ?_ ?_
    rotate_left
    ·intro w'
     go_simp
     with_reducible rfl
    rotate_left
    ·simp only [Act.put, sa_, s0_, ss_, i64_w, i32_w]
     rfl
    refine pure_ (i := 3) (N := some 18) (v := ?_) (a' := ?_) #[true, true, true, true, false, false, false, false, false, false, false, false, false, false, false, false] rfl rfl (any_of HT_.out (by kernel_rfl)) (fun _ _ _ h => h) (Or.inl ⟨by rfl, ?_⟩) ?_ ?_
    rotate_left
    ·intro w'
     go_simp
     with_reducible rfl
    rotate_left
    ·simp only [Act.put, sa_, s0_, ss_, i64_w, i32_w]
     rfl
    refine pure_ (i := 4) (N := some 19) (v := ?_) (a' := ?_) #[true, true, true, true, true, false, false, false, false, false, false, false, false, false, false, false] rfl rfl (any_of HT_.out (by kernel_rfl)) (fun _ _ _ h => h) (Or.inl ⟨by rfl, ?_⟩) ?_ ?_
    rotate_left
    ·intro w'
     go_simp
     with_reducible rfl
    rotate_left
    ·simp only [Act.put, sa_, s0_, ss_, i64_w, i32_w]
     rfl
    refine pure_ (i := 5) (N := some 20) (v := ?_) (a' := ?_) #[true, true, true, true, true, true, false, false, false, false, false, false, false, false, false, false] rfl rfl (any_of HT_.out (by kernel_rfl)) (fun _ _ _ h => h) (Or.inl ⟨by rfl, ?_⟩) ?_ ?_
    rotate_left
    ·intro w'
     go_simp
     with_reducible rfl
    rotate_left
    ·simp only [Act.put, sa_, s0_, ss_, i64_w, i32_w]
     rfl
    refine pure_ (i := 6) (N := some 21) (v := ?_) (a' := ?_) #[true, true, true, true, true, true, true, false, false, false, false, false, false, false, false, false] rfl rfl (any_of HT_.out (by kernel_rfl)) (fun _ _ _ h => h) (Or.inl ⟨by rfl, ?_⟩) ?_ ?_
    rotate_left
    ·intro w'
     go_simp
     with_reducible rfl
    rotate_left
    ·simp only [Act.put, sa_, s0_, ss_, i64_w, i32_w]
     rfl
    refine pure_ (i := 7) (N := some 22) (v := ?_) (a' := ?_) #[true, true, true, true, true, true, true, true, false, false, false, false, false, false, false, false] rfl rfl (any_of HT_.out (by kernel_rfl)) (fun _ _ _ h => h) (Or.inl ⟨by rfl, ?_⟩) ?_ ?_
    rotate_left
    ·intro w'
     go_simp
     with_reducible rfl
    rotate_left
    ·simp only [Act.put, sa_, s0_, ss_, i64_w, i32_w]
     rfl
    refine pure_ (i := 8) (N := some 23) (v := ?_) (a' := ?_) #[true, true, true, true, true, true, true, true, true, false, false, false, false, false, false, false] rfl rfl (any_of HT_.out (by kernel_rfl)) (fun _ _ _ h => h) (Or.inl ⟨by rfl, ?_⟩) ?_ ?_
    rotate_left
    ·intro w'
     go_simp
     with_reducible rfl
    rotate_left
    ·simp only [Act.put, sa_, s0_, ss_, i64_w, i32_w]
     rfl
    refine pure_ (i := 11) (N := some 26) (v := ?_) (a' := ?_) #[true, true, true, true, true, true, true, true, true, false, false, true, false, false, false, false] rfl rfl (any_of HT_.out (by kernel_rfl)) (fun _ _ _ h => h) (Or.inl ⟨by rfl, ?_⟩) ?_ ?_
    rotate_left
    ·intro w'
     go_simp
     with_reducible rfl
    rotate_left
    ·simp only [Act.put, sa_, s0_, ss_, i64_w, i32_w]
     rfl
    refine take_ (i := 9) (N := some 24) (v := ?_) (a' := ?_) #[true, true, true, true, true, true, true, true, true, true, false, true, false, false, false, false] rfl rfl (take_ofW HT_.out HW_.out (by kernel_rfl)) (fun _ _ _ h => h) (Or.inl ⟨by rfl, ?_⟩) hHeld ?_ ?_
    rotate_left
    ·rintro w' ⟨s0, s1, s2, s3, s4, s5, s6, s7⟩
     go_simp
     with_reducible rfl
    rotate_left
    ·simp only [Act.put, sa_, s0_, ss_, i64_w, i32_w]
     rfl
    refine take_ (i := 12) (N := some 27) (v := ?_) (a' := ?_) #[true, true, true, true, true, true, true, true, true, true, false, true, true, false, false, false] rfl rfl (take_ofW HT_.out HW_.out (by kernel_rfl)) (fun _ _ _ h => h) (Or.inl ⟨by rfl, ?_⟩) hHeld ?_ ?_
    rotate_left
    ·rintro w' ⟨s0, s1, s2, s3, s4, s5, s6, s7⟩
     go_simp
     with_reducible rfl
    rotate_left
    ·simp only [Act.put, sa_, s0_, ss_, i64_w, i32_w]
     rfl
    refine one_ (i := 10) (N := some 25) #[true, true, true, true, true, true, true, true, true, true, true, true, true, false, false, false] rfl rfl (one_of HT_.out (by kernel_rfl)) (by decide) (fun K hK => ?_)
    refine goes_ Try.func37 (by kernel_rfl) rfl #[.int .i64 a2, .int .i64 a0_3] (by rfl) rfl rfl (by first | rfl | (simp only [List.map_toArray, List.map_cons, List.map_nil]; first | done | rfl)) ?_
    with_reducible refine (fix_Sub.calls a2 a0_3 t163 _ A6.out).mono ?_
    rintro e w' ⟨rfl, ⟨nd, rfl⟩⟩
    refine ⟨_, rfl, ?_⟩
    refine hK.out _ _ ⟨(blk_cell BK160.out 0).trans rfl, (blk_cell BK160.out 1).trans rfl, (blk_cell BK160.out 2).trans rfl, (blk_cell BK160.out 3).trans rfl, (blk_cell BK160.out 4).trans rfl, (blk_cell BK160.out 5).trans rfl, (blk_cell BK161.out 0).trans rfl, (blk_cell BK161.out 1).trans rfl⟩ (fun hHeld => ?_)
    clear hK K
    refine norm_ (a' := ?_) ?_ ?_
    rotate_left
    ·show Act.put _ (some 25) _ = _
     simp only [Act.put, sa_, s0_, ss_, i64_w, i32_w]
     rfl
    refine one_ (i := 13) (N := some 28) #[true, true, true, true, true, true, true, true, true, true, true, true, true, true, false, false] rfl rfl (one_of HT_.out (by kernel_rfl)) (by decide) (fun K hK => ?_)
    refine goes_ Try.func38 (by kernel_rfl) rfl #[.int .i64 16, .int .i64 a1_1] (by rfl) rfl rfl (by first | rfl | (simp only [List.map_toArray, List.map_cons, List.map_nil]; first | done | rfl)) ?_
    with_reducible refine (fix_Mul.calls k 16 a1_1 t164 _ A7.out).mono ?_
    rintro e w18 ⟨rfl, hb⟩
    refine ⟨_, rfl, ?_⟩
    replace BK160 := m_ (blk_below (by exact BK160.out) hb)
    replace BK161 := m_ (blk_below (by exact BK161.out) hb)
    replace BK162 := m_ (blk_below (by exact BK162.out) hb)
    replace HB := m_ (below_step (by repeat (first | (with_reducible first | exact HB.out | apply below_alloc | apply pw_below_drewN | apply below_drew1 | refine below_set ?_ GE160.out | refine below_set ?_ GE161.out | refine below_set ?_ GE162.out) | exact HB.out)) hb)
    (try clear hb)
    (try clear hb2)
    (try clear hk)
    (try clear hi)
    refine hK.out _ _ ⟨(blk_cell BK160.out 0).trans rfl, (blk_cell BK160.out 1).trans rfl, (blk_cell BK160.out 2).trans rfl, (blk_cell BK160.out 3).trans rfl, (blk_cell BK160.out 4).trans rfl, (blk_cell BK160.out 5).trans rfl, (blk_cell BK161.out 0).trans rfl, (blk_cell BK161.out 1).trans rfl⟩ (fun hHeld => ?_)
    clear hK K
    refine norm_ (a' := ?_) ?_ ?_
    rotate_left
    ·show Act.put _ (some 28) _ = _
     simp only [Act.put, sa_, s0_, ss_, i64_w, i32_w]
     rfl
    refine pure_ (i := 14) (N := some 29) (v := ?_) (a' := ?_) #[true, true, true, true, true, true, true, true, true, true, true, true, true, true, true, false] rfl rfl (any_of HT_.out (by kernel_rfl)) (fun _ _ _ h => h) (Or.inl ⟨by rfl, ?_⟩) ?_ ?_
    rotate_left
    ·intro w'
     go_simp
     with_reducible rfl
    rotate_left
    ·simp only [Act.put, sa_, s0_, ss_, i64_w, i32_w]
     rfl
    refine pure_ (i := 15) (N := some 30) (v := ?_) (a' := ?_) #[true, true, true, true, true, true, true, true, true, true, true, true, true, true, true, true] rfl rfl (any_of HT_.out (by kernel_rfl)) (fun _ _ _ h => h) (Or.inl ⟨by rfl, ?_⟩) ?_ ?_
    rotate_left
    ·intro w'
     go_simp
     with_reducible rfl
    rotate_left
    ·simp only [Act.put, sa_, s0_, ss_, i64_w, i32_w]
     rfl
    refine done_ (done_of HT_.out (by kernel_rfl)) ?_
    obtain ⟨hcz19_0, hcz19_1, hcz19_2, hcz19_3, hcz19_4, hcz19_5, hfz19_0, hfz19_1, hfz19_2, hfz19_3, hfz19_4, hfz19_5⟩ := cf6 BK160
    have hnb20 := NB161_162.out
    have hnc20 := NB162_161.out
    obtain ⟨hcz21_0, hcz21_1, hfz21_0, hfz21_1⟩ := cf2 BK161
    try go_wp2_with (first | ((with_reducible refine gate_callee (f := 32) rfl ?_); refine goesL_ (some 36) rfl rfl Try.func32 (by kernel_rfl) rfl #[.agg #[.bool a0_0, .int .i64 a0_1, .bool true, .int .i64 a0_3, .int .u64 (IntKind.u64.wrap (a0_4 - a0_5)), .int .u64 a0_5], .agg #[.int .i64 a1_0, .int .i64 a1_1], .int .i64 a2] rfl (by first | rfl | (simp only [List.map_toArray, List.map_cons, List.map_nil]; first | done | rfl)) ?_; (with_reducible refine (codel_State_later.calls k a0_0 a0_1 true a0_3 (IntKind.u64.wrap (a0_4 - a0_5)) a0_5 a1_0 a1_1 a2 t165 _ A9.out).mono ?_); rintro e w22 ⟨rfl, hb⟩; refine ⟨_, rfl, ?_⟩; replace BK160 := m_ (blk_below (g := gb160) (o := .cells #[.bool a0_0, .int .i64 a0_1, .bool true, .int .i64 a0_3, .int .u64 (IntKind.u64.wrap (a0_4 - a0_5)), .int .u64 a0_5] 24 (0, 0)) (by refine blk_put (cs := #[.bool a0_0, .int .i64 a0_1, .bool true, .int .i64 a0_3, .int .u64 1, .int .u64 a0_5]) ?_ 4 _ rfl; exact BK160.out) hb); replace BK161 := m_ (blk_below (g := gb161) (o := .cells #[.int .i64 a1_0, .int .i64 a1_1] 26 (0, 0)) (by refine blk_far ?_ NB161_160.out _; exact BK161.out) hb); replace BK162 := m_ (blk_below (g := gb162) (o := .cells #[.bool false, .int .i64 0, .bool false, .int .i64 0, .int .u64 0, .int .u64 0] 24 (0, 0)) (by refine blk_far ?_ NB162_160.out _; exact BK162.out) hb); replace HB := m_ (below_step (by repeat (first | (with_reducible first | exact HB.out | apply below_alloc | apply pw_below_drewN | apply below_drew1 | refine below_set ?_ GE160.out | refine below_set ?_ GE161.out | refine below_set ?_ GE162.out) | exact HB.out)) hb); (try clear hb); obtain ⟨hcz23_0, hcz23_1, hcz23_2, hcz23_3, hcz23_4, hcz23_5, hfz23_0, hfz23_1, hfz23_2, hfz23_3, hfz23_4, hfz23_5⟩ := cf6 BK160; obtain ⟨hcz24_0, hcz24_1, hcz24_2, hcz24_3, hcz24_4, hcz24_5, hfz24_0, hfz24_1, hfz24_2, hfz24_3, hfz24_4, hfz24_5⟩ := cf6 BK162))
    refine bodyPost_ret (results_cell_row rfl _ _ gb162 24 #[.bool a0_0, .int .i64 a0_1, .bool true, .int .i64 t165, .int .u64 (IntKind.u64.wrap (a0_4 - a0_5)), .int .u64 (IntKind.u64.wrap (a0_4 - a0_5))] (0, 0) _ rfl (by apply put6_; refine far2_ NB162_160 ?_; exact BK162.out) Try.underlying24 rfl (by kernel_rfl)) rfl ?_
    exact ⟨by first | rfl | (simp [errW_none, errW_some] <;> rfl) | (simp [*, errW_none, errW_some] <;> rfl), by repeat (first | (with_reducible first | exact HB.out | apply below_alloc | apply pw_below_drewN | apply below_drew1 | refine below_set ?_ GE160.out | refine below_set ?_ GE161.out | refine below_set ?_ GE162.out) | exact HB.out)⟩
   ·rw [if_neg c8] at H
    have c8b0 : decide (t163 < t164) = false := decide_eq_false c8
    clear c8
    replace H := Option.bind_eq_some_iff.mp H
    obtain ⟨t166, A250, H⟩ := H
    replace H : (some (a0_0, a0_1, true, t166, 1, 1)) = some (r1, r2, r3, r4, r5, r6) := H
    have A25 := Aside0.mk A250
    clear A250
    simp only [Option.some.injEq, Prod.mk.injEq] at H
    obtain ⟨rfl, rfl, rfl, rfl, rfl, rfl⟩ := H
    go_enter Try.func29, Try.ntmps29
    try go_wp2_with (first | ((with_reducible refine gate_dst (N := 3) rfl ?_); refine box_event ?hg (N := 3) ?hd (cs := #[.bool a0_0, .int .i64 a0_1, .bool a0_2, .int .i64 a0_3, .int .u64 a0_4, .int .u64 a0_5]) (t := 24) ?hr ?_; (case hd => rfl); (case hg => rfl); (case hr => first | (go_simp; done) | (go_simp; rfl)); intro gb160 hg w26 hbox hb; have BK160 := m_ (hbox); have GW160 := m_ ((by rw [hg]; exact (below_size (by repeat (first | (with_reducible first | exact HB.out | apply below_alloc | apply pw_below_drewN | apply below_drew1) | exact HB.out))) : w.heap.size ≤ gb160)); have GE160 := GW160; replace HB := m_ (below_step (by repeat (first | (with_reducible first | exact HB.out | apply below_alloc | apply pw_below_drewN | apply below_drew1) | exact HB.out)) hb); clear hb hbox hg) | ((with_reducible refine gate_dst (N := 4) rfl ?_); refine box_event ?hg (N := 4) ?hd (cs := #[.int .i64 a1_0, .int .i64 a1_1]) (t := 26) ?hr ?_; (case hd => rfl); (case hg => rfl); (case hr => first | (go_simp; done) | (go_simp; rfl)); intro gb161 hg w27 hbox hb; have BK161 := m_ (hbox); have GW161 := m_ ((by rw [hg]; exact (below_size (by repeat (first | (with_reducible first | exact HB.out | apply below_alloc | apply pw_below_drewN | apply below_drew1 | refine below_set ?_ GE160.out) | exact HB.out))) : w.heap.size ≤ gb161)); have GE161 := GW161; have NB160_161 := m_ ((by rw [hg]; exact Nat.ne_of_lt (blk_lt (by exact BK160.out)) : gb160 ≠ gb161)); have NB161_160 := m_ ((by rw [hg]; exact Nat.ne_of_gt (blk_lt (by exact BK160.out)) : gb161 ≠ gb160)); replace BK160 := m_ (blk_below (by exact BK160.out) hb); replace HB := m_ (below_step (by repeat (first | (with_reducible first | exact HB.out | apply below_alloc | apply pw_below_drewN | apply below_drew1 | refine below_set ?_ GE160.out) | exact HB.out)) hb); clear hb hbox hg) | ((with_reducible refine gate_dst (N := 6) rfl ?_); refine box_event ?hg (N := 6) ?hd (cs := #[.bool false, .int .i64 0, .bool false, .int .i64 0, .int .u64 0, .int .u64 0]) (t := 24) ?hr ?_; (case hd => rfl); (case hg => rfl); (case hr => first | (go_simp; done) | (go_simp; rfl)); intro gb162 hg w28 hbox hb; have BK162 := m_ (hbox); have GW162 := m_ ((by rw [hg]; exact (below_size (by repeat (first | (with_reducible first | exact HB.out | apply below_alloc | apply pw_below_drewN | apply below_drew1 | refine below_set ?_ GE160.out | refine below_set ?_ GE161.out) | exact HB.out))) : w.heap.size ≤ gb162)); have GE162 := GW162; have NB160_162 := m_ ((by rw [hg]; exact Nat.ne_of_lt (blk_lt (by exact BK160.out)) : gb160 ≠ gb162)); have NB162_160 := m_ ((by rw [hg]; exact Nat.ne_of_gt (blk_lt (by exact BK160.out)) : gb162 ≠ gb160)); have NB161_162 := m_ ((by rw [hg]; exact Nat.ne_of_lt (blk_lt (by exact BK161.out)) : gb161 ≠ gb162)); have NB162_161 := m_ ((by rw [hg]; exact Nat.ne_of_gt (blk_lt (by exact BK161.out)) : gb162 ≠ gb161)); replace BK160 := m_ (blk_below (by exact BK160.out) hb); replace BK161 := m_ (blk_below (by exact BK161.out) hb); replace HB := m_ (below_step (by repeat (first | (with_reducible first | exact HB.out | apply below_alloc | apply pw_below_drewN | apply below_drew1 | refine below_set ?_ GE160.out | refine below_set ?_ GE161.out) | exact HB.out)) hb); clear hb hbox hg; have hnb29 := NB160_161.out; have hnc29 := NB161_160.out; have hnb30 := NB160_162.out; have hnc30 := NB162_160.out; obtain ⟨hcz31_0, hcz31_1, hcz31_2, hcz31_3, hcz31_4, hcz31_5, hfz31_0, hfz31_1, hfz31_2, hfz31_3, hfz31_4, hfz31_5⟩ := cf6 BK160))
    have n0_ : Aside0 (((w28.setCell ⟨gb160, 2, none⟩ (.bool true)).setCell ⟨gb160, 4, none⟩ (.int .u64 1)).heap[gb160]? = some (.cells #[.bool a0_0, .int .i64 a0_1, .bool true, .int .i64 a0_3, .int .u64 1, .int .u64 a0_5] 24 (0, 0))) := ⟨by refine blk_put (cs := #[.bool a0_0, .int .i64 a0_1, .bool true, .int .i64 a0_3, .int .u64 a0_4, .int .u64 a0_5]) ?_ 4 _ rfl; refine blk_put (cs := #[.bool a0_0, .int .i64 a0_1, .bool a0_2, .int .i64 a0_3, .int .u64 a0_4, .int .u64 a0_5]) ?_ 2 _ rfl; exact BK160.out⟩
    have n1_ : Aside0 (((w28.setCell ⟨gb160, 2, none⟩ (.bool true)).setCell ⟨gb160, 4, none⟩ (.int .u64 1)).heap[gb161]? = some (.cells #[.int .i64 a1_0, .int .i64 a1_1] 26 (0, 0))) := ⟨by refine far2_ NB161_160 ?_; exact BK161.out⟩
    have n2_ : Aside0 (((w28.setCell ⟨gb160, 2, none⟩ (.bool true)).setCell ⟨gb160, 4, none⟩ (.int .u64 1)).heap[gb162]? = some (.cells #[.bool false, .int .i64 0, .bool false, .int .i64 0, .int .u64 0, .int .u64 0] 24 (0, 0))) := ⟨by refine far2_ NB162_160 ?_; exact BK162.out⟩
    have n3_ : Aside0 (Below w.heap.size w ((w28.setCell ⟨gb160, 2, none⟩ (.bool true)).setCell ⟨gb160, 4, none⟩ (.int .u64 1))) := ⟨by repeat (first | (with_reducible first | exact HB.out | apply below_alloc | apply pw_below_drewN | apply below_drew1 | refine below_set ?_ GE160.out | refine below_set ?_ GE161.out | refine below_set ?_ GE162.out) | exact HB.out)⟩
    (try clear BK160)
    (try clear BK161)
    (try clear BK162)
    (try clear HB)
    generalize ((w28.setCell ⟨gb160, 2, none⟩ (.bool true)).setCell ⟨gb160, 4, none⟩ (.int .u64 1)) = w32 at n0_ n1_ n2_ n3_ ⊢
    have BK160 := n0_
    have BK161 := n1_
    have BK162 := n2_
    have HB := n3_
    clear n0_ n1_ n2_ n3_
    replace BK160 := m_ (blk_drew BK160.out)
    replace BK161 := m_ (blk_drew BK161.out)
    replace BK162 := m_ (blk_drew BK162.out)
    replace HB := m_ (below_drew1 HB.out)
    refine start_ (n := 16) (S := fun w' => w'.cell? ⟨gb160, 0, none⟩ = some (.bool a0_0) ∧ w'.cell? ⟨gb160, 1, none⟩ = some (.int .i64 a0_1) ∧ w'.cell? ⟨gb160, 2, none⟩ = some (.bool true) ∧ w'.cell? ⟨gb160, 3, none⟩ = some (.int .i64 a0_3) ∧ w'.cell? ⟨gb160, 4, none⟩ = some (.int .u64 1) ∧ w'.cell? ⟨gb160, 5, none⟩ = some (.int .u64 a0_5) ∧ w'.cell? ⟨gb161, 0, none⟩ = some (.int .i64 a1_0) ∧ w'.cell? ⟨gb161, 1, none⟩ = some (.int .i64 a1_1)) (ds := []) #[false, false, false, false, false, false, false, false, false, false, false, false, false, false, false, false] (by kernel_rfl) rfl rfl ⟨(blk_cell BK160.out 0).trans rfl, (blk_cell BK160.out 1).trans rfl, (blk_cell BK160.out 2).trans rfl, (blk_cell BK160.out 3).trans rfl, (blk_cell BK160.out 4).trans rfl, (blk_cell BK160.out 5).trans rfl, (blk_cell BK161.out 0).trans rfl, (blk_cell BK161.out 1).trans rfl⟩ (fun hHeld => ?_); refine with_tabW codel_State_enter.tab3 codel_State_enter.bits3 (fun HT_ HW_ => ?_)
    generalize w32.drew = w33 at BK160 BK161 BK162 HB hHeld ⊢
    refine pure_ (i := 0) (N := some 15) (v := ?_) (a' := ?_) #[true, false, false, false, false, false, false, false, false, false, false, false, false, false, false, false] rfl rfl (any_of HT_.out (by kernel_rfl)) (fun _ _ _ h => h) (Or.inl ⟨by rfl, ?_⟩) ?_ ?_
    rotate_left
    ·intro w'
     go_simp
     with_reducible rfl
    rotate_left
    ·simp only [Act.put, sa_, s0_, ss_, i64_w, i32_w]
     rfl
    refine pure_ (i := 1) (N := some 16) (v := ?_) (a' := ?_) #[true, true, false, false, false, false, false, false, false, false, false, false, false, false, false, false] rfl rfl (any_of HT_.out (by kernel_rfl)) (fun _ _ _ h => h) (Or.inl ⟨by rfl, ?_⟩) ?_ ?_
    rotate_left
    ·intro w'
     go_simp
     with_reducible rfl
    rotate_left
    ·simp only [Act.put, sa_, s0_, ss_, i64_w, i32_w]
     rfl
    refine pure_ (i := 2) (N := some 17) (v := ?_) (a' := ?_) #[true, true, true, false, false, false, false, false, false, false, false, false, false, false, false, false] rfl rfl (any_of HT_.out (by kernel_rfl)) (fun _ _ _ h => h) (Or.inl ⟨by rfl, ?_⟩) ?_ ?_
    rotate_left
    ·intro w'
     go_simp
     with_reducible rfl
    rotate_left
    ·simp only [Act.put, sa_, s0_, ss_, i64_w, i32_w]
     rfl
    refine pure_ (i := 3) (N := some 18) (v := ?_) (a' := ?_) #[true, true, true, true, false, false, false, false, false, false, false, false, false, false, false, false] rfl rfl (any_of HT_.out (by kernel_rfl)) (fun _ _ _ h => h) (Or.inl ⟨by rfl, ?_⟩) ?_ ?_
    rotate_left
    ·intro w'
     go_simp
     with_reducible rfl
    rotate_left
    ·simp only [Act.put, sa_, s0_, ss_, i64_w, i32_w]
     rfl
    refine pure_ (i := 4) (N := some 19) (v := ?_) (a' := ?_) #[true, true, true, true, true, false, false, false, false, false, false, false, false, false, false, false] rfl rfl (any_of HT_.out (by kernel_rfl)) (fun _ _ _ h => h) (Or.inl ⟨by rfl, ?_⟩) ?_ ?_
    rotate_left
    ·intro w'
     go_simp
     with_reducible rfl
    rotate_left
    ·simp only [Act.put, sa_, s0_, ss_, i64_w, i32_w]
     rfl
    refine pure_ (i := 5) (N := some 20) (v := ?_) (a' := ?_) #[true, true, true, true, true, true, false, false, false, false, false, false, false, false, false, false] rfl rfl (any_of HT_.out (by kernel_rfl)) (fun _ _ _ h => h) (Or.inl ⟨by rfl, ?_⟩) ?_ ?_
    rotate_left
    ·intro w'
     go_simp
     with_reducible rfl
    rotate_left
    ·simp only [Act.put, sa_, s0_, ss_, i64_w, i32_w]
     rfl
    refine pure_ (i := 6) (N := some 21) (v := ?_) (a' := ?_) #[true, true, true, true, true, true, true, false, false, false, false, false, false, false, false, false] rfl rfl (any_of HT_.out (by kernel_rfl)) (fun _ _ _ h => h) (Or.inl ⟨by rfl, ?_⟩) ?_ ?_
    rotate_left
    ·intro w'
     go_simp
     with_reducible rfl
    rotate_left
    ·simp only [Act.put, sa_, s0_, ss_, i64_w, i32_w]
     rfl
    refine pure_ (i := 7) (N := some 22) (v := ?_) (a' := ?_) #[true, true, true, true, true, true, true, true, false, false, false, false, false, false, false, false] rfl rfl (any_of HT_.out (by kernel_rfl)) (fun _ _ _ h => h) (Or.inl ⟨by rfl, ?_⟩) ?_ ?_
    rotate_left
    ·intro w'
     go_simp
     with_reducible rfl
    rotate_left
    ·simp only [Act.put, sa_, s0_, ss_, i64_w, i32_w]
     rfl
    refine pure_ (i := 8) (N := some 23) (v := ?_) (a' := ?_) #[true, true, true, true, true, true, true, true, true, false, false, false, false, false, false, false] rfl rfl (any_of HT_.out (by kernel_rfl)) (fun _ _ _ h => h) (Or.inl ⟨by rfl, ?_⟩) ?_ ?_
    rotate_left
    ·intro w'
     go_simp
     with_reducible rfl
    rotate_left
    ·simp only [Act.put, sa_, s0_, ss_, i64_w, i32_w]
     rfl
    refine pure_ (i := 11) (N := some 26) (v := ?_) (a' := ?_) #[true, true, true, true, true, true, true, true, true, false, false, true, false, false, false, false] rfl rfl (any_of HT_.out (by kernel_rfl)) (fun _ _ _ h => h) (Or.inl ⟨by rfl, ?_⟩) ?_ ?_
    rotate_left
    ·intro w'
     go_simp
     with_reducible rfl
    rotate_left
    ·simp only [Act.put, sa_, s0_, ss_, i64_w, i32_w]
     rfl
    refine take_ (i := 9) (N := some 24) (v := ?_) (a' := ?_) #[true, true, true, true, true, true, true, true, true, true, false, true, false, false, false, false] rfl rfl (take_ofW HT_.out HW_.out (by kernel_rfl)) (fun _ _ _ h => h) (Or.inl ⟨by rfl, ?_⟩) hHeld ?_ ?_
    rotate_left
    ·rintro w' ⟨s0, s1, s2, s3, s4, s5, s6, s7⟩
     go_simp
     with_reducible rfl
    rotate_left
    ·simp only [Act.put, sa_, s0_, ss_, i64_w, i32_w]
     rfl
    refine take_ (i := 12) (N := some 27) (v := ?_) (a' := ?_) #[true, true, true, true, true, true, true, true, true, true, false, true, true, false, false, false] rfl rfl (take_ofW HT_.out HW_.out (by kernel_rfl)) (fun _ _ _ h => h) (Or.inl ⟨by rfl, ?_⟩) hHeld ?_ ?_
    rotate_left
    ·rintro w' ⟨s0, s1, s2, s3, s4, s5, s6, s7⟩
     go_simp
     with_reducible rfl
    rotate_left
    ·simp only [Act.put, sa_, s0_, ss_, i64_w, i32_w]
     rfl
    refine one_ (i := 10) (N := some 25) #[true, true, true, true, true, true, true, true, true, true, true, true, true, false, false, false] rfl rfl (one_of HT_.out (by kernel_rfl)) (by decide) (fun K hK => ?_)
    refine goes_ Try.func37 (by kernel_rfl) rfl #[.int .i64 a2, .int .i64 a0_3] (by rfl) rfl rfl (by first | rfl | (simp only [List.map_toArray, List.map_cons, List.map_nil]; first | done | rfl)) ?_
    with_reducible refine (fix_Sub.calls a2 a0_3 t163 _ A6.out).mono ?_
    rintro e w' ⟨rfl, ⟨nd, rfl⟩⟩
    refine ⟨_, rfl, ?_⟩
    refine hK.out _ _ ⟨(blk_cell BK160.out 0).trans rfl, (blk_cell BK160.out 1).trans rfl, (blk_cell BK160.out 2).trans rfl, (blk_cell BK160.out 3).trans rfl, (blk_cell BK160.out 4).trans rfl, (blk_cell BK160.out 5).trans rfl, (blk_cell BK161.out 0).trans rfl, (blk_cell BK161.out 1).trans rfl⟩ (fun hHeld => ?_)
    clear hK K
    refine norm_ (a' := ?_) ?_ ?_
    rotate_left
    ·show Act.put _ (some 25) _ = _
     simp only [Act.put, sa_, s0_, ss_, i64_w, i32_w]
     rfl
    refine one_ (i := 13) (N := some 28) #[true, true, true, true, true, true, true, true, true, true, true, true, true, true, false, false] rfl rfl (one_of HT_.out (by kernel_rfl)) (by decide) (fun K hK => ?_)
    refine goes_ Try.func38 (by kernel_rfl) rfl #[.int .i64 16, .int .i64 a1_1] (by rfl) rfl rfl (by first | rfl | (simp only [List.map_toArray, List.map_cons, List.map_nil]; first | done | rfl)) ?_
    with_reducible refine (fix_Mul.calls k 16 a1_1 t164 _ A7.out).mono ?_
    rintro e w34 ⟨rfl, hb⟩
    refine ⟨_, rfl, ?_⟩
    replace BK160 := m_ (blk_below (by exact BK160.out) hb)
    replace BK161 := m_ (blk_below (by exact BK161.out) hb)
    replace BK162 := m_ (blk_below (by exact BK162.out) hb)
    replace HB := m_ (below_step (by repeat (first | (with_reducible first | exact HB.out | apply below_alloc | apply pw_below_drewN | apply below_drew1 | refine below_set ?_ GE160.out | refine below_set ?_ GE161.out | refine below_set ?_ GE162.out) | exact HB.out)) hb)
    (try clear hb)
    (try clear hb2)
    (try clear hk)
    (try clear hi)
    refine hK.out _ _ ⟨(blk_cell BK160.out 0).trans rfl, (blk_cell BK160.out 1).trans rfl, (blk_cell BK160.out 2).trans rfl, (blk_cell BK160.out 3).trans rfl, (blk_cell BK160.out 4).trans rfl, (blk_cell BK160.out 5).trans rfl, (blk_cell BK161.out 0).trans rfl, (blk_cell BK161.out 1).trans rfl⟩ (fun hHeld => ?_)
    clear hK K
    refine norm_ (a' := ?_) ?_ ?_
    rotate_left
    ·show Act.put _ (some 28) _ = _
     simp only [Act.put, sa_, s0_, ss_, i64_w, i32_w]
     rfl
    refine pure_ (i := 14) (N := some 29) (v := ?_) (a' := ?_) #[true, true, true, true, true, true, true, true, true, true, true, true, true, true, true, false] rfl rfl (any_of HT_.out (by kernel_rfl)) (fun _ _ _ h => h) (Or.inl ⟨by rfl, ?_⟩) ?_ ?_
    rotate_left
    ·intro w'
     go_simp
     with_reducible rfl
    rotate_left
    ·simp only [Act.put, sa_, s0_, ss_, i64_w, i32_w]
     rfl
    refine pure_ (i := 15) (N := some 30) (v := ?_) (a' := ?_) #[true, true, true, true, true, true, true, true, true, true, true, true, true, true, true, true] rfl rfl (any_of HT_.out (by kernel_rfl)) (fun _ _ _ h => h) (Or.inl ⟨by rfl, ?_⟩) ?_ ?_
    rotate_left
    ·intro w'
     go_simp
     with_reducible rfl
    rotate_left
    ·simp only [Act.put, sa_, s0_, ss_, i64_w, i32_w]
     rfl
    refine done_ (done_of HT_.out (by kernel_rfl)) ?_
    obtain ⟨hcz35_0, hcz35_1, hcz35_2, hcz35_3, hcz35_4, hcz35_5, hfz35_0, hfz35_1, hfz35_2, hfz35_3, hfz35_4, hfz35_5⟩ := cf6 BK160
    have hnb36 := NB161_162.out
    have hnc36 := NB162_161.out
    obtain ⟨hcz37_0, hcz37_1, hfz37_0, hfz37_1⟩ := cf2 BK161
    try go_wp2_with (first | ((with_reducible refine gate_callee (f := 32) rfl ?_); refine goesL_ (some 36) rfl rfl Try.func32 (by kernel_rfl) rfl #[.agg #[.bool a0_0, .int .i64 a0_1, .bool true, .int .i64 a0_3, .int .u64 1, .int .u64 a0_5], .agg #[.int .i64 a1_0, .int .i64 a1_1], .int .i64 a2] rfl (by first | rfl | (simp only [List.map_toArray, List.map_cons, List.map_nil]; first | done | rfl)) ?_; (with_reducible refine (codel_State_later.calls k a0_0 a0_1 true a0_3 1 a0_5 a1_0 a1_1 a2 t166 _ A25.out).mono ?_); rintro e w38 ⟨rfl, hb⟩; refine ⟨_, rfl, ?_⟩; replace BK160 := m_ (blk_below (by exact BK160.out) hb); replace BK161 := m_ (blk_below (by exact BK161.out) hb); replace BK162 := m_ (blk_below (by exact BK162.out) hb); replace HB := m_ (below_step (by repeat (first | (with_reducible first | exact HB.out | apply below_alloc | apply pw_below_drewN | apply below_drew1 | refine below_set ?_ GE160.out | refine below_set ?_ GE161.out | refine below_set ?_ GE162.out) | exact HB.out)) hb); (try clear hb); obtain ⟨hcz39_0, hcz39_1, hcz39_2, hcz39_3, hcz39_4, hcz39_5, hfz39_0, hfz39_1, hfz39_2, hfz39_3, hfz39_4, hfz39_5⟩ := cf6 BK160; obtain ⟨hcz40_0, hcz40_1, hcz40_2, hcz40_3, hcz40_4, hcz40_5, hfz40_0, hfz40_1, hfz40_2, hfz40_3, hfz40_4, hfz40_5⟩ := cf6 BK162))
    refine bodyPost_ret (results_cell_row rfl _ _ gb162 24 #[.bool a0_0, .int .i64 a0_1, .bool true, .int .i64 t166, .int .u64 1, .int .u64 1] (0, 0) _ rfl (by apply put6_; refine far2_ NB162_160 ?_; exact BK162.out) Try.underlying24 rfl (by kernel_rfl)) rfl ?_
    exact ⟨by first | rfl | (simp [errW_none, errW_some] <;> rfl) | (simp [*, errW_none, errW_some] <;> rfl), by repeat (first | (with_reducible first | exact HB.out | apply below_alloc | apply pw_below_drewN | apply below_drew1 | refine below_set ?_ GE160.out | refine below_set ?_ GE161.out | refine below_set ?_ GE162.out) | exact HB.out)⟩
  ·rw [if_neg c5] at H
   have c5b0 : decide ((IntKind.u64.wrap (a0_4 - a0_5)) ≤ 9223372036854775808) = false := decide_eq_false c5
   clear c5
   replace H := Option.bind_eq_some_iff.mp H
   obtain ⟨t167, A410, H⟩ := H
   replace H : (some (a0_0, a0_1, true, t167, 1, 1)) = some (r1, r2, r3, r4, r5, r6) := H
   have A41 := Aside0.mk A410
   clear A410
   simp only [Option.some.injEq, Prod.mk.injEq] at H
   obtain ⟨rfl, rfl, rfl, rfl, rfl, rfl⟩ := H
   go_enter Try.func29, Try.ntmps29
   try go_wp2_with (first | ((with_reducible refine gate_dst (N := 3) rfl ?_); refine box_event ?hg (N := 3) ?hd (cs := #[.bool a0_0, .int .i64 a0_1, .bool a0_2, .int .i64 a0_3, .int .u64 a0_4, .int .u64 a0_5]) (t := 24) ?hr ?_; (case hd => rfl); (case hg => rfl); (case hr => first | (go_simp; done) | (go_simp; rfl)); intro gb160 hg w42 hbox hb; have BK160 := m_ (hbox); have GW160 := m_ ((by rw [hg]; exact (below_size (by repeat (first | (with_reducible first | exact HB.out | apply below_alloc | apply pw_below_drewN | apply below_drew1) | exact HB.out))) : w.heap.size ≤ gb160)); have GE160 := GW160; replace HB := m_ (below_step (by repeat (first | (with_reducible first | exact HB.out | apply below_alloc | apply pw_below_drewN | apply below_drew1) | exact HB.out)) hb); clear hb hbox hg) | ((with_reducible refine gate_dst (N := 4) rfl ?_); refine box_event ?hg (N := 4) ?hd (cs := #[.int .i64 a1_0, .int .i64 a1_1]) (t := 26) ?hr ?_; (case hd => rfl); (case hg => rfl); (case hr => first | (go_simp; done) | (go_simp; rfl)); intro gb161 hg w43 hbox hb; have BK161 := m_ (hbox); have GW161 := m_ ((by rw [hg]; exact (below_size (by repeat (first | (with_reducible first | exact HB.out | apply below_alloc | apply pw_below_drewN | apply below_drew1 | refine below_set ?_ GE160.out) | exact HB.out))) : w.heap.size ≤ gb161)); have GE161 := GW161; have NB160_161 := m_ ((by rw [hg]; exact Nat.ne_of_lt (blk_lt (by exact BK160.out)) : gb160 ≠ gb161)); have NB161_160 := m_ ((by rw [hg]; exact Nat.ne_of_gt (blk_lt (by exact BK160.out)) : gb161 ≠ gb160)); replace BK160 := m_ (blk_below (by exact BK160.out) hb); replace HB := m_ (below_step (by repeat (first | (with_reducible first | exact HB.out | apply below_alloc | apply pw_below_drewN | apply below_drew1 | refine below_set ?_ GE160.out) | exact HB.out)) hb); clear hb hbox hg) | ((with_reducible refine gate_dst (N := 6) rfl ?_); refine box_event ?hg (N := 6) ?hd (cs := #[.bool false, .int .i64 0, .bool false, .int .i64 0, .int .u64 0, .int .u64 0]) (t := 24) ?hr ?_; (case hd => rfl); (case hg => rfl); (case hr => first | (go_simp; done) | (go_simp; rfl)); intro gb162 hg w44 hbox hb; have BK162 := m_ (hbox); have GW162 := m_ ((by rw [hg]; exact (below_size (by repeat (first | (with_reducible first | exact HB.out | apply below_alloc | apply pw_below_drewN | apply below_drew1 | refine below_set ?_ GE160.out | refine below_set ?_ GE161.out) | exact HB.out))) : w.heap.size ≤ gb162)); have GE162 := GW162; have NB160_162 := m_ ((by rw [hg]; exact Nat.ne_of_lt (blk_lt (by exact BK160.out)) : gb160 ≠ gb162)); have NB162_160 := m_ ((by rw [hg]; exact Nat.ne_of_gt (blk_lt (by exact BK160.out)) : gb162 ≠ gb160)); have NB161_162 := m_ ((by rw [hg]; exact Nat.ne_of_lt (blk_lt (by exact BK161.out)) : gb161 ≠ gb162)); have NB162_161 := m_ ((by rw [hg]; exact Nat.ne_of_gt (blk_lt (by exact BK161.out)) : gb162 ≠ gb161)); replace BK160 := m_ (blk_below (by exact BK160.out) hb); replace BK161 := m_ (blk_below (by exact BK161.out) hb); replace HB := m_ (below_step (by repeat (first | (with_reducible first | exact HB.out | apply below_alloc | apply pw_below_drewN | apply below_drew1 | refine below_set ?_ GE160.out | refine below_set ?_ GE161.out) | exact HB.out)) hb); clear hb hbox hg; have hnb45 := NB160_161.out; have hnc45 := NB161_160.out; have hnb46 := NB160_162.out; have hnc46 := NB162_160.out; obtain ⟨hcz47_0, hcz47_1, hcz47_2, hcz47_3, hcz47_4, hcz47_5, hfz47_0, hfz47_1, hfz47_2, hfz47_3, hfz47_4, hfz47_5⟩ := cf6 BK160))
   have n0_ : Aside0 (((w44.setCell ⟨gb160, 2, none⟩ (.bool true)).setCell ⟨gb160, 4, none⟩ (.int .u64 1)).heap[gb160]? = some (.cells #[.bool a0_0, .int .i64 a0_1, .bool true, .int .i64 a0_3, .int .u64 1, .int .u64 a0_5] 24 (0, 0))) := ⟨by refine blk_put (cs := #[.bool a0_0, .int .i64 a0_1, .bool true, .int .i64 a0_3, .int .u64 a0_4, .int .u64 a0_5]) ?_ 4 _ rfl; refine blk_put (cs := #[.bool a0_0, .int .i64 a0_1, .bool a0_2, .int .i64 a0_3, .int .u64 a0_4, .int .u64 a0_5]) ?_ 2 _ rfl; exact BK160.out⟩
   have n1_ : Aside0 (((w44.setCell ⟨gb160, 2, none⟩ (.bool true)).setCell ⟨gb160, 4, none⟩ (.int .u64 1)).heap[gb161]? = some (.cells #[.int .i64 a1_0, .int .i64 a1_1] 26 (0, 0))) := ⟨by refine far2_ NB161_160 ?_; exact BK161.out⟩
   have n2_ : Aside0 (((w44.setCell ⟨gb160, 2, none⟩ (.bool true)).setCell ⟨gb160, 4, none⟩ (.int .u64 1)).heap[gb162]? = some (.cells #[.bool false, .int .i64 0, .bool false, .int .i64 0, .int .u64 0, .int .u64 0] 24 (0, 0))) := ⟨by refine far2_ NB162_160 ?_; exact BK162.out⟩
   have n3_ : Aside0 (Below w.heap.size w ((w44.setCell ⟨gb160, 2, none⟩ (.bool true)).setCell ⟨gb160, 4, none⟩ (.int .u64 1))) := ⟨by repeat (first | (with_reducible first | exact HB.out | apply below_alloc | apply pw_below_drewN | apply below_drew1 | refine below_set ?_ GE160.out | refine below_set ?_ GE161.out | refine below_set ?_ GE162.out) | exact HB.out)⟩
   (try clear BK160)
   (try clear BK161)
   (try clear BK162)
   (try clear HB)
   generalize ((w44.setCell ⟨gb160, 2, none⟩ (.bool true)).setCell ⟨gb160, 4, none⟩ (.int .u64 1)) = w48 at n0_ n1_ n2_ n3_ ⊢
   have BK160 := n0_
   have BK161 := n1_
   have BK162 := n2_
   have HB := n3_
   clear n0_ n1_ n2_ n3_
   replace BK160 := m_ (blk_drew BK160.out)
   replace BK161 := m_ (blk_drew BK161.out)
   replace BK162 := m_ (blk_drew BK162.out)
   replace HB := m_ (below_drew1 HB.out)
   refine start_ (n := 16) (S := fun w' => True) (ds := []) #[false, false, false, false, false, false, false, false, false, false, false, false, false, false, false, false] (by kernel_rfl) rfl rfl trivial (fun hHeld => ?_); refine with_tabW codel_State_enter.tab3 codel_State_enter.bits3 (fun HT_ HW_ => ?_)
   generalize w48.drew = w49 at BK160 BK161 BK162 HB hHeld ⊢
   refine pure_ (i := 0) (N := some 15) (v := ?_) (a' := ?_) #[true, false, false, false, false, false, false, false, false, false, false, false, false, false, false, false] rfl rfl (any_of HT_.out (by kernel_rfl)) (fun _ _ _ h => h) (Or.inl ⟨by rfl, ?_⟩) ?_ ?_
   rotate_left
   ·intro w'
    go_simp
    with_reducible rfl
   rotate_left
   ·simp only [Act.put, sa_, s0_, ss_, i64_w, i32_w]
    rfl
   refine pure_ (i := 1) (N := some 16) (v := ?_) (a' := ?_) #[true, true, false, false, false, false, false, false, false, false, false, false, false, false, false, false] rfl rfl (any_of HT_.out (by kernel_rfl)) (fun _ _ _ h => h) (Or.inl ⟨by rfl, ?_⟩) ?_ ?_
   rotate_left
   ·intro w'
    go_simp
    with_reducible rfl
   rotate_left
   ·simp only [Act.put, sa_, s0_, ss_, i64_w, i32_w]
    rfl
   refine pure_ (i := 2) (N := some 17) (v := ?_) (a' := ?_) #[true, true, true, false, false, false, false, false, false, false, false, false, false, false, false, false] rfl rfl (any_of HT_.out (by kernel_rfl)) (fun _ _ _ h => h) (Or.inl ⟨by rfl, ?_⟩) ?_ ?_
   rotate_left
   ·intro w'
    go_simp
    with_reducible rfl
   rotate_left
   ·simp only [Act.put, sa_, s0_, ss_, i64_w, i32_w]
    rfl
   refine pure_ (i := 3) (N := some 18) (v := ?_) (a' := ?_) #[true, true, true, true, false, false, false, false, false, false, false, false, false, false, false, false] rfl rfl (any_of HT_.out (by kernel_rfl)) (fun _ _ _ h => h) (Or.inl ⟨by rfl, ?_⟩) ?_ ?_
   rotate_left
   ·intro w'
    go_simp
    with_reducible rfl
   rotate_left
   ·simp only [Act.put, sa_, s0_, ss_, i64_w, i32_w]
    rfl
   refine pure_ (i := 4) (N := some 19) (v := ?_) (a' := ?_) #[true, true, true, true, true, false, false, false, false, false, false, false, false, false, false, false] rfl rfl (any_of HT_.out (by kernel_rfl)) (fun _ _ _ h => h) (Or.inl ⟨by rfl, ?_⟩) ?_ ?_
   rotate_left
   ·intro w'
    go_simp
    with_reducible rfl
   rotate_left
   ·simp only [Act.put, sa_, s0_, ss_, i64_w, i32_w]
    rfl
   refine pure_ (i := 5) (N := some 20) (v := ?_) (a' := ?_) #[true, true, true, true, true, true, false, false, false, false, false, false, false, false, false, false] rfl rfl (any_of HT_.out (by kernel_rfl)) (fun _ _ _ h => h) (Or.inl ⟨by rfl, ?_⟩) ?_ ?_
   rotate_left
   ·intro w'
    go_simp
    with_reducible rfl
   rotate_left
   ·simp only [Act.put, sa_, s0_, ss_, i64_w, i32_w]
    rfl
   refine pure_ (i := 6) (N := some 21) (v := ?_) (a' := ?_) #[true, true, true, true, true, true, true, false, false, false, false, false, false, false, false, false] rfl rfl (any_of HT_.out (by kernel_rfl)) (fun _ _ _ h => h) (Or.inl ⟨by rfl, ?_⟩) ?_ ?_
   rotate_left
   ·intro w'
    go_simp
    with_reducible rfl
   rotate_left
   ·simp only [Act.put, sa_, s0_, ss_, i64_w, i32_w]
    rfl
   refine pure_ (i := 7) (N := some 22) (v := undef) (a' := ?_) #[true, true, true, true, true, true, true, true, false, false, false, false, false, false, false, false] rfl rfl (any_of HT_.out (by kernel_rfl)) (fun _ _ _ h => h) (Or.inr ⟨by rfl, rfl⟩) ?_ ?_
   rotate_left
   ·simp only [Act.put, sa_, s0_, ss_, i64_w, i32_w]
    rfl
   refine pure_ (i := 8) (N := some 23) (v := undef) (a' := ?_) #[true, true, true, true, true, true, true, true, true, false, false, false, false, false, false, false] rfl rfl (any_of HT_.out (by kernel_rfl)) (fun _ _ _ h => h) (Or.inr ⟨by rfl, rfl⟩) ?_ ?_
   rotate_left
   ·simp only [Act.put, sa_, s0_, ss_, i64_w, i32_w]
    rfl
   refine pure_ (i := 9) (N := some 24) (v := undef) (a' := ?_) #[true, true, true, true, true, true, true, true, true, true, false, false, false, false, false, false] rfl rfl (any_of HT_.out (by kernel_rfl)) (fun _ _ _ h => h) (Or.inr ⟨by rfl, rfl⟩) ?_ ?_
   rotate_left
   ·simp only [Act.put, sa_, s0_, ss_, i64_w, i32_w]
    rfl
   refine pure_ (i := 10) (N := some 25) (v := undef) (a' := ?_) #[true, true, true, true, true, true, true, true, true, true, true, false, false, false, false, false] rfl rfl (any_of HT_.out (by kernel_rfl)) (fun _ _ _ h => h) (Or.inr ⟨by rfl, rfl⟩) ?_ ?_
   rotate_left
   ·simp only [Act.put, sa_, s0_, ss_, i64_w, i32_w]
    rfl
   refine pure_ (i := 11) (N := some 26) (v := undef) (a' := ?_) #[true, true, true, true, true, true, true, true, true, true, true, true, false, false, false, false] rfl rfl (any_of HT_.out (by kernel_rfl)) (fun _ _ _ h => h) (Or.inr ⟨by rfl, rfl⟩) ?_ ?_
   rotate_left
   ·simp only [Act.put, sa_, s0_, ss_, i64_w, i32_w]
    rfl
   refine pure_ (i := 12) (N := some 27) (v := undef) (a' := ?_) #[true, true, true, true, true, true, true, true, true, true, true, true, true, false, false, false] rfl rfl (any_of HT_.out (by kernel_rfl)) (fun _ _ _ h => h) (Or.inr ⟨by rfl, rfl⟩) ?_ ?_
   rotate_left
   ·simp only [Act.put, sa_, s0_, ss_, i64_w, i32_w]
    rfl
   refine pure_ (i := 13) (N := some 28) (v := undef) (a' := ?_) #[true, true, true, true, true, true, true, true, true, true, true, true, true, true, false, false] rfl rfl (any_of HT_.out (by kernel_rfl)) (fun _ _ _ h => h) (Or.inr ⟨by rfl, rfl⟩) ?_ ?_
   rotate_left
   ·simp only [Act.put, sa_, s0_, ss_, i64_w, i32_w]
    rfl
   refine pure_ (i := 14) (N := some 29) (v := undef) (a' := ?_) #[true, true, true, true, true, true, true, true, true, true, true, true, true, true, true, false] rfl rfl (any_of HT_.out (by kernel_rfl)) (fun _ _ _ h => h) (Or.inr ⟨by rfl, rfl⟩) ?_ ?_
   rotate_left
   ·simp only [Act.put, sa_, s0_, ss_, i64_w, i32_w]
    rfl
   refine pure_ (i := 15) (N := some 30) (v := ?_) (a' := ?_) #[true, true, true, true, true, true, true, true, true, true, true, true, true, true, true, true] rfl rfl (any_of HT_.out (by kernel_rfl)) (fun _ _ _ h => h) (Or.inl ⟨by rfl, ?_⟩) ?_ ?_
   rotate_left
   ·intro w'
    go_simp
    with_reducible rfl
   rotate_left
   ·simp only [Act.put, sa_, s0_, ss_, i64_w, i32_w]
    rfl
   refine done_ (done_of HT_.out (by kernel_rfl)) ?_
   obtain ⟨hcz50_0, hcz50_1, hcz50_2, hcz50_3, hcz50_4, hcz50_5, hfz50_0, hfz50_1, hfz50_2, hfz50_3, hfz50_4, hfz50_5⟩ := cf6 BK160
   have hnb51 := NB161_162.out
   have hnc51 := NB162_161.out
   obtain ⟨hcz52_0, hcz52_1, hfz52_0, hfz52_1⟩ := cf2 BK161
   try go_wp2_with (first | ((with_reducible refine gate_callee (f := 32) rfl ?_); refine goesL_ (some 36) rfl rfl Try.func32 (by kernel_rfl) rfl #[.agg #[.bool a0_0, .int .i64 a0_1, .bool true, .int .i64 a0_3, .int .u64 1, .int .u64 a0_5], .agg #[.int .i64 a1_0, .int .i64 a1_1], .int .i64 a2] rfl (by first | rfl | (simp only [List.map_toArray, List.map_cons, List.map_nil]; first | done | rfl)) ?_; (with_reducible refine (codel_State_later.calls k a0_0 a0_1 true a0_3 1 a0_5 a1_0 a1_1 a2 t167 _ A41.out).mono ?_); rintro e w53 ⟨rfl, hb⟩; refine ⟨_, rfl, ?_⟩; replace BK160 := m_ (blk_below (by exact BK160.out) hb); replace BK161 := m_ (blk_below (by exact BK161.out) hb); replace BK162 := m_ (blk_below (by exact BK162.out) hb); replace HB := m_ (below_step (by repeat (first | (with_reducible first | exact HB.out | apply below_alloc | apply pw_below_drewN | apply below_drew1 | refine below_set ?_ GE160.out | refine below_set ?_ GE161.out | refine below_set ?_ GE162.out) | exact HB.out)) hb); (try clear hb); obtain ⟨hcz54_0, hcz54_1, hcz54_2, hcz54_3, hcz54_4, hcz54_5, hfz54_0, hfz54_1, hfz54_2, hfz54_3, hfz54_4, hfz54_5⟩ := cf6 BK160; obtain ⟨hcz55_0, hcz55_1, hcz55_2, hcz55_3, hcz55_4, hcz55_5, hfz55_0, hfz55_1, hfz55_2, hfz55_3, hfz55_4, hfz55_5⟩ := cf6 BK162))
   refine bodyPost_ret (results_cell_row rfl _ _ gb162 24 #[.bool a0_0, .int .i64 a0_1, .bool true, .int .i64 t167, .int .u64 1, .int .u64 1] (0, 0) _ rfl (by apply put6_; refine far2_ NB162_160 ?_; exact BK162.out) Try.underlying24 rfl (by kernel_rfl)) rfl ?_
   exact ⟨by first | rfl | (simp [errW_none, errW_some] <;> rfl) | (simp [*, errW_none, errW_some] <;> rfl), by repeat (first | (with_reducible first | exact HB.out | apply below_alloc | apply pw_below_drewN | apply below_drew1 | refine below_set ?_ GE160.out | refine below_set ?_ GE161.out | refine below_set ?_ GE162.out) | exact HB.out)⟩
 ·rw [if_neg c4] at H
  have c4b0 : decide (1 < (IntKind.u64.wrap (a0_4 - a0_5))) = false := decide_eq_false c4
  clear c4
  replace H := Option.bind_eq_some_iff.mp H
  obtain ⟨t168, A560, H⟩ := H
  replace H : (some (a0_0, a0_1, true, t168, 1, 1)) = some (r1, r2, r3, r4, r5, r6) := H
  have A56 := Aside0.mk A560
  clear A560
  simp only [Option.some.injEq, Prod.mk.injEq] at H
  obtain ⟨rfl, rfl, rfl, rfl, rfl, rfl⟩ := H
  go_enter Try.func29, Try.ntmps29
  try go_wp2_with (first | ((with_reducible refine gate_dst (N := 3) rfl ?_); refine box_event ?hg (N := 3) ?hd (cs := #[.bool a0_0, .int .i64 a0_1, .bool a0_2, .int .i64 a0_3, .int .u64 a0_4, .int .u64 a0_5]) (t := 24) ?hr ?_; (case hd => rfl); (case hg => rfl); (case hr => first | (go_simp; done) | (go_simp; rfl)); intro gb160 hg w57 hbox hb; have BK160 := m_ (hbox); have GW160 := m_ ((by rw [hg]; exact (below_size (by repeat (first | (with_reducible first | exact HB.out | apply below_alloc | apply pw_below_drewN | apply below_drew1) | exact HB.out))) : w.heap.size ≤ gb160)); have GE160 := GW160; replace HB := m_ (below_step (by repeat (first | (with_reducible first | exact HB.out | apply below_alloc | apply pw_below_drewN | apply below_drew1) | exact HB.out)) hb); clear hb hbox hg) | ((with_reducible refine gate_dst (N := 4) rfl ?_); refine box_event ?hg (N := 4) ?hd (cs := #[.int .i64 a1_0, .int .i64 a1_1]) (t := 26) ?hr ?_; (case hd => rfl); (case hg => rfl); (case hr => first | (go_simp; done) | (go_simp; rfl)); intro gb161 hg w58 hbox hb; have BK161 := m_ (hbox); have GW161 := m_ ((by rw [hg]; exact (below_size (by repeat (first | (with_reducible first | exact HB.out | apply below_alloc | apply pw_below_drewN | apply below_drew1 | refine below_set ?_ GE160.out) | exact HB.out))) : w.heap.size ≤ gb161)); have GE161 := GW161; have NB160_161 := m_ ((by rw [hg]; exact Nat.ne_of_lt (blk_lt (by exact BK160.out)) : gb160 ≠ gb161)); have NB161_160 := m_ ((by rw [hg]; exact Nat.ne_of_gt (blk_lt (by exact BK160.out)) : gb161 ≠ gb160)); replace BK160 := m_ (blk_below (by exact BK160.out) hb); replace HB := m_ (below_step (by repeat (first | (with_reducible first | exact HB.out | apply below_alloc | apply pw_below_drewN | apply below_drew1 | refine below_set ?_ GE160.out) | exact HB.out)) hb); clear hb hbox hg) | ((with_reducible refine gate_dst (N := 6) rfl ?_); refine box_event ?hg (N := 6) ?hd (cs := #[.bool false, .int .i64 0, .bool false, .int .i64 0, .int .u64 0, .int .u64 0]) (t := 24) ?hr ?_; (case hd => rfl); (case hg => rfl); (case hr => first | (go_simp; done) | (go_simp; rfl)); intro gb162 hg w59 hbox hb; have BK162 := m_ (hbox); have GW162 := m_ ((by rw [hg]; exact (below_size (by repeat (first | (with_reducible first | exact HB.out | apply below_alloc | apply pw_below_drewN | apply below_drew1 | refine below_set ?_ GE160.out | refine below_set ?_ GE161.out) | exact HB.out))) : w.heap.size ≤ gb162)); have GE162 := GW162; have NB160_162 := m_ ((by rw [hg]; exact Nat.ne_of_lt (blk_lt (by exact BK160.out)) : gb160 ≠ gb162)); have NB162_160 := m_ ((by rw [hg]; exact Nat.ne_of_gt (blk_lt (by exact BK160.out)) : gb162 ≠ gb160)); have NB161_162 := m_ ((by rw [hg]; exact Nat.ne_of_lt (blk_lt (by exact BK161.out)) : gb161 ≠ gb162)); have NB162_161 := m_ ((by rw [hg]; exact Nat.ne_of_gt (blk_lt (by exact BK161.out)) : gb162 ≠ gb161)); replace BK160 := m_ (blk_below (by exact BK160.out) hb); replace BK161 := m_ (blk_below (by exact BK161.out) hb); replace HB := m_ (below_step (by repeat (first | (with_reducible first | exact HB.out | apply below_alloc | apply pw_below_drewN | apply below_drew1 | refine below_set ?_ GE160.out | refine below_set ?_ GE161.out) | exact HB.out)) hb); clear hb hbox hg; have hnb60 := NB160_161.out; have hnc60 := NB161_160.out; have hnb61 := NB160_162.out; have hnc61 := NB162_160.out; obtain ⟨hcz62_0, hcz62_1, hcz62_2, hcz62_3, hcz62_4, hcz62_5, hfz62_0, hfz62_1, hfz62_2, hfz62_3, hfz62_4, hfz62_5⟩ := cf6 BK160))
  have n0_ : Aside0 (((w59.setCell ⟨gb160, 2, none⟩ (.bool true)).setCell ⟨gb160, 4, none⟩ (.int .u64 1)).heap[gb160]? = some (.cells #[.bool a0_0, .int .i64 a0_1, .bool true, .int .i64 a0_3, .int .u64 1, .int .u64 a0_5] 24 (0, 0))) := ⟨by refine blk_put (cs := #[.bool a0_0, .int .i64 a0_1, .bool true, .int .i64 a0_3, .int .u64 a0_4, .int .u64 a0_5]) ?_ 4 _ rfl; refine blk_put (cs := #[.bool a0_0, .int .i64 a0_1, .bool a0_2, .int .i64 a0_3, .int .u64 a0_4, .int .u64 a0_5]) ?_ 2 _ rfl; exact BK160.out⟩
  have n1_ : Aside0 (((w59.setCell ⟨gb160, 2, none⟩ (.bool true)).setCell ⟨gb160, 4, none⟩ (.int .u64 1)).heap[gb161]? = some (.cells #[.int .i64 a1_0, .int .i64 a1_1] 26 (0, 0))) := ⟨by refine far2_ NB161_160 ?_; exact BK161.out⟩
  have n2_ : Aside0 (((w59.setCell ⟨gb160, 2, none⟩ (.bool true)).setCell ⟨gb160, 4, none⟩ (.int .u64 1)).heap[gb162]? = some (.cells #[.bool false, .int .i64 0, .bool false, .int .i64 0, .int .u64 0, .int .u64 0] 24 (0, 0))) := ⟨by refine far2_ NB162_160 ?_; exact BK162.out⟩
  have n3_ : Aside0 (Below w.heap.size w ((w59.setCell ⟨gb160, 2, none⟩ (.bool true)).setCell ⟨gb160, 4, none⟩ (.int .u64 1))) := ⟨by repeat (first | (with_reducible first | exact HB.out | apply below_alloc | apply pw_below_drewN | apply below_drew1 | refine below_set ?_ GE160.out | refine below_set ?_ GE161.out | refine below_set ?_ GE162.out) | exact HB.out)⟩
  (try clear BK160)
  (try clear BK161)
  (try clear BK162)
  (try clear HB)
  generalize ((w59.setCell ⟨gb160, 2, none⟩ (.bool true)).setCell ⟨gb160, 4, none⟩ (.int .u64 1)) = w63 at n0_ n1_ n2_ n3_ ⊢
  have BK160 := n0_
  have BK161 := n1_
  have BK162 := n2_
  have HB := n3_
  clear n0_ n1_ n2_ n3_
  replace BK160 := m_ (blk_drew BK160.out)
  replace BK161 := m_ (blk_drew BK161.out)
  replace BK162 := m_ (blk_drew BK162.out)
  replace HB := m_ (below_drew1 HB.out)
  refine start_ (n := 16) (S := fun w' => True) (ds := []) #[false, false, false, false, false, false, false, false, false, false, false, false, false, false, false, false] (by kernel_rfl) rfl rfl trivial (fun hHeld => ?_); refine with_tabW codel_State_enter.tab3 codel_State_enter.bits3 (fun HT_ HW_ => ?_)
  generalize w63.drew = w64 at BK160 BK161 BK162 HB hHeld ⊢
  refine pure_ (i := 0) (N := some 15) (v := ?_) (a' := ?_) #[true, false, false, false, false, false, false, false, false, false, false, false, false, false, false, false] rfl rfl (any_of HT_.out (by kernel_rfl)) (fun _ _ _ h => h) (Or.inl ⟨by rfl, ?_⟩) ?_ ?_
  rotate_left
  ·intro w'
   go_simp
   with_reducible rfl
  rotate_left
  ·simp only [Act.put, sa_, s0_, ss_, i64_w, i32_w]
   rfl
  refine pure_ (i := 1) (N := some 16) (v := ?_) (a' := ?_) #[true, true, false, false, false, false, false, false, false, false, false, false, false, false, false, false] rfl rfl (any_of HT_.out (by kernel_rfl)) (fun _ _ _ h => h) (Or.inl ⟨by rfl, ?_⟩) ?_ ?_
  rotate_left
  ·intro w'
   go_simp
   with_reducible rfl
  rotate_left
  ·simp only [Act.put, sa_, s0_, ss_, i64_w, i32_w]
   rfl
  refine pure_ (i := 2) (N := some 17) (v := ?_) (a' := ?_) #[true, true, true, false, false, false, false, false, false, false, false, false, false, false, false, false] rfl rfl (any_of HT_.out (by kernel_rfl)) (fun _ _ _ h => h) (Or.inl ⟨by rfl, ?_⟩) ?_ ?_
  rotate_left
  ·intro w'
   go_simp
   with_reducible rfl
  rotate_left
  ·simp only [Act.put, sa_, s0_, ss_, i64_w, i32_w]
   rfl
  refine pure_ (i := 3) (N := some 18) (v := undef) (a' := ?_) #[true, true, true, true, false, false, false, false, false, false, false, false, false, false, false, false] rfl rfl (any_of HT_.out (by kernel_rfl)) (fun _ _ _ h => h) (Or.inr ⟨by rfl, rfl⟩) ?_ ?_
  rotate_left
  ·simp only [Act.put, sa_, s0_, ss_, i64_w, i32_w]
   rfl
  refine pure_ (i := 4) (N := some 19) (v := undef) (a' := ?_) #[true, true, true, true, true, false, false, false, false, false, false, false, false, false, false, false] rfl rfl (any_of HT_.out (by kernel_rfl)) (fun _ _ _ h => h) (Or.inr ⟨by rfl, rfl⟩) ?_ ?_
  rotate_left
  ·simp only [Act.put, sa_, s0_, ss_, i64_w, i32_w]
   rfl
  refine pure_ (i := 5) (N := some 20) (v := ?_) (a' := ?_) #[true, true, true, true, true, true, false, false, false, false, false, false, false, false, false, false] rfl rfl (any_of HT_.out (by kernel_rfl)) (fun _ _ _ h => h) (Or.inl ⟨by rfl, ?_⟩) ?_ ?_
  rotate_left
  ·intro w'
   go_simp
   with_reducible rfl
  rotate_left
  ·simp only [Act.put, sa_, s0_, ss_, i64_w, i32_w]
   rfl
  refine pure_ (i := 6) (N := some 21) (v := ?_) (a' := ?_) #[true, true, true, true, true, true, true, false, false, false, false, false, false, false, false, false] rfl rfl (any_of HT_.out (by kernel_rfl)) (fun _ _ _ h => h) (Or.inl ⟨by rfl, ?_⟩) ?_ ?_
  rotate_left
  ·intro w'
   go_simp
   with_reducible rfl
  rotate_left
  ·simp only [Act.put, sa_, s0_, ss_, i64_w, i32_w]
   rfl
  refine pure_ (i := 7) (N := some 22) (v := undef) (a' := ?_) #[true, true, true, true, true, true, true, true, false, false, false, false, false, false, false, false] rfl rfl (any_of HT_.out (by kernel_rfl)) (fun _ _ _ h => h) (Or.inr ⟨by rfl, rfl⟩) ?_ ?_
  rotate_left
  ·simp only [Act.put, sa_, s0_, ss_, i64_w, i32_w]
   rfl
  refine pure_ (i := 8) (N := some 23) (v := undef) (a' := ?_) #[true, true, true, true, true, true, true, true, true, false, false, false, false, false, false, false] rfl rfl (any_of HT_.out (by kernel_rfl)) (fun _ _ _ h => h) (Or.inr ⟨by rfl, rfl⟩) ?_ ?_
  rotate_left
  ·simp only [Act.put, sa_, s0_, ss_, i64_w, i32_w]
   rfl
  refine pure_ (i := 9) (N := some 24) (v := undef) (a' := ?_) #[true, true, true, true, true, true, true, true, true, true, false, false, false, false, false, false] rfl rfl (any_of HT_.out (by kernel_rfl)) (fun _ _ _ h => h) (Or.inr ⟨by rfl, rfl⟩) ?_ ?_
  rotate_left
  ·simp only [Act.put, sa_, s0_, ss_, i64_w, i32_w]
   rfl
  refine pure_ (i := 10) (N := some 25) (v := undef) (a' := ?_) #[true, true, true, true, true, true, true, true, true, true, true, false, false, false, false, false] rfl rfl (any_of HT_.out (by kernel_rfl)) (fun _ _ _ h => h) (Or.inr ⟨by rfl, rfl⟩) ?_ ?_
  rotate_left
  ·simp only [Act.put, sa_, s0_, ss_, i64_w, i32_w]
   rfl
  refine pure_ (i := 11) (N := some 26) (v := undef) (a' := ?_) #[true, true, true, true, true, true, true, true, true, true, true, true, false, false, false, false] rfl rfl (any_of HT_.out (by kernel_rfl)) (fun _ _ _ h => h) (Or.inr ⟨by rfl, rfl⟩) ?_ ?_
  rotate_left
  ·simp only [Act.put, sa_, s0_, ss_, i64_w, i32_w]
   rfl
  refine pure_ (i := 12) (N := some 27) (v := undef) (a' := ?_) #[true, true, true, true, true, true, true, true, true, true, true, true, true, false, false, false] rfl rfl (any_of HT_.out (by kernel_rfl)) (fun _ _ _ h => h) (Or.inr ⟨by rfl, rfl⟩) ?_ ?_
  rotate_left
  ·simp only [Act.put, sa_, s0_, ss_, i64_w, i32_w]
   rfl
  refine pure_ (i := 13) (N := some 28) (v := undef) (a' := ?_) #[true, true, true, true, true, true, true, true, true, true, true, true, true, true, false, false] rfl rfl (any_of HT_.out (by kernel_rfl)) (fun _ _ _ h => h) (Or.inr ⟨by rfl, rfl⟩) ?_ ?_
  rotate_left
  ·simp only [Act.put, sa_, s0_, ss_, i64_w, i32_w]
   rfl
  refine pure_ (i := 14) (N := some 29) (v := undef) (a' := ?_) #[true, true, true, true, true, true, true, true, true, true, true, true, true, true, true, false] rfl rfl (any_of HT_.out (by kernel_rfl)) (fun _ _ _ h => h) (Or.inr ⟨by rfl, rfl⟩) ?_ ?_
  rotate_left
  ·simp only [Act.put, sa_, s0_, ss_, i64_w, i32_w]
   rfl
  refine pure_ (i := 15) (N := some 30) (v := ?_) (a' := ?_) #[true, true, true, true, true, true, true, true, true, true, true, true, true, true, true, true] rfl rfl (any_of HT_.out (by kernel_rfl)) (fun _ _ _ h => h) (Or.inl ⟨by rfl, ?_⟩) ?_ ?_
  rotate_left
  ·intro w'
   go_simp
   with_reducible rfl
  rotate_left
  ·simp only [Act.put, sa_, s0_, ss_, i64_w, i32_w]
   rfl
  refine done_ (done_of HT_.out (by kernel_rfl)) ?_
  obtain ⟨hcz65_0, hcz65_1, hcz65_2, hcz65_3, hcz65_4, hcz65_5, hfz65_0, hfz65_1, hfz65_2, hfz65_3, hfz65_4, hfz65_5⟩ := cf6 BK160
  have hnb66 := NB161_162.out
  have hnc66 := NB162_161.out
  obtain ⟨hcz67_0, hcz67_1, hfz67_0, hfz67_1⟩ := cf2 BK161
  try go_wp2_with (first | ((with_reducible refine gate_callee (f := 32) rfl ?_); refine goesL_ (some 36) rfl rfl Try.func32 (by kernel_rfl) rfl #[.agg #[.bool a0_0, .int .i64 a0_1, .bool true, .int .i64 a0_3, .int .u64 1, .int .u64 a0_5], .agg #[.int .i64 a1_0, .int .i64 a1_1], .int .i64 a2] rfl (by first | rfl | (simp only [List.map_toArray, List.map_cons, List.map_nil]; first | done | rfl)) ?_; (with_reducible refine (codel_State_later.calls k a0_0 a0_1 true a0_3 1 a0_5 a1_0 a1_1 a2 t168 _ A56.out).mono ?_); rintro e w68 ⟨rfl, hb⟩; refine ⟨_, rfl, ?_⟩; replace BK160 := m_ (blk_below (by exact BK160.out) hb); replace BK161 := m_ (blk_below (by exact BK161.out) hb); replace BK162 := m_ (blk_below (by exact BK162.out) hb); replace HB := m_ (below_step (by repeat (first | (with_reducible first | exact HB.out | apply below_alloc | apply pw_below_drewN | apply below_drew1 | refine below_set ?_ GE160.out | refine below_set ?_ GE161.out | refine below_set ?_ GE162.out) | exact HB.out)) hb); (try clear hb); obtain ⟨hcz69_0, hcz69_1, hcz69_2, hcz69_3, hcz69_4, hcz69_5, hfz69_0, hfz69_1, hfz69_2, hfz69_3, hfz69_4, hfz69_5⟩ := cf6 BK160; obtain ⟨hcz70_0, hcz70_1, hcz70_2, hcz70_3, hcz70_4, hcz70_5, hfz70_0, hfz70_1, hfz70_2, hfz70_3, hfz70_4, hfz70_5⟩ := cf6 BK162))
  refine bodyPost_ret (results_cell_row rfl _ _ gb162 24 #[.bool a0_0, .int .i64 a0_1, .bool true, .int .i64 t168, .int .u64 1, .int .u64 1] (0, 0) _ rfl (by apply put6_; refine far2_ NB162_160 ?_; exact BK162.out) Try.underlying24 rfl (by kernel_rfl)) rfl ?_
  exact ⟨by first | rfl | (simp [errW_none, errW_some] <;> rfl) | (simp [*, errW_none, errW_some] <;> rfl), by repeat (first | (with_reducible first | exact HB.out | apply below_alloc | apply pw_below_drewN | apply below_drew1 | refine below_set ?_ GE160.out | refine below_set ?_ GE161.out | refine below_set ?_ GE162.out) | exact HB.out)⟩

/-! ### codel_State_Look: function 11 -/
def codel_State_Look.f (k : Nat) (a0_0 : Bool) (a0_1 : Int) (a0_2 : Bool) (a0_3 : Int) (a0_4 : Int) (a0_5 : Int) (a1_0 : Int) (a1_1 : Int) (a2 : Int) (a3 : Int) (a4 : Int) : Option (Bool × Int × Bool × Int × Int × Int × Int) := (codel_State_note.f k a0_0 a0_1 a0_2 a0_3 a0_4 a0_5 a1_0 a1_1 a2 a3 a4).bind fun bt172 => (if bt172.2.2.2.2.2.2 = true then (if bt172.2.2.1 = true then ((codel_State_due.f bt172.1 bt172.2.1 bt172.2.2.1 bt172.2.2.2.1 bt172.2.2.2.2.1 bt172.2.2.2.2.2.1 a2).bind fun bt179 => (some (bt179.1, bt179.2.1, bt179.2.2.1, bt179.2.2.2.1, bt179.2.2.2.2.1, bt179.2.2.2.2.2.1, bt179.2.2.2.2.2.2))) else ((codel_State_enter.f k bt172.1 bt172.2.1 bt172.2.2.1 bt172.2.2.2.1 bt172.2.2.2.2.1 bt172.2.2.2.2.2.1 a1_0 a1_1 a2).bind fun bt186 => (some (bt186.1, bt186.2.1, bt186.2.2.1, bt186.2.2.2.1, bt186.2.2.2.2.1, bt186.2.2.2.2.2, 2)))) else (some (bt172.1, bt172.2.1, false, bt172.2.2.2.1, bt172.2.2.2.2.1, bt172.2.2.2.2.2.1, 0)))
theorem codel_State_Look.mono : ∀ a0 a1 a2 a3 a4 a5 a6 a7 a8 a9 a10 k, LeO (codel_State_Look.f k a0 a1 a2 a3 a4 a5 a6 a7 a8 a9 a10) (codel_State_Look.f (k + 1) a0 a1 a2 a3 a4 a5 a6 a7 a8 a9 a10) := by
 intro a0 a1 a2 a3 a4 a5 a6 a7 a8 a9 a10 k
 unfold codel_State_Look.f
 repeat' first
   | (with_reducible exact codel_State_enter.mono _ _ _ _ _ _ _ _ _ _)
   | (with_reducible exact codel_State_note.mono _ _ _ _ _ _ _ _ _ _ _ _)
   | (with_reducible exact LeO.refl _)
   | (with_reducible exact LeO.none _)
   | (with_reducible refine LeO.ite ?_ ?_)
   | (with_reducible refine LeO.bind ?_ (fun _ => ?_))
   | exact codel_State_enter.mono _ _ _ _ _ _ _ _ _ _
   | exact codel_State_note.mono _ _ _ _ _ _ _ _ _ _ _ _
   | exact LeO.none _
   | refine LeO.ite ?_ ?_
   | refine LeO.bind ?_ (fun _ => ?_)
set_option maxHeartbeats 8000000 in
set_option maxRecDepth 100000 in
theorem codel_State_Look.calls (k : Nat) (a0_0 : Bool) (a0_1 : Int) (a0_2 : Bool) (a0_3 : Int) (a0_4 : Int) (a0_5 : Int) (a1_0 : Int) (a1_1 : Int) (a2 : Int) (a3 : Int) (a4 : Int) (r1 : Bool) (r2 : Int) (r3 : Bool) (r4 : Int) (r5 : Int) (r6 : Int) (r7 : Int) (w : World) (h : codel_State_Look.f k a0_0 a0_1 a0_2 a0_3 a0_4 a0_5 a1_0 a1_1 a2 a3 a4 = some (r1, r2, r3, r4, r5, r6, r7)) :
  Calls Try.prog 11 #[.agg #[.bool a0_0, .int .i64 a0_1, .bool a0_2, .int .i64 a0_3, .int .u64 a0_4, .int .u64 a0_5], .agg #[.int .i64 a1_0, .int .i64 a1_1], .int .i64 a2, .int .i64 a3, .int .i64 a4] w fun e w' => e = .returned (.tuple #[.agg #[.bool r1, .int .i64 r2, .bool r3, .int .i64 r4, .int .u64 r5, .int .u64 r6], .int .i64 r7]) ∧ Below w.heap.size w w' := by
 have hu24 := Try.underlying24
 have hu26 := Try.underlying26
 have HB := m_ (Below.refl w.heap.size w)
 have H : ((codel_State_note.f k a0_0 a0_1 a0_2 a0_3 a0_4 a0_5 a1_0 a1_1 a2 a3 a4).bind fun bt172 => (if bt172.2.2.2.2.2.2 = true then (if bt172.2.2.1 = true then ((codel_State_due.f bt172.1 bt172.2.1 bt172.2.2.1 bt172.2.2.2.1 bt172.2.2.2.2.1 bt172.2.2.2.2.2.1 a2).bind fun bt179 => (some (bt179.1, bt179.2.1, bt179.2.2.1, bt179.2.2.2.1, bt179.2.2.2.2.1, bt179.2.2.2.2.2.1, bt179.2.2.2.2.2.2))) else ((codel_State_enter.f k bt172.1 bt172.2.1 bt172.2.2.1 bt172.2.2.2.1 bt172.2.2.2.2.1 bt172.2.2.2.2.2.1 a1_0 a1_1 a2).bind fun bt186 => (some (bt186.1, bt186.2.1, bt186.2.2.1, bt186.2.2.2.1, bt186.2.2.2.2.1, bt186.2.2.2.2.2, 2)))) else (some (bt172.1, bt172.2.1, false, bt172.2.2.2.1, bt172.2.2.2.2.1, bt172.2.2.2.2.2.1, 0)))) = some (r1, r2, r3, r4, r5, r6, r7) := h
 clear h
 replace H := Option.bind_eq_some_iff.mp H
 obtain ⟨⟨t172, t173, t174, t175, t176, t177, t178⟩, A60, H⟩ := H
 replace H : (if t178 = true then (if t174 = true then ((codel_State_due.f t172 t173 t174 t175 t176 t177 a2).bind fun bt179 => (some (bt179.1, bt179.2.1, bt179.2.2.1, bt179.2.2.2.1, bt179.2.2.2.2.1, bt179.2.2.2.2.2.1, bt179.2.2.2.2.2.2))) else ((codel_State_enter.f k t172 t173 t174 t175 t176 t177 a1_0 a1_1 a2).bind fun bt186 => (some (bt186.1, bt186.2.1, bt186.2.2.1, bt186.2.2.2.1, bt186.2.2.2.2.1, bt186.2.2.2.2.2, 2)))) else (some (t172, t173, false, t175, t176, t177, 0))) = some (r1, r2, r3, r4, r5, r6, r7) := H
 have A6 := Aside0.mk A60
 clear A60
 by_cases c7 : t178 = true
 ·subst c7
  have H1 : (if t174 = true then ((codel_State_due.f t172 t173 t174 t175 t176 t177 a2).bind fun bt179 => (some (bt179.1, bt179.2.1, bt179.2.2.1, bt179.2.2.2.1, bt179.2.2.2.2.1, bt179.2.2.2.2.2.1, bt179.2.2.2.2.2.2))) else ((codel_State_enter.f k t172 t173 t174 t175 t176 t177 a1_0 a1_1 a2).bind fun bt186 => (some (bt186.1, bt186.2.1, bt186.2.2.1, bt186.2.2.2.1, bt186.2.2.2.2.1, bt186.2.2.2.2.2, 2)))) = some (r1, r2, r3, r4, r5, r6, r7) := by rw [if_pos rfl] at H; exact H
  clear H
  have H := H1
  clear H1
  by_cases c8 : t174 = true
  ·subst c8
   have H1 : ((codel_State_due.f t172 t173 true t175 t176 t177 a2).bind fun bt179 => (some (bt179.1, bt179.2.1, bt179.2.2.1, bt179.2.2.2.1, bt179.2.2.2.2.1, bt179.2.2.2.2.2.1, bt179.2.2.2.2.2.2))) = some (r1, r2, r3, r4, r5, r6, r7) := by rw [if_pos rfl] at H; exact H
   clear H
   have H := H1
   clear H1
   replace H := Option.bind_eq_some_iff.mp H
   obtain ⟨⟨t179, t180, t181, t182, t183, t184, t185⟩, A90, H⟩ := H
   replace H : (some (t179, t180, t181, t182, t183, t184, t185)) = some (r1, r2, r3, r4, r5, r6, r7) := H
   have A9 := Aside0.mk A90
   clear A90
   simp only [Option.some.injEq, Prod.mk.injEq] at H
   obtain ⟨rfl, rfl, rfl, rfl, rfl, rfl, rfl⟩ := H
   go_enter Try.func11, Try.ntmps11
   have mk_ : True := trivial
   go_wp2_with (first | ((first | (with_reducible refine gate_dst (N := 25) rfl ?_) | (with_reducible refine gate_dst (N := 26) rfl ?_) | (with_reducible refine gate_dst (N := 28) rfl ?_) | (with_reducible refine gate_dst (N := 30) rfl ?_) | (with_reducible refine gate_dst (N := 35) rfl ?_)); clear mk_; generalize hq_ : World.setCell (World.setCell (World.setCell (World.setCell (World.setCell (World.setCell (w18) _ _) _ _) _ _) _ _) _ _) _ _ = wq; have n0_ : Aside0 (wq.heap[gb169]? = some (.cells #[.bool t172, .int .i64 t173, .bool true, .int .i64 t175, .int .u64 t176, .int .u64 t177] 24 (0, 0))) := ⟨by rw [← hq_]; apply put6_; exact BK169.out⟩; have n1_ : Aside0 (wq.heap[gb170]? = some (.cells #[.int .i64 a1_0, .int .i64 a1_1] 26 (0, 0))) := ⟨by rw [← hq_]; refine far6_ NB170_169 ?_; exact BK170.out⟩; have n2_ : Aside0 (wq.heap[gb171]? = some (.cells #[.bool false, .int .i64 0, .bool false, .int .i64 0, .int .u64 0, .int .u64 0] 24 (0, 0))) := ⟨by rw [← hq_]; refine far6_ NB171_169 ?_; exact BK171.out⟩; have n3_ : Aside0 (Below w.heap.size w wq) := ⟨by rw [← hq_]; repeat (first | (with_reducible first | exact HB.out | refine below_set ?_ GE169.out | refine below_set ?_ GE170.out | refine below_set ?_ GE171.out) | exact HB.out)⟩; clear BK169 BK170 BK171 HB hq_; have BK169 := n0_; have BK170 := n1_; have BK171 := n2_; have HB := n3_; clear n0_ n1_ n2_ n3_; have hcq169_0 : wq.cell? ⟨gb169, 0, none⟩ = some (.bool t172) := (blk_cell BK169.out 0).trans rfl; have hfq169_0 := blk_frozen BK169.out 0; have hcq169_1 : wq.cell? ⟨gb169, 1, none⟩ = some (.int .i64 t173) := (blk_cell BK169.out 1).trans rfl; have hfq169_1 := blk_frozen BK169.out 1; have hcq169_2 : wq.cell? ⟨gb169, 2, none⟩ = some (.bool true) := (blk_cell BK169.out 2).trans rfl; have hfq169_2 := blk_frozen BK169.out 2; have hcq169_3 : wq.cell? ⟨gb169, 3, none⟩ = some (.int .i64 t175) := (blk_cell BK169.out 3).trans rfl; have hfq169_3 := blk_frozen BK169.out 3; have hcq169_4 : wq.cell? ⟨gb169, 4, none⟩ = some (.int .u64 t176) := (blk_cell BK169.out 4).trans rfl; have hfq169_4 := blk_frozen BK169.out 4; have hcq169_5 : wq.cell? ⟨gb169, 5, none⟩ = some (.int .u64 t177) := (blk_cell BK169.out 5).trans rfl; have hfq169_5 := blk_frozen BK169.out 5; have hcq170_0 : wq.cell? ⟨gb170, 0, none⟩ = some (.int .i64 a1_0) := (blk_cell BK170.out 0).trans rfl; have hfq170_0 := blk_frozen BK170.out 0; have hcq170_1 : wq.cell? ⟨gb170, 1, none⟩ = some (.int .i64 a1_1) := (blk_cell BK170.out 1).trans rfl; have hfq170_1 := blk_frozen BK170.out 1; have hcq171_0 : wq.cell? ⟨gb171, 0, none⟩ = some (.bool false) := (blk_cell BK171.out 0).trans rfl; have hfq171_0 := blk_frozen BK171.out 0; have hcq171_1 : wq.cell? ⟨gb171, 1, none⟩ = some (.int .i64 0) := (blk_cell BK171.out 1).trans rfl; have hfq171_1 := blk_frozen BK171.out 1; have hcq171_2 : wq.cell? ⟨gb171, 2, none⟩ = some (.bool false) := (blk_cell BK171.out 2).trans rfl; have hfq171_2 := blk_frozen BK171.out 2; have hcq171_3 : wq.cell? ⟨gb171, 3, none⟩ = some (.int .i64 0) := (blk_cell BK171.out 3).trans rfl; have hfq171_3 := blk_frozen BK171.out 3; have hcq171_4 : wq.cell? ⟨gb171, 4, none⟩ = some (.int .u64 0) := (blk_cell BK171.out 4).trans rfl; have hfq171_4 := blk_frozen BK171.out 4; have hcq171_5 : wq.cell? ⟨gb171, 5, none⟩ = some (.int .u64 0) := (blk_cell BK171.out 5).trans rfl; have hfq171_5 := blk_frozen BK171.out 5) | ((with_reducible refine gate_dst (N := 5) rfl ?_); refine box_event ?hg (N := 5) ?hd (cs := #[.bool a0_0, .int .i64 a0_1, .bool a0_2, .int .i64 a0_3, .int .u64 a0_4, .int .u64 a0_5]) (t := 24) ?hr ?_; (case hd => rfl); (case hg => rfl); (case hr => first | (go_simp; done) | (go_simp; rfl)); intro gb169 hg w10 hbox hb; have BK169 := m_ (hbox); have GW169 := ge_ (by repeat (with_reducible first | exact HB.out)) hg; have GE169 := GW169; replace HB := st_ (by repeat (with_reducible first | exact HB.out)) hb; clear hb hbox hg) | ((with_reducible refine gate_dst (N := 6) rfl ?_); refine box_event ?hg (N := 6) ?hd (cs := #[.int .i64 a1_0, .int .i64 a1_1]) (t := 26) ?hr ?_; (case hd => rfl); (case hg => rfl); (case hr => first | (go_simp; done) | (go_simp; rfl)); intro gb170 hg w11 hbox hb; have BK170 := m_ (hbox); have GW170 := ge_ (by repeat (with_reducible first | exact HB.out | apply bs_ GE169)) hg; have GE170 := GW170; have NB169_170 := nl_ BK169 hg; have NB170_169 := ng_ BK169 hg; replace BK169 := bb_ BK169 hb; replace HB := st_ (by repeat (with_reducible first | exact HB.out | apply bs_ GE169)) hb; clear hb hbox hg) | ((with_reducible refine gate_dst (N := 10) rfl ?_); refine box_event ?hg (N := 10) ?hd (cs := #[.bool false, .int .i64 0, .bool false, .int .i64 0, .int .u64 0, .int .u64 0]) (t := 24) ?hr ?_; (case hd => rfl); (case hg => rfl); (case hr => first | (go_simp; done) | (go_simp; rfl)); intro gb171 hg w12 hbox hb; have BK171 := m_ (hbox); have GW171 := ge_ (by repeat (with_reducible first | exact HB.out | apply bs_ GE169 | apply bs_ GE170)) hg; have GE171 := GW171; have NB169_171 := nl_ BK169 hg; have NB171_169 := ng_ BK169 hg; have NB170_171 := nl_ BK170 hg; have NB171_170 := ng_ BK170 hg; replace BK169 := bb_ BK169 hb; replace BK170 := bb_ BK170 hb; replace HB := st_ (by repeat (with_reducible first | exact HB.out | apply bs_ GE169 | apply bs_ GE170)) hb; clear hb hbox hg; have hnb13 := NB169_170.out; have hnc13 := NB170_169.out; have hnb14 := NB169_171.out; have hnc14 := NB171_169.out; obtain ⟨hcz15_0, hcz15_1, hcz15_2, hcz15_3, hcz15_4, hcz15_5, hfz15_0, hfz15_1, hfz15_2, hfz15_3, hfz15_4, hfz15_5⟩ := cf6 BK169; have hnb16 := NB170_171.out; have hnc16 := NB171_170.out; obtain ⟨hcz17_0, hcz17_1, hfz17_0, hfz17_1⟩ := cf2 BK170) | ((with_reducible refine gate_callee (f := 27) rfl ?_); refine goesL_ (some 19) rfl rfl Try.func27 (by kernel_rfl) rfl #[.agg #[.bool a0_0, .int .i64 a0_1, .bool a0_2, .int .i64 a0_3, .int .u64 a0_4, .int .u64 a0_5], .agg #[.int .i64 a1_0, .int .i64 a1_1], .int .i64 a2, .int .i64 a3, .int .i64 a4] rfl (by first | rfl | (simp only [List.map_toArray, List.map_cons, List.map_nil]; first | done | rfl)) ?_; (with_reducible refine (codel_State_note.calls k a0_0 a0_1 a0_2 a0_3 a0_4 a0_5 a1_0 a1_1 a2 a3 a4 t172 t173 true t175 t176 t177 true _ A6.out).mono ?_); rintro e w18 ⟨rfl, hb⟩; refine ⟨_, rfl, ?_⟩; replace BK169 := bb_ BK169 hb; replace BK170 := bb_ BK170 hb; replace BK171 := bb_ BK171 hb; replace HB := st_ (by repeat (with_reducible first | exact HB.out | apply bs_ GE169 | apply bs_ GE170 | apply bs_ GE171)) hb; (try clear hb); obtain ⟨hcz19_0, hcz19_1, hcz19_2, hcz19_3, hcz19_4, hcz19_5, hfz19_0, hfz19_1, hfz19_2, hfz19_3, hfz19_4, hfz19_5⟩ := cf6 BK169) | ((with_reducible refine gate_callee (f := 28) rfl ?_); refine goesL_ (some 32) rfl rfl Try.func28 (by kernel_rfl) rfl #[.agg #[.bool t172, .int .i64 t173, .bool true, .int .i64 t175, .int .u64 t176, .int .u64 t177], .int .i64 a2] rfl (by first | rfl | (simp only [List.map_toArray, List.map_cons, List.map_nil]; first | done | rfl)) ?_; (with_reducible refine (codel_State_due.calls t172 t173 true t175 t176 t177 a2 t179 t180 t181 t182 t183 t184 t185 _ A9.out).mono ?_); rintro e w20 ⟨rfl, hb⟩; refine ⟨_, rfl, ?_⟩; replace BK169 := m_ (blk_below (g := gb169) (o := .cells #[.bool t172, .int .i64 t173, .bool true, .int .i64 t175, .int .u64 t176, .int .u64 t177] 24 (0, 0)) (by exact BK169.out) hb); replace BK170 := m_ (blk_below (g := gb170) (o := .cells #[.int .i64 a1_0, .int .i64 a1_1] 26 (0, 0)) (by exact BK170.out) hb); replace BK171 := m_ (blk_below (g := gb171) (o := .cells #[.bool false, .int .i64 0, .bool false, .int .i64 0, .int .u64 0, .int .u64 0] 24 (0, 0)) (by exact BK171.out) hb); replace HB := st_ (by repeat (with_reducible first | exact HB.out | apply bs_ GE169 | apply bs_ GE170 | apply bs_ GE171)) hb; (try clear hb); obtain ⟨hcz21_0, hcz21_1, hcz21_2, hcz21_3, hcz21_4, hcz21_5, hfz21_0, hfz21_1, hfz21_2, hfz21_3, hfz21_4, hfz21_5⟩ := cf6 BK171))
   refine bodyPost_ret (results_ct rfl _ _ gb171 24 #[.bool t179, .int .i64 t180, .bool t181, .int .i64 t182, .int .u64 t183, .int .u64 t184] (0, 0) _ rfl (by apply put6_; exact BK171.out) Try.underlying24 rfl (by kernel_rfl)) rfl ?_
   exact ⟨by first | rfl | (simp [errW_none, errW_some] <;> rfl) | (simp [*, errW_none, errW_some] <;> rfl), by repeat (with_reducible first | exact HB.out | apply bs_ GE169 | apply bs_ GE170 | apply bs_ GE171)⟩
  ·replace c8 := Bool.eq_false_iff.mpr c8
   subst c8
   have H1 : ((codel_State_enter.f k t172 t173 false t175 t176 t177 a1_0 a1_1 a2).bind fun bt186 => (some (bt186.1, bt186.2.1, bt186.2.2.1, bt186.2.2.2.1, bt186.2.2.2.2.1, bt186.2.2.2.2.2, 2))) = some (r1, r2, r3, r4, r5, r6, r7) := by rw [if_neg (show ¬ (false = true) by decide)] at H; exact H
   clear H
   have H := H1
   clear H1
   replace H := Option.bind_eq_some_iff.mp H
   obtain ⟨⟨t186, t187, t188, t189, t190, t191⟩, A220, H⟩ := H
   replace H : (some (t186, t187, t188, t189, t190, t191, 2)) = some (r1, r2, r3, r4, r5, r6, r7) := H
   have A22 := Aside0.mk A220
   clear A220
   simp only [Option.some.injEq, Prod.mk.injEq] at H
   obtain ⟨rfl, rfl, rfl, rfl, rfl, rfl, rfl⟩ := H
   go_enter Try.func11, Try.ntmps11
   have mk_ : True := trivial
   go_wp2_with (first | ((first | (with_reducible refine gate_dst (N := 25) rfl ?_) | (with_reducible refine gate_dst (N := 26) rfl ?_) | (with_reducible refine gate_dst (N := 28) rfl ?_) | (with_reducible refine gate_dst (N := 30) rfl ?_) | (with_reducible refine gate_dst (N := 35) rfl ?_)); clear mk_; generalize hq_ : World.setCell (World.setCell (World.setCell (World.setCell (World.setCell (World.setCell (w31) _ _) _ _) _ _) _ _) _ _) _ _ = wq; have n0_ : Aside0 (wq.heap[gb169]? = some (.cells #[.bool t172, .int .i64 t173, .bool false, .int .i64 t175, .int .u64 t176, .int .u64 t177] 24 (0, 0))) := ⟨by rw [← hq_]; apply put6_; exact BK169.out⟩; have n1_ : Aside0 (wq.heap[gb170]? = some (.cells #[.int .i64 a1_0, .int .i64 a1_1] 26 (0, 0))) := ⟨by rw [← hq_]; refine far6_ NB170_169 ?_; exact BK170.out⟩; have n2_ : Aside0 (wq.heap[gb171]? = some (.cells #[.bool false, .int .i64 0, .bool false, .int .i64 0, .int .u64 0, .int .u64 0] 24 (0, 0))) := ⟨by rw [← hq_]; refine far6_ NB171_169 ?_; exact BK171.out⟩; have n3_ : Aside0 (Below w.heap.size w wq) := ⟨by rw [← hq_]; repeat (first | (with_reducible first | exact HB.out | refine below_set ?_ GE169.out | refine below_set ?_ GE170.out | refine below_set ?_ GE171.out) | exact HB.out)⟩; clear BK169 BK170 BK171 HB hq_; have BK169 := n0_; have BK170 := n1_; have BK171 := n2_; have HB := n3_; clear n0_ n1_ n2_ n3_; have hcq169_0 : wq.cell? ⟨gb169, 0, none⟩ = some (.bool t172) := (blk_cell BK169.out 0).trans rfl; have hfq169_0 := blk_frozen BK169.out 0; have hcq169_1 : wq.cell? ⟨gb169, 1, none⟩ = some (.int .i64 t173) := (blk_cell BK169.out 1).trans rfl; have hfq169_1 := blk_frozen BK169.out 1; have hcq169_2 : wq.cell? ⟨gb169, 2, none⟩ = some (.bool false) := (blk_cell BK169.out 2).trans rfl; have hfq169_2 := blk_frozen BK169.out 2; have hcq169_3 : wq.cell? ⟨gb169, 3, none⟩ = some (.int .i64 t175) := (blk_cell BK169.out 3).trans rfl; have hfq169_3 := blk_frozen BK169.out 3; have hcq169_4 : wq.cell? ⟨gb169, 4, none⟩ = some (.int .u64 t176) := (blk_cell BK169.out 4).trans rfl; have hfq169_4 := blk_frozen BK169.out 4; have hcq169_5 : wq.cell? ⟨gb169, 5, none⟩ = some (.int .u64 t177) := (blk_cell BK169.out 5).trans rfl; have hfq169_5 := blk_frozen BK169.out 5; have hcq170_0 : wq.cell? ⟨gb170, 0, none⟩ = some (.int .i64 a1_0) := (blk_cell BK170.out 0).trans rfl; have hfq170_0 := blk_frozen BK170.out 0; have hcq170_1 : wq.cell? ⟨gb170, 1, none⟩ = some (.int .i64 a1_1) := (blk_cell BK170.out 1).trans rfl; have hfq170_1 := blk_frozen BK170.out 1; have hcq171_0 : wq.cell? ⟨gb171, 0, none⟩ = some (.bool false) := (blk_cell BK171.out 0).trans rfl; have hfq171_0 := blk_frozen BK171.out 0; have hcq171_1 : wq.cell? ⟨gb171, 1, none⟩ = some (.int .i64 0) := (blk_cell BK171.out 1).trans rfl; have hfq171_1 := blk_frozen BK171.out 1; have hcq171_2 : wq.cell? ⟨gb171, 2, none⟩ = some (.bool false) := (blk_cell BK171.out 2).trans rfl; have hfq171_2 := blk_frozen BK171.out 2; have hcq171_3 : wq.cell? ⟨gb171, 3, none⟩ = some (.int .i64 0) := (blk_cell BK171.out 3).trans rfl; have hfq171_3 := blk_frozen BK171.out 3; have hcq171_4 : wq.cell? ⟨gb171, 4, none⟩ = some (.int .u64 0) := (blk_cell BK171.out 4).trans rfl; have hfq171_4 := blk_frozen BK171.out 4; have hcq171_5 : wq.cell? ⟨gb171, 5, none⟩ = some (.int .u64 0) := (blk_cell BK171.out 5).trans rfl; have hfq171_5 := blk_frozen BK171.out 5) | ((with_reducible refine gate_dst (N := 5) rfl ?_); refine box_event ?hg (N := 5) ?hd (cs := #[.bool a0_0, .int .i64 a0_1, .bool a0_2, .int .i64 a0_3, .int .u64 a0_4, .int .u64 a0_5]) (t := 24) ?hr ?_; (case hd => rfl); (case hg => rfl); (case hr => first | (go_simp; done) | (go_simp; rfl)); intro gb169 hg w23 hbox hb; have BK169 := m_ (hbox); have GW169 := ge_ (by repeat (with_reducible first | exact HB.out)) hg; have GE169 := GW169; replace HB := st_ (by repeat (with_reducible first | exact HB.out)) hb; clear hb hbox hg) | ((with_reducible refine gate_dst (N := 6) rfl ?_); refine box_event ?hg (N := 6) ?hd (cs := #[.int .i64 a1_0, .int .i64 a1_1]) (t := 26) ?hr ?_; (case hd => rfl); (case hg => rfl); (case hr => first | (go_simp; done) | (go_simp; rfl)); intro gb170 hg w24 hbox hb; have BK170 := m_ (hbox); have GW170 := ge_ (by repeat (with_reducible first | exact HB.out | apply bs_ GE169)) hg; have GE170 := GW170; have NB169_170 := nl_ BK169 hg; have NB170_169 := ng_ BK169 hg; replace BK169 := bb_ BK169 hb; replace HB := st_ (by repeat (with_reducible first | exact HB.out | apply bs_ GE169)) hb; clear hb hbox hg) | ((with_reducible refine gate_dst (N := 10) rfl ?_); refine box_event ?hg (N := 10) ?hd (cs := #[.bool false, .int .i64 0, .bool false, .int .i64 0, .int .u64 0, .int .u64 0]) (t := 24) ?hr ?_; (case hd => rfl); (case hg => rfl); (case hr => first | (go_simp; done) | (go_simp; rfl)); intro gb171 hg w25 hbox hb; have BK171 := m_ (hbox); have GW171 := ge_ (by repeat (with_reducible first | exact HB.out | apply bs_ GE169 | apply bs_ GE170)) hg; have GE171 := GW171; have NB169_171 := nl_ BK169 hg; have NB171_169 := ng_ BK169 hg; have NB170_171 := nl_ BK170 hg; have NB171_170 := ng_ BK170 hg; replace BK169 := bb_ BK169 hb; replace BK170 := bb_ BK170 hb; replace HB := st_ (by repeat (with_reducible first | exact HB.out | apply bs_ GE169 | apply bs_ GE170)) hb; clear hb hbox hg; have hnb26 := NB169_170.out; have hnc26 := NB170_169.out; have hnb27 := NB169_171.out; have hnc27 := NB171_169.out; obtain ⟨hcz28_0, hcz28_1, hcz28_2, hcz28_3, hcz28_4, hcz28_5, hfz28_0, hfz28_1, hfz28_2, hfz28_3, hfz28_4, hfz28_5⟩ := cf6 BK169; have hnb29 := NB170_171.out; have hnc29 := NB171_170.out; obtain ⟨hcz30_0, hcz30_1, hfz30_0, hfz30_1⟩ := cf2 BK170) | ((with_reducible refine gate_callee (f := 27) rfl ?_); refine goesL_ (some 19) rfl rfl Try.func27 (by kernel_rfl) rfl #[.agg #[.bool a0_0, .int .i64 a0_1, .bool a0_2, .int .i64 a0_3, .int .u64 a0_4, .int .u64 a0_5], .agg #[.int .i64 a1_0, .int .i64 a1_1], .int .i64 a2, .int .i64 a3, .int .i64 a4] rfl (by first | rfl | (simp only [List.map_toArray, List.map_cons, List.map_nil]; first | done | rfl)) ?_; (with_reducible refine (codel_State_note.calls k a0_0 a0_1 a0_2 a0_3 a0_4 a0_5 a1_0 a1_1 a2 a3 a4 t172 t173 false t175 t176 t177 true _ A6.out).mono ?_); rintro e w31 ⟨rfl, hb⟩; refine ⟨_, rfl, ?_⟩; replace BK169 := bb_ BK169 hb; replace BK170 := bb_ BK170 hb; replace BK171 := bb_ BK171 hb; replace HB := st_ (by repeat (with_reducible first | exact HB.out | apply bs_ GE169 | apply bs_ GE170 | apply bs_ GE171)) hb; (try clear hb); obtain ⟨hcz32_0, hcz32_1, hcz32_2, hcz32_3, hcz32_4, hcz32_5, hfz32_0, hfz32_1, hfz32_2, hfz32_3, hfz32_4, hfz32_5⟩ := cf6 BK169; obtain ⟨hcz33_0, hcz33_1, hfz33_0, hfz33_1⟩ := cf2 BK170) | ((with_reducible refine gate_callee (f := 29) rfl ?_); refine goesL_ (some 38) rfl rfl Try.func29 (by kernel_rfl) rfl #[.agg #[.bool t172, .int .i64 t173, .bool false, .int .i64 t175, .int .u64 t176, .int .u64 t177], .agg #[.int .i64 a1_0, .int .i64 a1_1], .int .i64 a2] rfl (by first | rfl | (simp only [List.map_toArray, List.map_cons, List.map_nil]; first | done | rfl)) ?_; (with_reducible refine (codel_State_enter.calls k t172 t173 false t175 t176 t177 a1_0 a1_1 a2 t186 t187 t188 t189 t190 t191 _ A22.out).mono ?_); rintro e w34 ⟨rfl, hb⟩; refine ⟨_, rfl, ?_⟩; replace BK169 := m_ (blk_below (g := gb169) (o := .cells #[.bool t172, .int .i64 t173, .bool false, .int .i64 t175, .int .u64 t176, .int .u64 t177] 24 (0, 0)) (by exact BK169.out) hb); replace BK170 := m_ (blk_below (g := gb170) (o := .cells #[.int .i64 a1_0, .int .i64 a1_1] 26 (0, 0)) (by exact BK170.out) hb); replace BK171 := m_ (blk_below (g := gb171) (o := .cells #[.bool false, .int .i64 0, .bool false, .int .i64 0, .int .u64 0, .int .u64 0] 24 (0, 0)) (by exact BK171.out) hb); replace HB := st_ (by repeat (with_reducible first | exact HB.out | apply bs_ GE169 | apply bs_ GE170 | apply bs_ GE171)) hb; (try clear hb); obtain ⟨hcz35_0, hcz35_1, hcz35_2, hcz35_3, hcz35_4, hcz35_5, hfz35_0, hfz35_1, hfz35_2, hfz35_3, hfz35_4, hfz35_5⟩ := cf6 BK171))
   refine bodyPost_ret (results_ct rfl _ _ gb171 24 #[.bool t186, .int .i64 t187, .bool t188, .int .i64 t189, .int .u64 t190, .int .u64 t191] (0, 0) _ rfl (by apply put6_; exact BK171.out) Try.underlying24 rfl (by kernel_rfl)) rfl ?_
   exact ⟨by first | rfl | (simp [errW_none, errW_some] <;> rfl) | (simp [*, errW_none, errW_some] <;> rfl), by repeat (with_reducible first | exact HB.out | apply bs_ GE169 | apply bs_ GE170 | apply bs_ GE171)⟩
 ·replace c7 := Bool.eq_false_iff.mpr c7
  subst c7
  have H1 : (some (t172, t173, false, t175, t176, t177, 0)) = some (r1, r2, r3, r4, r5, r6, r7) := by rw [if_neg (show ¬ (false = true) by decide)] at H; exact H
  clear H
  have H := H1
  clear H1
  simp only [Option.some.injEq, Prod.mk.injEq] at H
  obtain ⟨rfl, rfl, rfl, rfl, rfl, rfl, rfl⟩ := H
  go_enter Try.func11, Try.ntmps11
  have mk_ : True := trivial
  go_wp2_with (first | ((first | (with_reducible refine gate_dst (N := 25) rfl ?_) | (with_reducible refine gate_dst (N := 26) rfl ?_) | (with_reducible refine gate_dst (N := 28) rfl ?_) | (with_reducible refine gate_dst (N := 30) rfl ?_) | (with_reducible refine gate_dst (N := 35) rfl ?_)); clear mk_; generalize hq_ : World.setCell (World.setCell (World.setCell (World.setCell (World.setCell (World.setCell (w44) _ _) _ _) _ _) _ _) _ _) _ _ = wq; have n0_ : Aside0 (wq.heap[gb169]? = some (.cells #[.bool t172, .int .i64 t173, .bool t174, .int .i64 t175, .int .u64 t176, .int .u64 t177] 24 (0, 0))) := ⟨by rw [← hq_]; apply put6_; exact BK169.out⟩; have n1_ : Aside0 (wq.heap[gb170]? = some (.cells #[.int .i64 a1_0, .int .i64 a1_1] 26 (0, 0))) := ⟨by rw [← hq_]; refine far6_ NB170_169 ?_; exact BK170.out⟩; have n2_ : Aside0 (wq.heap[gb171]? = some (.cells #[.bool false, .int .i64 0, .bool false, .int .i64 0, .int .u64 0, .int .u64 0] 24 (0, 0))) := ⟨by rw [← hq_]; refine far6_ NB171_169 ?_; exact BK171.out⟩; have n3_ : Aside0 (Below w.heap.size w wq) := ⟨by rw [← hq_]; repeat (first | (with_reducible first | exact HB.out | refine below_set ?_ GE169.out | refine below_set ?_ GE170.out | refine below_set ?_ GE171.out) | exact HB.out)⟩; clear BK169 BK170 BK171 HB hq_; have BK169 := n0_; have BK170 := n1_; have BK171 := n2_; have HB := n3_; clear n0_ n1_ n2_ n3_; have hcq169_0 : wq.cell? ⟨gb169, 0, none⟩ = some (.bool t172) := (blk_cell BK169.out 0).trans rfl; have hfq169_0 := blk_frozen BK169.out 0; have hcq169_1 : wq.cell? ⟨gb169, 1, none⟩ = some (.int .i64 t173) := (blk_cell BK169.out 1).trans rfl; have hfq169_1 := blk_frozen BK169.out 1; have hcq169_2 : wq.cell? ⟨gb169, 2, none⟩ = some (.bool t174) := (blk_cell BK169.out 2).trans rfl; have hfq169_2 := blk_frozen BK169.out 2; have hcq169_3 : wq.cell? ⟨gb169, 3, none⟩ = some (.int .i64 t175) := (blk_cell BK169.out 3).trans rfl; have hfq169_3 := blk_frozen BK169.out 3; have hcq169_4 : wq.cell? ⟨gb169, 4, none⟩ = some (.int .u64 t176) := (blk_cell BK169.out 4).trans rfl; have hfq169_4 := blk_frozen BK169.out 4; have hcq169_5 : wq.cell? ⟨gb169, 5, none⟩ = some (.int .u64 t177) := (blk_cell BK169.out 5).trans rfl; have hfq169_5 := blk_frozen BK169.out 5; have hcq170_0 : wq.cell? ⟨gb170, 0, none⟩ = some (.int .i64 a1_0) := (blk_cell BK170.out 0).trans rfl; have hfq170_0 := blk_frozen BK170.out 0; have hcq170_1 : wq.cell? ⟨gb170, 1, none⟩ = some (.int .i64 a1_1) := (blk_cell BK170.out 1).trans rfl; have hfq170_1 := blk_frozen BK170.out 1; have hcq171_0 : wq.cell? ⟨gb171, 0, none⟩ = some (.bool false) := (blk_cell BK171.out 0).trans rfl; have hfq171_0 := blk_frozen BK171.out 0; have hcq171_1 : wq.cell? ⟨gb171, 1, none⟩ = some (.int .i64 0) := (blk_cell BK171.out 1).trans rfl; have hfq171_1 := blk_frozen BK171.out 1; have hcq171_2 : wq.cell? ⟨gb171, 2, none⟩ = some (.bool false) := (blk_cell BK171.out 2).trans rfl; have hfq171_2 := blk_frozen BK171.out 2; have hcq171_3 : wq.cell? ⟨gb171, 3, none⟩ = some (.int .i64 0) := (blk_cell BK171.out 3).trans rfl; have hfq171_3 := blk_frozen BK171.out 3; have hcq171_4 : wq.cell? ⟨gb171, 4, none⟩ = some (.int .u64 0) := (blk_cell BK171.out 4).trans rfl; have hfq171_4 := blk_frozen BK171.out 4; have hcq171_5 : wq.cell? ⟨gb171, 5, none⟩ = some (.int .u64 0) := (blk_cell BK171.out 5).trans rfl; have hfq171_5 := blk_frozen BK171.out 5) | ((with_reducible refine gate_dst (N := 5) rfl ?_); refine box_event ?hg (N := 5) ?hd (cs := #[.bool a0_0, .int .i64 a0_1, .bool a0_2, .int .i64 a0_3, .int .u64 a0_4, .int .u64 a0_5]) (t := 24) ?hr ?_; (case hd => rfl); (case hg => rfl); (case hr => first | (go_simp; done) | (go_simp; rfl)); intro gb169 hg w36 hbox hb; have BK169 := m_ (hbox); have GW169 := ge_ (by repeat (with_reducible first | exact HB.out)) hg; have GE169 := GW169; replace HB := st_ (by repeat (with_reducible first | exact HB.out)) hb; clear hb hbox hg) | ((with_reducible refine gate_dst (N := 6) rfl ?_); refine box_event ?hg (N := 6) ?hd (cs := #[.int .i64 a1_0, .int .i64 a1_1]) (t := 26) ?hr ?_; (case hd => rfl); (case hg => rfl); (case hr => first | (go_simp; done) | (go_simp; rfl)); intro gb170 hg w37 hbox hb; have BK170 := m_ (hbox); have GW170 := ge_ (by repeat (with_reducible first | exact HB.out | apply bs_ GE169)) hg; have GE170 := GW170; have NB169_170 := nl_ BK169 hg; have NB170_169 := ng_ BK169 hg; replace BK169 := bb_ BK169 hb; replace HB := st_ (by repeat (with_reducible first | exact HB.out | apply bs_ GE169)) hb; clear hb hbox hg) | ((with_reducible refine gate_dst (N := 10) rfl ?_); refine box_event ?hg (N := 10) ?hd (cs := #[.bool false, .int .i64 0, .bool false, .int .i64 0, .int .u64 0, .int .u64 0]) (t := 24) ?hr ?_; (case hd => rfl); (case hg => rfl); (case hr => first | (go_simp; done) | (go_simp; rfl)); intro gb171 hg w38 hbox hb; have BK171 := m_ (hbox); have GW171 := ge_ (by repeat (with_reducible first | exact HB.out | apply bs_ GE169 | apply bs_ GE170)) hg; have GE171 := GW171; have NB169_171 := nl_ BK169 hg; have NB171_169 := ng_ BK169 hg; have NB170_171 := nl_ BK170 hg; have NB171_170 := ng_ BK170 hg; replace BK169 := bb_ BK169 hb; replace BK170 := bb_ BK170 hb; replace HB := st_ (by repeat (with_reducible first | exact HB.out | apply bs_ GE169 | apply bs_ GE170)) hb; clear hb hbox hg; have hnb39 := NB169_170.out; have hnc39 := NB170_169.out; have hnb40 := NB169_171.out; have hnc40 := NB171_169.out; obtain ⟨hcz41_0, hcz41_1, hcz41_2, hcz41_3, hcz41_4, hcz41_5, hfz41_0, hfz41_1, hfz41_2, hfz41_3, hfz41_4, hfz41_5⟩ := cf6 BK169; have hnb42 := NB170_171.out; have hnc42 := NB171_170.out; obtain ⟨hcz43_0, hcz43_1, hfz43_0, hfz43_1⟩ := cf2 BK170) | ((with_reducible refine gate_callee (f := 27) rfl ?_); refine goesL_ (some 19) rfl rfl Try.func27 (by kernel_rfl) rfl #[.agg #[.bool a0_0, .int .i64 a0_1, .bool a0_2, .int .i64 a0_3, .int .u64 a0_4, .int .u64 a0_5], .agg #[.int .i64 a1_0, .int .i64 a1_1], .int .i64 a2, .int .i64 a3, .int .i64 a4] rfl (by first | rfl | (simp only [List.map_toArray, List.map_cons, List.map_nil]; first | done | rfl)) ?_; (with_reducible refine (codel_State_note.calls k a0_0 a0_1 a0_2 a0_3 a0_4 a0_5 a1_0 a1_1 a2 a3 a4 t172 t173 t174 t175 t176 t177 false _ A6.out).mono ?_); rintro e w44 ⟨rfl, hb⟩; refine ⟨_, rfl, ?_⟩; replace BK169 := bb_ BK169 hb; replace BK170 := bb_ BK170 hb; replace BK171 := bb_ BK171 hb; replace HB := st_ (by repeat (with_reducible first | exact HB.out | apply bs_ GE169 | apply bs_ GE170 | apply bs_ GE171)) hb; (try clear hb); obtain ⟨hcz45_0, hcz45_1, hcz45_2, hcz45_3, hcz45_4, hcz45_5, hfz45_0, hfz45_1, hfz45_2, hfz45_3, hfz45_4, hfz45_5⟩ := cf6 BK169; obtain ⟨hcz46_0, hcz46_1, hcz46_2, hcz46_3, hcz46_4, hcz46_5, hfz46_0, hfz46_1, hfz46_2, hfz46_3, hfz46_4, hfz46_5⟩ := cf6 BK171))
  refine bodyPost_ret (results_ct rfl _ _ gb171 24 #[.bool t172, .int .i64 t173, .bool false, .int .i64 t175, .int .u64 t176, .int .u64 t177] (0, 0) _ rfl (by apply put6_; refine blk_far ?_ NB171_169.out _; exact BK171.out) Try.underlying24 rfl (by kernel_rfl)) rfl ?_
  exact ⟨by first | rfl | (simp [errW_none, errW_some] <;> rfl) | (simp [*, errW_none, errW_some] <;> rfl), by repeat (with_reducible first | exact HB.out | apply bs_ GE169 | apply bs_ GE170 | apply bs_ GE171)⟩

/-! ### overfalllaw08_awake: function 9 -/
def overfalllaw08_awake.f (k : Nat)  : Option (Bool) := (codel_State_Look.f k false 0 false 0 0 0 5 100 0 5 2).bind fun bt193 => ((codel_State_Look.f k bt193.1 bt193.2.1 bt193.2.2.1 bt193.2.2.2.1 bt193.2.2.2.2.1 bt193.2.2.2.2.2.1 5 100 100 5 2).bind fun bt201 => ((codel_State_Look.f k bt201.1 bt201.2.1 bt201.2.2.1 bt201.2.2.2.1 bt201.2.2.2.2.1 bt201.2.2.2.2.2.1 5 100 200 5 2).bind fun bt208 => (if bt193.2.2.2.2.2.2 = 0 then (if bt193.2.1 = 100 then (if bt201.2.2.2.2.2.2 = 2 then (if bt201.2.2.2.1 = 200 then (some (bt208.2.2.2.2.2.2 == 1)) else (none)) else (none)) else (none)) else (none))))
theorem overfalllaw08_awake.mono : ∀ k, LeO (overfalllaw08_awake.f k ) (overfalllaw08_awake.f (k + 1) ) := by
 intro  k
 unfold overfalllaw08_awake.f
 repeat' first
   | (with_reducible exact codel_State_Look.mono _ _ _ _ _ _ _ _ _ _ _ _)
   | (with_reducible exact LeO.refl _)
   | (with_reducible exact LeO.none _)
   | (with_reducible refine LeO.ite ?_ ?_)
   | (with_reducible refine LeO.bind ?_ (fun _ => ?_))
   | exact codel_State_Look.mono _ _ _ _ _ _ _ _ _ _ _ _
   | exact LeO.none _
   | refine LeO.ite ?_ ?_
   | refine LeO.bind ?_ (fun _ => ?_)
set_option maxHeartbeats 8000000 in
set_option maxRecDepth 100000 in
theorem overfalllaw08_awake.calls (k : Nat)  (r : Bool) (w : World) (h : overfalllaw08_awake.f k  = some r) :
  Calls Try.prog 9 #[] w fun e w' => e = .returned (.bool r) ∧ Below w.heap.size w w' := by
 have hu26 := Try.underlying26
 have hu24 := Try.underlying24
 have HB := m_ (Below.refl w.heap.size w)
 have H : ((codel_State_Look.f k false 0 false 0 0 0 5 100 0 5 2).bind fun bt193 => ((codel_State_Look.f k bt193.1 bt193.2.1 bt193.2.2.1 bt193.2.2.2.1 bt193.2.2.2.2.1 bt193.2.2.2.2.2.1 5 100 100 5 2).bind fun bt201 => ((codel_State_Look.f k bt201.1 bt201.2.1 bt201.2.2.1 bt201.2.2.2.1 bt201.2.2.2.2.1 bt201.2.2.2.2.2.1 5 100 200 5 2).bind fun bt208 => (if bt193.2.2.2.2.2.2 = 0 then (if bt193.2.1 = 100 then (if bt201.2.2.2.2.2.2 = 2 then (if bt201.2.2.2.1 = 200 then (some (bt208.2.2.2.2.2.2 == 1)) else (none)) else (none)) else (none)) else (none))))) = some r := h
 clear h
 replace H := Option.bind_eq_some_iff.mp H
 obtain ⟨⟨t193, t194, t195, t196, t197, t198, t199⟩, A10, H⟩ := H
 replace H : ((codel_State_Look.f k t193 t194 t195 t196 t197 t198 5 100 100 5 2).bind fun bt201 => ((codel_State_Look.f k bt201.1 bt201.2.1 bt201.2.2.1 bt201.2.2.2.1 bt201.2.2.2.2.1 bt201.2.2.2.2.2.1 5 100 200 5 2).bind fun bt208 => (if t199 = 0 then (if t194 = 100 then (if bt201.2.2.2.2.2.2 = 2 then (if bt201.2.2.2.1 = 200 then (some (bt208.2.2.2.2.2.2 == 1)) else (none)) else (none)) else (none)) else (none)))) = some r := H
 have A1 := Aside0.mk A10
 clear A10
 replace H := Option.bind_eq_some_iff.mp H
 obtain ⟨⟨t201, t202, t203, t204, t205, t206, t207⟩, A20, H⟩ := H
 replace H : ((codel_State_Look.f k t201 t202 t203 t204 t205 t206 5 100 200 5 2).bind fun bt208 => (if t199 = 0 then (if t194 = 100 then (if t207 = 2 then (if t204 = 200 then (some (bt208.2.2.2.2.2.2 == 1)) else (none)) else (none)) else (none)) else (none))) = some r := H
 have A2 := Aside0.mk A20
 clear A20
 replace H := Option.bind_eq_some_iff.mp H
 obtain ⟨⟨t208, t209, t210, t211, t212, t213, t214⟩, A30, H⟩ := H
 replace H : (if t199 = 0 then (if t194 = 100 then (if t207 = 2 then (if t204 = 200 then (some (t214 == 1)) else (none)) else (none)) else (none)) else (none)) = some r := H
 have A3 := Aside0.mk A30
 clear A30
 by_cases c4 : t199 = 0
 ·rw [if_pos c4] at H
  have c4b0 : (t199 == 0) = true := beq_iff_eq.mpr c4
  have c4b1 : (t199 != 0) = false := bne_eq_false_iff_eq.mpr c4
  clear c4
  by_cases c5 : t194 = 100
  ·rw [if_pos c5] at H
   have c5b0 : (t194 == 100) = true := beq_iff_eq.mpr c5
   have c5b1 : (t194 != 100) = false := bne_eq_false_iff_eq.mpr c5
   clear c5
   by_cases c6 : t207 = 2
   ·rw [if_pos c6] at H
    have c6b0 : (t207 == 2) = true := beq_iff_eq.mpr c6
    have c6b1 : (t207 != 2) = false := bne_eq_false_iff_eq.mpr c6
    clear c6
    by_cases c7 : t204 = 200
    ·rw [if_pos c7] at H
     have c7b0 : (t204 == 200) = true := beq_iff_eq.mpr c7
     have c7b1 : (t204 != 200) = false := bne_eq_false_iff_eq.mpr c7
     clear c7
     obtain rfl := Option.some.inj H
     go_enter Try.func9, Try.ntmps9
     go_wp2_with (first | ((with_reducible refine gate_dst (N := 1) rfl ?_); refine box_event ?hg (N := 1) ?hd (cs := #[.int .i64 0, .int .i64 0]) (t := 26) ?hr ?_; (case hd => rfl); (case hg => rfl); (case hr => first | (go_simp; done) | (go_simp; rfl)); intro gb192 hg w8 hbox hb; have BK192 := m_ (hbox); have GW192 := ge_ (by repeat (with_reducible first | exact HB.out)) hg; have GE192 := GW192; replace HB := st_ (by repeat (with_reducible first | exact HB.out)) hb; clear hb hbox hg; obtain ⟨hcz9_0, hcz9_1, hfz9_0, hfz9_1⟩ := cf2 BK192) | ((with_reducible refine gate_callee (f := 11) rfl ?_); refine goesL_ (some 13) rfl rfl Try.func11 (by kernel_rfl) rfl #[.agg #[.bool false, .int .i64 0, .bool false, .int .i64 0, .int .u64 0, .int .u64 0], .agg #[.int .i64 5, .int .i64 100], .int .i64 0, .int .i64 5, .int .i64 2] rfl (by first | rfl | (simp only [List.map_toArray, List.map_cons, List.map_nil]; first | done | rfl)) ?_; (with_reducible refine (codel_State_Look.calls k false 0 false 0 0 0 5 100 0 5 2 t193 t194 t195 t196 t197 t198 t199 _ A1.out).mono ?_); rintro e w10 ⟨rfl, hb⟩; refine ⟨_, rfl, ?_⟩; replace BK192 := m_ (blk_below (g := gb192) (o := .cells #[.int .i64 5, .int .i64 100] 26 (0, 0)) (by apply put2_; exact BK192.out) hb); replace HB := st_ (by repeat (with_reducible first | exact HB.out | apply bs_ GE192)) hb; (try clear hb)) | ((with_reducible refine gate_dst (N := 2) rfl ?_); refine box_event ?hg (N := 2) ?hd (cs := #[.bool false, .int .i64 0, .bool false, .int .i64 0, .int .u64 0, .int .u64 0]) (t := 24) ?hr ?_; (case hd => rfl); (case hg => rfl); (case hr => first | (go_simp; done) | (go_simp; rfl)); intro gb200 hg w11 hbox hb; have BK200 := m_ (hbox); have GW200 := ge_ (by repeat (with_reducible first | exact HB.out | apply bs_ GE192)) hg; have GE200 := GW200; have NB192_200 := nl_ BK192 hg; have NB200_192 := ng_ BK192 hg; replace BK192 := bb_ BK192 hb; replace HB := st_ (by repeat (with_reducible first | exact HB.out | apply bs_ GE192)) hb; clear hb hbox hg; have hnb12 := NB200_192.out; have hnc12 := NB192_200.out; obtain ⟨hcz13_0, hcz13_1, hcz13_2, hcz13_3, hcz13_4, hcz13_5, hfz13_0, hfz13_1, hfz13_2, hfz13_3, hfz13_4, hfz13_5⟩ := cf6 BK200; obtain ⟨hcz14_0, hcz14_1, hfz14_0, hfz14_1⟩ := cf2 BK192) | ((with_reducible refine gate_callee (f := 11) rfl ?_); refine goesL_ (some 21) rfl rfl Try.func11 (by kernel_rfl) rfl #[.agg #[.bool t193, .int .i64 t194, .bool t195, .int .i64 t196, .int .u64 t197, .int .u64 t198], .agg #[.int .i64 5, .int .i64 100], .int .i64 100, .int .i64 5, .int .i64 2] rfl (by first | rfl | (simp only [List.map_toArray, List.map_cons, List.map_nil]; first | done | rfl)) ?_; (with_reducible refine (codel_State_Look.calls k t193 t194 t195 t196 t197 t198 5 100 100 5 2 t201 t202 t203 t204 t205 t206 t207 _ A2.out).mono ?_); rintro e w15 ⟨rfl, hb⟩; refine ⟨_, rfl, ?_⟩; replace BK192 := m_ (blk_below (g := gb192) (o := .cells #[.int .i64 5, .int .i64 100] 26 (0, 0)) (by refine far6_ NB192_200 ?_; exact BK192.out) hb); replace BK200 := m_ (blk_below (g := gb200) (o := .cells #[.bool t193, .int .i64 t194, .bool t195, .int .i64 t196, .int .u64 t197, .int .u64 t198] 24 (0, 0)) (by apply put6_; exact BK200.out) hb); replace HB := st_ (by repeat (with_reducible first | exact HB.out | apply bs_ GE192 | apply bs_ GE200)) hb; (try clear hb); obtain ⟨hcz16_0, hcz16_1, hcz16_2, hcz16_3, hcz16_4, hcz16_5, hfz16_0, hfz16_1, hfz16_2, hfz16_3, hfz16_4, hfz16_5⟩ := cf6 BK200; obtain ⟨hcz17_0, hcz17_1, hfz17_0, hfz17_1⟩ := cf2 BK192) | ((with_reducible refine gate_callee (f := 11) rfl ?_); refine goesL_ (some 29) rfl rfl Try.func11 (by kernel_rfl) rfl #[.agg #[.bool t201, .int .i64 t202, .bool t203, .int .i64 t204, .int .u64 t205, .int .u64 t206], .agg #[.int .i64 5, .int .i64 100], .int .i64 200, .int .i64 5, .int .i64 2] rfl (by first | rfl | (simp only [List.map_toArray, List.map_cons, List.map_nil]; first | done | rfl)) ?_; (with_reducible refine (codel_State_Look.calls k t201 t202 t203 t204 t205 t206 5 100 200 5 2 t208 t209 t210 t211 t212 t213 t214 _ A3.out).mono ?_); rintro e w18 ⟨rfl, hb⟩; refine ⟨_, rfl, ?_⟩; replace BK192 := m_ (blk_below (g := gb192) (o := .cells #[.int .i64 5, .int .i64 100] 26 (0, 0)) (by refine far6_ NB192_200 ?_; exact BK192.out) hb); replace BK200 := m_ (blk_below (g := gb200) (o := .cells #[.bool t201, .int .i64 t202, .bool t203, .int .i64 t204, .int .u64 t205, .int .u64 t206] 24 (0, 0)) (by apply put6_; exact BK200.out) hb); replace HB := st_ (by repeat (with_reducible first | exact HB.out | apply bs_ GE192 | apply bs_ GE200)) hb; (try clear hb)) | ((with_reducible refine gate_dst (N := 7) rfl ?_); refine box_event ?hg (N := 7) ?hd (cs := #[.bool false, .int .i64 0, .bool false, .int .i64 0, .int .u64 0, .int .u64 0]) (t := 24) ?hr ?_; (case hd => rfl); (case hg => rfl); (case hr => first | (go_simp; done) | (go_simp; rfl)); intro gb215 hg w19 hbox hb; have BK215 := m_ (hbox); have GW215 := ge_ (by repeat (with_reducible first | exact HB.out | apply bs_ GE192 | apply bs_ GE200)) hg; have GE215 := GW215; have NB192_215 := nl_ BK192 hg; have NB215_192 := ng_ BK192 hg; have NB200_215 := nl_ BK200 hg; have NB215_200 := ng_ BK200 hg; replace BK192 := bb_ BK192 hb; replace BK200 := bb_ BK200 hb; replace HB := st_ (by repeat (with_reducible first | exact HB.out | apply bs_ GE192 | apply bs_ GE200)) hb; clear hb hbox hg; have hnb20 := NB215_192.out; have hnc20 := NB192_215.out; have hnb21 := NB215_200.out; have hnc21 := NB200_215.out; obtain ⟨hcz22_0, hcz22_1, hcz22_2, hcz22_3, hcz22_4, hcz22_5, hfz22_0, hfz22_1, hfz22_2, hfz22_3, hfz22_4, hfz22_5⟩ := cf6 BK215))
     go_ret
     exact ⟨by first | rfl | (simp [errW_none, errW_some] <;> rfl) | (simp [*, errW_none, errW_some] <;> rfl), by repeat (with_reducible first | exact HB.out | apply bs_ GE192 | apply bs_ GE200 | apply bs_ GE215)⟩
    ·rw [if_neg c7] at H
     exact absurd H (by simp)
   ·rw [if_neg c6] at H
    exact absurd H (by simp)
  ·rw [if_neg c5] at H
   exact absurd H (by simp)
 ·rw [if_neg c4] at H
  exact absurd H (by simp)

/-! ### codel_State_Empty: function 15 -/
def codel_State_Empty.f (a0_0 : Bool) (a0_1 : Int) (a0_2 : Bool) (a0_3 : Int) (a0_4 : Int) (a0_5 : Int) : Option (Bool × Int × Bool × Int × Int × Int) := some (false, 0, false, a0_3, a0_4, a0_5)
set_option maxHeartbeats 8000000 in
set_option maxRecDepth 100000 in
theorem codel_State_Empty.calls (a0_0 : Bool) (a0_1 : Int) (a0_2 : Bool) (a0_3 : Int) (a0_4 : Int) (a0_5 : Int) (r1 : Bool) (r2 : Int) (r3 : Bool) (r4 : Int) (r5 : Int) (r6 : Int) (w : World) (h : codel_State_Empty.f a0_0 a0_1 a0_2 a0_3 a0_4 a0_5 = some (r1, r2, r3, r4, r5, r6)) :
  Calls Try.prog 15 #[.agg #[.bool a0_0, .int .i64 a0_1, .bool a0_2, .int .i64 a0_3, .int .u64 a0_4, .int .u64 a0_5]] w fun e w' => e = .returned (.agg #[.bool r1, .int .i64 r2, .bool r3, .int .i64 r4, .int .u64 r5, .int .u64 r6]) ∧ Below w.heap.size w w' := by
 have hu24 := Try.underlying24
 have HB := m_ (Below.refl w.heap.size w)
 have H : (some (false, 0, false, a0_3, a0_4, a0_5)) = some (r1, r2, r3, r4, r5, r6) := h
 clear h
 simp only [Option.some.injEq, Prod.mk.injEq] at H
 obtain ⟨rfl, rfl, rfl, rfl, rfl, rfl⟩ := H
 go_enter Try.func15, Try.ntmps15
 go_wp2_with (first | ((with_reducible refine gate_dst (N := 1) rfl ?_); refine box_event ?hg (N := 1) ?hd (cs := #[.bool a0_0, .int .i64 a0_1, .bool a0_2, .int .i64 a0_3, .int .u64 a0_4, .int .u64 a0_5]) (t := 24) ?hr ?_; (case hd => rfl); (case hg => rfl); (case hr => first | (go_simp; done) | (go_simp; rfl)); intro gb216 hg w2 hbox hb; have BK216 := m_ (hbox); have GW216 := ge_ (by repeat (with_reducible first | exact HB.out)) hg; have GE216 := GW216; replace HB := st_ (by repeat (with_reducible first | exact HB.out)) hb; clear hb hbox hg) | ((with_reducible refine gate_dst (N := 2) rfl ?_); refine box_event ?hg (N := 2) ?hd (cs := #[.bool false, .int .i64 0, .bool false, .int .i64 0, .int .u64 0, .int .u64 0]) (t := 24) ?hr ?_; (case hd => rfl); (case hg => rfl); (case hr => first | (go_simp; done) | (go_simp; rfl)); intro gb217 hg w3 hbox hb; have BK217 := m_ (hbox); have GW217 := ge_ (by repeat (with_reducible first | exact HB.out | apply bs_ GE216)) hg; have GE217 := GW217; have NB216_217 := nl_ BK216 hg; have NB217_216 := ng_ BK216 hg; replace BK216 := bb_ BK216 hb; replace HB := st_ (by repeat (with_reducible first | exact HB.out | apply bs_ GE216)) hb; clear hb hbox hg; have hnb4 := NB216_217.out; have hnc4 := NB217_216.out; obtain ⟨hcz5_0, hcz5_1, hcz5_2, hcz5_3, hcz5_4, hcz5_5, hfz5_0, hfz5_1, hfz5_2, hfz5_3, hfz5_4, hfz5_5⟩ := cf6 BK216; obtain ⟨hcz6_0, hcz6_1, hcz6_2, hcz6_3, hcz6_4, hcz6_5, hfz6_0, hfz6_1, hfz6_2, hfz6_3, hfz6_4, hfz6_5⟩ := cf6 BK217))
 refine bodyPost_ret (results_cell_row rfl _ _ gb217 24 #[.bool false, .int .i64 0, .bool false, .int .i64 a0_3, .int .u64 a0_4, .int .u64 a0_5] (0, 0) _ rfl (by apply put6_; refine far3_ NB217_216 ?_; exact BK217.out) Try.underlying24 rfl (by kernel_rfl)) rfl ?_
 exact ⟨by first | rfl | (simp [errW_none, errW_some] <;> rfl) | (simp [*, errW_none, errW_some] <;> rfl), by repeat (with_reducible first | exact HB.out | apply bs_ GE216 | apply bs_ GE217)⟩

end Go.Proofs.Ytiiffgmbkajkhaa.L

-- Laid by a program of this claim's session (wip/tools/myprint.py) over the kit's printer.
import Derived.Test.YtjgjmeefieikaaaTx0
import Derived.Test.YtjgjmeefieikaaaTx1
import Derived.Test.YtjgjmeefieikaaaTx3
import Derived.Test.YtjgjmeefieikaaaTx4
import Derived.Test.YtjgjmeefieikaaaTx6
import Derived.Test.YtjgjmeefieikaaaTx10
namespace Go.Proofs.Ytjgjmeefieikaaa.T
open Go.RowKit Go.Proofs.YtjgjmeefieikaaaW.PrintWords Go.Proofs.YtjgjmeefieikaaaW.PrintLast Go.Proofs.YtjgjmeefieikaaaW.PrintMore
attribute [local go_sem] max2_int min2_int max_two min_two max_three min_three max_four min_four   -- for this text's walks alone
set_option linter.unusedVariables false
set_option linter.unusedSimpArgs false

attribute [local go_sem high] eqA37
/-! ### fix_Q_Of: function 23 -/
def fix_Q_Of.f (k : Nat) (a0 : Int) (a1 : Int) : Option (Int) := (fix_size.f a0).bind fun t284 => ((fix_size.f a1).bind fun t285 => ((wide_Mul.f t284 t285).bind fun bt286 => ((wide_Num_Right.f bt286.1 bt286.2 32).bind fun bt289 => ((wide_Num_Left.f bt289.1 bt289.2 32).bind fun bt292 => ((fix_signed.f k bt289.1 bt289.2 ((decide (a0 < 0)) != (decide (a1 < 0))) (!(bt292.1 == bt286.1) || (!(bt292.2 == bt286.2)))).bind fun t294 => (some t294))))))
theorem fix_Q_Of.mono : ∀ a0 a1 k, LeO (fix_Q_Of.f k a0 a1) (fix_Q_Of.f (k + 1) a0 a1) := by
 intro a0 a1 k
 unfold fix_Q_Of.f
 repeat' first
   | (with_reducible exact fix_signed.mono _ _ _ _ _)
   | (with_reducible exact LeO.refl _)
   | (with_reducible exact LeO.none _)
   | (with_reducible refine LeO.ite ?_ ?_)
   | (with_reducible refine LeO.bind ?_ (fun _ => ?_))
   | exact fix_signed.mono _ _ _ _ _
   | exact LeO.none _
   | refine LeO.ite ?_ ?_
   | refine LeO.bind ?_ (fun _ => ?_)
def fix_Q_Of.T3 : Bool × List (List Nat × List Nat) := (true, [([], []), ([], []), ([1], [1]), ([], []), ([3], [3]), ([2, 4], [2, 4]), ([], []), ([6], [6]), ([], []), ([7, 8], [7, 8]), ([0, 5, 9, 7], [0, 5, 9]), ([10, 10, 0, 1, 2, 3, 4, 5, 6, 7, 8, 9, 10], [10])])
def fix_Q_Of.B3 : List Nat := [0, 0, 2, 0, 8, 30, 0, 64, 0, 448, 1023, 2047]
theorem fix_Q_Of.tab3 : rtab .any (opsOf Try.f23 3) = fix_Q_Of.T3 := by kernel_rfl
theorem fix_Q_Of.bits3 : waitsOk fix_Q_Of.T3.2 fix_Q_Of.B3 = true := by kernel_rfl
set_option maxHeartbeats 8000000 in
set_option maxRecDepth 100000 in
theorem fix_Q_Of.calls (k : Nat) (a0 : Int) (a1 : Int) (r : Int) (w : World) (h : fix_Q_Of.f k a0 a1 = some r) :
  Calls Try.prog 23 #[.int .i64 a0, .int .i64 a1] w fun e w' => e = .returned (.int .i64 r) ∧ Below w.heap.size w w' := by
 have hu37 := Try.underlying37
 have HB := Aside0.mk (Below.refl w.heap.size w)
 have H : ((fix_size.f a0).bind fun t284 => ((fix_size.f a1).bind fun t285 => ((wide_Mul.f t284 t285).bind fun bt286 => ((wide_Num_Right.f bt286.1 bt286.2 32).bind fun bt289 => ((wide_Num_Left.f bt289.1 bt289.2 32).bind fun bt292 => ((fix_signed.f k bt289.1 bt289.2 ((decide (a0 < 0)) != (decide (a1 < 0))) (!(bt292.1 == bt286.1) || (!(bt292.2 == bt286.2)))).bind fun t294 => (some t294))))))) = some r := h
 clear h
 replace H := Option.bind_eq_some_iff.mp H
 obtain ⟨t284, A30, H⟩ := H
 replace H : ((fix_size.f a1).bind fun t285 => ((wide_Mul.f t284 t285).bind fun bt286 => ((wide_Num_Right.f bt286.1 bt286.2 32).bind fun bt289 => ((wide_Num_Left.f bt289.1 bt289.2 32).bind fun bt292 => ((fix_signed.f k bt289.1 bt289.2 ((decide (a0 < 0)) != (decide (a1 < 0))) (!(bt292.1 == bt286.1) || (!(bt292.2 == bt286.2)))).bind fun t294 => (some t294)))))) = some r := H
 have A3 := Aside0.mk A30
 clear A30
 replace H := Option.bind_eq_some_iff.mp H
 obtain ⟨t285, A40, H⟩ := H
 replace H : ((wide_Mul.f t284 t285).bind fun bt286 => ((wide_Num_Right.f bt286.1 bt286.2 32).bind fun bt289 => ((wide_Num_Left.f bt289.1 bt289.2 32).bind fun bt292 => ((fix_signed.f k bt289.1 bt289.2 ((decide (a0 < 0)) != (decide (a1 < 0))) (!(bt292.1 == bt286.1) || (!(bt292.2 == bt286.2)))).bind fun t294 => (some t294))))) = some r := H
 have A4 := Aside0.mk A40
 clear A40
 replace H := Option.bind_eq_some_iff.mp H
 obtain ⟨⟨t286, t287⟩, A50, H⟩ := H
 replace H : ((wide_Num_Right.f t286 t287 32).bind fun bt289 => ((wide_Num_Left.f bt289.1 bt289.2 32).bind fun bt292 => ((fix_signed.f k bt289.1 bt289.2 ((decide (a0 < 0)) != (decide (a1 < 0))) (!(bt292.1 == t286) || (!(bt292.2 == t287)))).bind fun t294 => (some t294)))) = some r := H
 have A5 := Aside0.mk A50
 clear A50
 replace H := Option.bind_eq_some_iff.mp H
 obtain ⟨⟨t289, t290⟩, A60, H⟩ := H
 replace H : ((wide_Num_Left.f t289 t290 32).bind fun bt292 => ((fix_signed.f k t289 t290 ((decide (a0 < 0)) != (decide (a1 < 0))) (!(bt292.1 == t286) || (!(bt292.2 == t287)))).bind fun t294 => (some t294))) = some r := H
 have A6 := Aside0.mk A60
 clear A60
 replace H := Option.bind_eq_some_iff.mp H
 obtain ⟨⟨t292, t293⟩, A70, H⟩ := H
 replace H : ((fix_signed.f k t289 t290 ((decide (a0 < 0)) != (decide (a1 < 0))) (!(t292 == t286) || (!(t293 == t287)))).bind fun t294 => (some t294)) = some r := H
 have A7 := Aside0.mk A70
 clear A70
 replace H := Option.bind_eq_some_iff.mp H
 obtain ⟨t294, A80, H⟩ := H
 replace H : (some t294) = some r := H
 have A8 := Aside0.mk A80
 clear A80
 obtain rfl := Option.some.inj H
 go_enter Try.func23, Try.ntmps23
 try go_wp2_with (first | ((with_reducible refine gate_callee (f := 35) rfl ?_); refine goesL_ (some 8) rfl rfl Try.func35 (by kernel_rfl) rfl #[.int .i64 a0] rfl (by (try simp only [List.map_toArray, List.map_cons, List.map_nil]); first | done | rfl | (simp only [List.length_drop, List.length_take]; rfl)) ?_; (with_reducible refine (fix_size.calls a0 t284 _ A3.out).mono ?_); rintro e w' ⟨rfl, ⟨nd, rfl⟩⟩; refine ⟨_, rfl, ?_⟩) | ((with_reducible refine gate_callee (f := 35) rfl ?_); refine goesL_ (some 10) rfl rfl Try.func35 (by kernel_rfl) rfl #[.int .i64 a1] rfl (by (try simp only [List.map_toArray, List.map_cons, List.map_nil]); first | done | rfl | (simp only [List.length_drop, List.length_take]; rfl)) ?_; (with_reducible refine (fix_size.calls a1 t285 _ A4.out).mono ?_); rintro e w' ⟨rfl, ⟨nd, rfl⟩⟩; refine ⟨_, rfl, ?_⟩) | ((with_reducible refine gate_callee (f := 34) rfl ?_); refine goesL_ (some 11) rfl rfl Try.func34 (by kernel_rfl) rfl #[.int .u64 t284, .int .u64 t285] rfl (by (try simp only [List.map_toArray, List.map_cons, List.map_nil]); first | done | rfl | (simp only [List.length_drop, List.length_take]; rfl)) ?_; (with_reducible refine (wide_Mul.calls t284 t285 t286 t287 _ A5.out).mono ?_); rintro e w9 ⟨rfl, hb⟩; refine ⟨_, rfl, ?_⟩; have n0_ := Aside0.mk (below_step (by repeat (first | (with_reducible first | exact HB.out | apply below_alloc | apply pw_below_drewN | apply below_drew1) | exact HB.out)) hb); clear HB; have HB := n0_; clear n0_; (try clear hb); (try clear hb2); (try clear hk); (try clear hi)) | ((with_reducible refine gate_dst (N := 5) rfl ?_); refine box_event ?hg (N := 5) ?hd (cs := #[.int .u64 0, .int .u64 0]) (t := 37) ?hr ?_; (case hd => rfl); (case hg => rfl); (case hr => first | (go_simp; done) | (go_simp; rfl)); intro gb288 hg w10 hbox hb; have n0_ := Aside0.mk (below_step (by repeat (first | (with_reducible first | exact HB.out | apply below_alloc | apply pw_below_drewN | apply below_drew1) | exact HB.out)) hb); have n1_ := Aside0.mk (hbox); have n2_ := Aside0.mk ((by rw [hg]; exact (below_size (by repeat (first | (with_reducible first | exact HB.out | apply below_alloc | apply pw_below_drewN | apply below_drew1) | exact HB.out))) : w.heap.size ≤ gb288)); have n3_ := Aside0.mk ((by rw [hg]; exact (below_size (by repeat (first | (with_reducible first | exact HB.out | apply below_alloc | apply pw_below_drewN | apply below_drew1) | exact HB.out))) : w.heap.size ≤ gb288)); clear HB; have HB := n0_; have BK288 := n1_; have GW288 := n2_; have GE288 := n3_; clear n0_ n1_ n2_ n3_; clear hb hbox hg; have hcz11_0 : w10.cell? ⟨gb288, 0, none⟩ = some (.int .u64 0) := (blk_cell BK288.out 0).trans rfl; have hcz11_1 : w10.cell? ⟨gb288, 1, none⟩ = some (.int .u64 0) := (blk_cell BK288.out 1).trans rfl; have hfz11_0 := blk_frozen BK288.out 0; have hfz11_1 := blk_frozen BK288.out 1) | ((with_reducible refine gate_callee (f := 46) rfl ?_); refine goesL_ (some 13) rfl rfl Try.func46 (by kernel_rfl) rfl #[.agg #[.int .u64 t286, .int .u64 t287], .int .i64 32] rfl (by (try simp only [List.map_toArray, List.map_cons, List.map_nil]); first | done | rfl | (simp only [List.length_drop, List.length_take]; rfl)) ?_; (with_reducible refine (wide_Num_Right.calls t286 t287 32 t289 t290 _ A6.out).mono ?_); rintro e w12 ⟨rfl, hb⟩; refine ⟨_, rfl, ?_⟩; have n0_ := Aside0.mk (blk_below (g := gb288) (o := .cells #[.int .u64 t286, .int .u64 t287] 37 (0, 0)) (by refine blk_put (cs := #[.int .u64 t286, .int .u64 0]) ?_ 1 _ rfl; refine blk_put (cs := #[.int .u64 0, .int .u64 0]) ?_ 0 _ rfl; exact BK288.out) hb); have n1_ := Aside0.mk (below_step (by repeat (first | (with_reducible first | exact HB.out | apply below_alloc | apply pw_below_drewN | apply below_drew1 | refine below_set ?_ GE288.out) | exact HB.out)) hb); clear BK288; clear HB; have BK288 := n0_; have HB := n1_; clear n0_ n1_; (try clear hb); (try clear hb2); (try clear hk); (try clear hi)) | ((with_reducible refine gate_dst (N := 6) rfl ?_); refine box_event ?hg (N := 6) ?hd (cs := #[.int .u64 0, .int .u64 0]) (t := 37) ?hr ?_; (case hd => rfl); (case hg => rfl); (case hr => first | (go_simp; done) | (go_simp; rfl)); intro gb291 hg w13 hbox hb; have n0_ := Aside0.mk (blk_below (by exact BK288.out) hb); have n1_ := Aside0.mk (below_step (by repeat (first | (with_reducible first | exact HB.out | apply below_alloc | apply pw_below_drewN | apply below_drew1 | refine below_set ?_ GE288.out) | exact HB.out)) hb); have n2_ := Aside0.mk (hbox); have n3_ := Aside0.mk ((by rw [hg]; exact (below_size (by repeat (first | (with_reducible first | exact HB.out | apply below_alloc | apply pw_below_drewN | apply below_drew1 | refine below_set ?_ GE288.out) | exact HB.out))) : w.heap.size ≤ gb291)); have n4_ := Aside0.mk ((by rw [hg]; exact (below_size (by repeat (first | (with_reducible first | exact HB.out | apply below_alloc | apply pw_below_drewN | apply below_drew1 | refine below_set ?_ GE288.out) | exact HB.out))) : w.heap.size ≤ gb291)); have n5_ := Aside0.mk ((by rw [hg]; exact Nat.ne_of_lt (blk_lt (by exact BK288.out)) : gb288 ≠ gb291)); have n6_ := Aside0.mk ((by rw [hg]; exact Nat.ne_of_gt (blk_lt (by exact BK288.out)) : gb291 ≠ gb288)); clear BK288; clear HB; have BK288 := n0_; have HB := n1_; have BK291 := n2_; have GW291 := n3_; have GE291 := n4_; have NB288_291 := n5_; have NB291_288 := n6_; clear n0_ n1_ n2_ n3_ n4_ n5_ n6_; clear hb hbox hg; have hnb14 := NB291_288.out; have hnc14 := NB288_291.out; have hcz15_0 : w13.cell? ⟨gb291, 0, none⟩ = some (.int .u64 0) := (blk_cell BK291.out 0).trans rfl; have hcz15_1 : w13.cell? ⟨gb291, 1, none⟩ = some (.int .u64 0) := (blk_cell BK291.out 1).trans rfl; have hfz15_0 := blk_frozen BK291.out 0; have hfz15_1 := blk_frozen BK291.out 1))
 have n0_ : Aside0 (((w13.setCell ⟨gb291, 0, none⟩ (.int .u64 t289)).setCell ⟨gb291, 1, none⟩ (.int .u64 t290)).heap[gb288]? = some (.cells #[.int .u64 t286, .int .u64 t287] 37 (0, 0))) := ⟨by refine blk_far ?_ NB288_291.out _; refine blk_far ?_ NB288_291.out _; exact BK288.out⟩
 have n1_ : Aside0 (((w13.setCell ⟨gb291, 0, none⟩ (.int .u64 t289)).setCell ⟨gb291, 1, none⟩ (.int .u64 t290)).heap[gb291]? = some (.cells #[.int .u64 t289, .int .u64 t290] 37 (0, 0))) := ⟨by refine blk_put (cs := #[.int .u64 t289, .int .u64 0]) ?_ 1 _ rfl; refine blk_put (cs := #[.int .u64 0, .int .u64 0]) ?_ 0 _ rfl; exact BK291.out⟩
 have n2_ : Aside0 (Below w.heap.size w ((w13.setCell ⟨gb291, 0, none⟩ (.int .u64 t289)).setCell ⟨gb291, 1, none⟩ (.int .u64 t290))) := ⟨by repeat (first | (with_reducible first | exact HB.out | apply below_alloc | apply pw_below_drewN | apply below_drew1 | refine below_set ?_ GE288.out | refine below_set ?_ GE291.out) | exact HB.out)⟩
 (try clear BK288)
 (try clear BK291)
 (try clear HB)
 generalize ((w13.setCell ⟨gb291, 0, none⟩ (.int .u64 t289)).setCell ⟨gb291, 1, none⟩ (.int .u64 t290)) = w16 at n0_ n1_ n2_ ⊢
 have BK288 := n0_
 have BK291 := n1_
 have HB := n2_
 clear n0_ n1_ n2_
 have n0_ := Aside0.mk (blk_drew BK288.out)
 have n1_ := Aside0.mk (blk_drew BK291.out)
 have n2_ := Aside0.mk (below_drew1 HB.out)
 clear BK288
 clear BK291
 clear HB
 have BK288 := n0_
 have BK291 := n1_
 have HB := n2_
 clear n0_ n1_ n2_
 refine start_ (n := 12) (S := fun w' => w'.cell? ⟨gb291, 0, none⟩ = some (.int .u64 t289) ∧ w'.cell? ⟨gb291, 1, none⟩ = some (.int .u64 t290) ∧ w'.cell? ⟨gb288, 0, none⟩ = some (.int .u64 t286) ∧ w'.cell? ⟨gb288, 1, none⟩ = some (.int .u64 t287)) (ds := []) #[false, false, false, false, false, false, false, false, false, false, false, false] (by kernel_rfl) rfl rfl ⟨(blk_cell BK291.out 0).trans rfl, (blk_cell BK291.out 1).trans rfl, (blk_cell BK288.out 0).trans rfl, (blk_cell BK288.out 1).trans rfl⟩ (fun hHeld => ?_); refine with_tabW fix_Q_Of.tab3 fix_Q_Of.bits3 (fun HT_ HW_ => ?_)
 generalize w16.drew = w17 at BK288 BK291 HB hHeld ⊢
 refine pure_ (i := 1) (N := some 15) (v := ?_) (a' := ?_) #[false, true, false, false, false, false, false, false, false, false, false, false] rfl rfl (any_of HT_.out (by kernel_rfl)) (fun _ _ _ h => h) (Or.inl ⟨by rfl, ?_⟩) ?_ ?_
 rotate_left
 ·intro w'
  go_simp
  with_reducible rfl
 rotate_left
 ·simp only [Act.put, List.setIfInBounds_toArray, List.set_cons_zero, List.set_cons_succ, i64_w, i32_w]
  rfl
 refine pure_ (i := 2) (N := some 16) (v := ?_) (a' := ?_) #[false, true, true, false, false, false, false, false, false, false, false, false] rfl rfl (any_of HT_.out (by kernel_rfl)) (fun _ _ _ h => h) (Or.inl ⟨by rfl, ?_⟩) ?_ ?_
 rotate_left
 ·intro w'
  go_simp
  with_reducible rfl
 rotate_left
 ·simp only [Act.put, List.setIfInBounds_toArray, List.set_cons_zero, List.set_cons_succ, i64_w, i32_w]
  rfl
 refine pure_ (i := 3) (N := some 17) (v := ?_) (a' := ?_) #[false, true, true, true, false, false, false, false, false, false, false, false] rfl rfl (any_of HT_.out (by kernel_rfl)) (fun _ _ _ h => h) (Or.inl ⟨by rfl, ?_⟩) ?_ ?_
 rotate_left
 ·intro w'
  go_simp
  with_reducible rfl
 rotate_left
 ·simp only [Act.put, List.setIfInBounds_toArray, List.set_cons_zero, List.set_cons_succ, i64_w, i32_w]
  rfl
 refine pure_ (i := 4) (N := some 18) (v := ?_) (a' := ?_) #[false, true, true, true, true, false, false, false, false, false, false, false] rfl rfl (any_of HT_.out (by kernel_rfl)) (fun _ _ _ h => h) (Or.inl ⟨by rfl, ?_⟩) ?_ ?_
 rotate_left
 ·intro w'
  go_simp
  with_reducible rfl
 rotate_left
 ·simp only [Act.put, List.setIfInBounds_toArray, List.set_cons_zero, List.set_cons_succ, i64_w, i32_w]
  rfl
 refine pure_ (i := 5) (N := some 19) (v := ?_) (a' := ?_) #[false, true, true, true, true, true, false, false, false, false, false, false] rfl rfl (any_of HT_.out (by kernel_rfl)) (fun _ _ _ h => h) (Or.inl ⟨by rfl, ?_⟩) ?_ ?_
 rotate_left
 ·intro w'
  go_simp
  with_reducible rfl
 rotate_left
 ·simp only [Act.put, List.setIfInBounds_toArray, List.set_cons_zero, List.set_cons_succ, i64_w, i32_w]
  rfl
 refine take_ (i := 0) (N := some 14) (v := ?_) (a' := ?_) #[true, true, true, true, true, true, false, false, false, false, false, false] rfl rfl (take_ofW HT_.out HW_.out (by kernel_rfl)) (fun _ _ _ h => h) (Or.inl ⟨by rfl, ?_⟩) hHeld ?_ ?_
 rotate_left
 ·rintro w' ⟨s0, s1, s2, s3⟩
  go_simp
  with_reducible rfl
 rotate_left
 ·simp only [Act.put, List.setIfInBounds_toArray, List.set_cons_zero, List.set_cons_succ, i64_w, i32_w]
  rfl
 refine take_ (i := 6) (N := some 20) (v := ?_) (a' := ?_) #[true, true, true, true, true, true, true, false, false, false, false, false] rfl rfl (take_ofW HT_.out HW_.out (by kernel_rfl)) (fun _ _ _ h => h) (Or.inl ⟨by rfl, ?_⟩) hHeld ?_ ?_
 rotate_left
 ·rintro w' ⟨s0, s1, s2, s3⟩
  go_simp
  with_reducible rfl
 rotate_left
 ·simp only [Act.put, List.setIfInBounds_toArray, List.set_cons_zero, List.set_cons_succ, i64_w, i32_w]
  rfl
 refine take_ (i := 8) (N := some 22) (v := ?_) (a' := ?_) #[true, true, true, true, true, true, true, false, true, false, false, false] rfl rfl (take_ofW HT_.out HW_.out (by kernel_rfl)) (fun _ _ _ h => h) (Or.inl ⟨by rfl, ?_⟩) hHeld ?_ ?_
 rotate_left
 ·rintro w' ⟨s0, s1, s2, s3⟩
  go_simp
  with_reducible rfl
 rotate_left
 ·simp only [Act.put, List.setIfInBounds_toArray, List.set_cons_zero, List.set_cons_succ, i64_w, i32_w]
  rfl
 refine one_ (i := 7) (N := some 21) #[true, true, true, true, true, true, true, true, true, false, false, false] rfl rfl (one_of HT_.out (by kernel_rfl)) (by decide) (fun K hK => ?_)
 refine goes_ Try.func41 (by kernel_rfl) rfl #[.agg #[.int .u64 t289, .int .u64 t290], .int .i64 32] (by rfl) rfl rfl (by (try simp only [List.map_toArray, List.map_cons, List.map_nil]); first | done | rfl | (simp only [List.length_drop, List.length_take]; rfl)) ?_
 with_reducible refine (wide_Num_Left.calls t289 t290 32 t292 t293 _ A7.out).mono ?_
 rintro e w18 ⟨rfl, hb⟩
 refine ⟨_, rfl, ?_⟩
 have n0_ := Aside0.mk (blk_below (by exact BK288.out) hb)
 have n1_ := Aside0.mk (blk_below (by exact BK291.out) hb)
 have n2_ := Aside0.mk (below_step (by repeat (first | (with_reducible first | exact HB.out | apply below_alloc | apply pw_below_drewN | apply below_drew1 | refine below_set ?_ GE288.out | refine below_set ?_ GE291.out) | exact HB.out)) hb)
 clear BK288
 clear BK291
 clear HB
 have BK288 := n0_
 have BK291 := n1_
 have HB := n2_
 clear n0_ n1_ n2_
 (try clear hb)
 (try clear hb2)
 (try clear hk)
 (try clear hi)
 refine hK.out _ _ ⟨(blk_cell BK291.out 0).trans rfl, (blk_cell BK291.out 1).trans rfl, (blk_cell BK288.out 0).trans rfl, (blk_cell BK288.out 1).trans rfl⟩ (fun hHeld => ?_)
 clear hK K
 refine norm_ (a' := ?_) ?_ ?_
 rotate_left
 ·show Act.put _ (some 21) _ = _
  simp only [Act.put, List.setIfInBounds_toArray, List.set_cons_zero, List.set_cons_succ, i64_w, i32_w]
  rfl
 refine pure_ (i := 9) (N := some 23) (v := ?_) (a' := ?_) #[true, true, true, true, true, true, true, true, true, true, false, false] rfl rfl (any_of HT_.out (by kernel_rfl)) (fun _ _ _ h => h) (Or.inl ⟨by rfl, ?_⟩) ?_ ?_
 rotate_left
 ·intro w'
  go_simp
  with_reducible rfl
 rotate_left
 ·simp only [Act.put, List.setIfInBounds_toArray, List.set_cons_zero, List.set_cons_succ, i64_w, i32_w]
  rfl
 refine one_ (i := 10) (N := some 24) #[true, true, true, true, true, true, true, true, true, true, true, false] rfl rfl (one_of HT_.out (by kernel_rfl)) (by decide) (fun K hK => ?_)
 refine goes_ Try.func33 (by kernel_rfl) rfl #[.agg #[.int .u64 t289, .int .u64 t290], .bool ((decide (a0 < 0)) != (decide (a1 < 0))), .bool (!(t292 == t286) || (!(t293 == t287)))] (by rfl) rfl rfl (by (try simp only [List.map_toArray, List.map_cons, List.map_nil]); first | done | rfl | (simp only [List.length_drop, List.length_take]; rfl)) ?_
 with_reducible refine (fix_signed.calls k t289 t290 ((decide (a0 < 0)) != (decide (a1 < 0))) (!(t292 == t286) || (!(t293 == t287))) t294 _ A8.out).mono ?_
 rintro e w19 ⟨rfl, hb⟩
 refine ⟨_, rfl, ?_⟩
 have n0_ := Aside0.mk (blk_below (by exact BK288.out) hb)
 have n1_ := Aside0.mk (blk_below (by exact BK291.out) hb)
 have n2_ := Aside0.mk (below_step (by repeat (first | (with_reducible first | exact HB.out | apply below_alloc | apply pw_below_drewN | apply below_drew1 | refine below_set ?_ GE288.out | refine below_set ?_ GE291.out) | exact HB.out)) hb)
 clear BK288
 clear BK291
 clear HB
 have BK288 := n0_
 have BK291 := n1_
 have HB := n2_
 clear n0_ n1_ n2_
 (try clear hb)
 (try clear hb2)
 (try clear hk)
 (try clear hi)
 refine hK.out _ _ ⟨(blk_cell BK291.out 0).trans rfl, (blk_cell BK291.out 1).trans rfl, (blk_cell BK288.out 0).trans rfl, (blk_cell BK288.out 1).trans rfl⟩ (fun hHeld => ?_)
 clear hK K
 refine norm_ (a' := ?_) ?_ ?_
 rotate_left
 ·show Act.put _ (some 24) _ = _
  simp only [Act.put, List.setIfInBounds_toArray, List.set_cons_zero, List.set_cons_succ, i64_w, i32_w]
  rfl
 refine pure_ (i := 11) (N := some 4) (v := ?_) (a' := ?_) #[true, true, true, true, true, true, true, true, true, true, true, true] rfl rfl (any_of HT_.out (by kernel_rfl)) (fun _ _ _ h => h) (Or.inl ⟨by rfl, ?_⟩) ?_ ?_
 rotate_left
 ·intro w'
  go_simp
  with_reducible rfl
 rotate_left
 ·simp only [Act.put, List.setIfInBounds_toArray, List.set_cons_zero, List.set_cons_succ, i64_w, i32_w]
  rfl
 refine done_ (done_of HT_.out (by kernel_rfl)) ?_
 try go_wp2
 go_ret
 exact ⟨by first | rfl | (simp [errW_none, errW_some] <;> rfl) | (simp [*, errW_none, errW_some] <;> rfl), by repeat (first | (with_reducible first | exact HB.out | apply below_alloc | apply pw_below_drewN | apply below_drew1 | refine below_set ?_ GE288.out | refine below_set ?_ GE291.out) | exact HB.out)⟩

/-! ### fix_Q_Times: function 24 -/
def fix_Q_Times.f (k : Nat) (a0 : Int) (a1 : Int) : Option (Int) := (fix_Q_Of.f k a0 a1).bind fun t295 => (some t295)
theorem fix_Q_Times.mono : ∀ a0 a1 k, LeO (fix_Q_Times.f k a0 a1) (fix_Q_Times.f (k + 1) a0 a1) := by
 intro a0 a1 k
 unfold fix_Q_Times.f
 repeat' first
   | (with_reducible exact fix_Q_Of.mono _ _ _)
   | (with_reducible exact LeO.refl _)
   | (with_reducible exact LeO.none _)
   | (with_reducible refine LeO.ite ?_ ?_)
   | (with_reducible refine LeO.bind ?_ (fun _ => ?_))
   | exact fix_Q_Of.mono _ _ _
   | exact LeO.none _
   | refine LeO.ite ?_ ?_
   | refine LeO.bind ?_ (fun _ => ?_)
set_option maxHeartbeats 8000000 in
set_option maxRecDepth 100000 in
theorem fix_Q_Times.calls (k : Nat) (a0 : Int) (a1 : Int) (r : Int) (w : World) (h : fix_Q_Times.f k a0 a1 = some r) :
  Calls Try.prog 24 #[.int .i64 a0, .int .i64 a1] w fun e w' => e = .returned (.int .i64 r) ∧ Below w.heap.size w w' := by
 have HB := Aside0.mk (Below.refl w.heap.size w)
 have H : ((fix_Q_Of.f k a0 a1).bind fun t295 => (some t295)) = some r := h
 clear h
 replace H := Option.bind_eq_some_iff.mp H
 obtain ⟨t295, A30, H⟩ := H
 replace H : (some t295) = some r := H
 have A3 := Aside0.mk A30
 clear A30
 obtain rfl := Option.some.inj H
 go_enter Try.func24, Try.ntmps24
 go_wp2_with (first | ((with_reducible refine gate_callee (f := 23) rfl ?_); refine goesL_ (some 7) rfl rfl Try.func23 (by kernel_rfl) rfl #[.int .i64 a0, .int .i64 a1] rfl (by (try simp only [List.map_toArray, List.map_cons, List.map_nil]); first | done | rfl | (simp only [List.length_drop, List.length_take]; rfl)) ?_; (with_reducible refine (fix_Q_Of.calls k a0 a1 t295 _ A3.out).mono ?_); rintro e w4 ⟨rfl, hb⟩; refine ⟨_, rfl, ?_⟩; have n0_ := Aside0.mk (below_step (by repeat (first | (with_reducible first | exact HB.out | apply below_alloc | apply pw_below_drewN | apply below_drew1) | exact HB.out)) hb); clear HB; have HB := n0_; clear n0_; (try clear hb); (try clear hb2); (try clear hk); (try clear hi)))
 go_ret
 exact ⟨by first | rfl | (simp [errW_none, errW_some] <;> rfl) | (simp [*, errW_none, errW_some] <;> rfl), by repeat (first | (with_reducible first | exact HB.out | apply below_alloc | apply pw_below_drewN | apply below_drew1) | exact HB.out)⟩

/-! ### overfalllaw02_FixTimes: function 6 -/
def overfalllaw02_FixTimes.f (k : Nat) (a0 : Int) (a1 : Int) : Option (Bool) := (overfalllaw02_awake.f k).bind fun t296 => (if t296 = true then ((overfallref02_Of.f k a0 a1).bind fun t297 => ((fix_Q_Of.f k a0 a1).bind fun t298 => (if t298 = t297 then ((fix_Q_Times.f k a0 a1).bind fun t299 => (if t299 = t297 then ((fix_Q_Times.f k a1 a0).bind fun t300 => (if t300 = t297 then ((fix_Q_Of.f k 4294967296 a1).bind fun t301 => (if t301 = a1 then ((fix_Q_Floor.f a0).bind fun t302 => ((overfallref02_Floor.f k a0).bind fun t303 => (some (t302 == t303)))) else (none))) else (none))) else (none))) else (none)))) else (none))
theorem overfalllaw02_FixTimes.mono : ∀ a0 a1 k, LeO (overfalllaw02_FixTimes.f k a0 a1) (overfalllaw02_FixTimes.f (k + 1) a0 a1) := by
 intro a0 a1 k
 unfold overfalllaw02_FixTimes.f
 repeat' first
   | (with_reducible exact fix_Q_Of.mono _ _ _)
   | (with_reducible exact fix_Q_Times.mono _ _ _)
   | (with_reducible exact overfalllaw02_awake.mono _)
   | (with_reducible exact overfallref02_Floor.mono _ _)
   | (with_reducible exact overfallref02_Of.mono _ _ _)
   | (with_reducible exact LeO.refl _)
   | (with_reducible exact LeO.none _)
   | (with_reducible refine LeO.ite ?_ ?_)
   | (with_reducible refine LeO.bind ?_ (fun _ => ?_))
   | exact fix_Q_Of.mono _ _ _
   | exact fix_Q_Times.mono _ _ _
   | exact overfalllaw02_awake.mono _
   | exact overfallref02_Floor.mono _ _
   | exact overfallref02_Of.mono _ _ _
   | exact LeO.none _
   | refine LeO.ite ?_ ?_
   | refine LeO.bind ?_ (fun _ => ?_)
set_option maxHeartbeats 8000000 in
set_option maxRecDepth 100000 in
theorem overfalllaw02_FixTimes.calls (k : Nat) (a0 : Int) (a1 : Int) (r : Bool) (w : World) (h : overfalllaw02_FixTimes.f k a0 a1 = some r) :
  Calls Try.prog 6 #[.int .i64 a0, .int .i64 a1] w fun e w' => e = .returned (.bool r) ∧ Below w.heap.size w w' := by
 have HB := Aside0.mk (Below.refl w.heap.size w)
 have H : ((overfalllaw02_awake.f k).bind fun t296 => (if t296 = true then ((overfallref02_Of.f k a0 a1).bind fun t297 => ((fix_Q_Of.f k a0 a1).bind fun t298 => (if t298 = t297 then ((fix_Q_Times.f k a0 a1).bind fun t299 => (if t299 = t297 then ((fix_Q_Times.f k a1 a0).bind fun t300 => (if t300 = t297 then ((fix_Q_Of.f k 4294967296 a1).bind fun t301 => (if t301 = a1 then ((fix_Q_Floor.f a0).bind fun t302 => ((overfallref02_Floor.f k a0).bind fun t303 => (some (t302 == t303)))) else (none))) else (none))) else (none))) else (none)))) else (none))) = some r := h
 clear h
 replace H := Option.bind_eq_some_iff.mp H
 obtain ⟨t296, A30, H⟩ := H
 replace H : (if t296 = true then ((overfallref02_Of.f k a0 a1).bind fun t297 => ((fix_Q_Of.f k a0 a1).bind fun t298 => (if t298 = t297 then ((fix_Q_Times.f k a0 a1).bind fun t299 => (if t299 = t297 then ((fix_Q_Times.f k a1 a0).bind fun t300 => (if t300 = t297 then ((fix_Q_Of.f k 4294967296 a1).bind fun t301 => (if t301 = a1 then ((fix_Q_Floor.f a0).bind fun t302 => ((overfallref02_Floor.f k a0).bind fun t303 => (some (t302 == t303)))) else (none))) else (none))) else (none))) else (none)))) else (none)) = some r := H
 have A3 := Aside0.mk A30
 clear A30
 by_cases c4 : t296 = true
 ·subst c4
  have H1 : ((overfallref02_Of.f k a0 a1).bind fun t297 => ((fix_Q_Of.f k a0 a1).bind fun t298 => (if t298 = t297 then ((fix_Q_Times.f k a0 a1).bind fun t299 => (if t299 = t297 then ((fix_Q_Times.f k a1 a0).bind fun t300 => (if t300 = t297 then ((fix_Q_Of.f k 4294967296 a1).bind fun t301 => (if t301 = a1 then ((fix_Q_Floor.f a0).bind fun t302 => ((overfallref02_Floor.f k a0).bind fun t303 => (some (t302 == t303)))) else (none))) else (none))) else (none))) else (none)))) = some r := by rw [if_pos rfl] at H; exact H
  clear H
  have H := H1
  clear H1
  replace H := Option.bind_eq_some_iff.mp H
  obtain ⟨t297, A50, H⟩ := H
  replace H : ((fix_Q_Of.f k a0 a1).bind fun t298 => (if t298 = t297 then ((fix_Q_Times.f k a0 a1).bind fun t299 => (if t299 = t297 then ((fix_Q_Times.f k a1 a0).bind fun t300 => (if t300 = t297 then ((fix_Q_Of.f k 4294967296 a1).bind fun t301 => (if t301 = a1 then ((fix_Q_Floor.f a0).bind fun t302 => ((overfallref02_Floor.f k a0).bind fun t303 => (some (t302 == t303)))) else (none))) else (none))) else (none))) else (none))) = some r := H
  have A5 := Aside0.mk A50
  clear A50
  replace H := Option.bind_eq_some_iff.mp H
  obtain ⟨t298, A60, H⟩ := H
  replace H : (if t298 = t297 then ((fix_Q_Times.f k a0 a1).bind fun t299 => (if t299 = t297 then ((fix_Q_Times.f k a1 a0).bind fun t300 => (if t300 = t297 then ((fix_Q_Of.f k 4294967296 a1).bind fun t301 => (if t301 = a1 then ((fix_Q_Floor.f a0).bind fun t302 => ((overfallref02_Floor.f k a0).bind fun t303 => (some (t302 == t303)))) else (none))) else (none))) else (none))) else (none)) = some r := H
  have A6 := Aside0.mk A60
  clear A60
  by_cases c7 : t298 = t297
  ·rw [if_pos c7] at H
   have c7b0 : (t298 == t297) = true := beq_iff_eq.mpr c7
   have c7b1 : (t298 != t297) = false := bne_eq_false_iff_eq.mpr c7
   clear c7
   replace H := Option.bind_eq_some_iff.mp H
   obtain ⟨t299, A80, H⟩ := H
   replace H : (if t299 = t297 then ((fix_Q_Times.f k a1 a0).bind fun t300 => (if t300 = t297 then ((fix_Q_Of.f k 4294967296 a1).bind fun t301 => (if t301 = a1 then ((fix_Q_Floor.f a0).bind fun t302 => ((overfallref02_Floor.f k a0).bind fun t303 => (some (t302 == t303)))) else (none))) else (none))) else (none)) = some r := H
   have A8 := Aside0.mk A80
   clear A80
   by_cases c9 : t299 = t297
   ·rw [if_pos c9] at H
    have c9b0 : (t299 == t297) = true := beq_iff_eq.mpr c9
    have c9b1 : (t299 != t297) = false := bne_eq_false_iff_eq.mpr c9
    clear c9
    replace H := Option.bind_eq_some_iff.mp H
    obtain ⟨t300, A100, H⟩ := H
    replace H : (if t300 = t297 then ((fix_Q_Of.f k 4294967296 a1).bind fun t301 => (if t301 = a1 then ((fix_Q_Floor.f a0).bind fun t302 => ((overfallref02_Floor.f k a0).bind fun t303 => (some (t302 == t303)))) else (none))) else (none)) = some r := H
    have A10 := Aside0.mk A100
    clear A100
    by_cases c11 : t300 = t297
    ·rw [if_pos c11] at H
     have c11b0 : (t300 == t297) = true := beq_iff_eq.mpr c11
     have c11b1 : (t300 != t297) = false := bne_eq_false_iff_eq.mpr c11
     clear c11
     replace H := Option.bind_eq_some_iff.mp H
     obtain ⟨t301, A120, H⟩ := H
     replace H : (if t301 = a1 then ((fix_Q_Floor.f a0).bind fun t302 => ((overfallref02_Floor.f k a0).bind fun t303 => (some (t302 == t303)))) else (none)) = some r := H
     have A12 := Aside0.mk A120
     clear A120
     by_cases c13 : t301 = a1
     ·rw [if_pos c13] at H
      have c13b0 : (t301 == a1) = true := beq_iff_eq.mpr c13
      have c13b1 : (t301 != a1) = false := bne_eq_false_iff_eq.mpr c13
      clear c13
      replace H := Option.bind_eq_some_iff.mp H
      obtain ⟨t302, A140, H⟩ := H
      replace H : ((overfallref02_Floor.f k a0).bind fun t303 => (some (t302 == t303))) = some r := H
      have A14 := Aside0.mk A140
      clear A140
      replace H := Option.bind_eq_some_iff.mp H
      obtain ⟨t303, A150, H⟩ := H
      replace H : (some (t302 == t303)) = some r := H
      have A15 := Aside0.mk A150
      clear A150
      obtain rfl := Option.some.inj H
      go_enter Try.func6, Try.ntmps6
      go_wp2_with (first | ((with_reducible refine gate_callee (f := 10) rfl ?_); refine goesL_ (some 6) rfl rfl Try.func10 (by kernel_rfl) rfl #[] rfl (by (try simp only [List.map_toArray, List.map_cons, List.map_nil]); first | done | rfl | (simp only [List.length_drop, List.length_take]; rfl)) ?_; (with_reducible refine (overfalllaw02_awake.calls k  true _ A3.out).mono ?_); rintro e w16 ⟨rfl, hb⟩; refine ⟨_, rfl, ?_⟩; have n0_ := Aside0.mk (below_step (by repeat (first | (with_reducible first | exact HB.out | apply below_alloc | apply pw_below_drewN | apply below_drew1) | exact HB.out)) hb); clear HB; have HB := n0_; clear n0_; (try clear hb); (try clear hb2); (try clear hk); (try clear hi)) | ((with_reducible refine gate_callee (f := 22) rfl ?_); refine goesL_ (some 10) rfl rfl Try.func22 (by kernel_rfl) rfl #[.int .i64 a0, .int .i64 a1] rfl (by (try simp only [List.map_toArray, List.map_cons, List.map_nil]); first | done | rfl | (simp only [List.length_drop, List.length_take]; rfl)) ?_; (with_reducible refine (overfallref02_Of.calls k a0 a1 t297 _ A5.out).mono ?_); rintro e w17 ⟨rfl, hb⟩; refine ⟨_, rfl, ?_⟩; have n0_ := Aside0.mk (below_step (by repeat (first | (with_reducible first | exact HB.out | apply below_alloc | apply pw_below_drewN | apply below_drew1) | exact HB.out)) hb); clear HB; have HB := n0_; clear n0_; (try clear hb); (try clear hb2); (try clear hk); (try clear hi)) | ((with_reducible refine gate_callee (f := 23) rfl ?_); refine goesL_ (some 13) rfl rfl Try.func23 (by kernel_rfl) rfl #[.int .i64 a0, .int .i64 a1] rfl (by (try simp only [List.map_toArray, List.map_cons, List.map_nil]); first | done | rfl | (simp only [List.length_drop, List.length_take]; rfl)) ?_; (with_reducible refine (fix_Q_Of.calls k a0 a1 t298 _ A6.out).mono ?_); rintro e w18 ⟨rfl, hb⟩; refine ⟨_, rfl, ?_⟩; have n0_ := Aside0.mk (below_step (by repeat (first | (with_reducible first | exact HB.out | apply below_alloc | apply pw_below_drewN | apply below_drew1) | exact HB.out)) hb); clear HB; have HB := n0_; clear n0_; (try clear hb); (try clear hb2); (try clear hk); (try clear hi)) | (go_at_call 24; (with_reducible refine (fix_Q_Times.calls k a0 a1 t299 _ A8.out).mono ?_); rintro e w19 ⟨rfl, hb⟩; have n0_ := Aside0.mk (below_step (by repeat (first | (with_reducible first | exact HB.out | apply below_alloc | apply pw_below_drewN | apply below_drew1) | exact HB.out)) hb); clear HB; have HB := n0_; clear n0_; (try clear hb); (try clear hb2); (try clear hk); (try clear hi)) | (go_at_call 24; (with_reducible refine (fix_Q_Times.calls k a1 a0 t300 _ A10.out).mono ?_); rintro e w20 ⟨rfl, hb⟩; have n0_ := Aside0.mk (below_step (by repeat (first | (with_reducible first | exact HB.out | apply below_alloc | apply pw_below_drewN | apply below_drew1) | exact HB.out)) hb); clear HB; have HB := n0_; clear n0_; (try clear hb); (try clear hb2); (try clear hk); (try clear hi)) | (go_at_call 23; (with_reducible refine (fix_Q_Of.calls k 4294967296 a1 t301 _ A12.out).mono ?_); rintro e w21 ⟨rfl, hb⟩; have n0_ := Aside0.mk (below_step (by repeat (first | (with_reducible first | exact HB.out | apply below_alloc | apply pw_below_drewN | apply below_drew1) | exact HB.out)) hb); clear HB; have HB := n0_; clear n0_; (try clear hb); (try clear hb2); (try clear hk); (try clear hi)) | (go_at_call 15; (with_reducible refine (fix_Q_Floor.calls a0 t302 _ A14.out).mono ?_); rintro e w' ⟨rfl, ⟨nd, rfl⟩⟩) | (go_at_call 18; (with_reducible refine (overfallref02_Floor.calls k a0 t303 _ A15.out).mono ?_); rintro e w22 ⟨rfl, hb⟩; have n0_ := Aside0.mk (below_step (by repeat (first | (with_reducible first | exact HB.out | apply below_alloc | apply pw_below_drewN | apply below_drew1) | exact HB.out)) hb); clear HB; have HB := n0_; clear n0_; (try clear hb); (try clear hb2); (try clear hk); (try clear hi)))
      go_ret
      exact ⟨by first | rfl | (simp [errW_none, errW_some] <;> rfl) | (simp [*, errW_none, errW_some] <;> rfl), by repeat (first | (with_reducible first | exact HB.out | apply below_alloc | apply pw_below_drewN | apply below_drew1) | exact HB.out)⟩
     ·rw [if_neg c13] at H
      exact absurd H (by simp)
    ·rw [if_neg c11] at H
     exact absurd H (by simp)
   ·rw [if_neg c9] at H
    exact absurd H (by simp)
  ·rw [if_neg c7] at H
   exact absurd H (by simp)
 ·replace c4 := Bool.eq_false_iff.mpr c4
  subst c4
  have H1 : (none) = some r := by rw [if_neg (show ¬ (false = true) by decide)] at H; exact H
  clear H
  have H := H1
  clear H1
  exact absurd H (by simp)

/-- THE ONE PURE STATEMENT of overfalllaw02_FixTimes: yours. -/
def overfalllaw02_FixTimes.Pure : Prop := ∀ (a0 : Int) (a1 : Int), (Lit.int .i64 a0).wf = true → (Lit.int .i64 a1).wf = true → ∃ k, overfalllaw02_FixTimes.f k a0 a1 = some true
theorem overfalllaw02_FixTimes.walk (P : overfalllaw02_FixTimes.Pure) (a0 : Int) (a1 : Int) (w : World) (w0 : (Lit.int .i64 a0).wf = true) (w1 : (Lit.int .i64 a1).wf = true) :
  Calls Try.prog 6 #[.int .i64 a0, .int .i64 a1] w fun e w' => e = .returned (.bool true) ∧ Below w.heap.size w w' := by
 obtain ⟨k, h⟩ := P a0 a1 w0 w1
 refine (overfalllaw02_FixTimes.calls k a0 a1 true w h).mono ?_
 rintro e w' ⟨rfl, hd⟩
 exact ⟨rfl, hd⟩

end Go.Proofs.Ytjgjmeefieikaaa.T

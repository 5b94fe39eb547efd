-- Laid by a program of this claim's session (wip/tools/myprint.py) over the kit's printer.
import Derived.Test.YtdgbehbiigggmaaYx0
import Derived.Test.YtdgbehbiigggmaaYx3
import Derived.Test.YtdgbehbiigggmaaYx4
namespace Go.Proofs.Ytdgbehbiigggmaa.Y
open Go.RowKit Go.Proofs.YtdgbehbiigggmaaW.PrintWords Go.Proofs.YtdgbehbiigggmaaW.PrintLast Go.Proofs.YtdgbehbiigggmaaW.PrintMore
attribute [local go_sem] max2_int min2_int max_two min_two max_three min_three max_four min_four   -- for this text's walks alone
set_option linter.unusedVariables false
set_option linter.unusedSimpArgs false

/-! ### wide_Num_times: function 46 -/
def wide_Num_times.f (a0_0 : Int) (a0_1 : Int) (a1 : Int) : Option (Int × Int × Bool) := (wide_Mul.f a0_1 10).bind fun bt123 => ((wide_Mul.f a0_0 10).bind fun bt125 => ((wide_Num_Add.f bt125.2 0 bt123.1 bt123.2).bind fun bt129 => ((wide_Of.f (IntKind.u64.wrap (a1))).bind fun bt133 => ((wide_Num_Add.f bt129.1 bt129.2.1 bt133.1 bt133.2).bind fun bt135 => (if bt125.1 = 0 then (if bt129.2.2 = true then (some (bt135.1, bt135.2.1, true)) else (some (bt135.1, bt135.2.1, bt135.2.2))) else (some (bt135.1, bt135.2.1, true)))))))
def wide_Num_times.T1 : Bool × List (List Nat × List Nat) := (true, [([], []), ([0], [0]), ([1], [1]), ([], []), ([3], [3]), ([4, 2], [4]), ([], []), ([], []), ([6, 2, 5, 0, 1, 2, 6, 7], [2, 6]), ([7, 5, 8, 0, 1, 2, 3, 4, 5, 6, 7, 8], [5, 7])])
def wide_Num_times.B1 : List Nat := [0, 1, 3, 0, 8, 31, 0, 0, 255, 511]
theorem wide_Num_times.tab1 : rtab .any (opsOf Try.f46 1) = wide_Num_times.T1 := by kernel_rfl
theorem wide_Num_times.bits1 : waitsOk wide_Num_times.T1.2 wide_Num_times.B1 = true := by kernel_rfl
def wide_Num_times.T3 : Bool × List (List Nat × List Nat) := (true, [([], []), ([], []), ([1], [1]), ([2], [2]), ([0, 3, 3], [0, 3]), ([4], [4]), ([5], [5]), ([5], [5]), ([], []), ([8, 6, 4, 0, 1, 2, 3, 4, 5, 6, 8], [6, 8]), ([7, 9, 0, 1, 2, 3, 4, 5, 6, 7, 8, 9], [7])])
def wide_Num_times.B3 : List Nat := [0, 0, 2, 6, 15, 31, 63, 63, 0, 383, 1023]
theorem wide_Num_times.tab3 : rtab .any (opsOf Try.f46 3) = wide_Num_times.T3 := by kernel_rfl
theorem wide_Num_times.bits3 : waitsOk wide_Num_times.T3.2 wide_Num_times.B3 = true := by kernel_rfl
set_option maxHeartbeats 8000000 in
set_option maxRecDepth 100000 in
theorem wide_Num_times.calls (a0_0 : Int) (a0_1 : Int) (a1 : Int) (r1 : Int) (r2 : Int) (r3 : Bool) (w : World) (h : wide_Num_times.f a0_0 a0_1 a1 = some (r1, r2, r3)) :
  Calls Try.prog 46 #[.agg #[.int .u64 a0_0, .int .u64 a0_1], .int .u8 a1] w fun e w' => e = .returned (.tuple #[.agg #[.int .u64 r1, .int .u64 r2], .bool r3]) ∧ Below w.heap.size w w' := by
 have hu25 := Try.underlying25
 have HB := Aside0.mk (Below.refl w.heap.size w)
 have H : ((wide_Mul.f a0_1 10).bind fun bt123 => ((wide_Mul.f a0_0 10).bind fun bt125 => ((wide_Num_Add.f bt125.2 0 bt123.1 bt123.2).bind fun bt129 => ((wide_Of.f (IntKind.u64.wrap (a1))).bind fun bt133 => ((wide_Num_Add.f bt129.1 bt129.2.1 bt133.1 bt133.2).bind fun bt135 => (if bt125.1 = 0 then (if bt129.2.2 = true then (some (bt135.1, bt135.2.1, true)) else (some (bt135.1, bt135.2.1, bt135.2.2))) else (some (bt135.1, bt135.2.1, true)))))))) = some (r1, r2, r3) := h
 clear h
 replace H := Option.bind_eq_some_iff.mp H
 obtain ⟨⟨t123, t124⟩, A30, H⟩ := H
 replace H : ((wide_Mul.f a0_0 10).bind fun bt125 => ((wide_Num_Add.f bt125.2 0 t123 t124).bind fun bt129 => ((wide_Of.f (IntKind.u64.wrap (a1))).bind fun bt133 => ((wide_Num_Add.f bt129.1 bt129.2.1 bt133.1 bt133.2).bind fun bt135 => (if bt125.1 = 0 then (if bt129.2.2 = true then (some (bt135.1, bt135.2.1, true)) else (some (bt135.1, bt135.2.1, bt135.2.2))) else (some (bt135.1, bt135.2.1, true))))))) = some (r1, r2, r3) := H
 have A3 := Aside0.mk A30
 clear A30
 replace H := Option.bind_eq_some_iff.mp H
 obtain ⟨⟨t125, t126⟩, A40, H⟩ := H
 replace H : ((wide_Num_Add.f t126 0 t123 t124).bind fun bt129 => ((wide_Of.f (IntKind.u64.wrap (a1))).bind fun bt133 => ((wide_Num_Add.f bt129.1 bt129.2.1 bt133.1 bt133.2).bind fun bt135 => (if t125 = 0 then (if bt129.2.2 = true then (some (bt135.1, bt135.2.1, true)) else (some (bt135.1, bt135.2.1, bt135.2.2))) else (some (bt135.1, bt135.2.1, true)))))) = some (r1, r2, r3) := H
 have A4 := Aside0.mk A40
 clear A40
 replace H := Option.bind_eq_some_iff.mp H
 obtain ⟨⟨t129, t130, t131⟩, A50, H⟩ := H
 replace H : ((wide_Of.f (IntKind.u64.wrap (a1))).bind fun bt133 => ((wide_Num_Add.f t129 t130 bt133.1 bt133.2).bind fun bt135 => (if t125 = 0 then (if t131 = true then (some (bt135.1, bt135.2.1, true)) else (some (bt135.1, bt135.2.1, bt135.2.2))) else (some (bt135.1, bt135.2.1, true))))) = some (r1, r2, r3) := H
 have A5 := Aside0.mk A50
 clear A50
 replace H := Option.bind_eq_some_iff.mp H
 obtain ⟨⟨t133, t134⟩, A60, H⟩ := H
 replace H : ((wide_Num_Add.f t129 t130 t133 t134).bind fun bt135 => (if t125 = 0 then (if t131 = true then (some (bt135.1, bt135.2.1, true)) else (some (bt135.1, bt135.2.1, bt135.2.2))) else (some (bt135.1, bt135.2.1, true)))) = some (r1, r2, r3) := H
 have A6 := Aside0.mk A60
 clear A60
 replace H := Option.bind_eq_some_iff.mp H
 obtain ⟨⟨t135, t136, t137⟩, A70, H⟩ := H
 replace H : (if t125 = 0 then (if t131 = true then (some (t135, t136, true)) else (some (t135, t136, t137))) else (some (t135, t136, true))) = some (r1, r2, r3) := H
 have A7 := Aside0.mk A70
 clear A70
 by_cases c8 : t125 = 0
 ·rw [if_pos c8] at H
  have c8b0 : (t125 == 0) = true := beq_iff_eq.mpr c8
  have c8b1 : (t125 != 0) = false := bne_eq_false_iff_eq.mpr c8
  clear c8
  by_cases c9 : t131 = true
  ·subst c9
   have H1 : (some (t135, t136, true)) = some (r1, r2, r3) := by rw [if_pos rfl] at H; exact H
   clear H
   have H := H1
   clear H1
   simp only [Option.some.injEq, Prod.mk.injEq] at H
   obtain ⟨rfl, rfl, rfl⟩ := H
   go_enter Try.func46, Try.ntmps46
   try go_wp2_with (first | ((with_reducible refine gate_dst (N := 2) rfl ?_); refine box_event ?hg (N := 2) ?hd (cs := #[.int .u64 a0_0, .int .u64 a0_1]) (t := 25) ?hr ?_; (case hd => rfl); (case hg => rfl); (case hr => first | (go_simp; done) | (go_simp; rfl)); intro gb121 hg w10 hbox hb; have n0_ := Aside0.mk (below_step (by repeat (first | (with_reducible first | exact HB.out | apply below_alloc | apply pw_below_drewN | apply below_drew1) | exact HB.out)) hb); have n1_ := Aside0.mk (hbox); have n2_ := Aside0.mk ((by rw [hg]; exact (below_size (by repeat (first | (with_reducible first | exact HB.out | apply below_alloc | apply pw_below_drewN | apply below_drew1) | exact HB.out))) : w.heap.size ≤ gb121)); have n3_ := Aside0.mk ((by rw [hg]; exact (below_size (by repeat (first | (with_reducible first | exact HB.out | apply below_alloc | apply pw_below_drewN | apply below_drew1) | exact HB.out))) : w.heap.size ≤ gb121)); clear HB; have HB := n0_; have BK121 := n1_; have GW121 := n2_; have GE121 := n3_; clear n0_ n1_ n2_ n3_; clear hb hbox hg) | ((with_reducible refine gate_dst (N := 4) rfl ?_); refine box_event ?hg (N := 4) ?hd (cs := #[.int .u64 0, .int .u64 0]) (t := 25) ?hr ?_; (case hd => rfl); (case hg => rfl); (case hr => first | (go_simp; done) | (go_simp; rfl)); intro gb122 hg w11 hbox hb; have n0_ := Aside0.mk (blk_below (by exact BK121.out) hb); have n1_ := Aside0.mk (below_step (by repeat (first | (with_reducible first | exact HB.out | apply below_alloc | apply pw_below_drewN | apply below_drew1 | refine below_set ?_ GE121.out) | exact HB.out)) hb); have n2_ := Aside0.mk (hbox); have n3_ := Aside0.mk ((by rw [hg]; exact (below_size (by repeat (first | (with_reducible first | exact HB.out | apply below_alloc | apply pw_below_drewN | apply below_drew1 | refine below_set ?_ GE121.out) | exact HB.out))) : w.heap.size ≤ gb122)); have n4_ := Aside0.mk ((by rw [hg]; exact (below_size (by repeat (first | (with_reducible first | exact HB.out | apply below_alloc | apply pw_below_drewN | apply below_drew1 | refine below_set ?_ GE121.out) | exact HB.out))) : w.heap.size ≤ gb122)); have n5_ := Aside0.mk ((by rw [hg]; exact Nat.ne_of_lt (blk_lt (by exact BK121.out)) : gb121 ≠ gb122)); have n6_ := Aside0.mk ((by rw [hg]; exact Nat.ne_of_gt (blk_lt (by exact BK121.out)) : gb122 ≠ gb121)); clear BK121; clear HB; have BK121 := n0_; have HB := n1_; have BK122 := n2_; have GW122 := n3_; have GE122 := n4_; have NB121_122 := n5_; have NB122_121 := n6_; clear n0_ n1_ n2_ n3_ n4_ n5_ n6_; clear hb hbox hg))
   have n0_ := Aside0.mk (blk_drew BK121.out)
   have n1_ := Aside0.mk (blk_drew BK122.out)
   have n2_ := Aside0.mk (below_drew1 HB.out)
   clear BK121
   clear BK122
   clear HB
   have BK121 := n0_
   have BK122 := n1_
   have HB := n2_
   clear n0_ n1_ n2_
   refine start_ (n := 10) (S := fun w' => True) (ds := []) #[false, false, false, false, false, false, false, false, false, false] (by kernel_rfl) rfl rfl trivial (fun hHeld => ?_); refine with_tabW wide_Num_times.tab1 wide_Num_times.bits1 (fun HT_ HW_ => ?_)
   generalize w11.drew = w12 at BK121 BK122 HB hHeld ⊢
   refine pure_ (i := 0) (N := some 12) (v := ?_) (a' := ?_) #[true, false, false, false, false, false, false, false, false, false] rfl rfl (any_of HT_.out (by kernel_rfl)) (fun _ _ _ h => h) (Or.inl ⟨by rfl, ?_⟩) ?_ ?_
   rotate_left
   ·intro w'
    go_simp
    with_reducible rfl
   rotate_left
   ·simp only [Act.put, List.setIfInBounds_toArray, List.set_cons_zero, List.set_cons_succ, i64_w, i32_w]
    rfl
   refine pure_ (i := 3) (N := some 15) (v := ?_) (a' := ?_) #[true, false, false, true, false, false, false, false, false, false] rfl rfl (any_of HT_.out (by kernel_rfl)) (fun _ _ _ h => h) (Or.inl ⟨by rfl, ?_⟩) ?_ ?_
   rotate_left
   ·intro w'
    go_simp
    with_reducible rfl
   rotate_left
   ·simp only [Act.put, List.setIfInBounds_toArray, List.set_cons_zero, List.set_cons_succ, i64_w, i32_w]
    rfl
   refine inv_at [1, 2, 4, 5, 6, 7, 8, 9] (fun a0_ b a w' => ∃ (gb127 : Nat) (gb128 : Nat) (m6_ : Value) (m7_ : Value), a = putSel a0_ b [(1, 13, .int .u64 a0_1), (2, 14, .agg #[.int .u64 t123, .int .u64 t124]), (4, 16, .int .u64 a0_0), (5, 17, .agg #[.int .u64 t125, .int .u64 t126]), (6, 6, m6_), (7, 7, m7_)] ∧ (w'.heap[gb121]? = some (.cells #[.int .u64 a0_0, .int .u64 a0_1] 25 (0, 0))) ∧ (w'.heap[gb122]? = some (.cells #[.int .u64 0, .int .u64 0] 25 (0, 0))) ∧ (Below w.heap.size w w') ∧ (b 6 = true → b 7 = true → gb128 ≠ gb127) ∧ (b 6 = true → b 7 = true → gb127 ≠ gb128) ∧ (b 6 = true → b 8 = false → w'.heap[gb127]? = some (.cells #[.int .u64 0, .int .u64 0] 25 (0, 0))) ∧ (b 6 = true → w.heap.size ≤ gb127) ∧ (b 6 = true → w.heap.size ≤ gb127) ∧ (b 6 = true → gb121 ≠ gb127) ∧ (b 6 = true → gb127 ≠ gb121) ∧ (b 6 = true → gb122 ≠ gb127) ∧ (b 6 = true → gb127 ≠ gb122) ∧ (b 7 = true → b 9 = false → w'.heap[gb128]? = some (.cells #[.int .u64 0, .int .u64 0] 25 (0, 0))) ∧ (b 7 = true → w.heap.size ≤ gb128) ∧ (b 7 = true → w.heap.size ≤ gb128) ∧ (b 7 = true → gb121 ≠ gb128) ∧ (b 7 = true → gb128 ≠ gb121) ∧ (b 7 = true → gb122 ≠ gb128) ∧ (b 7 = true → gb128 ≠ gb122) ∧ (b 8 = true → w'.heap[gb127]? = some (.cells #[.int .u64 t123, .int .u64 t124] 25 (0, 0))) ∧ (b 9 = true → w'.heap[gb128]? = some (.cells #[.int .u64 t125, .int .u64 t126] 25 (0, 0))) ∧ (b 6 = true → (m6_ : Value) = .pointer (some ⟨gb127, 0, none⟩)) ∧ (b 7 = true → (m7_ : Value) = .pointer (some ⟨gb128, 0, none⟩))) HT_.out HW_.out (by kernel_rfl) (by kernel_rfl) ?_ ?_ ?_
   ·exact ⟨0, 0, .bool false, .bool false, by simp only [putSel, Bool.false_eq_true, if_false], BK121.out, BK122.out, HB.out, fun h_ => absurd h_ (by decide), fun h_ => absurd h_ (by decide), fun h_ => absurd h_ (by decide), fun h_ => absurd h_ (by decide), fun h_ => absurd h_ (by decide), fun h_ => absurd h_ (by decide), fun h_ => absurd h_ (by decide), fun h_ => absurd h_ (by decide), fun h_ => absurd h_ (by decide), fun h_ => absurd h_ (by decide), fun h_ => absurd h_ (by decide), fun h_ => absurd h_ (by decide), fun h_ => absurd h_ (by decide), fun h_ => absurd h_ (by decide), fun h_ => absurd h_ (by decide), fun h_ => absurd h_ (by decide), fun h_ => absurd h_ (by decide), fun h_ => absurd h_ (by decide), fun h_ => absurd h_ (by decide), fun h_ => absurd h_ (by decide)⟩
   ·skip
    clear BK121 BK122 HB
    refine steps_cons ?_ ?_
    ·rintro b a w' ⟨gb127, gb128, m6_, m7_, ha, Q_BK121, Q_BK122, Q_HB, Q_NB128_127, Q_NB127_128, Q_BK127, Q_GW127, Q_GE127, Q_NB121_127, Q_NB127_121, Q_NB122_127, Q_NB127_122, Q_BK128, Q_GW128, Q_GE128, Q_NB121_128, Q_NB128_121, Q_NB122_128, Q_NB128_122, Q_BK127_e8, Q_BK128_e9, Q_X6_, Q_X7_⟩ hb_ hon hoff
     refine ⟨_, rfl, fun K hK => ?_⟩
     have e12 : a.tmps[12]? = some (.pointer (some ⟨gb121, 1, none⟩)) := by rw [ha]; exact (putSel_off rfl).trans rfl
     replace ha := Aside0.mk ha
     have BK121 := Aside0.mk Q_BK121
     have BK122 := Aside0.mk Q_BK122
     have HB := Aside0.mk Q_HB
     have hc0_ : w'.cell? ⟨gb121, 0, none⟩ = some (.int .u64 a0_0) := (blk_cell BK121.out 0).trans rfl
     have hc1_ : w'.cell? ⟨gb121, 1, none⟩ = some (.int .u64 a0_1) := (blk_cell BK121.out 1).trans rfl
     refine value_ (w1 := w') (v := .int .u64 a0_1) (by rfl) rfl ?_ ?_
     ·go_simp
      (try simp only [i64_w])
      try rfl
     refine hK.out _ _ ⟨gb127, gb128, m6_, m7_, (by rw [ha.out]; exact putSel_upk 0 hb_ rfl rfl rfl), Q_BK121, Q_BK122, Q_HB, Q_NB128_127, Q_NB127_128, Q_BK127, Q_GW127, Q_GE127, Q_NB121_127, Q_NB127_121, Q_NB122_127, Q_NB127_122, Q_BK128, Q_GW128, Q_GE128, Q_NB121_128, Q_NB128_121, Q_NB122_128, Q_NB128_122, fun h0_ => absurd ((hoff 8 (by kernel_rfl)).symm.trans h0_) (by decide), fun h0_ => absurd ((hoff 9 (by kernel_rfl)).symm.trans h0_) (by decide), Q_X6_, Q_X7_⟩
    refine steps_cons ?_ ?_
    ·rintro b a w' ⟨gb127, gb128, m6_, m7_, ha, Q_BK121, Q_BK122, Q_HB, Q_NB128_127, Q_NB127_128, Q_BK127, Q_GW127, Q_GE127, Q_NB121_127, Q_NB127_121, Q_NB122_127, Q_NB127_122, Q_BK128, Q_GW128, Q_GE128, Q_NB121_128, Q_NB128_121, Q_NB122_128, Q_NB128_122, Q_BK127_e8, Q_BK128_e9, Q_X6_, Q_X7_⟩ hb_ hon hoff
     refine ⟨_, rfl, fun K hK => ?_⟩
     have e13 : a.tmps[13]? = some (.int .u64 a0_1) := by rw [ha]; exact putSel_on (e := (1, 13, .int .u64 a0_1)) 0 rfl rfl (hon 1 (by kernel_rfl)) rfl
     replace ha := Aside0.mk ha
     have BK121 := Aside0.mk Q_BK121
     have BK122 := Aside0.mk Q_BK122
     have HB := Aside0.mk Q_HB
     refine goes_ Try.func12 (by kernel_rfl) rfl #[.int .u64 a0_1, .int .u64 10] (by rfl) rfl rfl (by first | (simp only [List.map_toArray, List.map_cons, List.map_nil, Act.eval, Array.getD_eq_getD_getElem?, Option.getD_some, e13]; done) | (simp only [List.map_toArray, List.map_cons, List.map_nil, Act.eval, Array.getD_eq_getD_getElem?, Option.getD_some, e13]; rfl)) ?_
     with_reducible refine (wide_Mul.calls a0_1 10 t123 t124 _ A3.out).mono ?_
     rintro e w13 ⟨rfl, hb⟩
     refine ⟨_, rfl, ?_⟩
     have n0_ := Aside0.mk (blk_below (by exact BK121.out) hb)
     have n1_ := Aside0.mk (blk_below (by exact BK122.out) hb)
     have n2_ := Aside0.mk (below_step (by repeat (first | (with_reducible first | exact HB.out | apply below_alloc | apply pw_below_drewN | apply below_drew1 | refine below_set ?_ GE121.out | refine below_set ?_ GE122.out) | exact HB.out)) hb)
     have z_BK127 := fun (h0_ : b 6 = true) (h1_ : b 8 = false) => (show w13.heap[gb127]? = some (.cells #[.int .u64 0, .int .u64 0] 25 (0, 0)) from by first | exact (blk_below (g := gb127) (o := .cells #[.int .u64 0, .int .u64 0] 25 (0, 0)) (by exact (Q_BK127 h0_ h1_)) hb))
     have z_BK128 := fun (h0_ : b 7 = true) (h1_ : b 9 = false) => (show w13.heap[gb128]? = some (.cells #[.int .u64 0, .int .u64 0] 25 (0, 0)) from by first | exact (blk_below (g := gb128) (o := .cells #[.int .u64 0, .int .u64 0] 25 (0, 0)) (by exact (Q_BK128 h0_ h1_)) hb))
     clear BK121
     clear BK122
     clear HB
     have BK121 := n0_
     have BK122 := n1_
     have HB := n2_
     clear n0_ n1_ n2_
     (try clear hb)
     (try clear hb2)
     (try clear hk)
     (try clear hi)
     refine hK.out _ _ ⟨gb127, gb128, m6_, m7_, (by rw [ha.out]; exact putSel_upk 1 hb_ rfl rfl rfl), (by exact BK121.out), (by exact BK122.out), (by repeat (first | (with_reducible first | exact HB.out | apply below_alloc | apply pw_below_drewN | apply below_drew1 | refine below_set ?_ GE121.out | refine below_set ?_ GE122.out) | exact HB.out)), Q_NB128_127, Q_NB127_128, z_BK127, Q_GW127, Q_GE127, Q_NB121_127, Q_NB127_121, Q_NB122_127, Q_NB127_122, z_BK128, Q_GW128, Q_GE128, Q_NB121_128, Q_NB128_121, Q_NB122_128, Q_NB128_122, fun h0_ => absurd ((hoff 8 (by kernel_rfl)).symm.trans h0_) (by decide), fun h0_ => absurd ((hoff 9 (by kernel_rfl)).symm.trans h0_) (by decide), Q_X6_, Q_X7_⟩
    refine steps_cons ?_ ?_
    ·rintro b a w' ⟨gb127, gb128, m6_, m7_, ha, Q_BK121, Q_BK122, Q_HB, Q_NB128_127, Q_NB127_128, Q_BK127, Q_GW127, Q_GE127, Q_NB121_127, Q_NB127_121, Q_NB122_127, Q_NB127_122, Q_BK128, Q_GW128, Q_GE128, Q_NB121_128, Q_NB128_121, Q_NB122_128, Q_NB128_122, Q_BK127_e8, Q_BK128_e9, Q_X6_, Q_X7_⟩ hb_ hon hoff
     refine ⟨_, rfl, fun K hK => ?_⟩
     have e15 : a.tmps[15]? = some (.pointer (some ⟨gb121, 0, none⟩)) := by rw [ha]; exact (putSel_off rfl).trans rfl
     replace ha := Aside0.mk ha
     have BK121 := Aside0.mk Q_BK121
     have BK122 := Aside0.mk Q_BK122
     have HB := Aside0.mk Q_HB
     have hc0_ : w'.cell? ⟨gb121, 0, none⟩ = some (.int .u64 a0_0) := (blk_cell BK121.out 0).trans rfl
     have hc1_ : w'.cell? ⟨gb121, 1, none⟩ = some (.int .u64 a0_1) := (blk_cell BK121.out 1).trans rfl
     refine value_ (w1 := w') (v := .int .u64 a0_0) (by rfl) rfl ?_ ?_
     ·go_simp
      (try simp only [i64_w])
      try rfl
     refine hK.out _ _ ⟨gb127, gb128, m6_, m7_, (by rw [ha.out]; exact putSel_upk 2 hb_ rfl rfl rfl), Q_BK121, Q_BK122, Q_HB, Q_NB128_127, Q_NB127_128, Q_BK127, Q_GW127, Q_GE127, Q_NB121_127, Q_NB127_121, Q_NB122_127, Q_NB127_122, Q_BK128, Q_GW128, Q_GE128, Q_NB121_128, Q_NB128_121, Q_NB122_128, Q_NB128_122, fun h0_ => absurd ((hoff 8 (by kernel_rfl)).symm.trans h0_) (by decide), fun h0_ => absurd ((hoff 9 (by kernel_rfl)).symm.trans h0_) (by decide), Q_X6_, Q_X7_⟩
    refine steps_cons ?_ ?_
    ·rintro b a w' ⟨gb127, gb128, m6_, m7_, ha, Q_BK121, Q_BK122, Q_HB, Q_NB128_127, Q_NB127_128, Q_BK127, Q_GW127, Q_GE127, Q_NB121_127, Q_NB127_121, Q_NB122_127, Q_NB127_122, Q_BK128, Q_GW128, Q_GE128, Q_NB121_128, Q_NB128_121, Q_NB122_128, Q_NB128_122, Q_BK127_e8, Q_BK128_e9, Q_X6_, Q_X7_⟩ hb_ hon hoff
     refine ⟨_, rfl, fun K hK => ?_⟩
     have e16 : a.tmps[16]? = some (.int .u64 a0_0) := by rw [ha]; exact putSel_on (e := (4, 16, .int .u64 a0_0)) 2 rfl rfl (hon 4 (by kernel_rfl)) rfl
     replace ha := Aside0.mk ha
     have BK121 := Aside0.mk Q_BK121
     have BK122 := Aside0.mk Q_BK122
     have HB := Aside0.mk Q_HB
     refine goes_ Try.func12 (by kernel_rfl) rfl #[.int .u64 a0_0, .int .u64 10] (by rfl) rfl rfl (by first | (simp only [List.map_toArray, List.map_cons, List.map_nil, Act.eval, Array.getD_eq_getD_getElem?, Option.getD_some, e16]; done) | (simp only [List.map_toArray, List.map_cons, List.map_nil, Act.eval, Array.getD_eq_getD_getElem?, Option.getD_some, e16]; rfl)) ?_
     with_reducible refine (wide_Mul.calls a0_0 10 t125 t126 _ A4.out).mono ?_
     rintro e w15 ⟨rfl, hb⟩
     refine ⟨_, rfl, ?_⟩
     have n0_ := Aside0.mk (blk_below (by exact BK121.out) hb)
     have n1_ := Aside0.mk (blk_below (by exact BK122.out) hb)
     have n2_ := Aside0.mk (below_step (by repeat (first | (with_reducible first | exact HB.out | apply below_alloc | apply pw_below_drewN | apply below_drew1 | refine below_set ?_ GE121.out | refine below_set ?_ GE122.out) | exact HB.out)) hb)
     have z_BK127 := fun (h0_ : b 6 = true) (h1_ : b 8 = false) => (show w15.heap[gb127]? = some (.cells #[.int .u64 0, .int .u64 0] 25 (0, 0)) from by first | exact (blk_below (g := gb127) (o := .cells #[.int .u64 0, .int .u64 0] 25 (0, 0)) (by exact (Q_BK127 h0_ h1_)) hb))
     have z_BK128 := fun (h0_ : b 7 = true) (h1_ : b 9 = false) => (show w15.heap[gb128]? = some (.cells #[.int .u64 0, .int .u64 0] 25 (0, 0)) from by first | exact (blk_below (g := gb128) (o := .cells #[.int .u64 0, .int .u64 0] 25 (0, 0)) (by exact (Q_BK128 h0_ h1_)) hb))
     clear BK121
     clear BK122
     clear HB
     have BK121 := n0_
     have BK122 := n1_
     have HB := n2_
     clear n0_ n1_ n2_
     (try clear hb)
     (try clear hb2)
     (try clear hk)
     (try clear hi)
     refine hK.out _ _ ⟨gb127, gb128, m6_, m7_, (by rw [ha.out]; exact putSel_upk 3 hb_ rfl rfl rfl), (by exact BK121.out), (by exact BK122.out), (by repeat (first | (with_reducible first | exact HB.out | apply below_alloc | apply pw_below_drewN | apply below_drew1 | refine below_set ?_ GE121.out | refine below_set ?_ GE122.out) | exact HB.out)), Q_NB128_127, Q_NB127_128, z_BK127, Q_GW127, Q_GE127, Q_NB121_127, Q_NB127_121, Q_NB122_127, Q_NB127_122, z_BK128, Q_GW128, Q_GE128, Q_NB121_128, Q_NB128_121, Q_NB122_128, Q_NB128_122, fun h0_ => absurd ((hoff 8 (by kernel_rfl)).symm.trans h0_) (by decide), fun h0_ => absurd ((hoff 9 (by kernel_rfl)).symm.trans h0_) (by decide), Q_X6_, Q_X7_⟩
    refine steps_cons ?_ ?_
    ·rintro b a w' ⟨gb127, gb128, m6_, m7_, ha, Q_BK121, Q_BK122, Q_HB, Q_NB128_127, Q_NB127_128, Q_BK127, Q_GW127, Q_GE127, Q_NB121_127, Q_NB127_121, Q_NB122_127, Q_NB127_122, Q_BK128, Q_GW128, Q_GE128, Q_NB121_128, Q_NB128_121, Q_NB122_128, Q_NB128_122, Q_BK127_e8, Q_BK128_e9, Q_X6_, Q_X7_⟩ hb_ hon hoff
     refine ⟨_, rfl, fun K hK => ?_⟩
     replace ha := Aside0.mk ha
     have BK121 := Aside0.mk Q_BK121
     have BK122 := Aside0.mk Q_BK122
     have HB := Aside0.mk Q_HB
     refine box_step ?hg (N := 6) ?hd (cs := #[.int .u64 0, .int .u64 0]) (t := 25) ?hr ?_; (case hd => rfl); (case hg => rfl); (case hr => first | (go_simp; done) | (go_simp; rfl))
     intro gb127 hg w13 hbox hb
     have n0_ := Aside0.mk (blk_below (by exact BK121.out) hb)
     have n1_ := Aside0.mk (blk_below (by exact BK122.out) hb)
     have n2_ := Aside0.mk (below_step (by repeat (first | (with_reducible first | exact HB.out | apply below_alloc | apply pw_below_drewN | apply below_drew1 | refine below_set ?_ GE121.out | refine below_set ?_ GE122.out) | exact HB.out)) hb)
     have n3_ := Aside0.mk (hbox)
     have n4_ := Aside0.mk ((by rw [hg]; exact (below_size (by repeat (first | (with_reducible first | exact HB.out | apply below_alloc | apply pw_below_drewN | apply below_drew1 | refine below_set ?_ GE121.out | refine below_set ?_ GE122.out) | exact HB.out))) : w.heap.size ≤ gb127))
     have n5_ := Aside0.mk ((by rw [hg]; exact (below_size (by repeat (first | (with_reducible first | exact HB.out | apply below_alloc | apply pw_below_drewN | apply below_drew1 | refine below_set ?_ GE121.out | refine below_set ?_ GE122.out) | exact HB.out))) : w.heap.size ≤ gb127))
     have n6_ := Aside0.mk ((by rw [hg]; exact Nat.ne_of_lt (blk_lt (by exact BK121.out)) : gb121 ≠ gb127))
     have n7_ := Aside0.mk ((by rw [hg]; exact Nat.ne_of_gt (blk_lt (by exact BK121.out)) : gb127 ≠ gb121))
     have n8_ := Aside0.mk ((by rw [hg]; exact Nat.ne_of_lt (blk_lt (by exact BK122.out)) : gb122 ≠ gb127))
     have n9_ := Aside0.mk ((by rw [hg]; exact Nat.ne_of_gt (blk_lt (by exact BK122.out)) : gb127 ≠ gb122))
     have z_NB128_127 := fun (h0_ : up b 6 6 = true) (h1_ : up b 6 7 = true) => (show gb128 ≠ gb127 from ((by rw [hg]; exact Nat.ne_of_lt (blk_lt (by exact (Q_BK128 h1_ (hoff 9 (by kernel_rfl))))) : gb128 ≠ gb127)))
     have z_NB127_128 := fun (h0_ : up b 6 6 = true) (h1_ : up b 6 7 = true) => (show gb127 ≠ gb128 from ((by rw [hg]; exact Nat.ne_of_gt (blk_lt (by exact (Q_BK128 h1_ (hoff 9 (by kernel_rfl))))) : gb127 ≠ gb128)))
     have z_BK128 := fun (h0_ : b 7 = true) (h1_ : b 9 = false) => (show w13.heap[gb128]? = some (.cells #[.int .u64 0, .int .u64 0] 25 (0, 0)) from by first | exact (blk_below (g := gb128) (o := .cells #[.int .u64 0, .int .u64 0] 25 (0, 0)) (by exact (Q_BK128 h0_ h1_)) hb))
     clear BK121
     clear BK122
     clear HB
     have BK121 := n0_
     have BK122 := n1_
     have HB := n2_
     have BK127 := n3_
     have GW127 := n4_
     have GE127 := n5_
     have NB121_127 := n6_
     have NB127_121 := n7_
     have NB122_127 := n8_
     have NB127_122 := n9_
     clear n0_ n1_ n2_ n3_ n4_ n5_ n6_ n7_ n8_ n9_
     clear hb hbox hg
     refine hK.out _ _ ⟨gb127, gb128, (.pointer (some ⟨gb127, 0, none⟩)), m7_, (by rw [ha.out]; exact putSel_upk 4 hb_ rfl rfl rfl), (by exact BK121.out), (by exact BK122.out), (by repeat (first | (with_reducible first | exact HB.out | apply below_alloc | apply pw_below_drewN | apply below_drew1 | refine below_set ?_ GE121.out | refine below_set ?_ GE122.out | refine below_set ?_ GE127.out) | exact HB.out)), @z_NB128_127, @z_NB127_128, fun _ _ => (by exact BK127.out), fun _ => GW127.out, fun _ => GE127.out, fun _ => NB121_127.out, fun _ => NB127_121.out, fun _ => NB122_127.out, fun _ => NB127_122.out, z_BK128, Q_GW128, Q_GE128, Q_NB121_128, Q_NB128_121, Q_NB122_128, Q_NB128_122, fun h0_ => absurd ((hoff 8 (by kernel_rfl)).symm.trans h0_) (by decide), fun h0_ => absurd ((hoff 9 (by kernel_rfl)).symm.trans h0_) (by decide), fun _ => rfl, Q_X7_⟩
    refine steps_cons ?_ ?_
    ·rintro b a w' ⟨gb127, gb128, m6_, m7_, ha, Q_BK121, Q_BK122, Q_HB, Q_NB128_127, Q_NB127_128, Q_BK127, Q_GW127, Q_GE127, Q_NB121_127, Q_NB127_121, Q_NB122_127, Q_NB127_122, Q_BK128, Q_GW128, Q_GE128, Q_NB121_128, Q_NB128_121, Q_NB122_128, Q_NB128_122, Q_BK127_e8, Q_BK128_e9, Q_X6_, Q_X7_⟩ hb_ hon hoff
     refine ⟨_, rfl, fun K hK => ?_⟩
     replace ha := Aside0.mk ha
     have BK121 := Aside0.mk Q_BK121
     have BK122 := Aside0.mk Q_BK122
     have HB := Aside0.mk Q_HB
     refine box_step ?hg (N := 7) ?hd (cs := #[.int .u64 0, .int .u64 0]) (t := 25) ?hr ?_; (case hd => rfl); (case hg => rfl); (case hr => first | (go_simp; done) | (go_simp; rfl))
     intro gb128 hg w13 hbox hb
     have n0_ := Aside0.mk (blk_below (by exact BK121.out) hb)
     have n1_ := Aside0.mk (blk_below (by exact BK122.out) hb)
     have n2_ := Aside0.mk (below_step (by repeat (first | (with_reducible first | exact HB.out | apply below_alloc | apply pw_below_drewN | apply below_drew1 | refine below_set ?_ GE121.out | refine below_set ?_ GE122.out) | exact HB.out)) hb)
     have n3_ := Aside0.mk (hbox)
     have n4_ := Aside0.mk ((by rw [hg]; exact (below_size (by repeat (first | (with_reducible first | exact HB.out | apply below_alloc | apply pw_below_drewN | apply below_drew1 | refine below_set ?_ GE121.out | refine below_set ?_ GE122.out) | exact HB.out))) : w.heap.size ≤ gb128))
     have n5_ := Aside0.mk ((by rw [hg]; exact (below_size (by repeat (first | (with_reducible first | exact HB.out | apply below_alloc | apply pw_below_drewN | apply below_drew1 | refine below_set ?_ GE121.out | refine below_set ?_ GE122.out) | exact HB.out))) : w.heap.size ≤ gb128))
     have n6_ := Aside0.mk ((by rw [hg]; exact Nat.ne_of_lt (blk_lt (by exact BK121.out)) : gb121 ≠ gb128))
     have n7_ := Aside0.mk ((by rw [hg]; exact Nat.ne_of_gt (blk_lt (by exact BK121.out)) : gb128 ≠ gb121))
     have n8_ := Aside0.mk ((by rw [hg]; exact Nat.ne_of_lt (blk_lt (by exact BK122.out)) : gb122 ≠ gb128))
     have n9_ := Aside0.mk ((by rw [hg]; exact Nat.ne_of_gt (blk_lt (by exact BK122.out)) : gb128 ≠ gb122))
     have z_NB128_127 := fun (h0_ : up b 7 6 = true) (h1_ : up b 7 7 = true) => (show gb128 ≠ gb127 from ((by rw [hg]; exact Nat.ne_of_gt (blk_lt (by exact (Q_BK127 h0_ (hoff 8 (by kernel_rfl))))) : gb128 ≠ gb127)))
     have z_NB127_128 := fun (h0_ : up b 7 6 = true) (h1_ : up b 7 7 = true) => (show gb127 ≠ gb128 from ((by rw [hg]; exact Nat.ne_of_lt (blk_lt (by exact (Q_BK127 h0_ (hoff 8 (by kernel_rfl))))) : gb127 ≠ gb128)))
     have z_BK127 := fun (h0_ : b 6 = true) (h1_ : b 8 = false) => (show w13.heap[gb127]? = some (.cells #[.int .u64 0, .int .u64 0] 25 (0, 0)) from by first | exact (blk_below (g := gb127) (o := .cells #[.int .u64 0, .int .u64 0] 25 (0, 0)) (by exact (Q_BK127 h0_ h1_)) hb))
     clear BK121
     clear BK122
     clear HB
     have BK121 := n0_
     have BK122 := n1_
     have HB := n2_
     have BK128 := n3_
     have GW128 := n4_
     have GE128 := n5_
     have NB121_128 := n6_
     have NB128_121 := n7_
     have NB122_128 := n8_
     have NB128_122 := n9_
     clear n0_ n1_ n2_ n3_ n4_ n5_ n6_ n7_ n8_ n9_
     clear hb hbox hg
     refine hK.out _ _ ⟨gb127, gb128, m6_, (.pointer (some ⟨gb128, 0, none⟩)), (by rw [ha.out]; exact putSel_upk 5 hb_ rfl rfl rfl), (by exact BK121.out), (by exact BK122.out), (by repeat (first | (with_reducible first | exact HB.out | apply below_alloc | apply pw_below_drewN | apply below_drew1 | refine below_set ?_ GE121.out | refine below_set ?_ GE122.out | refine below_set ?_ GE128.out) | exact HB.out)), @z_NB128_127, @z_NB127_128, z_BK127, Q_GW127, Q_GE127, Q_NB121_127, Q_NB127_121, Q_NB122_127, Q_NB127_122, fun _ _ => (by exact BK128.out), fun _ => GW128.out, fun _ => GE128.out, fun _ => NB121_128.out, fun _ => NB128_121.out, fun _ => NB122_128.out, fun _ => NB128_122.out, fun h0_ => absurd ((hoff 8 (by kernel_rfl)).symm.trans h0_) (by decide), fun h0_ => absurd ((hoff 9 (by kernel_rfl)).symm.trans h0_) (by decide), Q_X6_, fun _ => rfl⟩
    refine steps_cons ?_ ?_
    ·rintro b a w' ⟨gb127, gb128, m6_, m7_, ha, Q_BK121, Q_BK122, Q_HB, Q_NB128_127, Q_NB127_128, Q_BK127, Q_GW127, Q_GE127, Q_NB121_127, Q_NB127_121, Q_NB122_127, Q_NB127_122, Q_BK128, Q_GW128, Q_GE128, Q_NB121_128, Q_NB128_121, Q_NB122_128, Q_NB128_122, Q_BK127_e8, Q_BK128_e9, Q_X6_, Q_X7_⟩ hb_ hon hoff
     refine ⟨_, rfl, fun K hK => ?_⟩
     have e6 : a.tmps[6]? = some (m6_) := by rw [ha]; exact putSel_on (e := (6, 6, m6_)) 4 rfl rfl (hon 6 (by kernel_rfl)) rfl
     rw [Q_X6_ (hon 6 (by kernel_rfl))] at e6
     have e14 : a.tmps[14]? = some (.agg #[.int .u64 t123, .int .u64 t124]) := by rw [ha]; exact putSel_on (e := (2, 14, .agg #[.int .u64 t123, .int .u64 t124])) 1 rfl rfl (hon 2 (by kernel_rfl)) rfl
     replace ha := Aside0.mk ha
     have BK121 := Aside0.mk Q_BK121
     have BK122 := Aside0.mk Q_BK122
     have HB := Aside0.mk Q_HB
     have NB128_127 := Aside0.mk (Q_NB128_127 (hon 6 (by kernel_rfl)) (hon 7 (by kernel_rfl)))
     have NB127_128 := Aside0.mk (Q_NB127_128 (hon 6 (by kernel_rfl)) (hon 7 (by kernel_rfl)))
     have BK127 := Aside0.mk (Q_BK127 (hon 6 (by kernel_rfl)) hb_)
     have GW127 := Aside0.mk (Q_GW127 (hon 6 (by kernel_rfl)))
     have GE127 := Aside0.mk (Q_GE127 (hon 6 (by kernel_rfl)))
     have NB121_127 := Aside0.mk (Q_NB121_127 (hon 6 (by kernel_rfl)))
     have NB127_121 := Aside0.mk (Q_NB127_121 (hon 6 (by kernel_rfl)))
     have NB122_127 := Aside0.mk (Q_NB122_127 (hon 6 (by kernel_rfl)))
     have NB127_122 := Aside0.mk (Q_NB127_122 (hon 6 (by kernel_rfl)))
     have BK128 := Aside0.mk (Q_BK128 (hon 7 (by kernel_rfl)) (hoff 9 (by kernel_rfl)))
     have GW128 := Aside0.mk (Q_GW128 (hon 7 (by kernel_rfl)))
     have GE128 := Aside0.mk (Q_GE128 (hon 7 (by kernel_rfl)))
     have NB121_128 := Aside0.mk (Q_NB121_128 (hon 7 (by kernel_rfl)))
     have NB128_121 := Aside0.mk (Q_NB128_121 (hon 7 (by kernel_rfl)))
     have NB122_128 := Aside0.mk (Q_NB122_128 (hon 7 (by kernel_rfl)))
     have NB128_122 := Aside0.mk (Q_NB128_122 (hon 7 (by kernel_rfl)))
     have hs18 : w'.cell? ⟨gb127, 0, none⟩ = some (.int .u64 0) := (blk_cell BK127.out 0).trans rfl
     have hfs18 := blk_frozen BK127.out 0
     have hns18_0 := NB121_127.out
     have hns18_1 := NB122_127.out
     have hns18_3 := NB128_127.out
     have hms18_0 := NB127_121.out
     have hms18_1 := NB127_122.out
     have hms18_3 := NB127_128.out
     have hs19 : w'.cell? ⟨gb127, 1, none⟩ = some (.int .u64 0) := (blk_cell BK127.out 1).trans rfl
     have hfs19 := blk_frozen BK127.out 1
     have hns19_0 := NB121_127.out
     have hns19_1 := NB122_127.out
     have hns19_3 := NB128_127.out
     have hms19_0 := NB127_121.out
     have hms19_1 := NB127_122.out
     have hms19_3 := NB127_128.out
     refine skip_ (w1 := ?_) (by rfl) rfl ?_ ?_
     rotate_left
     ·go_simp
      rfl
     refine hK.out _ _ ⟨gb127, gb128, m6_, m7_, (by rw [ha.out]; exact putSel_none (v := undef) rfl), (by refine blk_far ?_ NB121_127.out _; refine blk_far ?_ NB121_127.out _; exact BK121.out), (by refine blk_far ?_ NB122_127.out _; refine blk_far ?_ NB122_127.out _; exact BK122.out), (by repeat (first | (with_reducible first | exact HB.out | apply below_alloc | apply pw_below_drewN | apply below_drew1 | refine below_set ?_ GE121.out | refine below_set ?_ GE122.out | refine below_set ?_ GE127.out | refine below_set ?_ GE128.out) | exact HB.out)), fun _ _ => NB128_127.out, fun _ _ => NB127_128.out, fun _ h1_ => absurd ((up_self b 8).symm.trans h1_) (by decide), fun _ => GW127.out, fun _ => GE127.out, fun _ => NB121_127.out, fun _ => NB127_121.out, fun _ => NB122_127.out, fun _ => NB127_122.out, fun _ _ => (by refine blk_far ?_ NB128_127.out _; refine blk_far ?_ NB128_127.out _; exact BK128.out), fun _ => GW128.out, fun _ => GE128.out, fun _ => NB121_128.out, fun _ => NB128_121.out, fun _ => NB122_128.out, fun _ => NB128_122.out, fun _ => (by refine blk_put (cs := #[.int .u64 t123, .int .u64 0]) ?_ 1 _ rfl; refine blk_put (cs := #[.int .u64 0, .int .u64 0]) ?_ 0 _ rfl; exact BK127.out), fun h0_ => absurd ((hoff 9 (by kernel_rfl)).symm.trans h0_) (by decide), Q_X6_, Q_X7_⟩
    refine steps_cons ?_ ?_
    ·rintro b a w' ⟨gb127, gb128, m6_, m7_, ha, Q_BK121, Q_BK122, Q_HB, Q_NB128_127, Q_NB127_128, Q_BK127, Q_GW127, Q_GE127, Q_NB121_127, Q_NB127_121, Q_NB122_127, Q_NB127_122, Q_BK128, Q_GW128, Q_GE128, Q_NB121_128, Q_NB128_121, Q_NB122_128, Q_NB128_122, Q_BK127_e8, Q_BK128_e9, Q_X6_, Q_X7_⟩ hb_ hon hoff
     refine ⟨_, rfl, fun K hK => ?_⟩
     have e7 : a.tmps[7]? = some (m7_) := by rw [ha]; exact putSel_on (e := (7, 7, m7_)) 5 rfl rfl (hon 7 (by kernel_rfl)) rfl
     rw [Q_X7_ (hon 7 (by kernel_rfl))] at e7
     have e17 : a.tmps[17]? = some (.agg #[.int .u64 t125, .int .u64 t126]) := by rw [ha]; exact putSel_on (e := (5, 17, .agg #[.int .u64 t125, .int .u64 t126])) 3 rfl rfl (hon 5 (by kernel_rfl)) rfl
     replace ha := Aside0.mk ha
     have BK121 := Aside0.mk Q_BK121
     have BK122 := Aside0.mk Q_BK122
     have HB := Aside0.mk Q_HB
     have NB128_127 := Aside0.mk (Q_NB128_127 (hon 6 (by kernel_rfl)) (hon 7 (by kernel_rfl)))
     have NB127_128 := Aside0.mk (Q_NB127_128 (hon 6 (by kernel_rfl)) (hon 7 (by kernel_rfl)))
     have GW127 := Aside0.mk (Q_GW127 (hon 6 (by kernel_rfl)))
     have GE127 := Aside0.mk (Q_GE127 (hon 6 (by kernel_rfl)))
     have NB121_127 := Aside0.mk (Q_NB121_127 (hon 6 (by kernel_rfl)))
     have NB127_121 := Aside0.mk (Q_NB127_121 (hon 6 (by kernel_rfl)))
     have NB122_127 := Aside0.mk (Q_NB122_127 (hon 6 (by kernel_rfl)))
     have NB127_122 := Aside0.mk (Q_NB127_122 (hon 6 (by kernel_rfl)))
     have BK128 := Aside0.mk (Q_BK128 (hon 7 (by kernel_rfl)) hb_)
     have GW128 := Aside0.mk (Q_GW128 (hon 7 (by kernel_rfl)))
     have GE128 := Aside0.mk (Q_GE128 (hon 7 (by kernel_rfl)))
     have NB121_128 := Aside0.mk (Q_NB121_128 (hon 7 (by kernel_rfl)))
     have NB128_121 := Aside0.mk (Q_NB128_121 (hon 7 (by kernel_rfl)))
     have NB122_128 := Aside0.mk (Q_NB122_128 (hon 7 (by kernel_rfl)))
     have NB128_122 := Aside0.mk (Q_NB128_122 (hon 7 (by kernel_rfl)))
     have BK127 := Aside0.mk (Q_BK127_e8 (hon 8 (by kernel_rfl)))
     have hs20 : w'.cell? ⟨gb128, 0, none⟩ = some (.int .u64 0) := (blk_cell BK128.out 0).trans rfl
     have hfs20 := blk_frozen BK128.out 0
     have hns20_0 := NB121_128.out
     have hns20_1 := NB122_128.out
     have hns20_2 := NB127_128.out
     have hms20_0 := NB128_121.out
     have hms20_1 := NB128_122.out
     have hms20_2 := NB128_127.out
     have hs21 : w'.cell? ⟨gb128, 1, none⟩ = some (.int .u64 0) := (blk_cell BK128.out 1).trans rfl
     have hfs21 := blk_frozen BK128.out 1
     have hns21_0 := NB121_128.out
     have hns21_1 := NB122_128.out
     have hns21_2 := NB127_128.out
     have hms21_0 := NB128_121.out
     have hms21_1 := NB128_122.out
     have hms21_2 := NB128_127.out
     refine skip_ (w1 := ?_) (by rfl) rfl ?_ ?_
     rotate_left
     ·go_simp
      rfl
     refine hK.out _ _ ⟨gb127, gb128, m6_, m7_, (by rw [ha.out]; exact putSel_none (v := undef) rfl), (by refine blk_far ?_ NB121_128.out _; refine blk_far ?_ NB121_128.out _; exact BK121.out), (by refine blk_far ?_ NB122_128.out _; refine blk_far ?_ NB122_128.out _; exact BK122.out), (by repeat (first | (with_reducible first | exact HB.out | apply below_alloc | apply pw_below_drewN | apply below_drew1 | refine below_set ?_ GE121.out | refine below_set ?_ GE122.out | refine below_set ?_ GE127.out | refine below_set ?_ GE128.out) | exact HB.out)), fun _ _ => NB128_127.out, fun _ _ => NB127_128.out, fun _ h1_ => absurd ((hon 8 (by kernel_rfl)).symm.trans h1_) (by decide), fun _ => GW127.out, fun _ => GE127.out, fun _ => NB121_127.out, fun _ => NB127_121.out, fun _ => NB122_127.out, fun _ => NB127_122.out, fun _ h1_ => absurd ((up_self b 9).symm.trans h1_) (by decide), fun _ => GW128.out, fun _ => GE128.out, fun _ => NB121_128.out, fun _ => NB128_121.out, fun _ => NB122_128.out, fun _ => NB128_122.out, fun _ => (by refine blk_far ?_ NB127_128.out _; refine blk_far ?_ NB127_128.out _; exact BK127.out), fun _ => (by refine blk_put (cs := #[.int .u64 t125, .int .u64 0]) ?_ 1 _ rfl; refine blk_put (cs := #[.int .u64 0, .int .u64 0]) ?_ 0 _ rfl; exact BK128.out), Q_X6_, Q_X7_⟩
    exact steps_nil
   rintro b a w21 hall ⟨gb127, gb128, m6_, m7_, ha, Q_BK121, Q_BK122, Q_HB, Q_NB128_127, Q_NB127_128, Q_BK127, Q_GW127, Q_GE127, Q_NB121_127, Q_NB127_121, Q_NB122_127, Q_NB127_122, Q_BK128, Q_GW128, Q_GE128, Q_NB121_128, Q_NB128_121, Q_NB122_128, Q_NB128_122, Q_BK127_e8, Q_BK128_e9, Q_X6_, Q_X7_⟩
   clear BK121 BK122 HB
   have hb1_ := hall 1 (by kernel_rfl)
   have hb2_ := hall 2 (by kernel_rfl)
   have hb4_ := hall 4 (by kernel_rfl)
   have hb5_ := hall 5 (by kernel_rfl)
   have hb6_ := hall 6 (by kernel_rfl)
   have hb7_ := hall 7 (by kernel_rfl)
   have hb8_ := hall 8 (by kernel_rfl)
   have hb9_ := hall 9 (by kernel_rfl)
   subst ha
   obtain rfl := Q_X6_ hb6_
   obtain rfl := Q_X7_ hb7_
   simp only [putSel, hb1_, hb2_, hb4_, hb5_, hb6_, hb7_, hb8_, hb9_, if_true, Act.put, List.setIfInBounds_toArray, List.set_cons_zero, List.set_cons_succ]
   have BK121 := Aside0.mk Q_BK121
   clear Q_BK121
   have BK122 := Aside0.mk Q_BK122
   clear Q_BK122
   have HB := Aside0.mk Q_HB
   clear Q_HB
   have NB128_127 := Aside0.mk (Q_NB128_127 hb6_ hb7_)
   clear Q_NB128_127
   have NB127_128 := Aside0.mk (Q_NB127_128 hb6_ hb7_)
   clear Q_NB127_128
   clear Q_BK127
   have GW127 := Aside0.mk (Q_GW127 hb6_)
   clear Q_GW127
   have GE127 := Aside0.mk (Q_GE127 hb6_)
   clear Q_GE127
   have NB121_127 := Aside0.mk (Q_NB121_127 hb6_)
   clear Q_NB121_127
   have NB127_121 := Aside0.mk (Q_NB127_121 hb6_)
   clear Q_NB127_121
   have NB122_127 := Aside0.mk (Q_NB122_127 hb6_)
   clear Q_NB122_127
   have NB127_122 := Aside0.mk (Q_NB127_122 hb6_)
   clear Q_NB127_122
   clear Q_BK128
   have GW128 := Aside0.mk (Q_GW128 hb7_)
   clear Q_GW128
   have GE128 := Aside0.mk (Q_GE128 hb7_)
   clear Q_GE128
   have NB121_128 := Aside0.mk (Q_NB121_128 hb7_)
   clear Q_NB121_128
   have NB128_121 := Aside0.mk (Q_NB128_121 hb7_)
   clear Q_NB128_121
   have NB122_128 := Aside0.mk (Q_NB122_128 hb7_)
   clear Q_NB122_128
   have NB128_122 := Aside0.mk (Q_NB128_122 hb7_)
   clear Q_NB128_122
   have BK127 := Aside0.mk (Q_BK127_e8 hb8_)
   clear Q_BK127_e8
   have BK128 := Aside0.mk (Q_BK128_e9 hb9_)
   clear Q_BK128_e9
   clear hall hb1_ hb2_ hb4_ hb5_ hb6_ hb7_ hb8_ hb9_
   have hnb22 := NB128_121.out
   have hnc22 := NB121_128.out
   have hnb23 := NB128_122.out
   have hnc23 := NB122_128.out
   have hnb24 := NB128_127.out
   have hnc24 := NB127_128.out
   have hcz25_0 : w21.cell? ⟨gb128, 0, none⟩ = some (.int .u64 t125) := (blk_cell BK128.out 0).trans rfl
   have hcz25_1 : w21.cell? ⟨gb128, 1, none⟩ = some (.int .u64 t126) := (blk_cell BK128.out 1).trans rfl
   have hfz25_0 := blk_frozen BK128.out 0
   have hfz25_1 := blk_frozen BK128.out 1
   have hnb26 := NB127_121.out
   have hnc26 := NB121_127.out
   have hnb27 := NB127_122.out
   have hnc27 := NB122_127.out
   have hcz28_0 : w21.cell? ⟨gb127, 0, none⟩ = some (.int .u64 t123) := (blk_cell BK127.out 0).trans rfl
   have hcz28_1 : w21.cell? ⟨gb127, 1, none⟩ = some (.int .u64 t124) := (blk_cell BK127.out 1).trans rfl
   have hfz28_0 := blk_frozen BK127.out 0
   have hfz28_1 := blk_frozen BK127.out 1
   try go_wp2_with (first | ((with_reducible refine gate_callee (f := 18) rfl ?_); refine goesL_ (some 23) rfl rfl Try.func18 (by kernel_rfl) rfl #[.agg #[.int .u64 t126, .int .u64 0], .agg #[.int .u64 t123, .int .u64 t124]] rfl (by (try simp only [List.map_toArray, List.map_cons, List.map_nil]); first | done | rfl | (simp only [List.length_drop, List.length_take]; rfl)) ?_; (with_reducible refine (wide_Num_Add.calls t126 0 t123 t124 t129 t130 true _ A5.out).mono ?_); rintro e w29 ⟨rfl, hb⟩; refine ⟨_, rfl, ?_⟩; have n0_ := Aside0.mk (blk_below (by exact BK121.out) hb); have n1_ := Aside0.mk (blk_below (by exact BK122.out) hb); have n2_ := Aside0.mk (blk_below (by exact BK127.out) hb); have n3_ := Aside0.mk (blk_below (by exact BK128.out) hb); have n4_ := Aside0.mk (below_step (by repeat (first | (with_reducible first | exact HB.out | apply below_alloc | apply pw_below_drewN | apply below_drew1 | refine below_set ?_ GE121.out | refine below_set ?_ GE122.out | refine below_set ?_ GE127.out | refine below_set ?_ GE128.out) | exact HB.out)) hb); clear BK121; clear BK122; clear BK127; clear BK128; clear HB; have BK121 := n0_; have BK122 := n1_; have BK127 := n2_; have BK128 := n3_; have HB := n4_; clear n0_ n1_ n2_ n3_ n4_; (try clear hb); (try clear hb2); (try clear hk); (try clear hi)) | ((with_reducible refine gate_dst (N := 8) rfl ?_); refine box_event ?hg (N := 8) ?hd (cs := #[.int .u64 0, .int .u64 0]) (t := 25) ?hr ?_; (case hd => rfl); (case hg => rfl); (case hr => first | (go_simp; done) | (go_simp; rfl)); intro gb132 hg w30 hbox hb; have n0_ := Aside0.mk (blk_below (by exact BK121.out) hb); have n1_ := Aside0.mk (blk_below (by exact BK122.out) hb); have n2_ := Aside0.mk (blk_below (by exact BK127.out) hb); have n3_ := Aside0.mk (blk_below (by exact BK128.out) hb); have n4_ := Aside0.mk (below_step (by repeat (first | (with_reducible first | exact HB.out | apply below_alloc | apply pw_below_drewN | apply below_drew1 | refine below_set ?_ GE121.out | refine below_set ?_ GE122.out | refine below_set ?_ GE127.out | refine below_set ?_ GE128.out) | exact HB.out)) hb); have n5_ := Aside0.mk (hbox); have n6_ := Aside0.mk ((by rw [hg]; exact (below_size (by repeat (first | (with_reducible first | exact HB.out | apply below_alloc | apply pw_below_drewN | apply below_drew1 | refine below_set ?_ GE121.out | refine below_set ?_ GE122.out | refine below_set ?_ GE127.out | refine below_set ?_ GE128.out) | exact HB.out))) : w.heap.size ≤ gb132)); have n7_ := Aside0.mk ((by rw [hg]; exact (below_size (by repeat (first | (with_reducible first | exact HB.out | apply below_alloc | apply pw_below_drewN | apply below_drew1 | refine below_set ?_ GE121.out | refine below_set ?_ GE122.out | refine below_set ?_ GE127.out | refine below_set ?_ GE128.out) | exact HB.out))) : w.heap.size ≤ gb132)); have n8_ := Aside0.mk ((by rw [hg]; exact Nat.ne_of_lt (blk_lt (by exact BK121.out)) : gb121 ≠ gb132)); have n9_ := Aside0.mk ((by rw [hg]; exact Nat.ne_of_gt (blk_lt (by exact BK121.out)) : gb132 ≠ gb121)); have n10_ := Aside0.mk ((by rw [hg]; exact Nat.ne_of_lt (blk_lt (by exact BK122.out)) : gb122 ≠ gb132)); have n11_ := Aside0.mk ((by rw [hg]; exact Nat.ne_of_gt (blk_lt (by exact BK122.out)) : gb132 ≠ gb122)); have n12_ := Aside0.mk ((by rw [hg]; exact Nat.ne_of_lt (blk_lt (by exact BK127.out)) : gb127 ≠ gb132)); have n13_ := Aside0.mk ((by rw [hg]; exact Nat.ne_of_gt (blk_lt (by exact BK127.out)) : gb132 ≠ gb127)); have n14_ := Aside0.mk ((by rw [hg]; exact Nat.ne_of_lt (blk_lt (by exact BK128.out)) : gb128 ≠ gb132)); have n15_ := Aside0.mk ((by rw [hg]; exact Nat.ne_of_gt (blk_lt (by exact BK128.out)) : gb132 ≠ gb128)); clear BK121; clear BK122; clear BK127; clear BK128; clear HB; have BK121 := n0_; have BK122 := n1_; have BK127 := n2_; have BK128 := n3_; have HB := n4_; have BK132 := n5_; have GW132 := n6_; have GE132 := n7_; have NB121_132 := n8_; have NB132_121 := n9_; have NB122_132 := n10_; have NB132_122 := n11_; have NB127_132 := n12_; have NB132_127 := n13_; have NB128_132 := n14_; have NB132_128 := n15_; clear n0_ n1_ n2_ n3_ n4_ n5_ n6_ n7_ n8_ n9_ n10_ n11_ n12_ n13_ n14_ n15_; clear hb hbox hg; have hnb31 := NB132_121.out; have hnc31 := NB121_132.out; have hnb32 := NB132_122.out; have hnc32 := NB122_132.out; have hnb33 := NB132_127.out; have hnc33 := NB127_132.out; have hnb34 := NB132_128.out; have hnc34 := NB128_132.out; have hcz35_0 : w30.cell? ⟨gb132, 0, none⟩ = some (.int .u64 0) := (blk_cell BK132.out 0).trans rfl; have hcz35_1 : w30.cell? ⟨gb132, 1, none⟩ = some (.int .u64 0) := (blk_cell BK132.out 1).trans rfl; have hfz35_0 := blk_frozen BK132.out 0; have hfz35_1 := blk_frozen BK132.out 1))
   have n0_ : Aside0 (((w30.setCell ⟨gb132, 0, none⟩ (.int .u64 t129)).setCell ⟨gb132, 1, none⟩ (.int .u64 t130)).heap[gb121]? = some (.cells #[.int .u64 a0_0, .int .u64 a0_1] 25 (0, 0))) := ⟨by refine blk_far ?_ NB121_132.out _; refine blk_far ?_ NB121_132.out _; exact BK121.out⟩
   have n1_ : Aside0 (((w30.setCell ⟨gb132, 0, none⟩ (.int .u64 t129)).setCell ⟨gb132, 1, none⟩ (.int .u64 t130)).heap[gb122]? = some (.cells #[.int .u64 0, .int .u64 0] 25 (0, 0))) := ⟨by refine blk_far ?_ NB122_132.out _; refine blk_far ?_ NB122_132.out _; exact BK122.out⟩
   have n2_ : Aside0 (((w30.setCell ⟨gb132, 0, none⟩ (.int .u64 t129)).setCell ⟨gb132, 1, none⟩ (.int .u64 t130)).heap[gb127]? = some (.cells #[.int .u64 t123, .int .u64 t124] 25 (0, 0))) := ⟨by refine blk_far ?_ NB127_132.out _; refine blk_far ?_ NB127_132.out _; exact BK127.out⟩
   have n3_ : Aside0 (((w30.setCell ⟨gb132, 0, none⟩ (.int .u64 t129)).setCell ⟨gb132, 1, none⟩ (.int .u64 t130)).heap[gb128]? = some (.cells #[.int .u64 t125, .int .u64 t126] 25 (0, 0))) := ⟨by refine blk_far ?_ NB128_132.out _; refine blk_far ?_ NB128_132.out _; exact BK128.out⟩
   have n4_ : Aside0 (((w30.setCell ⟨gb132, 0, none⟩ (.int .u64 t129)).setCell ⟨gb132, 1, none⟩ (.int .u64 t130)).heap[gb132]? = some (.cells #[.int .u64 t129, .int .u64 t130] 25 (0, 0))) := ⟨by refine blk_put (cs := #[.int .u64 t129, .int .u64 0]) ?_ 1 _ rfl; refine blk_put (cs := #[.int .u64 0, .int .u64 0]) ?_ 0 _ rfl; exact BK132.out⟩
   have n5_ : Aside0 (Below w.heap.size w ((w30.setCell ⟨gb132, 0, none⟩ (.int .u64 t129)).setCell ⟨gb132, 1, none⟩ (.int .u64 t130))) := ⟨by repeat (first | (with_reducible first | exact HB.out | apply below_alloc | apply pw_below_drewN | apply below_drew1 | refine below_set ?_ GE121.out | refine below_set ?_ GE122.out | refine below_set ?_ GE127.out | refine below_set ?_ GE128.out | refine below_set ?_ GE132.out) | exact HB.out)⟩
   (try clear BK121)
   (try clear BK122)
   (try clear BK127)
   (try clear BK128)
   (try clear BK132)
   (try clear HB)
   generalize ((w30.setCell ⟨gb132, 0, none⟩ (.int .u64 t129)).setCell ⟨gb132, 1, none⟩ (.int .u64 t130)) = w36 at n0_ n1_ n2_ n3_ n4_ n5_ ⊢
   have BK121 := n0_
   have BK122 := n1_
   have BK127 := n2_
   have BK128 := n3_
   have BK132 := n4_
   have HB := n5_
   clear n0_ n1_ n2_ n3_ n4_ n5_
   have n0_ := Aside0.mk (blk_drew BK121.out)
   have n1_ := Aside0.mk (blk_drew BK122.out)
   have n2_ := Aside0.mk (blk_drew BK127.out)
   have n3_ := Aside0.mk (blk_drew BK128.out)
   have n4_ := Aside0.mk (blk_drew BK132.out)
   have n5_ := Aside0.mk (below_drew1 HB.out)
   clear BK121
   clear BK122
   clear BK127
   clear BK128
   clear BK132
   clear HB
   have BK121 := n0_
   have BK122 := n1_
   have BK127 := n2_
   have BK128 := n3_
   have BK132 := n4_
   have HB := n5_
   clear n0_ n1_ n2_ n3_ n4_ n5_
   refine start_ (n := 11) (S := fun w' => True) (ds := []) #[false, false, false, false, false, false, false, false, false, false, false] (by kernel_rfl) rfl rfl trivial (fun hHeld => ?_); refine with_tabW wide_Num_times.tab3 wide_Num_times.bits3 (fun HT_ HW_ => ?_)
   generalize w36.drew = w37 at BK121 BK122 BK127 BK128 BK132 HB hHeld ⊢
   refine pure_ (i := 1) (N := some 28) (v := ?_) (a' := ?_) #[false, true, false, false, false, false, false, false, false, false, false] rfl rfl (any_of HT_.out (by kernel_rfl)) (fun _ _ _ h => h) (Or.inl ⟨by rfl, ?_⟩) ?_ ?_
   rotate_left
   ·intro w'
    go_simp
    with_reducible rfl
   rotate_left
   ·simp only [Act.put, List.setIfInBounds_toArray, List.set_cons_zero, List.set_cons_succ, i64_w, i32_w]
    rfl
   refine inv_at [0, 2, 3, 4, 5, 6, 7, 8, 9, 10] (fun a0_ b a w' => ∃ (gb138 : Nat) (m8_ : Value), a = putSel a0_ b [(0, 27, .agg #[.int .u64 t129, .int .u64 t130]), (2, 29, .int .u64 (IntKind.u64.wrap (a1))), (3, 30, .agg #[.int .u64 t133, .int .u64 t134]), (4, 31, .tuple #[.agg #[.int .u64 t135, .int .u64 t136], .bool t137]), (5, 26, .tuple #[.agg #[.int .u64 t135, .int .u64 t136], .bool t137]), (6, 32, .agg #[.int .u64 t135, .int .u64 t136]), (7, 33, .bool t137), (8, 10, m8_), (10, 11, .bool t137)] ∧ (w'.heap[gb121]? = some (.cells #[.int .u64 a0_0, .int .u64 a0_1] 25 (0, 0))) ∧ (w'.heap[gb122]? = some (.cells #[.int .u64 0, .int .u64 0] 25 (0, 0))) ∧ (w'.heap[gb127]? = some (.cells #[.int .u64 t123, .int .u64 t124] 25 (0, 0))) ∧ (w'.heap[gb128]? = some (.cells #[.int .u64 t125, .int .u64 t126] 25 (0, 0))) ∧ (w'.heap[gb132]? = some (.cells #[.int .u64 t129, .int .u64 t130] 25 (0, 0))) ∧ (Below w.heap.size w w') ∧ (b 8 = true → b 9 = false → w'.heap[gb138]? = some (.cells #[.int .u64 0, .int .u64 0] 25 (0, 0))) ∧ (b 8 = true → w.heap.size ≤ gb138) ∧ (b 8 = true → w.heap.size ≤ gb138) ∧ (b 8 = true → gb121 ≠ gb138) ∧ (b 8 = true → gb138 ≠ gb121) ∧ (b 8 = true → gb122 ≠ gb138) ∧ (b 8 = true → gb138 ≠ gb122) ∧ (b 8 = true → gb127 ≠ gb138) ∧ (b 8 = true → gb138 ≠ gb127) ∧ (b 8 = true → gb128 ≠ gb138) ∧ (b 8 = true → gb138 ≠ gb128) ∧ (b 8 = true → gb132 ≠ gb138) ∧ (b 8 = true → gb138 ≠ gb132) ∧ (b 9 = true → w'.heap[gb138]? = some (.cells #[.int .u64 t135, .int .u64 t136] 25 (0, 0))) ∧ (b 8 = true → (m8_ : Value) = .pointer (some ⟨gb138, 0, none⟩))) HT_.out HW_.out (by kernel_rfl) (by kernel_rfl) ?_ ?_ ?_
   ·exact ⟨0, .bool false, by simp only [putSel, Bool.false_eq_true, if_false], BK121.out, BK122.out, BK127.out, BK128.out, BK132.out, HB.out, fun h_ => absurd h_ (by decide), fun h_ => absurd h_ (by decide), fun h_ => absurd h_ (by decide), fun h_ => absurd h_ (by decide), fun h_ => absurd h_ (by decide), fun h_ => absurd h_ (by decide), fun h_ => absurd h_ (by decide), fun h_ => absurd h_ (by decide), fun h_ => absurd h_ (by decide), fun h_ => absurd h_ (by decide), fun h_ => absurd h_ (by decide), fun h_ => absurd h_ (by decide), fun h_ => absurd h_ (by decide), fun h_ => absurd h_ (by decide), fun h_ => absurd h_ (by decide)⟩
   ·skip
    clear BK121 BK122 BK127 BK128 BK132 HB
    refine steps_cons ?_ ?_
    ·rintro b a w' ⟨gb138, m8_, ha, Q_BK121, Q_BK122, Q_BK127, Q_BK128, Q_BK132, Q_HB, Q_BK138, Q_GW138, Q_GE138, Q_NB121_138, Q_NB138_121, Q_NB122_138, Q_NB138_122, Q_NB127_138, Q_NB138_127, Q_NB128_138, Q_NB138_128, Q_NB132_138, Q_NB138_132, Q_BK138_e9, Q_X8_⟩ hb_ hon hoff
     refine ⟨_, rfl, fun K hK => ?_⟩
     have e8 : a.tmps[8]? = some (.pointer (some ⟨gb132, 0, none⟩)) := by rw [ha]; exact (putSel_off rfl).trans rfl
     replace ha := Aside0.mk ha
     have BK121 := Aside0.mk Q_BK121
     have BK122 := Aside0.mk Q_BK122
     have BK127 := Aside0.mk Q_BK127
     have BK128 := Aside0.mk Q_BK128
     have BK132 := Aside0.mk Q_BK132
     have HB := Aside0.mk Q_HB
     have hc0_ : w'.cell? ⟨gb132, 0, none⟩ = some (.int .u64 t129) := (blk_cell BK132.out 0).trans rfl
     have hc1_ : w'.cell? ⟨gb132, 1, none⟩ = some (.int .u64 t130) := (blk_cell BK132.out 1).trans rfl
     refine value_ (w1 := w') (v := .agg #[.int .u64 t129, .int .u64 t130]) (by rfl) rfl ?_ ?_
     ·go_simp
      (try simp only [i64_w])
      try rfl
     refine hK.out _ _ ⟨gb138, m8_, (by rw [ha.out]; exact putSel_upk 0 hb_ rfl rfl rfl), Q_BK121, Q_BK122, Q_BK127, Q_BK128, Q_BK132, Q_HB, Q_BK138, Q_GW138, Q_GE138, Q_NB121_138, Q_NB138_121, Q_NB122_138, Q_NB138_122, Q_NB127_138, Q_NB138_127, Q_NB128_138, Q_NB138_128, Q_NB132_138, Q_NB138_132, fun h0_ => absurd ((hoff 9 (by kernel_rfl)).symm.trans h0_) (by decide), Q_X8_⟩
    refine steps_cons ?_ ?_
    ·rintro b a w' ⟨gb138, m8_, ha, Q_BK121, Q_BK122, Q_BK127, Q_BK128, Q_BK132, Q_HB, Q_BK138, Q_GW138, Q_GE138, Q_NB121_138, Q_NB138_121, Q_NB122_138, Q_NB138_122, Q_NB127_138, Q_NB138_127, Q_NB128_138, Q_NB138_128, Q_NB132_138, Q_NB138_132, Q_BK138_e9, Q_X8_⟩ hb_ hon hoff
     refine ⟨_, rfl, fun K hK => ?_⟩
     have e28 : a.tmps[28]? = some (.int .u8 a1) := by rw [ha]; exact (putSel_off rfl).trans rfl
     replace ha := Aside0.mk ha
     have BK121 := Aside0.mk Q_BK121
     have BK122 := Aside0.mk Q_BK122
     have BK127 := Aside0.mk Q_BK127
     have BK128 := Aside0.mk Q_BK128
     have BK132 := Aside0.mk Q_BK132
     have HB := Aside0.mk Q_HB
     refine value_ (w1 := w') (v := .int .u64 (IntKind.u64.wrap (a1))) (by rfl) rfl ?_ ?_
     ·go_simp
      (try simp only [i64_w])
      try rfl
     refine hK.out _ _ ⟨gb138, m8_, (by rw [ha.out]; exact putSel_upk 1 hb_ rfl rfl rfl), Q_BK121, Q_BK122, Q_BK127, Q_BK128, Q_BK132, Q_HB, Q_BK138, Q_GW138, Q_GE138, Q_NB121_138, Q_NB138_121, Q_NB122_138, Q_NB138_122, Q_NB127_138, Q_NB138_127, Q_NB128_138, Q_NB138_128, Q_NB132_138, Q_NB138_132, fun h0_ => absurd ((hoff 9 (by kernel_rfl)).symm.trans h0_) (by decide), Q_X8_⟩
    refine steps_cons ?_ ?_
    ·rintro b a w' ⟨gb138, m8_, ha, Q_BK121, Q_BK122, Q_BK127, Q_BK128, Q_BK132, Q_HB, Q_BK138, Q_GW138, Q_GE138, Q_NB121_138, Q_NB138_121, Q_NB122_138, Q_NB138_122, Q_NB127_138, Q_NB138_127, Q_NB128_138, Q_NB138_128, Q_NB132_138, Q_NB138_132, Q_BK138_e9, Q_X8_⟩ hb_ hon hoff
     refine ⟨_, rfl, fun K hK => ?_⟩
     have e29 : a.tmps[29]? = some (.int .u64 (IntKind.u64.wrap (a1))) := by rw [ha]; exact putSel_on (e := (2, 29, .int .u64 (IntKind.u64.wrap (a1)))) 1 rfl rfl (hon 2 (by kernel_rfl)) rfl
     replace ha := Aside0.mk ha
     have BK121 := Aside0.mk Q_BK121
     have BK122 := Aside0.mk Q_BK122
     have BK127 := Aside0.mk Q_BK127
     have BK128 := Aside0.mk Q_BK128
     have BK132 := Aside0.mk Q_BK132
     have HB := Aside0.mk Q_HB
     refine goes_ Try.func16 (by kernel_rfl) rfl #[.int .u64 (IntKind.u64.wrap (a1))] (by rfl) rfl rfl (by first | (simp only [List.map_toArray, List.map_cons, List.map_nil, Act.eval, Array.getD_eq_getD_getElem?, Option.getD_some, e29]; done) | (simp only [List.map_toArray, List.map_cons, List.map_nil, Act.eval, Array.getD_eq_getD_getElem?, Option.getD_some, e29]; rfl)) ?_
     with_reducible refine (wide_Of.calls (IntKind.u64.wrap (a1)) t133 t134 _ A6.out).mono ?_
     rintro e w38 ⟨rfl, hb⟩
     refine ⟨_, rfl, ?_⟩
     have n0_ := Aside0.mk (blk_below (by exact BK121.out) hb)
     have n1_ := Aside0.mk (blk_below (by exact BK122.out) hb)
     have n2_ := Aside0.mk (blk_below (by exact BK127.out) hb)
     have n3_ := Aside0.mk (blk_below (by exact BK128.out) hb)
     have n4_ := Aside0.mk (blk_below (by exact BK132.out) hb)
     have n5_ := Aside0.mk (below_step (by repeat (first | (with_reducible first | exact HB.out | apply below_alloc | apply pw_below_drewN | apply below_drew1 | refine below_set ?_ GE121.out | refine below_set ?_ GE122.out | refine below_set ?_ GE127.out | refine below_set ?_ GE128.out | refine below_set ?_ GE132.out) | exact HB.out)) hb)
     have z_BK138 := fun (h0_ : b 8 = true) (h1_ : b 9 = false) => (show w38.heap[gb138]? = some (.cells #[.int .u64 0, .int .u64 0] 25 (0, 0)) from by first | exact (blk_below (g := gb138) (o := .cells #[.int .u64 0, .int .u64 0] 25 (0, 0)) (by exact (Q_BK138 h0_ h1_)) hb))
     clear BK121
     clear BK122
     clear BK127
     clear BK128
     clear BK132
     clear HB
     have BK121 := n0_
     have BK122 := n1_
     have BK127 := n2_
     have BK128 := n3_
     have BK132 := n4_
     have HB := n5_
     clear n0_ n1_ n2_ n3_ n4_ n5_
     (try clear hb)
     (try clear hb2)
     (try clear hk)
     (try clear hi)
     refine hK.out _ _ ⟨gb138, m8_, (by rw [ha.out]; exact putSel_upk 2 hb_ rfl rfl rfl), (by exact BK121.out), (by exact BK122.out), (by exact BK127.out), (by exact BK128.out), (by exact BK132.out), (by repeat (first | (with_reducible first | exact HB.out | apply below_alloc | apply pw_below_drewN | apply below_drew1 | refine below_set ?_ GE121.out | refine below_set ?_ GE122.out | refine below_set ?_ GE127.out | refine below_set ?_ GE128.out | refine below_set ?_ GE132.out) | exact HB.out)), z_BK138, Q_GW138, Q_GE138, Q_NB121_138, Q_NB138_121, Q_NB122_138, Q_NB138_122, Q_NB127_138, Q_NB138_127, Q_NB128_138, Q_NB138_128, Q_NB132_138, Q_NB138_132, fun h0_ => absurd ((hoff 9 (by kernel_rfl)).symm.trans h0_) (by decide), Q_X8_⟩
    refine steps_cons ?_ ?_
    ·rintro b a w' ⟨gb138, m8_, ha, Q_BK121, Q_BK122, Q_BK127, Q_BK128, Q_BK132, Q_HB, Q_BK138, Q_GW138, Q_GE138, Q_NB121_138, Q_NB138_121, Q_NB122_138, Q_NB138_122, Q_NB127_138, Q_NB138_127, Q_NB128_138, Q_NB138_128, Q_NB132_138, Q_NB138_132, Q_BK138_e9, Q_X8_⟩ hb_ hon hoff
     refine ⟨_, rfl, fun K hK => ?_⟩
     have e27 : a.tmps[27]? = some (.agg #[.int .u64 t129, .int .u64 t130]) := by rw [ha]; exact putSel_on (e := (0, 27, .agg #[.int .u64 t129, .int .u64 t130])) 0 rfl rfl (hon 0 (by kernel_rfl)) rfl
     have e30 : a.tmps[30]? = some (.agg #[.int .u64 t133, .int .u64 t134]) := by rw [ha]; exact putSel_on (e := (3, 30, .agg #[.int .u64 t133, .int .u64 t134])) 2 rfl rfl (hon 3 (by kernel_rfl)) rfl
     replace ha := Aside0.mk ha
     have BK121 := Aside0.mk Q_BK121
     have BK122 := Aside0.mk Q_BK122
     have BK127 := Aside0.mk Q_BK127
     have BK128 := Aside0.mk Q_BK128
     have BK132 := Aside0.mk Q_BK132
     have HB := Aside0.mk Q_HB
     refine goes_ Try.func18 (by kernel_rfl) rfl #[.agg #[.int .u64 t129, .int .u64 t130], .agg #[.int .u64 t133, .int .u64 t134]] (by rfl) rfl rfl (by first | (simp only [List.map_toArray, List.map_cons, List.map_nil, Act.eval, Array.getD_eq_getD_getElem?, Option.getD_some, e27, e30]; done) | (simp only [List.map_toArray, List.map_cons, List.map_nil, Act.eval, Array.getD_eq_getD_getElem?, Option.getD_some, e27, e30]; rfl)) ?_
     with_reducible refine (wide_Num_Add.calls t129 t130 t133 t134 t135 t136 t137 _ A7.out).mono ?_
     rintro e w40 ⟨rfl, hb⟩
     refine ⟨_, rfl, ?_⟩
     have n0_ := Aside0.mk (blk_below (by exact BK121.out) hb)
     have n1_ := Aside0.mk (blk_below (by exact BK122.out) hb)
     have n2_ := Aside0.mk (blk_below (by exact BK127.out) hb)
     have n3_ := Aside0.mk (blk_below (by exact BK128.out) hb)
     have n4_ := Aside0.mk (blk_below (by exact BK132.out) hb)
     have n5_ := Aside0.mk (below_step (by repeat (first | (with_reducible first | exact HB.out | apply below_alloc | apply pw_below_drewN | apply below_drew1 | refine below_set ?_ GE121.out | refine below_set ?_ GE122.out | refine below_set ?_ GE127.out | refine below_set ?_ GE128.out | refine below_set ?_ GE132.out) | exact HB.out)) hb)
     have z_BK138 := fun (h0_ : b 8 = true) (h1_ : b 9 = false) => (show w40.heap[gb138]? = some (.cells #[.int .u64 0, .int .u64 0] 25 (0, 0)) from by first | exact (blk_below (g := gb138) (o := .cells #[.int .u64 0, .int .u64 0] 25 (0, 0)) (by exact (Q_BK138 h0_ h1_)) hb))
     clear BK121
     clear BK122
     clear BK127
     clear BK128
     clear BK132
     clear HB
     have BK121 := n0_
     have BK122 := n1_
     have BK127 := n2_
     have BK128 := n3_
     have BK132 := n4_
     have HB := n5_
     clear n0_ n1_ n2_ n3_ n4_ n5_
     (try clear hb)
     (try clear hb2)
     (try clear hk)
     (try clear hi)
     refine hK.out _ _ ⟨gb138, m8_, (by rw [ha.out]; exact putSel_upk 3 hb_ rfl rfl rfl), (by exact BK121.out), (by exact BK122.out), (by exact BK127.out), (by exact BK128.out), (by exact BK132.out), (by repeat (first | (with_reducible first | exact HB.out | apply below_alloc | apply pw_below_drewN | apply below_drew1 | refine below_set ?_ GE121.out | refine below_set ?_ GE122.out | refine below_set ?_ GE127.out | refine below_set ?_ GE128.out | refine below_set ?_ GE132.out) | exact HB.out)), z_BK138, Q_GW138, Q_GE138, Q_NB121_138, Q_NB138_121, Q_NB122_138, Q_NB138_122, Q_NB127_138, Q_NB138_127, Q_NB128_138, Q_NB138_128, Q_NB132_138, Q_NB138_132, fun h0_ => absurd ((hoff 9 (by kernel_rfl)).symm.trans h0_) (by decide), Q_X8_⟩
    refine steps_cons ?_ ?_
    ·rintro b a w' ⟨gb138, m8_, ha, Q_BK121, Q_BK122, Q_BK127, Q_BK128, Q_BK132, Q_HB, Q_BK138, Q_GW138, Q_GE138, Q_NB121_138, Q_NB138_121, Q_NB122_138, Q_NB138_122, Q_NB127_138, Q_NB138_127, Q_NB128_138, Q_NB138_128, Q_NB132_138, Q_NB138_132, Q_BK138_e9, Q_X8_⟩ hb_ hon hoff
     refine ⟨_, rfl, fun K hK => ?_⟩
     have e31 : a.tmps[31]? = some (.tuple #[.agg #[.int .u64 t135, .int .u64 t136], .bool t137]) := by rw [ha]; exact putSel_on (e := (4, 31, .tuple #[.agg #[.int .u64 t135, .int .u64 t136], .bool t137])) 3 rfl rfl (hon 4 (by kernel_rfl)) rfl
     replace ha := Aside0.mk ha
     have BK121 := Aside0.mk Q_BK121
     have BK122 := Aside0.mk Q_BK122
     have BK127 := Aside0.mk Q_BK127
     have BK128 := Aside0.mk Q_BK128
     have BK132 := Aside0.mk Q_BK132
     have HB := Aside0.mk Q_HB
     refine value_ (w1 := w') (v := .tuple #[.agg #[.int .u64 t135, .int .u64 t136], .bool t137]) (by rfl) rfl ?_ ?_
     ·go_simp
      (try simp only [i64_w])
      try rfl
     refine hK.out _ _ ⟨gb138, m8_, (by rw [ha.out]; exact putSel_upk 4 hb_ rfl rfl rfl), Q_BK121, Q_BK122, Q_BK127, Q_BK128, Q_BK132, Q_HB, Q_BK138, Q_GW138, Q_GE138, Q_NB121_138, Q_NB138_121, Q_NB122_138, Q_NB138_122, Q_NB127_138, Q_NB138_127, Q_NB128_138, Q_NB138_128, Q_NB132_138, Q_NB138_132, fun h0_ => absurd ((hoff 9 (by kernel_rfl)).symm.trans h0_) (by decide), Q_X8_⟩
    refine steps_cons ?_ ?_
    ·rintro b a w' ⟨gb138, m8_, ha, Q_BK121, Q_BK122, Q_BK127, Q_BK128, Q_BK132, Q_HB, Q_BK138, Q_GW138, Q_GE138, Q_NB121_138, Q_NB138_121, Q_NB122_138, Q_NB138_122, Q_NB127_138, Q_NB138_127, Q_NB128_138, Q_NB138_128, Q_NB132_138, Q_NB138_132, Q_BK138_e9, Q_X8_⟩ hb_ hon hoff
     refine ⟨_, rfl, fun K hK => ?_⟩
     have e26 : a.tmps[26]? = some (.tuple #[.agg #[.int .u64 t135, .int .u64 t136], .bool t137]) := by rw [ha]; exact putSel_on (e := (5, 26, .tuple #[.agg #[.int .u64 t135, .int .u64 t136], .bool t137])) 4 rfl rfl (hon 5 (by kernel_rfl)) rfl
     replace ha := Aside0.mk ha
     have BK121 := Aside0.mk Q_BK121
     have BK122 := Aside0.mk Q_BK122
     have BK127 := Aside0.mk Q_BK127
     have BK128 := Aside0.mk Q_BK128
     have BK132 := Aside0.mk Q_BK132
     have HB := Aside0.mk Q_HB
     refine value_ (w1 := w') (v := .agg #[.int .u64 t135, .int .u64 t136]) (by rfl) rfl ?_ ?_
     ·go_simp
      (try simp only [i64_w])
      try rfl
     refine hK.out _ _ ⟨gb138, m8_, (by rw [ha.out]; exact putSel_upk 5 hb_ rfl rfl rfl), Q_BK121, Q_BK122, Q_BK127, Q_BK128, Q_BK132, Q_HB, Q_BK138, Q_GW138, Q_GE138, Q_NB121_138, Q_NB138_121, Q_NB122_138, Q_NB138_122, Q_NB127_138, Q_NB138_127, Q_NB128_138, Q_NB138_128, Q_NB132_138, Q_NB138_132, fun h0_ => absurd ((hoff 9 (by kernel_rfl)).symm.trans h0_) (by decide), Q_X8_⟩
    refine steps_cons ?_ ?_
    ·rintro b a w' ⟨gb138, m8_, ha, Q_BK121, Q_BK122, Q_BK127, Q_BK128, Q_BK132, Q_HB, Q_BK138, Q_GW138, Q_GE138, Q_NB121_138, Q_NB138_121, Q_NB122_138, Q_NB138_122, Q_NB127_138, Q_NB138_127, Q_NB128_138, Q_NB138_128, Q_NB132_138, Q_NB138_132, Q_BK138_e9, Q_X8_⟩ hb_ hon hoff
     refine ⟨_, rfl, fun K hK => ?_⟩
     have e26 : a.tmps[26]? = some (.tuple #[.agg #[.int .u64 t135, .int .u64 t136], .bool t137]) := by rw [ha]; exact putSel_on (e := (5, 26, .tuple #[.agg #[.int .u64 t135, .int .u64 t136], .bool t137])) 4 rfl rfl (hon 5 (by kernel_rfl)) rfl
     replace ha := Aside0.mk ha
     have BK121 := Aside0.mk Q_BK121
     have BK122 := Aside0.mk Q_BK122
     have BK127 := Aside0.mk Q_BK127
     have BK128 := Aside0.mk Q_BK128
     have BK132 := Aside0.mk Q_BK132
     have HB := Aside0.mk Q_HB
     refine value_ (w1 := w') (v := .bool t137) (by rfl) rfl ?_ ?_
     ·go_simp
      (try simp only [i64_w])
      try rfl
     refine hK.out _ _ ⟨gb138, m8_, (by rw [ha.out]; exact putSel_upk 6 hb_ rfl rfl rfl), Q_BK121, Q_BK122, Q_BK127, Q_BK128, Q_BK132, Q_HB, Q_BK138, Q_GW138, Q_GE138, Q_NB121_138, Q_NB138_121, Q_NB122_138, Q_NB138_122, Q_NB127_138, Q_NB138_127, Q_NB128_138, Q_NB138_128, Q_NB132_138, Q_NB138_132, Q_BK138_e9, Q_X8_⟩
    refine steps_cons ?_ ?_
    ·rintro b a w' ⟨gb138, m8_, ha, Q_BK121, Q_BK122, Q_BK127, Q_BK128, Q_BK132, Q_HB, Q_BK138, Q_GW138, Q_GE138, Q_NB121_138, Q_NB138_121, Q_NB122_138, Q_NB138_122, Q_NB127_138, Q_NB138_127, Q_NB128_138, Q_NB138_128, Q_NB132_138, Q_NB138_132, Q_BK138_e9, Q_X8_⟩ hb_ hon hoff
     refine ⟨_, rfl, fun K hK => ?_⟩
     replace ha := Aside0.mk ha
     have BK121 := Aside0.mk Q_BK121
     have BK122 := Aside0.mk Q_BK122
     have BK127 := Aside0.mk Q_BK127
     have BK128 := Aside0.mk Q_BK128
     have BK132 := Aside0.mk Q_BK132
     have HB := Aside0.mk Q_HB
     refine box_step ?hg (N := 10) ?hd (cs := #[.int .u64 0, .int .u64 0]) (t := 25) ?hr ?_; (case hd => rfl); (case hg => rfl); (case hr => first | (go_simp; done) | (go_simp; rfl))
     intro gb138 hg w38 hbox hb
     have n0_ := Aside0.mk (blk_below (by exact BK121.out) hb)
     have n1_ := Aside0.mk (blk_below (by exact BK122.out) hb)
     have n2_ := Aside0.mk (blk_below (by exact BK127.out) hb)
     have n3_ := Aside0.mk (blk_below (by exact BK128.out) hb)
     have n4_ := Aside0.mk (blk_below (by exact BK132.out) hb)
     have n5_ := Aside0.mk (below_step (by repeat (first | (with_reducible first | exact HB.out | apply below_alloc | apply pw_below_drewN | apply below_drew1 | refine below_set ?_ GE121.out | refine below_set ?_ GE122.out | refine below_set ?_ GE127.out | refine below_set ?_ GE128.out | refine below_set ?_ GE132.out) | exact HB.out)) hb)
     have n6_ := Aside0.mk (hbox)
     have n7_ := Aside0.mk ((by rw [hg]; exact (below_size (by repeat (first | (with_reducible first | exact HB.out | apply below_alloc | apply pw_below_drewN | apply below_drew1 | refine below_set ?_ GE121.out | refine below_set ?_ GE122.out | refine below_set ?_ GE127.out | refine below_set ?_ GE128.out | refine below_set ?_ GE132.out) | exact HB.out))) : w.heap.size ≤ gb138))
     have n8_ := Aside0.mk ((by rw [hg]; exact (below_size (by repeat (first | (with_reducible first | exact HB.out | apply below_alloc | apply pw_below_drewN | apply below_drew1 | refine below_set ?_ GE121.out | refine below_set ?_ GE122.out | refine below_set ?_ GE127.out | refine below_set ?_ GE128.out | refine below_set ?_ GE132.out) | exact HB.out))) : w.heap.size ≤ gb138))
     have n9_ := Aside0.mk ((by rw [hg]; exact Nat.ne_of_lt (blk_lt (by exact BK121.out)) : gb121 ≠ gb138))
     have n10_ := Aside0.mk ((by rw [hg]; exact Nat.ne_of_gt (blk_lt (by exact BK121.out)) : gb138 ≠ gb121))
     have n11_ := Aside0.mk ((by rw [hg]; exact Nat.ne_of_lt (blk_lt (by exact BK122.out)) : gb122 ≠ gb138))
     have n12_ := Aside0.mk ((by rw [hg]; exact Nat.ne_of_gt (blk_lt (by exact BK122.out)) : gb138 ≠ gb122))
     have n13_ := Aside0.mk ((by rw [hg]; exact Nat.ne_of_lt (blk_lt (by exact BK127.out)) : gb127 ≠ gb138))
     have n14_ := Aside0.mk ((by rw [hg]; exact Nat.ne_of_gt (blk_lt (by exact BK127.out)) : gb138 ≠ gb127))
     have n15_ := Aside0.mk ((by rw [hg]; exact Nat.ne_of_lt (blk_lt (by exact BK128.out)) : gb128 ≠ gb138))
     have n16_ := Aside0.mk ((by rw [hg]; exact Nat.ne_of_gt (blk_lt (by exact BK128.out)) : gb138 ≠ gb128))
     have n17_ := Aside0.mk ((by rw [hg]; exact Nat.ne_of_lt (blk_lt (by exact BK132.out)) : gb132 ≠ gb138))
     have n18_ := Aside0.mk ((by rw [hg]; exact Nat.ne_of_gt (blk_lt (by exact BK132.out)) : gb138 ≠ gb132))
     clear BK121
     clear BK122
     clear BK127
     clear BK128
     clear BK132
     clear HB
     have BK121 := n0_
     have BK122 := n1_
     have BK127 := n2_
     have BK128 := n3_
     have BK132 := n4_
     have HB := n5_
     have BK138 := n6_
     have GW138 := n7_
     have GE138 := n8_
     have NB121_138 := n9_
     have NB138_121 := n10_
     have NB122_138 := n11_
     have NB138_122 := n12_
     have NB127_138 := n13_
     have NB138_127 := n14_
     have NB128_138 := n15_
     have NB138_128 := n16_
     have NB132_138 := n17_
     have NB138_132 := n18_
     clear n0_ n1_ n2_ n3_ n4_ n5_ n6_ n7_ n8_ n9_ n10_ n11_ n12_ n13_ n14_ n15_ n16_ n17_ n18_
     clear hb hbox hg
     refine hK.out _ _ ⟨gb138, (.pointer (some ⟨gb138, 0, none⟩)), (by rw [ha.out]; exact putSel_upk 7 hb_ rfl rfl rfl), (by exact BK121.out), (by exact BK122.out), (by exact BK127.out), (by exact BK128.out), (by exact BK132.out), (by repeat (first | (with_reducible first | exact HB.out | apply below_alloc | apply pw_below_drewN | apply below_drew1 | refine below_set ?_ GE121.out | refine below_set ?_ GE122.out | refine below_set ?_ GE127.out | refine below_set ?_ GE128.out | refine below_set ?_ GE132.out | refine below_set ?_ GE138.out) | exact HB.out)), fun _ _ => (by exact BK138.out), fun _ => GW138.out, fun _ => GE138.out, fun _ => NB121_138.out, fun _ => NB138_121.out, fun _ => NB122_138.out, fun _ => NB138_122.out, fun _ => NB127_138.out, fun _ => NB138_127.out, fun _ => NB128_138.out, fun _ => NB138_128.out, fun _ => NB132_138.out, fun _ => NB138_132.out, fun h0_ => absurd ((hoff 9 (by kernel_rfl)).symm.trans h0_) (by decide), fun _ => rfl⟩
    refine steps_cons ?_ ?_
    ·rintro b a w' ⟨gb138, m8_, ha, Q_BK121, Q_BK122, Q_BK127, Q_BK128, Q_BK132, Q_HB, Q_BK138, Q_GW138, Q_GE138, Q_NB121_138, Q_NB138_121, Q_NB122_138, Q_NB138_122, Q_NB127_138, Q_NB138_127, Q_NB128_138, Q_NB138_128, Q_NB132_138, Q_NB138_132, Q_BK138_e9, Q_X8_⟩ hb_ hon hoff
     refine ⟨_, rfl, fun K hK => ?_⟩
     have e10 : a.tmps[10]? = some (m8_) := by rw [ha]; exact putSel_on (e := (8, 10, m8_)) 7 rfl rfl (hon 8 (by kernel_rfl)) rfl
     rw [Q_X8_ (hon 8 (by kernel_rfl))] at e10
     have e32 : a.tmps[32]? = some (.agg #[.int .u64 t135, .int .u64 t136]) := by rw [ha]; exact putSel_on (e := (6, 32, .agg #[.int .u64 t135, .int .u64 t136])) 5 rfl rfl (hon 6 (by kernel_rfl)) rfl
     replace ha := Aside0.mk ha
     have BK121 := Aside0.mk Q_BK121
     have BK122 := Aside0.mk Q_BK122
     have BK127 := Aside0.mk Q_BK127
     have BK128 := Aside0.mk Q_BK128
     have BK132 := Aside0.mk Q_BK132
     have HB := Aside0.mk Q_HB
     have BK138 := Aside0.mk (Q_BK138 (hon 8 (by kernel_rfl)) hb_)
     have GW138 := Aside0.mk (Q_GW138 (hon 8 (by kernel_rfl)))
     have GE138 := Aside0.mk (Q_GE138 (hon 8 (by kernel_rfl)))
     have NB121_138 := Aside0.mk (Q_NB121_138 (hon 8 (by kernel_rfl)))
     have NB138_121 := Aside0.mk (Q_NB138_121 (hon 8 (by kernel_rfl)))
     have NB122_138 := Aside0.mk (Q_NB122_138 (hon 8 (by kernel_rfl)))
     have NB138_122 := Aside0.mk (Q_NB138_122 (hon 8 (by kernel_rfl)))
     have NB127_138 := Aside0.mk (Q_NB127_138 (hon 8 (by kernel_rfl)))
     have NB138_127 := Aside0.mk (Q_NB138_127 (hon 8 (by kernel_rfl)))
     have NB128_138 := Aside0.mk (Q_NB128_138 (hon 8 (by kernel_rfl)))
     have NB138_128 := Aside0.mk (Q_NB138_128 (hon 8 (by kernel_rfl)))
     have NB132_138 := Aside0.mk (Q_NB132_138 (hon 8 (by kernel_rfl)))
     have NB138_132 := Aside0.mk (Q_NB138_132 (hon 8 (by kernel_rfl)))
     have hs42 : w'.cell? ⟨gb138, 0, none⟩ = some (.int .u64 0) := (blk_cell BK138.out 0).trans rfl
     have hfs42 := blk_frozen BK138.out 0
     have hns42_0 := NB121_138.out
     have hns42_1 := NB122_138.out
     have hns42_2 := NB127_138.out
     have hns42_3 := NB128_138.out
     have hns42_4 := NB132_138.out
     have hms42_0 := NB138_121.out
     have hms42_1 := NB138_122.out
     have hms42_2 := NB138_127.out
     have hms42_3 := NB138_128.out
     have hms42_4 := NB138_132.out
     have hs43 : w'.cell? ⟨gb138, 1, none⟩ = some (.int .u64 0) := (blk_cell BK138.out 1).trans rfl
     have hfs43 := blk_frozen BK138.out 1
     have hns43_0 := NB121_138.out
     have hns43_1 := NB122_138.out
     have hns43_2 := NB127_138.out
     have hns43_3 := NB128_138.out
     have hns43_4 := NB132_138.out
     have hms43_0 := NB138_121.out
     have hms43_1 := NB138_122.out
     have hms43_2 := NB138_127.out
     have hms43_3 := NB138_128.out
     have hms43_4 := NB138_132.out
     refine skip_ (w1 := ?_) (by rfl) rfl ?_ ?_
     rotate_left
     ·go_simp
      rfl
     refine hK.out _ _ ⟨gb138, m8_, (by rw [ha.out]; exact putSel_none (v := undef) rfl), (by refine blk_far ?_ NB121_138.out _; refine blk_far ?_ NB121_138.out _; exact BK121.out), (by refine blk_far ?_ NB122_138.out _; refine blk_far ?_ NB122_138.out _; exact BK122.out), (by refine blk_far ?_ NB127_138.out _; refine blk_far ?_ NB127_138.out _; exact BK127.out), (by refine blk_far ?_ NB128_138.out _; refine blk_far ?_ NB128_138.out _; exact BK128.out), (by refine blk_far ?_ NB132_138.out _; refine blk_far ?_ NB132_138.out _; exact BK132.out), (by repeat (first | (with_reducible first | exact HB.out | apply below_alloc | apply pw_below_drewN | apply below_drew1 | refine below_set ?_ GE121.out | refine below_set ?_ GE122.out | refine below_set ?_ GE127.out | refine below_set ?_ GE128.out | refine below_set ?_ GE132.out | refine below_set ?_ GE138.out) | exact HB.out)), fun _ h1_ => absurd ((up_self b 9).symm.trans h1_) (by decide), fun _ => GW138.out, fun _ => GE138.out, fun _ => NB121_138.out, fun _ => NB138_121.out, fun _ => NB122_138.out, fun _ => NB138_122.out, fun _ => NB127_138.out, fun _ => NB138_127.out, fun _ => NB128_138.out, fun _ => NB138_128.out, fun _ => NB132_138.out, fun _ => NB138_132.out, fun _ => (by refine blk_put (cs := #[.int .u64 t135, .int .u64 0]) ?_ 1 _ rfl; refine blk_put (cs := #[.int .u64 0, .int .u64 0]) ?_ 0 _ rfl; exact BK138.out), Q_X8_⟩
    refine steps_cons ?_ ?_
    ·rintro b a w' ⟨gb138, m8_, ha, Q_BK121, Q_BK122, Q_BK127, Q_BK128, Q_BK132, Q_HB, Q_BK138, Q_GW138, Q_GE138, Q_NB121_138, Q_NB138_121, Q_NB122_138, Q_NB138_122, Q_NB127_138, Q_NB138_127, Q_NB128_138, Q_NB138_128, Q_NB132_138, Q_NB138_132, Q_BK138_e9, Q_X8_⟩ hb_ hon hoff
     refine ⟨_, rfl, fun K hK => ?_⟩
     have e33 : a.tmps[33]? = some (.bool t137) := by rw [ha]; exact putSel_on (e := (7, 33, .bool t137)) 6 rfl rfl (hon 7 (by kernel_rfl)) rfl
     replace ha := Aside0.mk ha
     have BK121 := Aside0.mk Q_BK121
     have BK122 := Aside0.mk Q_BK122
     have BK127 := Aside0.mk Q_BK127
     have BK128 := Aside0.mk Q_BK128
     have BK132 := Aside0.mk Q_BK132
     have HB := Aside0.mk Q_HB
     have GW138 := Aside0.mk (Q_GW138 (hon 8 (by kernel_rfl)))
     have GE138 := Aside0.mk (Q_GE138 (hon 8 (by kernel_rfl)))
     have NB121_138 := Aside0.mk (Q_NB121_138 (hon 8 (by kernel_rfl)))
     have NB138_121 := Aside0.mk (Q_NB138_121 (hon 8 (by kernel_rfl)))
     have NB122_138 := Aside0.mk (Q_NB122_138 (hon 8 (by kernel_rfl)))
     have NB138_122 := Aside0.mk (Q_NB138_122 (hon 8 (by kernel_rfl)))
     have NB127_138 := Aside0.mk (Q_NB127_138 (hon 8 (by kernel_rfl)))
     have NB138_127 := Aside0.mk (Q_NB138_127 (hon 8 (by kernel_rfl)))
     have NB128_138 := Aside0.mk (Q_NB128_138 (hon 8 (by kernel_rfl)))
     have NB138_128 := Aside0.mk (Q_NB138_128 (hon 8 (by kernel_rfl)))
     have NB132_138 := Aside0.mk (Q_NB132_138 (hon 8 (by kernel_rfl)))
     have NB138_132 := Aside0.mk (Q_NB138_132 (hon 8 (by kernel_rfl)))
     have BK138 := Aside0.mk (Q_BK138_e9 (hon 9 (by kernel_rfl)))
     refine value_ (w1 := w') (v := .bool t137) (by rfl) rfl ?_ ?_
     ·go_simp
      (try simp only [i64_w])
      try rfl
     refine hK.out _ _ ⟨gb138, m8_, (by rw [ha.out]; exact putSel_upk 8 hb_ rfl rfl rfl), Q_BK121, Q_BK122, Q_BK127, Q_BK128, Q_BK132, Q_HB, fun _ h1_ => absurd ((hon 9 (by kernel_rfl)).symm.trans h1_) (by decide), Q_GW138, Q_GE138, Q_NB121_138, Q_NB138_121, Q_NB122_138, Q_NB138_122, Q_NB127_138, Q_NB138_127, Q_NB128_138, Q_NB138_128, Q_NB132_138, Q_NB138_132, Q_BK138_e9, Q_X8_⟩
    exact steps_nil
   rintro b a w43 hall ⟨gb138, m8_, ha, Q_BK121, Q_BK122, Q_BK127, Q_BK128, Q_BK132, Q_HB, Q_BK138, Q_GW138, Q_GE138, Q_NB121_138, Q_NB138_121, Q_NB122_138, Q_NB138_122, Q_NB127_138, Q_NB138_127, Q_NB128_138, Q_NB138_128, Q_NB132_138, Q_NB138_132, Q_BK138_e9, Q_X8_⟩
   clear BK121 BK122 BK127 BK128 BK132 HB
   have hb0_ := hall 0 (by kernel_rfl)
   have hb2_ := hall 2 (by kernel_rfl)
   have hb3_ := hall 3 (by kernel_rfl)
   have hb4_ := hall 4 (by kernel_rfl)
   have hb5_ := hall 5 (by kernel_rfl)
   have hb6_ := hall 6 (by kernel_rfl)
   have hb7_ := hall 7 (by kernel_rfl)
   have hb8_ := hall 8 (by kernel_rfl)
   have hb9_ := hall 9 (by kernel_rfl)
   have hb10_ := hall 10 (by kernel_rfl)
   subst ha
   obtain rfl := Q_X8_ hb8_
   simp only [putSel, hb0_, hb2_, hb3_, hb4_, hb5_, hb6_, hb7_, hb8_, hb9_, hb10_, if_true, Act.put, List.setIfInBounds_toArray, List.set_cons_zero, List.set_cons_succ]
   have BK121 := Aside0.mk Q_BK121
   clear Q_BK121
   have BK122 := Aside0.mk Q_BK122
   clear Q_BK122
   have BK127 := Aside0.mk Q_BK127
   clear Q_BK127
   have BK128 := Aside0.mk Q_BK128
   clear Q_BK128
   have BK132 := Aside0.mk Q_BK132
   clear Q_BK132
   have HB := Aside0.mk Q_HB
   clear Q_HB
   clear Q_BK138
   have GW138 := Aside0.mk (Q_GW138 hb8_)
   clear Q_GW138
   have GE138 := Aside0.mk (Q_GE138 hb8_)
   clear Q_GE138
   have NB121_138 := Aside0.mk (Q_NB121_138 hb8_)
   clear Q_NB121_138
   have NB138_121 := Aside0.mk (Q_NB138_121 hb8_)
   clear Q_NB138_121
   have NB122_138 := Aside0.mk (Q_NB122_138 hb8_)
   clear Q_NB122_138
   have NB138_122 := Aside0.mk (Q_NB138_122 hb8_)
   clear Q_NB138_122
   have NB127_138 := Aside0.mk (Q_NB127_138 hb8_)
   clear Q_NB127_138
   have NB138_127 := Aside0.mk (Q_NB138_127 hb8_)
   clear Q_NB138_127
   have NB128_138 := Aside0.mk (Q_NB128_138 hb8_)
   clear Q_NB128_138
   have NB138_128 := Aside0.mk (Q_NB138_128 hb8_)
   clear Q_NB138_128
   have NB132_138 := Aside0.mk (Q_NB132_138 hb8_)
   clear Q_NB132_138
   have NB138_132 := Aside0.mk (Q_NB138_132 hb8_)
   clear Q_NB138_132
   have BK138 := Aside0.mk (Q_BK138_e9 hb9_)
   clear Q_BK138_e9
   clear hall hb0_ hb2_ hb3_ hb4_ hb5_ hb6_ hb7_ hb8_ hb9_ hb10_
   have hnb44 := NB138_121.out
   have hnc44 := NB121_138.out
   have hnb45 := NB138_122.out
   have hnc45 := NB122_138.out
   have hnb46 := NB138_127.out
   have hnc46 := NB127_138.out
   have hnb47 := NB138_128.out
   have hnc47 := NB128_138.out
   have hnb48 := NB138_132.out
   have hnc48 := NB132_138.out
   have hcz49_0 : w43.cell? ⟨gb138, 0, none⟩ = some (.int .u64 t135) := (blk_cell BK138.out 0).trans rfl
   have hcz49_1 : w43.cell? ⟨gb138, 1, none⟩ = some (.int .u64 t136) := (blk_cell BK138.out 1).trans rfl
   have hfz49_0 := blk_frozen BK138.out 0
   have hfz49_1 := blk_frozen BK138.out 1
   have hcz50_0 : w43.cell? ⟨gb128, 0, none⟩ = some (.int .u64 t125) := (blk_cell BK128.out 0).trans rfl
   have hcz50_1 : w43.cell? ⟨gb128, 1, none⟩ = some (.int .u64 t126) := (blk_cell BK128.out 1).trans rfl
   have hfz50_0 := blk_frozen BK128.out 0
   have hfz50_1 := blk_frozen BK128.out 1
   have hnb51 := NB122_121.out
   have hnc51 := NB121_122.out
   have hcz52_0 : w43.cell? ⟨gb122, 0, none⟩ = some (.int .u64 0) := (blk_cell BK122.out 0).trans rfl
   have hcz52_1 : w43.cell? ⟨gb122, 1, none⟩ = some (.int .u64 0) := (blk_cell BK122.out 1).trans rfl
   have hfz52_0 := blk_frozen BK122.out 0
   have hfz52_1 := blk_frozen BK122.out 1
   try go_wp2
   refine bodyPost_ret (results_ct rfl _ _ gb122 25 #[.int .u64 t135, .int .u64 t136] (0, 0) _ rfl (by refine blk_put (cs := #[.int .u64 t135, .int .u64 0]) ?_ 1 _ rfl; refine blk_put (cs := #[.int .u64 0, .int .u64 0]) ?_ 0 _ rfl; exact BK122.out) Try.underlying25 rfl (by kernel_rfl)) rfl ?_
   exact ⟨by first | rfl | (simp [errW_none, errW_some] <;> rfl) | (simp [*, errW_none, errW_some] <;> rfl), by repeat (first | (with_reducible first | exact HB.out | apply below_alloc | apply pw_below_drewN | apply below_drew1 | refine below_set ?_ GE121.out | refine below_set ?_ GE122.out | refine below_set ?_ GE127.out | refine below_set ?_ GE128.out | refine below_set ?_ GE132.out | refine below_set ?_ GE138.out) | exact HB.out)⟩
  ·replace c9 := Bool.eq_false_iff.mpr c9
   subst c9
   have H1 : (some (t135, t136, t137)) = some (r1, r2, r3) := by rw [if_neg (show ¬ (false = true) by decide)] at H; exact H
   clear H
   have H := H1
   clear H1
   simp only [Option.some.injEq, Prod.mk.injEq] at H
   obtain ⟨rfl, rfl, rfl⟩ := H
   go_enter Try.func46, Try.ntmps46
   try go_wp2_with (first | ((with_reducible refine gate_dst (N := 2) rfl ?_); refine box_event ?hg (N := 2) ?hd (cs := #[.int .u64 a0_0, .int .u64 a0_1]) (t := 25) ?hr ?_; (case hd => rfl); (case hg => rfl); (case hr => first | (go_simp; done) | (go_simp; rfl)); intro gb121 hg w53 hbox hb; have n0_ := Aside0.mk (below_step (by repeat (first | (with_reducible first | exact HB.out | apply below_alloc | apply pw_below_drewN | apply below_drew1) | exact HB.out)) hb); have n1_ := Aside0.mk (hbox); have n2_ := Aside0.mk ((by rw [hg]; exact (below_size (by repeat (first | (with_reducible first | exact HB.out | apply below_alloc | apply pw_below_drewN | apply below_drew1) | exact HB.out))) : w.heap.size ≤ gb121)); have n3_ := Aside0.mk ((by rw [hg]; exact (below_size (by repeat (first | (with_reducible first | exact HB.out | apply below_alloc | apply pw_below_drewN | apply below_drew1) | exact HB.out))) : w.heap.size ≤ gb121)); clear HB; have HB := n0_; have BK121 := n1_; have GW121 := n2_; have GE121 := n3_; clear n0_ n1_ n2_ n3_; clear hb hbox hg) | ((with_reducible refine gate_dst (N := 4) rfl ?_); refine box_event ?hg (N := 4) ?hd (cs := #[.int .u64 0, .int .u64 0]) (t := 25) ?hr ?_; (case hd => rfl); (case hg => rfl); (case hr => first | (go_simp; done) | (go_simp; rfl)); intro gb122 hg w54 hbox hb; have n0_ := Aside0.mk (blk_below (by exact BK121.out) hb); have n1_ := Aside0.mk (below_step (by repeat (first | (with_reducible first | exact HB.out | apply below_alloc | apply pw_below_drewN | apply below_drew1 | refine below_set ?_ GE121.out) | exact HB.out)) hb); have n2_ := Aside0.mk (hbox); have n3_ := Aside0.mk ((by rw [hg]; exact (below_size (by repeat (first | (with_reducible first | exact HB.out | apply below_alloc | apply pw_below_drewN | apply below_drew1 | refine below_set ?_ GE121.out) | exact HB.out))) : w.heap.size ≤ gb122)); have n4_ := Aside0.mk ((by rw [hg]; exact (below_size (by repeat (first | (with_reducible first | exact HB.out | apply below_alloc | apply pw_below_drewN | apply below_drew1 | refine below_set ?_ GE121.out) | exact HB.out))) : w.heap.size ≤ gb122)); have n5_ := Aside0.mk ((by rw [hg]; exact Nat.ne_of_lt (blk_lt (by exact BK121.out)) : gb121 ≠ gb122)); have n6_ := Aside0.mk ((by rw [hg]; exact Nat.ne_of_gt (blk_lt (by exact BK121.out)) : gb122 ≠ gb121)); clear BK121; clear HB; have BK121 := n0_; have HB := n1_; have BK122 := n2_; have GW122 := n3_; have GE122 := n4_; have NB121_122 := n5_; have NB122_121 := n6_; clear n0_ n1_ n2_ n3_ n4_ n5_ n6_; clear hb hbox hg))
   have n0_ := Aside0.mk (blk_drew BK121.out)
   have n1_ := Aside0.mk (blk_drew BK122.out)
   have n2_ := Aside0.mk (below_drew1 HB.out)
   clear BK121
   clear BK122
   clear HB
   have BK121 := n0_
   have BK122 := n1_
   have HB := n2_
   clear n0_ n1_ n2_
   refine start_ (n := 10) (S := fun w' => True) (ds := []) #[false, false, false, false, false, false, false, false, false, false] (by kernel_rfl) rfl rfl trivial (fun hHeld => ?_); refine with_tabW wide_Num_times.tab1 wide_Num_times.bits1 (fun HT_ HW_ => ?_)
   generalize w54.drew = w55 at BK121 BK122 HB hHeld ⊢
   refine pure_ (i := 0) (N := some 12) (v := ?_) (a' := ?_) #[true, false, false, false, false, false, false, false, false, false] rfl rfl (any_of HT_.out (by kernel_rfl)) (fun _ _ _ h => h) (Or.inl ⟨by rfl, ?_⟩) ?_ ?_
   rotate_left
   ·intro w'
    go_simp
    with_reducible rfl
   rotate_left
   ·simp only [Act.put, List.setIfInBounds_toArray, List.set_cons_zero, List.set_cons_succ, i64_w, i32_w]
    rfl
   refine pure_ (i := 3) (N := some 15) (v := ?_) (a' := ?_) #[true, false, false, true, false, false, false, false, false, false] rfl rfl (any_of HT_.out (by kernel_rfl)) (fun _ _ _ h => h) (Or.inl ⟨by rfl, ?_⟩) ?_ ?_
   rotate_left
   ·intro w'
    go_simp
    with_reducible rfl
   rotate_left
   ·simp only [Act.put, List.setIfInBounds_toArray, List.set_cons_zero, List.set_cons_succ, i64_w, i32_w]
    rfl
   refine inv_at [1, 2, 4, 5, 6, 7, 8, 9] (fun a0_ b a w' => ∃ (gb127 : Nat) (gb128 : Nat) (m6_ : Value) (m7_ : Value), a = putSel a0_ b [(1, 13, .int .u64 a0_1), (2, 14, .agg #[.int .u64 t123, .int .u64 t124]), (4, 16, .int .u64 a0_0), (5, 17, .agg #[.int .u64 t125, .int .u64 t126]), (6, 6, m6_), (7, 7, m7_)] ∧ (w'.heap[gb121]? = some (.cells #[.int .u64 a0_0, .int .u64 a0_1] 25 (0, 0))) ∧ (w'.heap[gb122]? = some (.cells #[.int .u64 0, .int .u64 0] 25 (0, 0))) ∧ (Below w.heap.size w w') ∧ (b 6 = true → b 7 = true → gb128 ≠ gb127) ∧ (b 6 = true → b 7 = true → gb127 ≠ gb128) ∧ (b 6 = true → b 8 = false → w'.heap[gb127]? = some (.cells #[.int .u64 0, .int .u64 0] 25 (0, 0))) ∧ (b 6 = true → w.heap.size ≤ gb127) ∧ (b 6 = true → w.heap.size ≤ gb127) ∧ (b 6 = true → gb121 ≠ gb127) ∧ (b 6 = true → gb127 ≠ gb121) ∧ (b 6 = true → gb122 ≠ gb127) ∧ (b 6 = true → gb127 ≠ gb122) ∧ (b 7 = true → b 9 = false → w'.heap[gb128]? = some (.cells #[.int .u64 0, .int .u64 0] 25 (0, 0))) ∧ (b 7 = true → w.heap.size ≤ gb128) ∧ (b 7 = true → w.heap.size ≤ gb128) ∧ (b 7 = true → gb121 ≠ gb128) ∧ (b 7 = true → gb128 ≠ gb121) ∧ (b 7 = true → gb122 ≠ gb128) ∧ (b 7 = true → gb128 ≠ gb122) ∧ (b 8 = true → w'.heap[gb127]? = some (.cells #[.int .u64 t123, .int .u64 t124] 25 (0, 0))) ∧ (b 9 = true → w'.heap[gb128]? = some (.cells #[.int .u64 t125, .int .u64 t126] 25 (0, 0))) ∧ (b 6 = true → (m6_ : Value) = .pointer (some ⟨gb127, 0, none⟩)) ∧ (b 7 = true → (m7_ : Value) = .pointer (some ⟨gb128, 0, none⟩))) HT_.out HW_.out (by kernel_rfl) (by kernel_rfl) ?_ ?_ ?_
   ·exact ⟨0, 0, .bool false, .bool false, by simp only [putSel, Bool.false_eq_true, if_false], BK121.out, BK122.out, HB.out, fun h_ => absurd h_ (by decide), fun h_ => absurd h_ (by decide), fun h_ => absurd h_ (by decide), fun h_ => absurd h_ (by decide), fun h_ => absurd h_ (by decide), fun h_ => absurd h_ (by decide), fun h_ => absurd h_ (by decide), fun h_ => absurd h_ (by decide), fun h_ => absurd h_ (by decide), fun h_ => absurd h_ (by decide), fun h_ => absurd h_ (by decide), fun h_ => absurd h_ (by decide), fun h_ => absurd h_ (by decide), fun h_ => absurd h_ (by decide), fun h_ => absurd h_ (by decide), fun h_ => absurd h_ (by decide), fun h_ => absurd h_ (by decide), fun h_ => absurd h_ (by decide), fun h_ => absurd h_ (by decide), fun h_ => absurd h_ (by decide)⟩
   ·skip
    clear BK121 BK122 HB
    refine steps_cons ?_ ?_
    ·rintro b a w' ⟨gb127, gb128, m6_, m7_, ha, Q_BK121, Q_BK122, Q_HB, Q_NB128_127, Q_NB127_128, Q_BK127, Q_GW127, Q_GE127, Q_NB121_127, Q_NB127_121, Q_NB122_127, Q_NB127_122, Q_BK128, Q_GW128, Q_GE128, Q_NB121_128, Q_NB128_121, Q_NB122_128, Q_NB128_122, Q_BK127_e8, Q_BK128_e9, Q_X6_, Q_X7_⟩ hb_ hon hoff
     refine ⟨_, rfl, fun K hK => ?_⟩
     have e12 : a.tmps[12]? = some (.pointer (some ⟨gb121, 1, none⟩)) := by rw [ha]; exact (putSel_off rfl).trans rfl
     replace ha := Aside0.mk ha
     have BK121 := Aside0.mk Q_BK121
     have BK122 := Aside0.mk Q_BK122
     have HB := Aside0.mk Q_HB
     have hc0_ : w'.cell? ⟨gb121, 0, none⟩ = some (.int .u64 a0_0) := (blk_cell BK121.out 0).trans rfl
     have hc1_ : w'.cell? ⟨gb121, 1, none⟩ = some (.int .u64 a0_1) := (blk_cell BK121.out 1).trans rfl
     refine value_ (w1 := w') (v := .int .u64 a0_1) (by rfl) rfl ?_ ?_
     ·go_simp
      (try simp only [i64_w])
      try rfl
     refine hK.out _ _ ⟨gb127, gb128, m6_, m7_, (by rw [ha.out]; exact putSel_upk 0 hb_ rfl rfl rfl), Q_BK121, Q_BK122, Q_HB, Q_NB128_127, Q_NB127_128, Q_BK127, Q_GW127, Q_GE127, Q_NB121_127, Q_NB127_121, Q_NB122_127, Q_NB127_122, Q_BK128, Q_GW128, Q_GE128, Q_NB121_128, Q_NB128_121, Q_NB122_128, Q_NB128_122, fun h0_ => absurd ((hoff 8 (by kernel_rfl)).symm.trans h0_) (by decide), fun h0_ => absurd ((hoff 9 (by kernel_rfl)).symm.trans h0_) (by decide), Q_X6_, Q_X7_⟩
    refine steps_cons ?_ ?_
    ·rintro b a w' ⟨gb127, gb128, m6_, m7_, ha, Q_BK121, Q_BK122, Q_HB, Q_NB128_127, Q_NB127_128, Q_BK127, Q_GW127, Q_GE127, Q_NB121_127, Q_NB127_121, Q_NB122_127, Q_NB127_122, Q_BK128, Q_GW128, Q_GE128, Q_NB121_128, Q_NB128_121, Q_NB122_128, Q_NB128_122, Q_BK127_e8, Q_BK128_e9, Q_X6_, Q_X7_⟩ hb_ hon hoff
     refine ⟨_, rfl, fun K hK => ?_⟩
     have e13 : a.tmps[13]? = some (.int .u64 a0_1) := by rw [ha]; exact putSel_on (e := (1, 13, .int .u64 a0_1)) 0 rfl rfl (hon 1 (by kernel_rfl)) rfl
     replace ha := Aside0.mk ha
     have BK121 := Aside0.mk Q_BK121
     have BK122 := Aside0.mk Q_BK122
     have HB := Aside0.mk Q_HB
     refine goes_ Try.func12 (by kernel_rfl) rfl #[.int .u64 a0_1, .int .u64 10] (by rfl) rfl rfl (by first | (simp only [List.map_toArray, List.map_cons, List.map_nil, Act.eval, Array.getD_eq_getD_getElem?, Option.getD_some, e13]; done) | (simp only [List.map_toArray, List.map_cons, List.map_nil, Act.eval, Array.getD_eq_getD_getElem?, Option.getD_some, e13]; rfl)) ?_
     with_reducible refine (wide_Mul.calls a0_1 10 t123 t124 _ A3.out).mono ?_
     rintro e w56 ⟨rfl, hb⟩
     refine ⟨_, rfl, ?_⟩
     have n0_ := Aside0.mk (blk_below (by exact BK121.out) hb)
     have n1_ := Aside0.mk (blk_below (by exact BK122.out) hb)
     have n2_ := Aside0.mk (below_step (by repeat (first | (with_reducible first | exact HB.out | apply below_alloc | apply pw_below_drewN | apply below_drew1 | refine below_set ?_ GE121.out | refine below_set ?_ GE122.out) | exact HB.out)) hb)
     have z_BK127 := fun (h0_ : b 6 = true) (h1_ : b 8 = false) => (show w56.heap[gb127]? = some (.cells #[.int .u64 0, .int .u64 0] 25 (0, 0)) from by first | exact (blk_below (g := gb127) (o := .cells #[.int .u64 0, .int .u64 0] 25 (0, 0)) (by exact (Q_BK127 h0_ h1_)) hb))
     have z_BK128 := fun (h0_ : b 7 = true) (h1_ : b 9 = false) => (show w56.heap[gb128]? = some (.cells #[.int .u64 0, .int .u64 0] 25 (0, 0)) from by first | exact (blk_below (g := gb128) (o := .cells #[.int .u64 0, .int .u64 0] 25 (0, 0)) (by exact (Q_BK128 h0_ h1_)) hb))
     clear BK121
     clear BK122
     clear HB
     have BK121 := n0_
     have BK122 := n1_
     have HB := n2_
     clear n0_ n1_ n2_
     (try clear hb)
     (try clear hb2)
     (try clear hk)
     (try clear hi)
     refine hK.out _ _ ⟨gb127, gb128, m6_, m7_, (by rw [ha.out]; exact putSel_upk 1 hb_ rfl rfl rfl), (by exact BK121.out), (by exact BK122.out), (by repeat (first | (with_reducible first | exact HB.out | apply below_alloc | apply pw_below_drewN | apply below_drew1 | refine below_set ?_ GE121.out | refine below_set ?_ GE122.out) | exact HB.out)), Q_NB128_127, Q_NB127_128, z_BK127, Q_GW127, Q_GE127, Q_NB121_127, Q_NB127_121, Q_NB122_127, Q_NB127_122, z_BK128, Q_GW128, Q_GE128, Q_NB121_128, Q_NB128_121, Q_NB122_128, Q_NB128_122, fun h0_ => absurd ((hoff 8 (by kernel_rfl)).symm.trans h0_) (by decide), fun h0_ => absurd ((hoff 9 (by kernel_rfl)).symm.trans h0_) (by decide), Q_X6_, Q_X7_⟩
    refine steps_cons ?_ ?_
    ·rintro b a w' ⟨gb127, gb128, m6_, m7_, ha, Q_BK121, Q_BK122, Q_HB, Q_NB128_127, Q_NB127_128, Q_BK127, Q_GW127, Q_GE127, Q_NB121_127, Q_NB127_121, Q_NB122_127, Q_NB127_122, Q_BK128, Q_GW128, Q_GE128, Q_NB121_128, Q_NB128_121, Q_NB122_128, Q_NB128_122, Q_BK127_e8, Q_BK128_e9, Q_X6_, Q_X7_⟩ hb_ hon hoff
     refine ⟨_, rfl, fun K hK => ?_⟩
     have e15 : a.tmps[15]? = some (.pointer (some ⟨gb121, 0, none⟩)) := by rw [ha]; exact (putSel_off rfl).trans rfl
     replace ha := Aside0.mk ha
     have BK121 := Aside0.mk Q_BK121
     have BK122 := Aside0.mk Q_BK122
     have HB := Aside0.mk Q_HB
     have hc0_ : w'.cell? ⟨gb121, 0, none⟩ = some (.int .u64 a0_0) := (blk_cell BK121.out 0).trans rfl
     have hc1_ : w'.cell? ⟨gb121, 1, none⟩ = some (.int .u64 a0_1) := (blk_cell BK121.out 1).trans rfl
     refine value_ (w1 := w') (v := .int .u64 a0_0) (by rfl) rfl ?_ ?_
     ·go_simp
      (try simp only [i64_w])
      try rfl
     refine hK.out _ _ ⟨gb127, gb128, m6_, m7_, (by rw [ha.out]; exact putSel_upk 2 hb_ rfl rfl rfl), Q_BK121, Q_BK122, Q_HB, Q_NB128_127, Q_NB127_128, Q_BK127, Q_GW127, Q_GE127, Q_NB121_127, Q_NB127_121, Q_NB122_127, Q_NB127_122, Q_BK128, Q_GW128, Q_GE128, Q_NB121_128, Q_NB128_121, Q_NB122_128, Q_NB128_122, fun h0_ => absurd ((hoff 8 (by kernel_rfl)).symm.trans h0_) (by decide), fun h0_ => absurd ((hoff 9 (by kernel_rfl)).symm.trans h0_) (by decide), Q_X6_, Q_X7_⟩
    refine steps_cons ?_ ?_
    ·rintro b a w' ⟨gb127, gb128, m6_, m7_, ha, Q_BK121, Q_BK122, Q_HB, Q_NB128_127, Q_NB127_128, Q_BK127, Q_GW127, Q_GE127, Q_NB121_127, Q_NB127_121, Q_NB122_127, Q_NB127_122, Q_BK128, Q_GW128, Q_GE128, Q_NB121_128, Q_NB128_121, Q_NB122_128, Q_NB128_122, Q_BK127_e8, Q_BK128_e9, Q_X6_, Q_X7_⟩ hb_ hon hoff
     refine ⟨_, rfl, fun K hK => ?_⟩
     have e16 : a.tmps[16]? = some (.int .u64 a0_0) := by rw [ha]; exact putSel_on (e := (4, 16, .int .u64 a0_0)) 2 rfl rfl (hon 4 (by kernel_rfl)) rfl
     replace ha := Aside0.mk ha
     have BK121 := Aside0.mk Q_BK121
     have BK122 := Aside0.mk Q_BK122
     have HB := Aside0.mk Q_HB
     refine goes_ Try.func12 (by kernel_rfl) rfl #[.int .u64 a0_0, .int .u64 10] (by rfl) rfl rfl (by first | (simp only [List.map_toArray, List.map_cons, List.map_nil, Act.eval, Array.getD_eq_getD_getElem?, Option.getD_some, e16]; done) | (simp only [List.map_toArray, List.map_cons, List.map_nil, Act.eval, Array.getD_eq_getD_getElem?, Option.getD_some, e16]; rfl)) ?_
     with_reducible refine (wide_Mul.calls a0_0 10 t125 t126 _ A4.out).mono ?_
     rintro e w58 ⟨rfl, hb⟩
     refine ⟨_, rfl, ?_⟩
     have n0_ := Aside0.mk (blk_below (by exact BK121.out) hb)
     have n1_ := Aside0.mk (blk_below (by exact BK122.out) hb)
     have n2_ := Aside0.mk (below_step (by repeat (first | (with_reducible first | exact HB.out | apply below_alloc | apply pw_below_drewN | apply below_drew1 | refine below_set ?_ GE121.out | refine below_set ?_ GE122.out) | exact HB.out)) hb)
     have z_BK127 := fun (h0_ : b 6 = true) (h1_ : b 8 = false) => (show w58.heap[gb127]? = some (.cells #[.int .u64 0, .int .u64 0] 25 (0, 0)) from by first | exact (blk_below (g := gb127) (o := .cells #[.int .u64 0, .int .u64 0] 25 (0, 0)) (by exact (Q_BK127 h0_ h1_)) hb))
     have z_BK128 := fun (h0_ : b 7 = true) (h1_ : b 9 = false) => (show w58.heap[gb128]? = some (.cells #[.int .u64 0, .int .u64 0] 25 (0, 0)) from by first | exact (blk_below (g := gb128) (o := .cells #[.int .u64 0, .int .u64 0] 25 (0, 0)) (by exact (Q_BK128 h0_ h1_)) hb))
     clear BK121
     clear BK122
     clear HB
     have BK121 := n0_
     have BK122 := n1_
     have HB := n2_
     clear n0_ n1_ n2_
     (try clear hb)
     (try clear hb2)
     (try clear hk)
     (try clear hi)
     refine hK.out _ _ ⟨gb127, gb128, m6_, m7_, (by rw [ha.out]; exact putSel_upk 3 hb_ rfl rfl rfl), (by exact BK121.out), (by exact BK122.out), (by repeat (first | (with_reducible first | exact HB.out | apply below_alloc | apply pw_below_drewN | apply below_drew1 | refine below_set ?_ GE121.out | refine below_set ?_ GE122.out) | exact HB.out)), Q_NB128_127, Q_NB127_128, z_BK127, Q_GW127, Q_GE127, Q_NB121_127, Q_NB127_121, Q_NB122_127, Q_NB127_122, z_BK128, Q_GW128, Q_GE128, Q_NB121_128, Q_NB128_121, Q_NB122_128, Q_NB128_122, fun h0_ => absurd ((hoff 8 (by kernel_rfl)).symm.trans h0_) (by decide), fun h0_ => absurd ((hoff 9 (by kernel_rfl)).symm.trans h0_) (by decide), Q_X6_, Q_X7_⟩
    refine steps_cons ?_ ?_
    ·rintro b a w' ⟨gb127, gb128, m6_, m7_, ha, Q_BK121, Q_BK122, Q_HB, Q_NB128_127, Q_NB127_128, Q_BK127, Q_GW127, Q_GE127, Q_NB121_127, Q_NB127_121, Q_NB122_127, Q_NB127_122, Q_BK128, Q_GW128, Q_GE128, Q_NB121_128, Q_NB128_121, Q_NB122_128, Q_NB128_122, Q_BK127_e8, Q_BK128_e9, Q_X6_, Q_X7_⟩ hb_ hon hoff
     refine ⟨_, rfl, fun K hK => ?_⟩
     replace ha := Aside0.mk ha
     have BK121 := Aside0.mk Q_BK121
     have BK122 := Aside0.mk Q_BK122
     have HB := Aside0.mk Q_HB
     refine box_step ?hg (N := 6) ?hd (cs := #[.int .u64 0, .int .u64 0]) (t := 25) ?hr ?_; (case hd => rfl); (case hg => rfl); (case hr => first | (go_simp; done) | (go_simp; rfl))
     intro gb127 hg w56 hbox hb
     have n0_ := Aside0.mk (blk_below (by exact BK121.out) hb)
     have n1_ := Aside0.mk (blk_below (by exact BK122.out) hb)
     have n2_ := Aside0.mk (below_step (by repeat (first | (with_reducible first | exact HB.out | apply below_alloc | apply pw_below_drewN | apply below_drew1 | refine below_set ?_ GE121.out | refine below_set ?_ GE122.out) | exact HB.out)) hb)
     have n3_ := Aside0.mk (hbox)
     have n4_ := Aside0.mk ((by rw [hg]; exact (below_size (by repeat (first | (with_reducible first | exact HB.out | apply below_alloc | apply pw_below_drewN | apply below_drew1 | refine below_set ?_ GE121.out | refine below_set ?_ GE122.out) | exact HB.out))) : w.heap.size ≤ gb127))
     have n5_ := Aside0.mk ((by rw [hg]; exact (below_size (by repeat (first | (with_reducible first | exact HB.out | apply below_alloc | apply pw_below_drewN | apply below_drew1 | refine below_set ?_ GE121.out | refine below_set ?_ GE122.out) | exact HB.out))) : w.heap.size ≤ gb127))
     have n6_ := Aside0.mk ((by rw [hg]; exact Nat.ne_of_lt (blk_lt (by exact BK121.out)) : gb121 ≠ gb127))
     have n7_ := Aside0.mk ((by rw [hg]; exact Nat.ne_of_gt (blk_lt (by exact BK121.out)) : gb127 ≠ gb121))
     have n8_ := Aside0.mk ((by rw [hg]; exact Nat.ne_of_lt (blk_lt (by exact BK122.out)) : gb122 ≠ gb127))
     have n9_ := Aside0.mk ((by rw [hg]; exact Nat.ne_of_gt (blk_lt (by exact BK122.out)) : gb127 ≠ gb122))
     have z_NB128_127 := fun (h0_ : up b 6 6 = true) (h1_ : up b 6 7 = true) => (show gb128 ≠ gb127 from ((by rw [hg]; exact Nat.ne_of_lt (blk_lt (by exact (Q_BK128 h1_ (hoff 9 (by kernel_rfl))))) : gb128 ≠ gb127)))
     have z_NB127_128 := fun (h0_ : up b 6 6 = true) (h1_ : up b 6 7 = true) => (show gb127 ≠ gb128 from ((by rw [hg]; exact Nat.ne_of_gt (blk_lt (by exact (Q_BK128 h1_ (hoff 9 (by kernel_rfl))))) : gb127 ≠ gb128)))
     have z_BK128 := fun (h0_ : b 7 = true) (h1_ : b 9 = false) => (show w56.heap[gb128]? = some (.cells #[.int .u64 0, .int .u64 0] 25 (0, 0)) from by first | exact (blk_below (g := gb128) (o := .cells #[.int .u64 0, .int .u64 0] 25 (0, 0)) (by exact (Q_BK128 h0_ h1_)) hb))
     clear BK121
     clear BK122
     clear HB
     have BK121 := n0_
     have BK122 := n1_
     have HB := n2_
     have BK127 := n3_
     have GW127 := n4_
     have GE127 := n5_
     have NB121_127 := n6_
     have NB127_121 := n7_
     have NB122_127 := n8_
     have NB127_122 := n9_
     clear n0_ n1_ n2_ n3_ n4_ n5_ n6_ n7_ n8_ n9_
     clear hb hbox hg
     refine hK.out _ _ ⟨gb127, gb128, (.pointer (some ⟨gb127, 0, none⟩)), m7_, (by rw [ha.out]; exact putSel_upk 4 hb_ rfl rfl rfl), (by exact BK121.out), (by exact BK122.out), (by repeat (first | (with_reducible first | exact HB.out | apply below_alloc | apply pw_below_drewN | apply below_drew1 | refine below_set ?_ GE121.out | refine below_set ?_ GE122.out | refine below_set ?_ GE127.out) | exact HB.out)), @z_NB128_127, @z_NB127_128, fun _ _ => (by exact BK127.out), fun _ => GW127.out, fun _ => GE127.out, fun _ => NB121_127.out, fun _ => NB127_121.out, fun _ => NB122_127.out, fun _ => NB127_122.out, z_BK128, Q_GW128, Q_GE128, Q_NB121_128, Q_NB128_121, Q_NB122_128, Q_NB128_122, fun h0_ => absurd ((hoff 8 (by kernel_rfl)).symm.trans h0_) (by decide), fun h0_ => absurd ((hoff 9 (by kernel_rfl)).symm.trans h0_) (by decide), fun _ => rfl, Q_X7_⟩
    refine steps_cons ?_ ?_
    ·rintro b a w' ⟨gb127, gb128, m6_, m7_, ha, Q_BK121, Q_BK122, Q_HB, Q_NB128_127, Q_NB127_128, Q_BK127, Q_GW127, Q_GE127, Q_NB121_127, Q_NB127_121, Q_NB122_127, Q_NB127_122, Q_BK128, Q_GW128, Q_GE128, Q_NB121_128, Q_NB128_121, Q_NB122_128, Q_NB128_122, Q_BK127_e8, Q_BK128_e9, Q_X6_, Q_X7_⟩ hb_ hon hoff
     refine ⟨_, rfl, fun K hK => ?_⟩
     replace ha := Aside0.mk ha
     have BK121 := Aside0.mk Q_BK121
     have BK122 := Aside0.mk Q_BK122
     have HB := Aside0.mk Q_HB
     refine box_step ?hg (N := 7) ?hd (cs := #[.int .u64 0, .int .u64 0]) (t := 25) ?hr ?_; (case hd => rfl); (case hg => rfl); (case hr => first | (go_simp; done) | (go_simp; rfl))
     intro gb128 hg w56 hbox hb
     have n0_ := Aside0.mk (blk_below (by exact BK121.out) hb)
     have n1_ := Aside0.mk (blk_below (by exact BK122.out) hb)
     have n2_ := Aside0.mk (below_step (by repeat (first | (with_reducible first | exact HB.out | apply below_alloc | apply pw_below_drewN | apply below_drew1 | refine below_set ?_ GE121.out | refine below_set ?_ GE122.out) | exact HB.out)) hb)
     have n3_ := Aside0.mk (hbox)
     have n4_ := Aside0.mk ((by rw [hg]; exact (below_size (by repeat (first | (with_reducible first | exact HB.out | apply below_alloc | apply pw_below_drewN | apply below_drew1 | refine below_set ?_ GE121.out | refine below_set ?_ GE122.out) | exact HB.out))) : w.heap.size ≤ gb128))
     have n5_ := Aside0.mk ((by rw [hg]; exact (below_size (by repeat (first | (with_reducible first | exact HB.out | apply below_alloc | apply pw_below_drewN | apply below_drew1 | refine below_set ?_ GE121.out | refine below_set ?_ GE122.out) | exact HB.out))) : w.heap.size ≤ gb128))
     have n6_ := Aside0.mk ((by rw [hg]; exact Nat.ne_of_lt (blk_lt (by exact BK121.out)) : gb121 ≠ gb128))
     have n7_ := Aside0.mk ((by rw [hg]; exact Nat.ne_of_gt (blk_lt (by exact BK121.out)) : gb128 ≠ gb121))
     have n8_ := Aside0.mk ((by rw [hg]; exact Nat.ne_of_lt (blk_lt (by exact BK122.out)) : gb122 ≠ gb128))
     have n9_ := Aside0.mk ((by rw [hg]; exact Nat.ne_of_gt (blk_lt (by exact BK122.out)) : gb128 ≠ gb122))
     have z_NB128_127 := fun (h0_ : up b 7 6 = true) (h1_ : up b 7 7 = true) => (show gb128 ≠ gb127 from ((by rw [hg]; exact Nat.ne_of_gt (blk_lt (by exact (Q_BK127 h0_ (hoff 8 (by kernel_rfl))))) : gb128 ≠ gb127)))
     have z_NB127_128 := fun (h0_ : up b 7 6 = true) (h1_ : up b 7 7 = true) => (show gb127 ≠ gb128 from ((by rw [hg]; exact Nat.ne_of_lt (blk_lt (by exact (Q_BK127 h0_ (hoff 8 (by kernel_rfl))))) : gb127 ≠ gb128)))
     have z_BK127 := fun (h0_ : b 6 = true) (h1_ : b 8 = false) => (show w56.heap[gb127]? = some (.cells #[.int .u64 0, .int .u64 0] 25 (0, 0)) from by first | exact (blk_below (g := gb127) (o := .cells #[.int .u64 0, .int .u64 0] 25 (0, 0)) (by exact (Q_BK127 h0_ h1_)) hb))
     clear BK121
     clear BK122
     clear HB
     have BK121 := n0_
     have BK122 := n1_
     have HB := n2_
     have BK128 := n3_
     have GW128 := n4_
     have GE128 := n5_
     have NB121_128 := n6_
     have NB128_121 := n7_
     have NB122_128 := n8_
     have NB128_122 := n9_
     clear n0_ n1_ n2_ n3_ n4_ n5_ n6_ n7_ n8_ n9_
     clear hb hbox hg
     refine hK.out _ _ ⟨gb127, gb128, m6_, (.pointer (some ⟨gb128, 0, none⟩)), (by rw [ha.out]; exact putSel_upk 5 hb_ rfl rfl rfl), (by exact BK121.out), (by exact BK122.out), (by repeat (first | (with_reducible first | exact HB.out | apply below_alloc | apply pw_below_drewN | apply below_drew1 | refine below_set ?_ GE121.out | refine below_set ?_ GE122.out | refine below_set ?_ GE128.out) | exact HB.out)), @z_NB128_127, @z_NB127_128, z_BK127, Q_GW127, Q_GE127, Q_NB121_127, Q_NB127_121, Q_NB122_127, Q_NB127_122, fun _ _ => (by exact BK128.out), fun _ => GW128.out, fun _ => GE128.out, fun _ => NB121_128.out, fun _ => NB128_121.out, fun _ => NB122_128.out, fun _ => NB128_122.out, fun h0_ => absurd ((hoff 8 (by kernel_rfl)).symm.trans h0_) (by decide), fun h0_ => absurd ((hoff 9 (by kernel_rfl)).symm.trans h0_) (by decide), Q_X6_, fun _ => rfl⟩
    refine steps_cons ?_ ?_
    ·rintro b a w' ⟨gb127, gb128, m6_, m7_, ha, Q_BK121, Q_BK122, Q_HB, Q_NB128_127, Q_NB127_128, Q_BK127, Q_GW127, Q_GE127, Q_NB121_127, Q_NB127_121, Q_NB122_127, Q_NB127_122, Q_BK128, Q_GW128, Q_GE128, Q_NB121_128, Q_NB128_121, Q_NB122_128, Q_NB128_122, Q_BK127_e8, Q_BK128_e9, Q_X6_, Q_X7_⟩ hb_ hon hoff
     refine ⟨_, rfl, fun K hK => ?_⟩
     have e6 : a.tmps[6]? = some (m6_) := by rw [ha]; exact putSel_on (e := (6, 6, m6_)) 4 rfl rfl (hon 6 (by kernel_rfl)) rfl
     rw [Q_X6_ (hon 6 (by kernel_rfl))] at e6
     have e14 : a.tmps[14]? = some (.agg #[.int .u64 t123, .int .u64 t124]) := by rw [ha]; exact putSel_on (e := (2, 14, .agg #[.int .u64 t123, .int .u64 t124])) 1 rfl rfl (hon 2 (by kernel_rfl)) rfl
     replace ha := Aside0.mk ha
     have BK121 := Aside0.mk Q_BK121
     have BK122 := Aside0.mk Q_BK122
     have HB := Aside0.mk Q_HB
     have NB128_127 := Aside0.mk (Q_NB128_127 (hon 6 (by kernel_rfl)) (hon 7 (by kernel_rfl)))
     have NB127_128 := Aside0.mk (Q_NB127_128 (hon 6 (by kernel_rfl)) (hon 7 (by kernel_rfl)))
     have BK127 := Aside0.mk (Q_BK127 (hon 6 (by kernel_rfl)) hb_)
     have GW127 := Aside0.mk (Q_GW127 (hon 6 (by kernel_rfl)))
     have GE127 := Aside0.mk (Q_GE127 (hon 6 (by kernel_rfl)))
     have NB121_127 := Aside0.mk (Q_NB121_127 (hon 6 (by kernel_rfl)))
     have NB127_121 := Aside0.mk (Q_NB127_121 (hon 6 (by kernel_rfl)))
     have NB122_127 := Aside0.mk (Q_NB122_127 (hon 6 (by kernel_rfl)))
     have NB127_122 := Aside0.mk (Q_NB127_122 (hon 6 (by kernel_rfl)))
     have BK128 := Aside0.mk (Q_BK128 (hon 7 (by kernel_rfl)) (hoff 9 (by kernel_rfl)))
     have GW128 := Aside0.mk (Q_GW128 (hon 7 (by kernel_rfl)))
     have GE128 := Aside0.mk (Q_GE128 (hon 7 (by kernel_rfl)))
     have NB121_128 := Aside0.mk (Q_NB121_128 (hon 7 (by kernel_rfl)))
     have NB128_121 := Aside0.mk (Q_NB128_121 (hon 7 (by kernel_rfl)))
     have NB122_128 := Aside0.mk (Q_NB122_128 (hon 7 (by kernel_rfl)))
     have NB128_122 := Aside0.mk (Q_NB128_122 (hon 7 (by kernel_rfl)))
     have hs61 : w'.cell? ⟨gb127, 0, none⟩ = some (.int .u64 0) := (blk_cell BK127.out 0).trans rfl
     have hfs61 := blk_frozen BK127.out 0
     have hns61_0 := NB121_127.out
     have hns61_1 := NB122_127.out
     have hns61_3 := NB128_127.out
     have hms61_0 := NB127_121.out
     have hms61_1 := NB127_122.out
     have hms61_3 := NB127_128.out
     have hs62 : w'.cell? ⟨gb127, 1, none⟩ = some (.int .u64 0) := (blk_cell BK127.out 1).trans rfl
     have hfs62 := blk_frozen BK127.out 1
     have hns62_0 := NB121_127.out
     have hns62_1 := NB122_127.out
     have hns62_3 := NB128_127.out
     have hms62_0 := NB127_121.out
     have hms62_1 := NB127_122.out
     have hms62_3 := NB127_128.out
     refine skip_ (w1 := ?_) (by rfl) rfl ?_ ?_
     rotate_left
     ·go_simp
      rfl
     refine hK.out _ _ ⟨gb127, gb128, m6_, m7_, (by rw [ha.out]; exact putSel_none (v := undef) rfl), (by refine blk_far ?_ NB121_127.out _; refine blk_far ?_ NB121_127.out _; exact BK121.out), (by refine blk_far ?_ NB122_127.out _; refine blk_far ?_ NB122_127.out _; exact BK122.out), (by repeat (first | (with_reducible first | exact HB.out | apply below_alloc | apply pw_below_drewN | apply below_drew1 | refine below_set ?_ GE121.out | refine below_set ?_ GE122.out | refine below_set ?_ GE127.out | refine below_set ?_ GE128.out) | exact HB.out)), fun _ _ => NB128_127.out, fun _ _ => NB127_128.out, fun _ h1_ => absurd ((up_self b 8).symm.trans h1_) (by decide), fun _ => GW127.out, fun _ => GE127.out, fun _ => NB121_127.out, fun _ => NB127_121.out, fun _ => NB122_127.out, fun _ => NB127_122.out, fun _ _ => (by refine blk_far ?_ NB128_127.out _; refine blk_far ?_ NB128_127.out _; exact BK128.out), fun _ => GW128.out, fun _ => GE128.out, fun _ => NB121_128.out, fun _ => NB128_121.out, fun _ => NB122_128.out, fun _ => NB128_122.out, fun _ => (by refine blk_put (cs := #[.int .u64 t123, .int .u64 0]) ?_ 1 _ rfl; refine blk_put (cs := #[.int .u64 0, .int .u64 0]) ?_ 0 _ rfl; exact BK127.out), fun h0_ => absurd ((hoff 9 (by kernel_rfl)).symm.trans h0_) (by decide), Q_X6_, Q_X7_⟩
    refine steps_cons ?_ ?_
    ·rintro b a w' ⟨gb127, gb128, m6_, m7_, ha, Q_BK121, Q_BK122, Q_HB, Q_NB128_127, Q_NB127_128, Q_BK127, Q_GW127, Q_GE127, Q_NB121_127, Q_NB127_121, Q_NB122_127, Q_NB127_122, Q_BK128, Q_GW128, Q_GE128, Q_NB121_128, Q_NB128_121, Q_NB122_128, Q_NB128_122, Q_BK127_e8, Q_BK128_e9, Q_X6_, Q_X7_⟩ hb_ hon hoff
     refine ⟨_, rfl, fun K hK => ?_⟩
     have e7 : a.tmps[7]? = some (m7_) := by rw [ha]; exact putSel_on (e := (7, 7, m7_)) 5 rfl rfl (hon 7 (by kernel_rfl)) rfl
     rw [Q_X7_ (hon 7 (by kernel_rfl))] at e7
     have e17 : a.tmps[17]? = some (.agg #[.int .u64 t125, .int .u64 t126]) := by rw [ha]; exact putSel_on (e := (5, 17, .agg #[.int .u64 t125, .int .u64 t126])) 3 rfl rfl (hon 5 (by kernel_rfl)) rfl
     replace ha := Aside0.mk ha
     have BK121 := Aside0.mk Q_BK121
     have BK122 := Aside0.mk Q_BK122
     have HB := Aside0.mk Q_HB
     have NB128_127 := Aside0.mk (Q_NB128_127 (hon 6 (by kernel_rfl)) (hon 7 (by kernel_rfl)))
     have NB127_128 := Aside0.mk (Q_NB127_128 (hon 6 (by kernel_rfl)) (hon 7 (by kernel_rfl)))
     have GW127 := Aside0.mk (Q_GW127 (hon 6 (by kernel_rfl)))
     have GE127 := Aside0.mk (Q_GE127 (hon 6 (by kernel_rfl)))
     have NB121_127 := Aside0.mk (Q_NB121_127 (hon 6 (by kernel_rfl)))
     have NB127_121 := Aside0.mk (Q_NB127_121 (hon 6 (by kernel_rfl)))
     have NB122_127 := Aside0.mk (Q_NB122_127 (hon 6 (by kernel_rfl)))
     have NB127_122 := Aside0.mk (Q_NB127_122 (hon 6 (by kernel_rfl)))
     have BK128 := Aside0.mk (Q_BK128 (hon 7 (by kernel_rfl)) hb_)
     have GW128 := Aside0.mk (Q_GW128 (hon 7 (by kernel_rfl)))
     have GE128 := Aside0.mk (Q_GE128 (hon 7 (by kernel_rfl)))
     have NB121_128 := Aside0.mk (Q_NB121_128 (hon 7 (by kernel_rfl)))
     have NB128_121 := Aside0.mk (Q_NB128_121 (hon 7 (by kernel_rfl)))
     have NB122_128 := Aside0.mk (Q_NB122_128 (hon 7 (by kernel_rfl)))
     have NB128_122 := Aside0.mk (Q_NB128_122 (hon 7 (by kernel_rfl)))
     have BK127 := Aside0.mk (Q_BK127_e8 (hon 8 (by kernel_rfl)))
     have hs63 : w'.cell? ⟨gb128, 0, none⟩ = some (.int .u64 0) := (blk_cell BK128.out 0).trans rfl
     have hfs63 := blk_frozen BK128.out 0
     have hns63_0 := NB121_128.out
     have hns63_1 := NB122_128.out
     have hns63_2 := NB127_128.out
     have hms63_0 := NB128_121.out
     have hms63_1 := NB128_122.out
     have hms63_2 := NB128_127.out
     have hs64 : w'.cell? ⟨gb128, 1, none⟩ = some (.int .u64 0) := (blk_cell BK128.out 1).trans rfl
     have hfs64 := blk_frozen BK128.out 1
     have hns64_0 := NB121_128.out
     have hns64_1 := NB122_128.out
     have hns64_2 := NB127_128.out
     have hms64_0 := NB128_121.out
     have hms64_1 := NB128_122.out
     have hms64_2 := NB128_127.out
     refine skip_ (w1 := ?_) (by rfl) rfl ?_ ?_
     rotate_left
     ·go_simp
      rfl
     refine hK.out _ _ ⟨gb127, gb128, m6_, m7_, (by rw [ha.out]; exact putSel_none (v := undef) rfl), (by refine blk_far ?_ NB121_128.out _; refine blk_far ?_ NB121_128.out _; exact BK121.out), (by refine blk_far ?_ NB122_128.out _; refine blk_far ?_ NB122_128.out _; exact BK122.out), (by repeat (first | (with_reducible first | exact HB.out | apply below_alloc | apply pw_below_drewN | apply below_drew1 | refine below_set ?_ GE121.out | refine below_set ?_ GE122.out | refine below_set ?_ GE127.out | refine below_set ?_ GE128.out) | exact HB.out)), fun _ _ => NB128_127.out, fun _ _ => NB127_128.out, fun _ h1_ => absurd ((hon 8 (by kernel_rfl)).symm.trans h1_) (by decide), fun _ => GW127.out, fun _ => GE127.out, fun _ => NB121_127.out, fun _ => NB127_121.out, fun _ => NB122_127.out, fun _ => NB127_122.out, fun _ h1_ => absurd ((up_self b 9).symm.trans h1_) (by decide), fun _ => GW128.out, fun _ => GE128.out, fun _ => NB121_128.out, fun _ => NB128_121.out, fun _ => NB122_128.out, fun _ => NB128_122.out, fun _ => (by refine blk_far ?_ NB127_128.out _; refine blk_far ?_ NB127_128.out _; exact BK127.out), fun _ => (by refine blk_put (cs := #[.int .u64 t125, .int .u64 0]) ?_ 1 _ rfl; refine blk_put (cs := #[.int .u64 0, .int .u64 0]) ?_ 0 _ rfl; exact BK128.out), Q_X6_, Q_X7_⟩
    exact steps_nil
   rintro b a w64 hall ⟨gb127, gb128, m6_, m7_, ha, Q_BK121, Q_BK122, Q_HB, Q_NB128_127, Q_NB127_128, Q_BK127, Q_GW127, Q_GE127, Q_NB121_127, Q_NB127_121, Q_NB122_127, Q_NB127_122, Q_BK128, Q_GW128, Q_GE128, Q_NB121_128, Q_NB128_121, Q_NB122_128, Q_NB128_122, Q_BK127_e8, Q_BK128_e9, Q_X6_, Q_X7_⟩
   clear BK121 BK122 HB
   have hb1_ := hall 1 (by kernel_rfl)
   have hb2_ := hall 2 (by kernel_rfl)
   have hb4_ := hall 4 (by kernel_rfl)
   have hb5_ := hall 5 (by kernel_rfl)
   have hb6_ := hall 6 (by kernel_rfl)
   have hb7_ := hall 7 (by kernel_rfl)
   have hb8_ := hall 8 (by kernel_rfl)
   have hb9_ := hall 9 (by kernel_rfl)
   subst ha
   obtain rfl := Q_X6_ hb6_
   obtain rfl := Q_X7_ hb7_
   simp only [putSel, hb1_, hb2_, hb4_, hb5_, hb6_, hb7_, hb8_, hb9_, if_true, Act.put, List.setIfInBounds_toArray, List.set_cons_zero, List.set_cons_succ]
   have BK121 := Aside0.mk Q_BK121
   clear Q_BK121
   have BK122 := Aside0.mk Q_BK122
   clear Q_BK122
   have HB := Aside0.mk Q_HB
   clear Q_HB
   have NB128_127 := Aside0.mk (Q_NB128_127 hb6_ hb7_)
   clear Q_NB128_127
   have NB127_128 := Aside0.mk (Q_NB127_128 hb6_ hb7_)
   clear Q_NB127_128
   clear Q_BK127
   have GW127 := Aside0.mk (Q_GW127 hb6_)
   clear Q_GW127
   have GE127 := Aside0.mk (Q_GE127 hb6_)
   clear Q_GE127
   have NB121_127 := Aside0.mk (Q_NB121_127 hb6_)
   clear Q_NB121_127
   have NB127_121 := Aside0.mk (Q_NB127_121 hb6_)
   clear Q_NB127_121
   have NB122_127 := Aside0.mk (Q_NB122_127 hb6_)
   clear Q_NB122_127
   have NB127_122 := Aside0.mk (Q_NB127_122 hb6_)
   clear Q_NB127_122
   clear Q_BK128
   have GW128 := Aside0.mk (Q_GW128 hb7_)
   clear Q_GW128
   have GE128 := Aside0.mk (Q_GE128 hb7_)
   clear Q_GE128
   have NB121_128 := Aside0.mk (Q_NB121_128 hb7_)
   clear Q_NB121_128
   have NB128_121 := Aside0.mk (Q_NB128_121 hb7_)
   clear Q_NB128_121
   have NB122_128 := Aside0.mk (Q_NB122_128 hb7_)
   clear Q_NB122_128
   have NB128_122 := Aside0.mk (Q_NB128_122 hb7_)
   clear Q_NB128_122
   have BK127 := Aside0.mk (Q_BK127_e8 hb8_)
   clear Q_BK127_e8
   have BK128 := Aside0.mk (Q_BK128_e9 hb9_)
   clear Q_BK128_e9
   clear hall hb1_ hb2_ hb4_ hb5_ hb6_ hb7_ hb8_ hb9_
   have hnb65 := NB128_121.out
   have hnc65 := NB121_128.out
   have hnb66 := NB128_122.out
   have hnc66 := NB122_128.out
   have hnb67 := NB128_127.out
   have hnc67 := NB127_128.out
   have hcz68_0 : w64.cell? ⟨gb128, 0, none⟩ = some (.int .u64 t125) := (blk_cell BK128.out 0).trans rfl
   have hcz68_1 : w64.cell? ⟨gb128, 1, none⟩ = some (.int .u64 t126) := (blk_cell BK128.out 1).trans rfl
   have hfz68_0 := blk_frozen BK128.out 0
   have hfz68_1 := blk_frozen BK128.out 1
   have hnb69 := NB127_121.out
   have hnc69 := NB121_127.out
   have hnb70 := NB127_122.out
   have hnc70 := NB122_127.out
   have hcz71_0 : w64.cell? ⟨gb127, 0, none⟩ = some (.int .u64 t123) := (blk_cell BK127.out 0).trans rfl
   have hcz71_1 : w64.cell? ⟨gb127, 1, none⟩ = some (.int .u64 t124) := (blk_cell BK127.out 1).trans rfl
   have hfz71_0 := blk_frozen BK127.out 0
   have hfz71_1 := blk_frozen BK127.out 1
   try go_wp2_with (first | ((with_reducible refine gate_callee (f := 18) rfl ?_); refine goesL_ (some 23) rfl rfl Try.func18 (by kernel_rfl) rfl #[.agg #[.int .u64 t126, .int .u64 0], .agg #[.int .u64 t123, .int .u64 t124]] rfl (by (try simp only [List.map_toArray, List.map_cons, List.map_nil]); first | done | rfl | (simp only [List.length_drop, List.length_take]; rfl)) ?_; (with_reducible refine (wide_Num_Add.calls t126 0 t123 t124 t129 t130 false _ A5.out).mono ?_); rintro e w72 ⟨rfl, hb⟩; refine ⟨_, rfl, ?_⟩; have n0_ := Aside0.mk (blk_below (by exact BK121.out) hb); have n1_ := Aside0.mk (blk_below (by exact BK122.out) hb); have n2_ := Aside0.mk (blk_below (by exact BK127.out) hb); have n3_ := Aside0.mk (blk_below (by exact BK128.out) hb); have n4_ := Aside0.mk (below_step (by repeat (first | (with_reducible first | exact HB.out | apply below_alloc | apply pw_below_drewN | apply below_drew1 | refine below_set ?_ GE121.out | refine below_set ?_ GE122.out | refine below_set ?_ GE127.out | refine below_set ?_ GE128.out) | exact HB.out)) hb); clear BK121; clear BK122; clear BK127; clear BK128; clear HB; have BK121 := n0_; have BK122 := n1_; have BK127 := n2_; have BK128 := n3_; have HB := n4_; clear n0_ n1_ n2_ n3_ n4_; (try clear hb); (try clear hb2); (try clear hk); (try clear hi)) | ((with_reducible refine gate_dst (N := 8) rfl ?_); refine box_event ?hg (N := 8) ?hd (cs := #[.int .u64 0, .int .u64 0]) (t := 25) ?hr ?_; (case hd => rfl); (case hg => rfl); (case hr => first | (go_simp; done) | (go_simp; rfl)); intro gb132 hg w73 hbox hb; have n0_ := Aside0.mk (blk_below (by exact BK121.out) hb); have n1_ := Aside0.mk (blk_below (by exact BK122.out) hb); have n2_ := Aside0.mk (blk_below (by exact BK127.out) hb); have n3_ := Aside0.mk (blk_below (by exact BK128.out) hb); have n4_ := Aside0.mk (below_step (by repeat (first | (with_reducible first | exact HB.out | apply below_alloc | apply pw_below_drewN | apply below_drew1 | refine below_set ?_ GE121.out | refine below_set ?_ GE122.out | refine below_set ?_ GE127.out | refine below_set ?_ GE128.out) | exact HB.out)) hb); have n5_ := Aside0.mk (hbox); have n6_ := Aside0.mk ((by rw [hg]; exact (below_size (by repeat (first | (with_reducible first | exact HB.out | apply below_alloc | apply pw_below_drewN | apply below_drew1 | refine below_set ?_ GE121.out | refine below_set ?_ GE122.out | refine below_set ?_ GE127.out | refine below_set ?_ GE128.out) | exact HB.out))) : w.heap.size ≤ gb132)); have n7_ := Aside0.mk ((by rw [hg]; exact (below_size (by repeat (first | (with_reducible first | exact HB.out | apply below_alloc | apply pw_below_drewN | apply below_drew1 | refine below_set ?_ GE121.out | refine below_set ?_ GE122.out | refine below_set ?_ GE127.out | refine below_set ?_ GE128.out) | exact HB.out))) : w.heap.size ≤ gb132)); have n8_ := Aside0.mk ((by rw [hg]; exact Nat.ne_of_lt (blk_lt (by exact BK121.out)) : gb121 ≠ gb132)); have n9_ := Aside0.mk ((by rw [hg]; exact Nat.ne_of_gt (blk_lt (by exact BK121.out)) : gb132 ≠ gb121)); have n10_ := Aside0.mk ((by rw [hg]; exact Nat.ne_of_lt (blk_lt (by exact BK122.out)) : gb122 ≠ gb132)); have n11_ := Aside0.mk ((by rw [hg]; exact Nat.ne_of_gt (blk_lt (by exact BK122.out)) : gb132 ≠ gb122)); have n12_ := Aside0.mk ((by rw [hg]; exact Nat.ne_of_lt (blk_lt (by exact BK127.out)) : gb127 ≠ gb132)); have n13_ := Aside0.mk ((by rw [hg]; exact Nat.ne_of_gt (blk_lt (by exact BK127.out)) : gb132 ≠ gb127)); have n14_ := Aside0.mk ((by rw [hg]; exact Nat.ne_of_lt (blk_lt (by exact BK128.out)) : gb128 ≠ gb132)); have n15_ := Aside0.mk ((by rw [hg]; exact Nat.ne_of_gt (blk_lt (by exact BK128.out)) : gb132 ≠ gb128)); clear BK121; clear BK122; clear BK127; clear BK128; clear HB; have BK121 := n0_; have BK122 := n1_; have BK127 := n2_; have BK128 := n3_; have HB := n4_; have BK132 := n5_; have GW132 := n6_; have GE132 := n7_; have NB121_132 := n8_; have NB132_121 := n9_; have NB122_132 := n10_; have NB132_122 := n11_; have NB127_132 := n12_; have NB132_127 := n13_; have NB128_132 := n14_; have NB132_128 := n15_; clear n0_ n1_ n2_ n3_ n4_ n5_ n6_ n7_ n8_ n9_ n10_ n11_ n12_ n13_ n14_ n15_; clear hb hbox hg; have hnb74 := NB132_121.out; have hnc74 := NB121_132.out; have hnb75 := NB132_122.out; have hnc75 := NB122_132.out; have hnb76 := NB132_127.out; have hnc76 := NB127_132.out; have hnb77 := NB132_128.out; have hnc77 := NB128_132.out; have hcz78_0 : w73.cell? ⟨gb132, 0, none⟩ = some (.int .u64 0) := (blk_cell BK132.out 0).trans rfl; have hcz78_1 : w73.cell? ⟨gb132, 1, none⟩ = some (.int .u64 0) := (blk_cell BK132.out 1).trans rfl; have hfz78_0 := blk_frozen BK132.out 0; have hfz78_1 := blk_frozen BK132.out 1))
   have n0_ : Aside0 (((w73.setCell ⟨gb132, 0, none⟩ (.int .u64 t129)).setCell ⟨gb132, 1, none⟩ (.int .u64 t130)).heap[gb121]? = some (.cells #[.int .u64 a0_0, .int .u64 a0_1] 25 (0, 0))) := ⟨by refine blk_far ?_ NB121_132.out _; refine blk_far ?_ NB121_132.out _; exact BK121.out⟩
   have n1_ : Aside0 (((w73.setCell ⟨gb132, 0, none⟩ (.int .u64 t129)).setCell ⟨gb132, 1, none⟩ (.int .u64 t130)).heap[gb122]? = some (.cells #[.int .u64 0, .int .u64 0] 25 (0, 0))) := ⟨by refine blk_far ?_ NB122_132.out _; refine blk_far ?_ NB122_132.out _; exact BK122.out⟩
   have n2_ : Aside0 (((w73.setCell ⟨gb132, 0, none⟩ (.int .u64 t129)).setCell ⟨gb132, 1, none⟩ (.int .u64 t130)).heap[gb127]? = some (.cells #[.int .u64 t123, .int .u64 t124] 25 (0, 0))) := ⟨by refine blk_far ?_ NB127_132.out _; refine blk_far ?_ NB127_132.out _; exact BK127.out⟩
   have n3_ : Aside0 (((w73.setCell ⟨gb132, 0, none⟩ (.int .u64 t129)).setCell ⟨gb132, 1, none⟩ (.int .u64 t130)).heap[gb128]? = some (.cells #[.int .u64 t125, .int .u64 t126] 25 (0, 0))) := ⟨by refine blk_far ?_ NB128_132.out _; refine blk_far ?_ NB128_132.out _; exact BK128.out⟩
   have n4_ : Aside0 (((w73.setCell ⟨gb132, 0, none⟩ (.int .u64 t129)).setCell ⟨gb132, 1, none⟩ (.int .u64 t130)).heap[gb132]? = some (.cells #[.int .u64 t129, .int .u64 t130] 25 (0, 0))) := ⟨by refine blk_put (cs := #[.int .u64 t129, .int .u64 0]) ?_ 1 _ rfl; refine blk_put (cs := #[.int .u64 0, .int .u64 0]) ?_ 0 _ rfl; exact BK132.out⟩
   have n5_ : Aside0 (Below w.heap.size w ((w73.setCell ⟨gb132, 0, none⟩ (.int .u64 t129)).setCell ⟨gb132, 1, none⟩ (.int .u64 t130))) := ⟨by repeat (first | (with_reducible first | exact HB.out | apply below_alloc | apply pw_below_drewN | apply below_drew1 | refine below_set ?_ GE121.out | refine below_set ?_ GE122.out | refine below_set ?_ GE127.out | refine below_set ?_ GE128.out | refine below_set ?_ GE132.out) | exact HB.out)⟩
   (try clear BK121)
   (try clear BK122)
   (try clear BK127)
   (try clear BK128)
   (try clear BK132)
   (try clear HB)
   generalize ((w73.setCell ⟨gb132, 0, none⟩ (.int .u64 t129)).setCell ⟨gb132, 1, none⟩ (.int .u64 t130)) = w79 at n0_ n1_ n2_ n3_ n4_ n5_ ⊢
   have BK121 := n0_
   have BK122 := n1_
   have BK127 := n2_
   have BK128 := n3_
   have BK132 := n4_
   have HB := n5_
   clear n0_ n1_ n2_ n3_ n4_ n5_
   have n0_ := Aside0.mk (blk_drew BK121.out)
   have n1_ := Aside0.mk (blk_drew BK122.out)
   have n2_ := Aside0.mk (blk_drew BK127.out)
   have n3_ := Aside0.mk (blk_drew BK128.out)
   have n4_ := Aside0.mk (blk_drew BK132.out)
   have n5_ := Aside0.mk (below_drew1 HB.out)
   clear BK121
   clear BK122
   clear BK127
   clear BK128
   clear BK132
   clear HB
   have BK121 := n0_
   have BK122 := n1_
   have BK127 := n2_
   have BK128 := n3_
   have BK132 := n4_
   have HB := n5_
   clear n0_ n1_ n2_ n3_ n4_ n5_
   refine start_ (n := 11) (S := fun w' => True) (ds := []) #[false, false, false, false, false, false, false, false, false, false, false] (by kernel_rfl) rfl rfl trivial (fun hHeld => ?_); refine with_tabW wide_Num_times.tab3 wide_Num_times.bits3 (fun HT_ HW_ => ?_)
   generalize w79.drew = w80 at BK121 BK122 BK127 BK128 BK132 HB hHeld ⊢
   refine pure_ (i := 1) (N := some 28) (v := ?_) (a' := ?_) #[false, true, false, false, false, false, false, false, false, false, false] rfl rfl (any_of HT_.out (by kernel_rfl)) (fun _ _ _ h => h) (Or.inl ⟨by rfl, ?_⟩) ?_ ?_
   rotate_left
   ·intro w'
    go_simp
    with_reducible rfl
   rotate_left
   ·simp only [Act.put, List.setIfInBounds_toArray, List.set_cons_zero, List.set_cons_succ, i64_w, i32_w]
    rfl
   refine inv_at [0, 2, 3, 4, 5, 6, 7, 8, 9, 10] (fun a0_ b a w' => ∃ (gb138 : Nat) (m8_ : Value), a = putSel a0_ b [(0, 27, .agg #[.int .u64 t129, .int .u64 t130]), (2, 29, .int .u64 (IntKind.u64.wrap (a1))), (3, 30, .agg #[.int .u64 t133, .int .u64 t134]), (4, 31, .tuple #[.agg #[.int .u64 t135, .int .u64 t136], .bool t137]), (5, 26, .tuple #[.agg #[.int .u64 t135, .int .u64 t136], .bool t137]), (6, 32, .agg #[.int .u64 t135, .int .u64 t136]), (7, 33, .bool t137), (8, 10, m8_), (10, 11, .bool t137)] ∧ (w'.heap[gb121]? = some (.cells #[.int .u64 a0_0, .int .u64 a0_1] 25 (0, 0))) ∧ (w'.heap[gb122]? = some (.cells #[.int .u64 0, .int .u64 0] 25 (0, 0))) ∧ (w'.heap[gb127]? = some (.cells #[.int .u64 t123, .int .u64 t124] 25 (0, 0))) ∧ (w'.heap[gb128]? = some (.cells #[.int .u64 t125, .int .u64 t126] 25 (0, 0))) ∧ (w'.heap[gb132]? = some (.cells #[.int .u64 t129, .int .u64 t130] 25 (0, 0))) ∧ (Below w.heap.size w w') ∧ (b 8 = true → b 9 = false → w'.heap[gb138]? = some (.cells #[.int .u64 0, .int .u64 0] 25 (0, 0))) ∧ (b 8 = true → w.heap.size ≤ gb138) ∧ (b 8 = true → w.heap.size ≤ gb138) ∧ (b 8 = true → gb121 ≠ gb138) ∧ (b 8 = true → gb138 ≠ gb121) ∧ (b 8 = true → gb122 ≠ gb138) ∧ (b 8 = true → gb138 ≠ gb122) ∧ (b 8 = true → gb127 ≠ gb138) ∧ (b 8 = true → gb138 ≠ gb127) ∧ (b 8 = true → gb128 ≠ gb138) ∧ (b 8 = true → gb138 ≠ gb128) ∧ (b 8 = true → gb132 ≠ gb138) ∧ (b 8 = true → gb138 ≠ gb132) ∧ (b 9 = true → w'.heap[gb138]? = some (.cells #[.int .u64 t135, .int .u64 t136] 25 (0, 0))) ∧ (b 8 = true → (m8_ : Value) = .pointer (some ⟨gb138, 0, none⟩))) HT_.out HW_.out (by kernel_rfl) (by kernel_rfl) ?_ ?_ ?_
   ·exact ⟨0, .bool false, by simp only [putSel, Bool.false_eq_true, if_false], BK121.out, BK122.out, BK127.out, BK128.out, BK132.out, HB.out, fun h_ => absurd h_ (by decide), fun h_ => absurd h_ (by decide), fun h_ => absurd h_ (by decide), fun h_ => absurd h_ (by decide), fun h_ => absurd h_ (by decide), fun h_ => absurd h_ (by decide), fun h_ => absurd h_ (by decide), fun h_ => absurd h_ (by decide), fun h_ => absurd h_ (by decide), fun h_ => absurd h_ (by decide), fun h_ => absurd h_ (by decide), fun h_ => absurd h_ (by decide), fun h_ => absurd h_ (by decide), fun h_ => absurd h_ (by decide), fun h_ => absurd h_ (by decide)⟩
   ·skip
    clear BK121 BK122 BK127 BK128 BK132 HB
    refine steps_cons ?_ ?_
    ·rintro b a w' ⟨gb138, m8_, ha, Q_BK121, Q_BK122, Q_BK127, Q_BK128, Q_BK132, Q_HB, Q_BK138, Q_GW138, Q_GE138, Q_NB121_138, Q_NB138_121, Q_NB122_138, Q_NB138_122, Q_NB127_138, Q_NB138_127, Q_NB128_138, Q_NB138_128, Q_NB132_138, Q_NB138_132, Q_BK138_e9, Q_X8_⟩ hb_ hon hoff
     refine ⟨_, rfl, fun K hK => ?_⟩
     have e8 : a.tmps[8]? = some (.pointer (some ⟨gb132, 0, none⟩)) := by rw [ha]; exact (putSel_off rfl).trans rfl
     replace ha := Aside0.mk ha
     have BK121 := Aside0.mk Q_BK121
     have BK122 := Aside0.mk Q_BK122
     have BK127 := Aside0.mk Q_BK127
     have BK128 := Aside0.mk Q_BK128
     have BK132 := Aside0.mk Q_BK132
     have HB := Aside0.mk Q_HB
     have hc0_ : w'.cell? ⟨gb132, 0, none⟩ = some (.int .u64 t129) := (blk_cell BK132.out 0).trans rfl
     have hc1_ : w'.cell? ⟨gb132, 1, none⟩ = some (.int .u64 t130) := (blk_cell BK132.out 1).trans rfl
     refine value_ (w1 := w') (v := .agg #[.int .u64 t129, .int .u64 t130]) (by rfl) rfl ?_ ?_
     ·go_simp
      (try simp only [i64_w])
      try rfl
     refine hK.out _ _ ⟨gb138, m8_, (by rw [ha.out]; exact putSel_upk 0 hb_ rfl rfl rfl), Q_BK121, Q_BK122, Q_BK127, Q_BK128, Q_BK132, Q_HB, Q_BK138, Q_GW138, Q_GE138, Q_NB121_138, Q_NB138_121, Q_NB122_138, Q_NB138_122, Q_NB127_138, Q_NB138_127, Q_NB128_138, Q_NB138_128, Q_NB132_138, Q_NB138_132, fun h0_ => absurd ((hoff 9 (by kernel_rfl)).symm.trans h0_) (by decide), Q_X8_⟩
    refine steps_cons ?_ ?_
    ·rintro b a w' ⟨gb138, m8_, ha, Q_BK121, Q_BK122, Q_BK127, Q_BK128, Q_BK132, Q_HB, Q_BK138, Q_GW138, Q_GE138, Q_NB121_138, Q_NB138_121, Q_NB122_138, Q_NB138_122, Q_NB127_138, Q_NB138_127, Q_NB128_138, Q_NB138_128, Q_NB132_138, Q_NB138_132, Q_BK138_e9, Q_X8_⟩ hb_ hon hoff
     refine ⟨_, rfl, fun K hK => ?_⟩
     have e28 : a.tmps[28]? = some (.int .u8 a1) := by rw [ha]; exact (putSel_off rfl).trans rfl
     replace ha := Aside0.mk ha
     have BK121 := Aside0.mk Q_BK121
     have BK122 := Aside0.mk Q_BK122
     have BK127 := Aside0.mk Q_BK127
     have BK128 := Aside0.mk Q_BK128
     have BK132 := Aside0.mk Q_BK132
     have HB := Aside0.mk Q_HB
     refine value_ (w1 := w') (v := .int .u64 (IntKind.u64.wrap (a1))) (by rfl) rfl ?_ ?_
     ·go_simp
      (try simp only [i64_w])
      try rfl
     refine hK.out _ _ ⟨gb138, m8_, (by rw [ha.out]; exact putSel_upk 1 hb_ rfl rfl rfl), Q_BK121, Q_BK122, Q_BK127, Q_BK128, Q_BK132, Q_HB, Q_BK138, Q_GW138, Q_GE138, Q_NB121_138, Q_NB138_121, Q_NB122_138, Q_NB138_122, Q_NB127_138, Q_NB138_127, Q_NB128_138, Q_NB138_128, Q_NB132_138, Q_NB138_132, fun h0_ => absurd ((hoff 9 (by kernel_rfl)).symm.trans h0_) (by decide), Q_X8_⟩
    refine steps_cons ?_ ?_
    ·rintro b a w' ⟨gb138, m8_, ha, Q_BK121, Q_BK122, Q_BK127, Q_BK128, Q_BK132, Q_HB, Q_BK138, Q_GW138, Q_GE138, Q_NB121_138, Q_NB138_121, Q_NB122_138, Q_NB138_122, Q_NB127_138, Q_NB138_127, Q_NB128_138, Q_NB138_128, Q_NB132_138, Q_NB138_132, Q_BK138_e9, Q_X8_⟩ hb_ hon hoff
     refine ⟨_, rfl, fun K hK => ?_⟩
     have e29 : a.tmps[29]? = some (.int .u64 (IntKind.u64.wrap (a1))) := by rw [ha]; exact putSel_on (e := (2, 29, .int .u64 (IntKind.u64.wrap (a1)))) 1 rfl rfl (hon 2 (by kernel_rfl)) rfl
     replace ha := Aside0.mk ha
     have BK121 := Aside0.mk Q_BK121
     have BK122 := Aside0.mk Q_BK122
     have BK127 := Aside0.mk Q_BK127
     have BK128 := Aside0.mk Q_BK128
     have BK132 := Aside0.mk Q_BK132
     have HB := Aside0.mk Q_HB
     refine goes_ Try.func16 (by kernel_rfl) rfl #[.int .u64 (IntKind.u64.wrap (a1))] (by rfl) rfl rfl (by first | (simp only [List.map_toArray, List.map_cons, List.map_nil, Act.eval, Array.getD_eq_getD_getElem?, Option.getD_some, e29]; done) | (simp only [List.map_toArray, List.map_cons, List.map_nil, Act.eval, Array.getD_eq_getD_getElem?, Option.getD_some, e29]; rfl)) ?_
     with_reducible refine (wide_Of.calls (IntKind.u64.wrap (a1)) t133 t134 _ A6.out).mono ?_
     rintro e w81 ⟨rfl, hb⟩
     refine ⟨_, rfl, ?_⟩
     have n0_ := Aside0.mk (blk_below (by exact BK121.out) hb)
     have n1_ := Aside0.mk (blk_below (by exact BK122.out) hb)
     have n2_ := Aside0.mk (blk_below (by exact BK127.out) hb)
     have n3_ := Aside0.mk (blk_below (by exact BK128.out) hb)
     have n4_ := Aside0.mk (blk_below (by exact BK132.out) hb)
     have n5_ := Aside0.mk (below_step (by repeat (first | (with_reducible first | exact HB.out | apply below_alloc | apply pw_below_drewN | apply below_drew1 | refine below_set ?_ GE121.out | refine below_set ?_ GE122.out | refine below_set ?_ GE127.out | refine below_set ?_ GE128.out | refine below_set ?_ GE132.out) | exact HB.out)) hb)
     have z_BK138 := fun (h0_ : b 8 = true) (h1_ : b 9 = false) => (show w81.heap[gb138]? = some (.cells #[.int .u64 0, .int .u64 0] 25 (0, 0)) from by first | exact (blk_below (g := gb138) (o := .cells #[.int .u64 0, .int .u64 0] 25 (0, 0)) (by exact (Q_BK138 h0_ h1_)) hb))
     clear BK121
     clear BK122
     clear BK127
     clear BK128
     clear BK132
     clear HB
     have BK121 := n0_
     have BK122 := n1_
     have BK127 := n2_
     have BK128 := n3_
     have BK132 := n4_
     have HB := n5_
     clear n0_ n1_ n2_ n3_ n4_ n5_
     (try clear hb)
     (try clear hb2)
     (try clear hk)
     (try clear hi)
     refine hK.out _ _ ⟨gb138, m8_, (by rw [ha.out]; exact putSel_upk 2 hb_ rfl rfl rfl), (by exact BK121.out), (by exact BK122.out), (by exact BK127.out), (by exact BK128.out), (by exact BK132.out), (by repeat (first | (with_reducible first | exact HB.out | apply below_alloc | apply pw_below_drewN | apply below_drew1 | refine below_set ?_ GE121.out | refine below_set ?_ GE122.out | refine below_set ?_ GE127.out | refine below_set ?_ GE128.out | refine below_set ?_ GE132.out) | exact HB.out)), z_BK138, Q_GW138, Q_GE138, Q_NB121_138, Q_NB138_121, Q_NB122_138, Q_NB138_122, Q_NB127_138, Q_NB138_127, Q_NB128_138, Q_NB138_128, Q_NB132_138, Q_NB138_132, fun h0_ => absurd ((hoff 9 (by kernel_rfl)).symm.trans h0_) (by decide), Q_X8_⟩
    refine steps_cons ?_ ?_
    ·rintro b a w' ⟨gb138, m8_, ha, Q_BK121, Q_BK122, Q_BK127, Q_BK128, Q_BK132, Q_HB, Q_BK138, Q_GW138, Q_GE138, Q_NB121_138, Q_NB138_121, Q_NB122_138, Q_NB138_122, Q_NB127_138, Q_NB138_127, Q_NB128_138, Q_NB138_128, Q_NB132_138, Q_NB138_132, Q_BK138_e9, Q_X8_⟩ hb_ hon hoff
     refine ⟨_, rfl, fun K hK => ?_⟩
     have e27 : a.tmps[27]? = some (.agg #[.int .u64 t129, .int .u64 t130]) := by rw [ha]; exact putSel_on (e := (0, 27, .agg #[.int .u64 t129, .int .u64 t130])) 0 rfl rfl (hon 0 (by kernel_rfl)) rfl
     have e30 : a.tmps[30]? = some (.agg #[.int .u64 t133, .int .u64 t134]) := by rw [ha]; exact putSel_on (e := (3, 30, .agg #[.int .u64 t133, .int .u64 t134])) 2 rfl rfl (hon 3 (by kernel_rfl)) rfl
     replace ha := Aside0.mk ha
     have BK121 := Aside0.mk Q_BK121
     have BK122 := Aside0.mk Q_BK122
     have BK127 := Aside0.mk Q_BK127
     have BK128 := Aside0.mk Q_BK128
     have BK132 := Aside0.mk Q_BK132
     have HB := Aside0.mk Q_HB
     refine goes_ Try.func18 (by kernel_rfl) rfl #[.agg #[.int .u64 t129, .int .u64 t130], .agg #[.int .u64 t133, .int .u64 t134]] (by rfl) rfl rfl (by first | (simp only [List.map_toArray, List.map_cons, List.map_nil, Act.eval, Array.getD_eq_getD_getElem?, Option.getD_some, e27, e30]; done) | (simp only [List.map_toArray, List.map_cons, List.map_nil, Act.eval, Array.getD_eq_getD_getElem?, Option.getD_some, e27, e30]; rfl)) ?_
     with_reducible refine (wide_Num_Add.calls t129 t130 t133 t134 t135 t136 t137 _ A7.out).mono ?_
     rintro e w83 ⟨rfl, hb⟩
     refine ⟨_, rfl, ?_⟩
     have n0_ := Aside0.mk (blk_below (by exact BK121.out) hb)
     have n1_ := Aside0.mk (blk_below (by exact BK122.out) hb)
     have n2_ := Aside0.mk (blk_below (by exact BK127.out) hb)
     have n3_ := Aside0.mk (blk_below (by exact BK128.out) hb)
     have n4_ := Aside0.mk (blk_below (by exact BK132.out) hb)
     have n5_ := Aside0.mk (below_step (by repeat (first | (with_reducible first | exact HB.out | apply below_alloc | apply pw_below_drewN | apply below_drew1 | refine below_set ?_ GE121.out | refine below_set ?_ GE122.out | refine below_set ?_ GE127.out | refine below_set ?_ GE128.out | refine below_set ?_ GE132.out) | exact HB.out)) hb)
     have z_BK138 := fun (h0_ : b 8 = true) (h1_ : b 9 = false) => (show w83.heap[gb138]? = some (.cells #[.int .u64 0, .int .u64 0] 25 (0, 0)) from by first | exact (blk_below (g := gb138) (o := .cells #[.int .u64 0, .int .u64 0] 25 (0, 0)) (by exact (Q_BK138 h0_ h1_)) hb))
     clear BK121
     clear BK122
     clear BK127
     clear BK128
     clear BK132
     clear HB
     have BK121 := n0_
     have BK122 := n1_
     have BK127 := n2_
     have BK128 := n3_
     have BK132 := n4_
     have HB := n5_
     clear n0_ n1_ n2_ n3_ n4_ n5_
     (try clear hb)
     (try clear hb2)
     (try clear hk)
     (try clear hi)
     refine hK.out _ _ ⟨gb138, m8_, (by rw [ha.out]; exact putSel_upk 3 hb_ rfl rfl rfl), (by exact BK121.out), (by exact BK122.out), (by exact BK127.out), (by exact BK128.out), (by exact BK132.out), (by repeat (first | (with_reducible first | exact HB.out | apply below_alloc | apply pw_below_drewN | apply below_drew1 | refine below_set ?_ GE121.out | refine below_set ?_ GE122.out | refine below_set ?_ GE127.out | refine below_set ?_ GE128.out | refine below_set ?_ GE132.out) | exact HB.out)), z_BK138, Q_GW138, Q_GE138, Q_NB121_138, Q_NB138_121, Q_NB122_138, Q_NB138_122, Q_NB127_138, Q_NB138_127, Q_NB128_138, Q_NB138_128, Q_NB132_138, Q_NB138_132, fun h0_ => absurd ((hoff 9 (by kernel_rfl)).symm.trans h0_) (by decide), Q_X8_⟩
    refine steps_cons ?_ ?_
    ·rintro b a w' ⟨gb138, m8_, ha, Q_BK121, Q_BK122, Q_BK127, Q_BK128, Q_BK132, Q_HB, Q_BK138, Q_GW138, Q_GE138, Q_NB121_138, Q_NB138_121, Q_NB122_138, Q_NB138_122, Q_NB127_138, Q_NB138_127, Q_NB128_138, Q_NB138_128, Q_NB132_138, Q_NB138_132, Q_BK138_e9, Q_X8_⟩ hb_ hon hoff
     refine ⟨_, rfl, fun K hK => ?_⟩
     have e31 : a.tmps[31]? = some (.tuple #[.agg #[.int .u64 t135, .int .u64 t136], .bool t137]) := by rw [ha]; exact putSel_on (e := (4, 31, .tuple #[.agg #[.int .u64 t135, .int .u64 t136], .bool t137])) 3 rfl rfl (hon 4 (by kernel_rfl)) rfl
     replace ha := Aside0.mk ha
     have BK121 := Aside0.mk Q_BK121
     have BK122 := Aside0.mk Q_BK122
     have BK127 := Aside0.mk Q_BK127
     have BK128 := Aside0.mk Q_BK128
     have BK132 := Aside0.mk Q_BK132
     have HB := Aside0.mk Q_HB
     refine value_ (w1 := w') (v := .tuple #[.agg #[.int .u64 t135, .int .u64 t136], .bool t137]) (by rfl) rfl ?_ ?_
     ·go_simp
      (try simp only [i64_w])
      try rfl
     refine hK.out _ _ ⟨gb138, m8_, (by rw [ha.out]; exact putSel_upk 4 hb_ rfl rfl rfl), Q_BK121, Q_BK122, Q_BK127, Q_BK128, Q_BK132, Q_HB, Q_BK138, Q_GW138, Q_GE138, Q_NB121_138, Q_NB138_121, Q_NB122_138, Q_NB138_122, Q_NB127_138, Q_NB138_127, Q_NB128_138, Q_NB138_128, Q_NB132_138, Q_NB138_132, fun h0_ => absurd ((hoff 9 (by kernel_rfl)).symm.trans h0_) (by decide), Q_X8_⟩
    refine steps_cons ?_ ?_
    ·rintro b a w' ⟨gb138, m8_, ha, Q_BK121, Q_BK122, Q_BK127, Q_BK128, Q_BK132, Q_HB, Q_BK138, Q_GW138, Q_GE138, Q_NB121_138, Q_NB138_121, Q_NB122_138, Q_NB138_122, Q_NB127_138, Q_NB138_127, Q_NB128_138, Q_NB138_128, Q_NB132_138, Q_NB138_132, Q_BK138_e9, Q_X8_⟩ hb_ hon hoff
     refine ⟨_, rfl, fun K hK => ?_⟩
     have e26 : a.tmps[26]? = some (.tuple #[.agg #[.int .u64 t135, .int .u64 t136], .bool t137]) := by rw [ha]; exact putSel_on (e := (5, 26, .tuple #[.agg #[.int .u64 t135, .int .u64 t136], .bool t137])) 4 rfl rfl (hon 5 (by kernel_rfl)) rfl
     replace ha := Aside0.mk ha
     have BK121 := Aside0.mk Q_BK121
     have BK122 := Aside0.mk Q_BK122
     have BK127 := Aside0.mk Q_BK127
     have BK128 := Aside0.mk Q_BK128
     have BK132 := Aside0.mk Q_BK132
     have HB := Aside0.mk Q_HB
     refine value_ (w1 := w') (v := .agg #[.int .u64 t135, .int .u64 t136]) (by rfl) rfl ?_ ?_
     ·go_simp
      (try simp only [i64_w])
      try rfl
     refine hK.out _ _ ⟨gb138, m8_, (by rw [ha.out]; exact putSel_upk 5 hb_ rfl rfl rfl), Q_BK121, Q_BK122, Q_BK127, Q_BK128, Q_BK132, Q_HB, Q_BK138, Q_GW138, Q_GE138, Q_NB121_138, Q_NB138_121, Q_NB122_138, Q_NB138_122, Q_NB127_138, Q_NB138_127, Q_NB128_138, Q_NB138_128, Q_NB132_138, Q_NB138_132, fun h0_ => absurd ((hoff 9 (by kernel_rfl)).symm.trans h0_) (by decide), Q_X8_⟩
    refine steps_cons ?_ ?_
    ·rintro b a w' ⟨gb138, m8_, ha, Q_BK121, Q_BK122, Q_BK127, Q_BK128, Q_BK132, Q_HB, Q_BK138, Q_GW138, Q_GE138, Q_NB121_138, Q_NB138_121, Q_NB122_138, Q_NB138_122, Q_NB127_138, Q_NB138_127, Q_NB128_138, Q_NB138_128, Q_NB132_138, Q_NB138_132, Q_BK138_e9, Q_X8_⟩ hb_ hon hoff
     refine ⟨_, rfl, fun K hK => ?_⟩
     have e26 : a.tmps[26]? = some (.tuple #[.agg #[.int .u64 t135, .int .u64 t136], .bool t137]) := by rw [ha]; exact putSel_on (e := (5, 26, .tuple #[.agg #[.int .u64 t135, .int .u64 t136], .bool t137])) 4 rfl rfl (hon 5 (by kernel_rfl)) rfl
     replace ha := Aside0.mk ha
     have BK121 := Aside0.mk Q_BK121
     have BK122 := Aside0.mk Q_BK122
     have BK127 := Aside0.mk Q_BK127
     have BK128 := Aside0.mk Q_BK128
     have BK132 := Aside0.mk Q_BK132
     have HB := Aside0.mk Q_HB
     refine value_ (w1 := w') (v := .bool t137) (by rfl) rfl ?_ ?_
     ·go_simp
      (try simp only [i64_w])
      try rfl
     refine hK.out _ _ ⟨gb138, m8_, (by rw [ha.out]; exact putSel_upk 6 hb_ rfl rfl rfl), Q_BK121, Q_BK122, Q_BK127, Q_BK128, Q_BK132, Q_HB, Q_BK138, Q_GW138, Q_GE138, Q_NB121_138, Q_NB138_121, Q_NB122_138, Q_NB138_122, Q_NB127_138, Q_NB138_127, Q_NB128_138, Q_NB138_128, Q_NB132_138, Q_NB138_132, Q_BK138_e9, Q_X8_⟩
    refine steps_cons ?_ ?_
    ·rintro b a w' ⟨gb138, m8_, ha, Q_BK121, Q_BK122, Q_BK127, Q_BK128, Q_BK132, Q_HB, Q_BK138, Q_GW138, Q_GE138, Q_NB121_138, Q_NB138_121, Q_NB122_138, Q_NB138_122, Q_NB127_138, Q_NB138_127, Q_NB128_138, Q_NB138_128, Q_NB132_138, Q_NB138_132, Q_BK138_e9, Q_X8_⟩ hb_ hon hoff
     refine ⟨_, rfl, fun K hK => ?_⟩
     replace ha := Aside0.mk ha
     have BK121 := Aside0.mk Q_BK121
     have BK122 := Aside0.mk Q_BK122
     have BK127 := Aside0.mk Q_BK127
     have BK128 := Aside0.mk Q_BK128
     have BK132 := Aside0.mk Q_BK132
     have HB := Aside0.mk Q_HB
     refine box_step ?hg (N := 10) ?hd (cs := #[.int .u64 0, .int .u64 0]) (t := 25) ?hr ?_; (case hd => rfl); (case hg => rfl); (case hr => first | (go_simp; done) | (go_simp; rfl))
     intro gb138 hg w81 hbox hb
     have n0_ := Aside0.mk (blk_below (by exact BK121.out) hb)
     have n1_ := Aside0.mk (blk_below (by exact BK122.out) hb)
     have n2_ := Aside0.mk (blk_below (by exact BK127.out) hb)
     have n3_ := Aside0.mk (blk_below (by exact BK128.out) hb)
     have n4_ := Aside0.mk (blk_below (by exact BK132.out) hb)
     have n5_ := Aside0.mk (below_step (by repeat (first | (with_reducible first | exact HB.out | apply below_alloc | apply pw_below_drewN | apply below_drew1 | refine below_set ?_ GE121.out | refine below_set ?_ GE122.out | refine below_set ?_ GE127.out | refine below_set ?_ GE128.out | refine below_set ?_ GE132.out) | exact HB.out)) hb)
     have n6_ := Aside0.mk (hbox)
     have n7_ := Aside0.mk ((by rw [hg]; exact (below_size (by repeat (first | (with_reducible first | exact HB.out | apply below_alloc | apply pw_below_drewN | apply below_drew1 | refine below_set ?_ GE121.out | refine below_set ?_ GE122.out | refine below_set ?_ GE127.out | refine below_set ?_ GE128.out | refine below_set ?_ GE132.out) | exact HB.out))) : w.heap.size ≤ gb138))
     have n8_ := Aside0.mk ((by rw [hg]; exact (below_size (by repeat (first | (with_reducible first | exact HB.out | apply below_alloc | apply pw_below_drewN | apply below_drew1 | refine below_set ?_ GE121.out | refine below_set ?_ GE122.out | refine below_set ?_ GE127.out | refine below_set ?_ GE128.out | refine below_set ?_ GE132.out) | exact HB.out))) : w.heap.size ≤ gb138))
     have n9_ := Aside0.mk ((by rw [hg]; exact Nat.ne_of_lt (blk_lt (by exact BK121.out)) : gb121 ≠ gb138))
     have n10_ := Aside0.mk ((by rw [hg]; exact Nat.ne_of_gt (blk_lt (by exact BK121.out)) : gb138 ≠ gb121))
     have n11_ := Aside0.mk ((by rw [hg]; exact Nat.ne_of_lt (blk_lt (by exact BK122.out)) : gb122 ≠ gb138))
     have n12_ := Aside0.mk ((by rw [hg]; exact Nat.ne_of_gt (blk_lt (by exact BK122.out)) : gb138 ≠ gb122))
     have n13_ := Aside0.mk ((by rw [hg]; exact Nat.ne_of_lt (blk_lt (by exact BK127.out)) : gb127 ≠ gb138))
     have n14_ := Aside0.mk ((by rw [hg]; exact Nat.ne_of_gt (blk_lt (by exact BK127.out)) : gb138 ≠ gb127))
     have n15_ := Aside0.mk ((by rw [hg]; exact Nat.ne_of_lt (blk_lt (by exact BK128.out)) : gb128 ≠ gb138))
     have n16_ := Aside0.mk ((by rw [hg]; exact Nat.ne_of_gt (blk_lt (by exact BK128.out)) : gb138 ≠ gb128))
     have n17_ := Aside0.mk ((by rw [hg]; exact Nat.ne_of_lt (blk_lt (by exact BK132.out)) : gb132 ≠ gb138))
     have n18_ := Aside0.mk ((by rw [hg]; exact Nat.ne_of_gt (blk_lt (by exact BK132.out)) : gb138 ≠ gb132))
     clear BK121
     clear BK122
     clear BK127
     clear BK128
     clear BK132
     clear HB
     have BK121 := n0_
     have BK122 := n1_
     have BK127 := n2_
     have BK128 := n3_
     have BK132 := n4_
     have HB := n5_
     have BK138 := n6_
     have GW138 := n7_
     have GE138 := n8_
     have NB121_138 := n9_
     have NB138_121 := n10_
     have NB122_138 := n11_
     have NB138_122 := n12_
     have NB127_138 := n13_
     have NB138_127 := n14_
     have NB128_138 := n15_
     have NB138_128 := n16_
     have NB132_138 := n17_
     have NB138_132 := n18_
     clear n0_ n1_ n2_ n3_ n4_ n5_ n6_ n7_ n8_ n9_ n10_ n11_ n12_ n13_ n14_ n15_ n16_ n17_ n18_
     clear hb hbox hg
     refine hK.out _ _ ⟨gb138, (.pointer (some ⟨gb138, 0, none⟩)), (by rw [ha.out]; exact putSel_upk 7 hb_ rfl rfl rfl), (by exact BK121.out), (by exact BK122.out), (by exact BK127.out), (by exact BK128.out), (by exact BK132.out), (by repeat (first | (with_reducible first | exact HB.out | apply below_alloc | apply pw_below_drewN | apply below_drew1 | refine below_set ?_ GE121.out | refine below_set ?_ GE122.out | refine below_set ?_ GE127.out | refine below_set ?_ GE128.out | refine below_set ?_ GE132.out | refine below_set ?_ GE138.out) | exact HB.out)), fun _ _ => (by exact BK138.out), fun _ => GW138.out, fun _ => GE138.out, fun _ => NB121_138.out, fun _ => NB138_121.out, fun _ => NB122_138.out, fun _ => NB138_122.out, fun _ => NB127_138.out, fun _ => NB138_127.out, fun _ => NB128_138.out, fun _ => NB138_128.out, fun _ => NB132_138.out, fun _ => NB138_132.out, fun h0_ => absurd ((hoff 9 (by kernel_rfl)).symm.trans h0_) (by decide), fun _ => rfl⟩
    refine steps_cons ?_ ?_
    ·rintro b a w' ⟨gb138, m8_, ha, Q_BK121, Q_BK122, Q_BK127, Q_BK128, Q_BK132, Q_HB, Q_BK138, Q_GW138, Q_GE138, Q_NB121_138, Q_NB138_121, Q_NB122_138, Q_NB138_122, Q_NB127_138, Q_NB138_127, Q_NB128_138, Q_NB138_128, Q_NB132_138, Q_NB138_132, Q_BK138_e9, Q_X8_⟩ hb_ hon hoff
     refine ⟨_, rfl, fun K hK => ?_⟩
     have e10 : a.tmps[10]? = some (m8_) := by rw [ha]; exact putSel_on (e := (8, 10, m8_)) 7 rfl rfl (hon 8 (by kernel_rfl)) rfl
     rw [Q_X8_ (hon 8 (by kernel_rfl))] at e10
     have e32 : a.tmps[32]? = some (.agg #[.int .u64 t135, .int .u64 t136]) := by rw [ha]; exact putSel_on (e := (6, 32, .agg #[.int .u64 t135, .int .u64 t136])) 5 rfl rfl (hon 6 (by kernel_rfl)) rfl
     replace ha := Aside0.mk ha
     have BK121 := Aside0.mk Q_BK121
     have BK122 := Aside0.mk Q_BK122
     have BK127 := Aside0.mk Q_BK127
     have BK128 := Aside0.mk Q_BK128
     have BK132 := Aside0.mk Q_BK132
     have HB := Aside0.mk Q_HB
     have BK138 := Aside0.mk (Q_BK138 (hon 8 (by kernel_rfl)) hb_)
     have GW138 := Aside0.mk (Q_GW138 (hon 8 (by kernel_rfl)))
     have GE138 := Aside0.mk (Q_GE138 (hon 8 (by kernel_rfl)))
     have NB121_138 := Aside0.mk (Q_NB121_138 (hon 8 (by kernel_rfl)))
     have NB138_121 := Aside0.mk (Q_NB138_121 (hon 8 (by kernel_rfl)))
     have NB122_138 := Aside0.mk (Q_NB122_138 (hon 8 (by kernel_rfl)))
     have NB138_122 := Aside0.mk (Q_NB138_122 (hon 8 (by kernel_rfl)))
     have NB127_138 := Aside0.mk (Q_NB127_138 (hon 8 (by kernel_rfl)))
     have NB138_127 := Aside0.mk (Q_NB138_127 (hon 8 (by kernel_rfl)))
     have NB128_138 := Aside0.mk (Q_NB128_138 (hon 8 (by kernel_rfl)))
     have NB138_128 := Aside0.mk (Q_NB138_128 (hon 8 (by kernel_rfl)))
     have NB132_138 := Aside0.mk (Q_NB132_138 (hon 8 (by kernel_rfl)))
     have NB138_132 := Aside0.mk (Q_NB138_132 (hon 8 (by kernel_rfl)))
     have hs85 : w'.cell? ⟨gb138, 0, none⟩ = some (.int .u64 0) := (blk_cell BK138.out 0).trans rfl
     have hfs85 := blk_frozen BK138.out 0
     have hns85_0 := NB121_138.out
     have hns85_1 := NB122_138.out
     have hns85_2 := NB127_138.out
     have hns85_3 := NB128_138.out
     have hns85_4 := NB132_138.out
     have hms85_0 := NB138_121.out
     have hms85_1 := NB138_122.out
     have hms85_2 := NB138_127.out
     have hms85_3 := NB138_128.out
     have hms85_4 := NB138_132.out
     have hs86 : w'.cell? ⟨gb138, 1, none⟩ = some (.int .u64 0) := (blk_cell BK138.out 1).trans rfl
     have hfs86 := blk_frozen BK138.out 1
     have hns86_0 := NB121_138.out
     have hns86_1 := NB122_138.out
     have hns86_2 := NB127_138.out
     have hns86_3 := NB128_138.out
     have hns86_4 := NB132_138.out
     have hms86_0 := NB138_121.out
     have hms86_1 := NB138_122.out
     have hms86_2 := NB138_127.out
     have hms86_3 := NB138_128.out
     have hms86_4 := NB138_132.out
     refine skip_ (w1 := ?_) (by rfl) rfl ?_ ?_
     rotate_left
     ·go_simp
      rfl
     refine hK.out _ _ ⟨gb138, m8_, (by rw [ha.out]; exact putSel_none (v := undef) rfl), (by refine blk_far ?_ NB121_138.out _; refine blk_far ?_ NB121_138.out _; exact BK121.out), (by refine blk_far ?_ NB122_138.out _; refine blk_far ?_ NB122_138.out _; exact BK122.out), (by refine blk_far ?_ NB127_138.out _; refine blk_far ?_ NB127_138.out _; exact BK127.out), (by refine blk_far ?_ NB128_138.out _; refine blk_far ?_ NB128_138.out _; exact BK128.out), (by refine blk_far ?_ NB132_138.out _; refine blk_far ?_ NB132_138.out _; exact BK132.out), (by repeat (first | (with_reducible first | exact HB.out | apply below_alloc | apply pw_below_drewN | apply below_drew1 | refine below_set ?_ GE121.out | refine below_set ?_ GE122.out | refine below_set ?_ GE127.out | refine below_set ?_ GE128.out | refine below_set ?_ GE132.out | refine below_set ?_ GE138.out) | exact HB.out)), fun _ h1_ => absurd ((up_self b 9).symm.trans h1_) (by decide), fun _ => GW138.out, fun _ => GE138.out, fun _ => NB121_138.out, fun _ => NB138_121.out, fun _ => NB122_138.out, fun _ => NB138_122.out, fun _ => NB127_138.out, fun _ => NB138_127.out, fun _ => NB128_138.out, fun _ => NB138_128.out, fun _ => NB132_138.out, fun _ => NB138_132.out, fun _ => (by refine blk_put (cs := #[.int .u64 t135, .int .u64 0]) ?_ 1 _ rfl; refine blk_put (cs := #[.int .u64 0, .int .u64 0]) ?_ 0 _ rfl; exact BK138.out), Q_X8_⟩
    refine steps_cons ?_ ?_
    ·rintro b a w' ⟨gb138, m8_, ha, Q_BK121, Q_BK122, Q_BK127, Q_BK128, Q_BK132, Q_HB, Q_BK138, Q_GW138, Q_GE138, Q_NB121_138, Q_NB138_121, Q_NB122_138, Q_NB138_122, Q_NB127_138, Q_NB138_127, Q_NB128_138, Q_NB138_128, Q_NB132_138, Q_NB138_132, Q_BK138_e9, Q_X8_⟩ hb_ hon hoff
     refine ⟨_, rfl, fun K hK => ?_⟩
     have e33 : a.tmps[33]? = some (.bool t137) := by rw [ha]; exact putSel_on (e := (7, 33, .bool t137)) 6 rfl rfl (hon 7 (by kernel_rfl)) rfl
     replace ha := Aside0.mk ha
     have BK121 := Aside0.mk Q_BK121
     have BK122 := Aside0.mk Q_BK122
     have BK127 := Aside0.mk Q_BK127
     have BK128 := Aside0.mk Q_BK128
     have BK132 := Aside0.mk Q_BK132
     have HB := Aside0.mk Q_HB
     have GW138 := Aside0.mk (Q_GW138 (hon 8 (by kernel_rfl)))
     have GE138 := Aside0.mk (Q_GE138 (hon 8 (by kernel_rfl)))
     have NB121_138 := Aside0.mk (Q_NB121_138 (hon 8 (by kernel_rfl)))
     have NB138_121 := Aside0.mk (Q_NB138_121 (hon 8 (by kernel_rfl)))
     have NB122_138 := Aside0.mk (Q_NB122_138 (hon 8 (by kernel_rfl)))
     have NB138_122 := Aside0.mk (Q_NB138_122 (hon 8 (by kernel_rfl)))
     have NB127_138 := Aside0.mk (Q_NB127_138 (hon 8 (by kernel_rfl)))
     have NB138_127 := Aside0.mk (Q_NB138_127 (hon 8 (by kernel_rfl)))
     have NB128_138 := Aside0.mk (Q_NB128_138 (hon 8 (by kernel_rfl)))
     have NB138_128 := Aside0.mk (Q_NB138_128 (hon 8 (by kernel_rfl)))
     have NB132_138 := Aside0.mk (Q_NB132_138 (hon 8 (by kernel_rfl)))
     have NB138_132 := Aside0.mk (Q_NB138_132 (hon 8 (by kernel_rfl)))
     have BK138 := Aside0.mk (Q_BK138_e9 (hon 9 (by kernel_rfl)))
     refine value_ (w1 := w') (v := .bool t137) (by rfl) rfl ?_ ?_
     ·go_simp
      (try simp only [i64_w])
      try rfl
     refine hK.out _ _ ⟨gb138, m8_, (by rw [ha.out]; exact putSel_upk 8 hb_ rfl rfl rfl), Q_BK121, Q_BK122, Q_BK127, Q_BK128, Q_BK132, Q_HB, fun _ h1_ => absurd ((hon 9 (by kernel_rfl)).symm.trans h1_) (by decide), Q_GW138, Q_GE138, Q_NB121_138, Q_NB138_121, Q_NB122_138, Q_NB138_122, Q_NB127_138, Q_NB138_127, Q_NB128_138, Q_NB138_128, Q_NB132_138, Q_NB138_132, Q_BK138_e9, Q_X8_⟩
    exact steps_nil
   rintro b a w86 hall ⟨gb138, m8_, ha, Q_BK121, Q_BK122, Q_BK127, Q_BK128, Q_BK132, Q_HB, Q_BK138, Q_GW138, Q_GE138, Q_NB121_138, Q_NB138_121, Q_NB122_138, Q_NB138_122, Q_NB127_138, Q_NB138_127, Q_NB128_138, Q_NB138_128, Q_NB132_138, Q_NB138_132, Q_BK138_e9, Q_X8_⟩
   clear BK121 BK122 BK127 BK128 BK132 HB
   have hb0_ := hall 0 (by kernel_rfl)
   have hb2_ := hall 2 (by kernel_rfl)
   have hb3_ := hall 3 (by kernel_rfl)
   have hb4_ := hall 4 (by kernel_rfl)
   have hb5_ := hall 5 (by kernel_rfl)
   have hb6_ := hall 6 (by kernel_rfl)
   have hb7_ := hall 7 (by kernel_rfl)
   have hb8_ := hall 8 (by kernel_rfl)
   have hb9_ := hall 9 (by kernel_rfl)
   have hb10_ := hall 10 (by kernel_rfl)
   subst ha
   obtain rfl := Q_X8_ hb8_
   simp only [putSel, hb0_, hb2_, hb3_, hb4_, hb5_, hb6_, hb7_, hb8_, hb9_, hb10_, if_true, Act.put, List.setIfInBounds_toArray, List.set_cons_zero, List.set_cons_succ]
   have BK121 := Aside0.mk Q_BK121
   clear Q_BK121
   have BK122 := Aside0.mk Q_BK122
   clear Q_BK122
   have BK127 := Aside0.mk Q_BK127
   clear Q_BK127
   have BK128 := Aside0.mk Q_BK128
   clear Q_BK128
   have BK132 := Aside0.mk Q_BK132
   clear Q_BK132
   have HB := Aside0.mk Q_HB
   clear Q_HB
   clear Q_BK138
   have GW138 := Aside0.mk (Q_GW138 hb8_)
   clear Q_GW138
   have GE138 := Aside0.mk (Q_GE138 hb8_)
   clear Q_GE138
   have NB121_138 := Aside0.mk (Q_NB121_138 hb8_)
   clear Q_NB121_138
   have NB138_121 := Aside0.mk (Q_NB138_121 hb8_)
   clear Q_NB138_121
   have NB122_138 := Aside0.mk (Q_NB122_138 hb8_)
   clear Q_NB122_138
   have NB138_122 := Aside0.mk (Q_NB138_122 hb8_)
   clear Q_NB138_122
   have NB127_138 := Aside0.mk (Q_NB127_138 hb8_)
   clear Q_NB127_138
   have NB138_127 := Aside0.mk (Q_NB138_127 hb8_)
   clear Q_NB138_127
   have NB128_138 := Aside0.mk (Q_NB128_138 hb8_)
   clear Q_NB128_138
   have NB138_128 := Aside0.mk (Q_NB138_128 hb8_)
   clear Q_NB138_128
   have NB132_138 := Aside0.mk (Q_NB132_138 hb8_)
   clear Q_NB132_138
   have NB138_132 := Aside0.mk (Q_NB138_132 hb8_)
   clear Q_NB138_132
   have BK138 := Aside0.mk (Q_BK138_e9 hb9_)
   clear Q_BK138_e9
   clear hall hb0_ hb2_ hb3_ hb4_ hb5_ hb6_ hb7_ hb8_ hb9_ hb10_
   have hnb87 := NB138_121.out
   have hnc87 := NB121_138.out
   have hnb88 := NB138_122.out
   have hnc88 := NB122_138.out
   have hnb89 := NB138_127.out
   have hnc89 := NB127_138.out
   have hnb90 := NB138_128.out
   have hnc90 := NB128_138.out
   have hnb91 := NB138_132.out
   have hnc91 := NB132_138.out
   have hcz92_0 : w86.cell? ⟨gb138, 0, none⟩ = some (.int .u64 t135) := (blk_cell BK138.out 0).trans rfl
   have hcz92_1 : w86.cell? ⟨gb138, 1, none⟩ = some (.int .u64 t136) := (blk_cell BK138.out 1).trans rfl
   have hfz92_0 := blk_frozen BK138.out 0
   have hfz92_1 := blk_frozen BK138.out 1
   have hcz93_0 : w86.cell? ⟨gb128, 0, none⟩ = some (.int .u64 t125) := (blk_cell BK128.out 0).trans rfl
   have hcz93_1 : w86.cell? ⟨gb128, 1, none⟩ = some (.int .u64 t126) := (blk_cell BK128.out 1).trans rfl
   have hfz93_0 := blk_frozen BK128.out 0
   have hfz93_1 := blk_frozen BK128.out 1
   have hnb94 := NB122_121.out
   have hnc94 := NB121_122.out
   have hcz95_0 : w86.cell? ⟨gb122, 0, none⟩ = some (.int .u64 0) := (blk_cell BK122.out 0).trans rfl
   have hcz95_1 : w86.cell? ⟨gb122, 1, none⟩ = some (.int .u64 0) := (blk_cell BK122.out 1).trans rfl
   have hfz95_0 := blk_frozen BK122.out 0
   have hfz95_1 := blk_frozen BK122.out 1
   try go_wp2
   refine bodyPost_ret (results_ct rfl _ _ gb122 25 #[.int .u64 t135, .int .u64 t136] (0, 0) _ rfl (by refine blk_put (cs := #[.int .u64 t135, .int .u64 0]) ?_ 1 _ rfl; refine blk_put (cs := #[.int .u64 0, .int .u64 0]) ?_ 0 _ rfl; exact BK122.out) Try.underlying25 rfl (by kernel_rfl)) rfl ?_
   exact ⟨by first | rfl | (simp [errW_none, errW_some] <;> rfl) | (simp [*, errW_none, errW_some] <;> rfl), by repeat (first | (with_reducible first | exact HB.out | apply below_alloc | apply pw_below_drewN | apply below_drew1 | refine below_set ?_ GE121.out | refine below_set ?_ GE122.out | refine below_set ?_ GE127.out | refine below_set ?_ GE128.out | refine below_set ?_ GE132.out | refine below_set ?_ GE138.out) | exact HB.out)⟩
 ·rw [if_neg c8] at H
  have c8b0 : (t125 == 0) = false := beq_eq_false_iff_ne.mpr c8
  have c8b1 : (t125 != 0) = true := bne_iff_ne.mpr c8
  simp only [Option.some.injEq, Prod.mk.injEq] at H
  obtain ⟨rfl, rfl, rfl⟩ := H
  go_enter Try.func46, Try.ntmps46
  try go_wp2_with (first | ((with_reducible refine gate_dst (N := 2) rfl ?_); refine box_event ?hg (N := 2) ?hd (cs := #[.int .u64 a0_0, .int .u64 a0_1]) (t := 25) ?hr ?_; (case hd => rfl); (case hg => rfl); (case hr => first | (go_simp; done) | (go_simp; rfl)); intro gb121 hg w96 hbox hb; have n0_ := Aside0.mk (below_step (by repeat (first | (with_reducible first | exact HB.out | apply below_alloc | apply pw_below_drewN | apply below_drew1) | exact HB.out)) hb); have n1_ := Aside0.mk (hbox); have n2_ := Aside0.mk ((by rw [hg]; exact (below_size (by repeat (first | (with_reducible first | exact HB.out | apply below_alloc | apply pw_below_drewN | apply below_drew1) | exact HB.out))) : w.heap.size ≤ gb121)); have n3_ := Aside0.mk ((by rw [hg]; exact (below_size (by repeat (first | (with_reducible first | exact HB.out | apply below_alloc | apply pw_below_drewN | apply below_drew1) | exact HB.out))) : w.heap.size ≤ gb121)); clear HB; have HB := n0_; have BK121 := n1_; have GW121 := n2_; have GE121 := n3_; clear n0_ n1_ n2_ n3_; clear hb hbox hg) | ((with_reducible refine gate_dst (N := 4) rfl ?_); refine box_event ?hg (N := 4) ?hd (cs := #[.int .u64 0, .int .u64 0]) (t := 25) ?hr ?_; (case hd => rfl); (case hg => rfl); (case hr => first | (go_simp; done) | (go_simp; rfl)); intro gb122 hg w97 hbox hb; have n0_ := Aside0.mk (blk_below (by exact BK121.out) hb); have n1_ := Aside0.mk (below_step (by repeat (first | (with_reducible first | exact HB.out | apply below_alloc | apply pw_below_drewN | apply below_drew1 | refine below_set ?_ GE121.out) | exact HB.out)) hb); have n2_ := Aside0.mk (hbox); have n3_ := Aside0.mk ((by rw [hg]; exact (below_size (by repeat (first | (with_reducible first | exact HB.out | apply below_alloc | apply pw_below_drewN | apply below_drew1 | refine below_set ?_ GE121.out) | exact HB.out))) : w.heap.size ≤ gb122)); have n4_ := Aside0.mk ((by rw [hg]; exact (below_size (by repeat (first | (with_reducible first | exact HB.out | apply below_alloc | apply pw_below_drewN | apply below_drew1 | refine below_set ?_ GE121.out) | exact HB.out))) : w.heap.size ≤ gb122)); have n5_ := Aside0.mk ((by rw [hg]; exact Nat.ne_of_lt (blk_lt (by exact BK121.out)) : gb121 ≠ gb122)); have n6_ := Aside0.mk ((by rw [hg]; exact Nat.ne_of_gt (blk_lt (by exact BK121.out)) : gb122 ≠ gb121)); clear BK121; clear HB; have BK121 := n0_; have HB := n1_; have BK122 := n2_; have GW122 := n3_; have GE122 := n4_; have NB121_122 := n5_; have NB122_121 := n6_; clear n0_ n1_ n2_ n3_ n4_ n5_ n6_; clear hb hbox hg))
  have n0_ := Aside0.mk (blk_drew BK121.out)
  have n1_ := Aside0.mk (blk_drew BK122.out)
  have n2_ := Aside0.mk (below_drew1 HB.out)
  clear BK121
  clear BK122
  clear HB
  have BK121 := n0_
  have BK122 := n1_
  have HB := n2_
  clear n0_ n1_ n2_
  refine start_ (n := 10) (S := fun w' => True) (ds := []) #[false, false, false, false, false, false, false, false, false, false] (by kernel_rfl) rfl rfl trivial (fun hHeld => ?_); refine with_tabW wide_Num_times.tab1 wide_Num_times.bits1 (fun HT_ HW_ => ?_)
  generalize w97.drew = w98 at BK121 BK122 HB hHeld ⊢
  refine pure_ (i := 0) (N := some 12) (v := ?_) (a' := ?_) #[true, false, false, false, false, false, false, false, false, false] rfl rfl (any_of HT_.out (by kernel_rfl)) (fun _ _ _ h => h) (Or.inl ⟨by rfl, ?_⟩) ?_ ?_
  rotate_left
  ·intro w'
   go_simp
   with_reducible rfl
  rotate_left
  ·simp only [Act.put, List.setIfInBounds_toArray, List.set_cons_zero, List.set_cons_succ, i64_w, i32_w]
   rfl
  refine pure_ (i := 3) (N := some 15) (v := ?_) (a' := ?_) #[true, false, false, true, false, false, false, false, false, false] rfl rfl (any_of HT_.out (by kernel_rfl)) (fun _ _ _ h => h) (Or.inl ⟨by rfl, ?_⟩) ?_ ?_
  rotate_left
  ·intro w'
   go_simp
   with_reducible rfl
  rotate_left
  ·simp only [Act.put, List.setIfInBounds_toArray, List.set_cons_zero, List.set_cons_succ, i64_w, i32_w]
   rfl
  refine inv_at [1, 2, 4, 5, 6, 7, 8, 9] (fun a0_ b a w' => ∃ (gb127 : Nat) (gb128 : Nat) (m6_ : Value) (m7_ : Value), a = putSel a0_ b [(1, 13, .int .u64 a0_1), (2, 14, .agg #[.int .u64 t123, .int .u64 t124]), (4, 16, .int .u64 a0_0), (5, 17, .agg #[.int .u64 t125, .int .u64 t126]), (6, 6, m6_), (7, 7, m7_)] ∧ (w'.heap[gb121]? = some (.cells #[.int .u64 a0_0, .int .u64 a0_1] 25 (0, 0))) ∧ (w'.heap[gb122]? = some (.cells #[.int .u64 0, .int .u64 0] 25 (0, 0))) ∧ (Below w.heap.size w w') ∧ (b 6 = true → b 7 = true → gb128 ≠ gb127) ∧ (b 6 = true → b 7 = true → gb127 ≠ gb128) ∧ (b 6 = true → b 8 = false → w'.heap[gb127]? = some (.cells #[.int .u64 0, .int .u64 0] 25 (0, 0))) ∧ (b 6 = true → w.heap.size ≤ gb127) ∧ (b 6 = true → w.heap.size ≤ gb127) ∧ (b 6 = true → gb121 ≠ gb127) ∧ (b 6 = true → gb127 ≠ gb121) ∧ (b 6 = true → gb122 ≠ gb127) ∧ (b 6 = true → gb127 ≠ gb122) ∧ (b 7 = true → b 9 = false → w'.heap[gb128]? = some (.cells #[.int .u64 0, .int .u64 0] 25 (0, 0))) ∧ (b 7 = true → w.heap.size ≤ gb128) ∧ (b 7 = true → w.heap.size ≤ gb128) ∧ (b 7 = true → gb121 ≠ gb128) ∧ (b 7 = true → gb128 ≠ gb121) ∧ (b 7 = true → gb122 ≠ gb128) ∧ (b 7 = true → gb128 ≠ gb122) ∧ (b 8 = true → w'.heap[gb127]? = some (.cells #[.int .u64 t123, .int .u64 t124] 25 (0, 0))) ∧ (b 9 = true → w'.heap[gb128]? = some (.cells #[.int .u64 t125, .int .u64 t126] 25 (0, 0))) ∧ (b 6 = true → (m6_ : Value) = .pointer (some ⟨gb127, 0, none⟩)) ∧ (b 7 = true → (m7_ : Value) = .pointer (some ⟨gb128, 0, none⟩))) HT_.out HW_.out (by kernel_rfl) (by kernel_rfl) ?_ ?_ ?_
  ·exact ⟨0, 0, .bool false, .bool false, by simp only [putSel, Bool.false_eq_true, if_false], BK121.out, BK122.out, HB.out, fun h_ => absurd h_ (by decide), fun h_ => absurd h_ (by decide), fun h_ => absurd h_ (by decide), fun h_ => absurd h_ (by decide), fun h_ => absurd h_ (by decide), fun h_ => absurd h_ (by decide), fun h_ => absurd h_ (by decide), fun h_ => absurd h_ (by decide), fun h_ => absurd h_ (by decide), fun h_ => absurd h_ (by decide), fun h_ => absurd h_ (by decide), fun h_ => absurd h_ (by decide), fun h_ => absurd h_ (by decide), fun h_ => absurd h_ (by decide), fun h_ => absurd h_ (by decide), fun h_ => absurd h_ (by decide), fun h_ => absurd h_ (by decide), fun h_ => absurd h_ (by decide), fun h_ => absurd h_ (by decide), fun h_ => absurd h_ (by decide)⟩
  ·skip
   clear BK121 BK122 HB
   refine steps_cons ?_ ?_
   ·rintro b a w' ⟨gb127, gb128, m6_, m7_, ha, Q_BK121, Q_BK122, Q_HB, Q_NB128_127, Q_NB127_128, Q_BK127, Q_GW127, Q_GE127, Q_NB121_127, Q_NB127_121, Q_NB122_127, Q_NB127_122, Q_BK128, Q_GW128, Q_GE128, Q_NB121_128, Q_NB128_121, Q_NB122_128, Q_NB128_122, Q_BK127_e8, Q_BK128_e9, Q_X6_, Q_X7_⟩ hb_ hon hoff
    refine ⟨_, rfl, fun K hK => ?_⟩
    have e12 : a.tmps[12]? = some (.pointer (some ⟨gb121, 1, none⟩)) := by rw [ha]; exact (putSel_off rfl).trans rfl
    replace ha := Aside0.mk ha
    have BK121 := Aside0.mk Q_BK121
    have BK122 := Aside0.mk Q_BK122
    have HB := Aside0.mk Q_HB
    have hc0_ : w'.cell? ⟨gb121, 0, none⟩ = some (.int .u64 a0_0) := (blk_cell BK121.out 0).trans rfl
    have hc1_ : w'.cell? ⟨gb121, 1, none⟩ = some (.int .u64 a0_1) := (blk_cell BK121.out 1).trans rfl
    refine value_ (w1 := w') (v := .int .u64 a0_1) (by rfl) rfl ?_ ?_
    ·go_simp
     (try simp only [i64_w])
     try rfl
    refine hK.out _ _ ⟨gb127, gb128, m6_, m7_, (by rw [ha.out]; exact putSel_upk 0 hb_ rfl rfl rfl), Q_BK121, Q_BK122, Q_HB, Q_NB128_127, Q_NB127_128, Q_BK127, Q_GW127, Q_GE127, Q_NB121_127, Q_NB127_121, Q_NB122_127, Q_NB127_122, Q_BK128, Q_GW128, Q_GE128, Q_NB121_128, Q_NB128_121, Q_NB122_128, Q_NB128_122, fun h0_ => absurd ((hoff 8 (by kernel_rfl)).symm.trans h0_) (by decide), fun h0_ => absurd ((hoff 9 (by kernel_rfl)).symm.trans h0_) (by decide), Q_X6_, Q_X7_⟩
   refine steps_cons ?_ ?_
   ·rintro b a w' ⟨gb127, gb128, m6_, m7_, ha, Q_BK121, Q_BK122, Q_HB, Q_NB128_127, Q_NB127_128, Q_BK127, Q_GW127, Q_GE127, Q_NB121_127, Q_NB127_121, Q_NB122_127, Q_NB127_122, Q_BK128, Q_GW128, Q_GE128, Q_NB121_128, Q_NB128_121, Q_NB122_128, Q_NB128_122, Q_BK127_e8, Q_BK128_e9, Q_X6_, Q_X7_⟩ hb_ hon hoff
    refine ⟨_, rfl, fun K hK => ?_⟩
    have e13 : a.tmps[13]? = some (.int .u64 a0_1) := by rw [ha]; exact putSel_on (e := (1, 13, .int .u64 a0_1)) 0 rfl rfl (hon 1 (by kernel_rfl)) rfl
    replace ha := Aside0.mk ha
    have BK121 := Aside0.mk Q_BK121
    have BK122 := Aside0.mk Q_BK122
    have HB := Aside0.mk Q_HB
    refine goes_ Try.func12 (by kernel_rfl) rfl #[.int .u64 a0_1, .int .u64 10] (by rfl) rfl rfl (by first | (simp only [List.map_toArray, List.map_cons, List.map_nil, Act.eval, Array.getD_eq_getD_getElem?, Option.getD_some, e13]; done) | (simp only [List.map_toArray, List.map_cons, List.map_nil, Act.eval, Array.getD_eq_getD_getElem?, Option.getD_some, e13]; rfl)) ?_
    with_reducible refine (wide_Mul.calls a0_1 10 t123 t124 _ A3.out).mono ?_
    rintro e w99 ⟨rfl, hb⟩
    refine ⟨_, rfl, ?_⟩
    have n0_ := Aside0.mk (blk_below (by exact BK121.out) hb)
    have n1_ := Aside0.mk (blk_below (by exact BK122.out) hb)
    have n2_ := Aside0.mk (below_step (by repeat (first | (with_reducible first | exact HB.out | apply below_alloc | apply pw_below_drewN | apply below_drew1 | refine below_set ?_ GE121.out | refine below_set ?_ GE122.out) | exact HB.out)) hb)
    have z_BK127 := fun (h0_ : b 6 = true) (h1_ : b 8 = false) => (show w99.heap[gb127]? = some (.cells #[.int .u64 0, .int .u64 0] 25 (0, 0)) from by first | exact (blk_below (g := gb127) (o := .cells #[.int .u64 0, .int .u64 0] 25 (0, 0)) (by exact (Q_BK127 h0_ h1_)) hb))
    have z_BK128 := fun (h0_ : b 7 = true) (h1_ : b 9 = false) => (show w99.heap[gb128]? = some (.cells #[.int .u64 0, .int .u64 0] 25 (0, 0)) from by first | exact (blk_below (g := gb128) (o := .cells #[.int .u64 0, .int .u64 0] 25 (0, 0)) (by exact (Q_BK128 h0_ h1_)) hb))
    clear BK121
    clear BK122
    clear HB
    have BK121 := n0_
    have BK122 := n1_
    have HB := n2_
    clear n0_ n1_ n2_
    (try clear hb)
    (try clear hb2)
    (try clear hk)
    (try clear hi)
    refine hK.out _ _ ⟨gb127, gb128, m6_, m7_, (by rw [ha.out]; exact putSel_upk 1 hb_ rfl rfl rfl), (by exact BK121.out), (by exact BK122.out), (by repeat (first | (with_reducible first | exact HB.out | apply below_alloc | apply pw_below_drewN | apply below_drew1 | refine below_set ?_ GE121.out | refine below_set ?_ GE122.out) | exact HB.out)), Q_NB128_127, Q_NB127_128, z_BK127, Q_GW127, Q_GE127, Q_NB121_127, Q_NB127_121, Q_NB122_127, Q_NB127_122, z_BK128, Q_GW128, Q_GE128, Q_NB121_128, Q_NB128_121, Q_NB122_128, Q_NB128_122, fun h0_ => absurd ((hoff 8 (by kernel_rfl)).symm.trans h0_) (by decide), fun h0_ => absurd ((hoff 9 (by kernel_rfl)).symm.trans h0_) (by decide), Q_X6_, Q_X7_⟩
   refine steps_cons ?_ ?_
   ·rintro b a w' ⟨gb127, gb128, m6_, m7_, ha, Q_BK121, Q_BK122, Q_HB, Q_NB128_127, Q_NB127_128, Q_BK127, Q_GW127, Q_GE127, Q_NB121_127, Q_NB127_121, Q_NB122_127, Q_NB127_122, Q_BK128, Q_GW128, Q_GE128, Q_NB121_128, Q_NB128_121, Q_NB122_128, Q_NB128_122, Q_BK127_e8, Q_BK128_e9, Q_X6_, Q_X7_⟩ hb_ hon hoff
    refine ⟨_, rfl, fun K hK => ?_⟩
    have e15 : a.tmps[15]? = some (.pointer (some ⟨gb121, 0, none⟩)) := by rw [ha]; exact (putSel_off rfl).trans rfl
    replace ha := Aside0.mk ha
    have BK121 := Aside0.mk Q_BK121
    have BK122 := Aside0.mk Q_BK122
    have HB := Aside0.mk Q_HB
    have hc0_ : w'.cell? ⟨gb121, 0, none⟩ = some (.int .u64 a0_0) := (blk_cell BK121.out 0).trans rfl
    have hc1_ : w'.cell? ⟨gb121, 1, none⟩ = some (.int .u64 a0_1) := (blk_cell BK121.out 1).trans rfl
    refine value_ (w1 := w') (v := .int .u64 a0_0) (by rfl) rfl ?_ ?_
    ·go_simp
     (try simp only [i64_w])
     try rfl
    refine hK.out _ _ ⟨gb127, gb128, m6_, m7_, (by rw [ha.out]; exact putSel_upk 2 hb_ rfl rfl rfl), Q_BK121, Q_BK122, Q_HB, Q_NB128_127, Q_NB127_128, Q_BK127, Q_GW127, Q_GE127, Q_NB121_127, Q_NB127_121, Q_NB122_127, Q_NB127_122, Q_BK128, Q_GW128, Q_GE128, Q_NB121_128, Q_NB128_121, Q_NB122_128, Q_NB128_122, fun h0_ => absurd ((hoff 8 (by kernel_rfl)).symm.trans h0_) (by decide), fun h0_ => absurd ((hoff 9 (by kernel_rfl)).symm.trans h0_) (by decide), Q_X6_, Q_X7_⟩
   refine steps_cons ?_ ?_
   ·rintro b a w' ⟨gb127, gb128, m6_, m7_, ha, Q_BK121, Q_BK122, Q_HB, Q_NB128_127, Q_NB127_128, Q_BK127, Q_GW127, Q_GE127, Q_NB121_127, Q_NB127_121, Q_NB122_127, Q_NB127_122, Q_BK128, Q_GW128, Q_GE128, Q_NB121_128, Q_NB128_121, Q_NB122_128, Q_NB128_122, Q_BK127_e8, Q_BK128_e9, Q_X6_, Q_X7_⟩ hb_ hon hoff
    refine ⟨_, rfl, fun K hK => ?_⟩
    have e16 : a.tmps[16]? = some (.int .u64 a0_0) := by rw [ha]; exact putSel_on (e := (4, 16, .int .u64 a0_0)) 2 rfl rfl (hon 4 (by kernel_rfl)) rfl
    replace ha := Aside0.mk ha
    have BK121 := Aside0.mk Q_BK121
    have BK122 := Aside0.mk Q_BK122
    have HB := Aside0.mk Q_HB
    refine goes_ Try.func12 (by kernel_rfl) rfl #[.int .u64 a0_0, .int .u64 10] (by rfl) rfl rfl (by first | (simp only [List.map_toArray, List.map_cons, List.map_nil, Act.eval, Array.getD_eq_getD_getElem?, Option.getD_some, e16]; done) | (simp only [List.map_toArray, List.map_cons, List.map_nil, Act.eval, Array.getD_eq_getD_getElem?, Option.getD_some, e16]; rfl)) ?_
    with_reducible refine (wide_Mul.calls a0_0 10 t125 t126 _ A4.out).mono ?_
    rintro e w101 ⟨rfl, hb⟩
    refine ⟨_, rfl, ?_⟩
    have n0_ := Aside0.mk (blk_below (by exact BK121.out) hb)
    have n1_ := Aside0.mk (blk_below (by exact BK122.out) hb)
    have n2_ := Aside0.mk (below_step (by repeat (first | (with_reducible first | exact HB.out | apply below_alloc | apply pw_below_drewN | apply below_drew1 | refine below_set ?_ GE121.out | refine below_set ?_ GE122.out) | exact HB.out)) hb)
    have z_BK127 := fun (h0_ : b 6 = true) (h1_ : b 8 = false) => (show w101.heap[gb127]? = some (.cells #[.int .u64 0, .int .u64 0] 25 (0, 0)) from by first | exact (blk_below (g := gb127) (o := .cells #[.int .u64 0, .int .u64 0] 25 (0, 0)) (by exact (Q_BK127 h0_ h1_)) hb))
    have z_BK128 := fun (h0_ : b 7 = true) (h1_ : b 9 = false) => (show w101.heap[gb128]? = some (.cells #[.int .u64 0, .int .u64 0] 25 (0, 0)) from by first | exact (blk_below (g := gb128) (o := .cells #[.int .u64 0, .int .u64 0] 25 (0, 0)) (by exact (Q_BK128 h0_ h1_)) hb))
    clear BK121
    clear BK122
    clear HB
    have BK121 := n0_
    have BK122 := n1_
    have HB := n2_
    clear n0_ n1_ n2_
    (try clear hb)
    (try clear hb2)
    (try clear hk)
    (try clear hi)
    refine hK.out _ _ ⟨gb127, gb128, m6_, m7_, (by rw [ha.out]; exact putSel_upk 3 hb_ rfl rfl rfl), (by exact BK121.out), (by exact BK122.out), (by repeat (first | (with_reducible first | exact HB.out | apply below_alloc | apply pw_below_drewN | apply below_drew1 | refine below_set ?_ GE121.out | refine below_set ?_ GE122.out) | exact HB.out)), Q_NB128_127, Q_NB127_128, z_BK127, Q_GW127, Q_GE127, Q_NB121_127, Q_NB127_121, Q_NB122_127, Q_NB127_122, z_BK128, Q_GW128, Q_GE128, Q_NB121_128, Q_NB128_121, Q_NB122_128, Q_NB128_122, fun h0_ => absurd ((hoff 8 (by kernel_rfl)).symm.trans h0_) (by decide), fun h0_ => absurd ((hoff 9 (by kernel_rfl)).symm.trans h0_) (by decide), Q_X6_, Q_X7_⟩
   refine steps_cons ?_ ?_
   ·rintro b a w' ⟨gb127, gb128, m6_, m7_, ha, Q_BK121, Q_BK122, Q_HB, Q_NB128_127, Q_NB127_128, Q_BK127, Q_GW127, Q_GE127, Q_NB121_127, Q_NB127_121, Q_NB122_127, Q_NB127_122, Q_BK128, Q_GW128, Q_GE128, Q_NB121_128, Q_NB128_121, Q_NB122_128, Q_NB128_122, Q_BK127_e8, Q_BK128_e9, Q_X6_, Q_X7_⟩ hb_ hon hoff
    refine ⟨_, rfl, fun K hK => ?_⟩
    replace ha := Aside0.mk ha
    have BK121 := Aside0.mk Q_BK121
    have BK122 := Aside0.mk Q_BK122
    have HB := Aside0.mk Q_HB
    refine box_step ?hg (N := 6) ?hd (cs := #[.int .u64 0, .int .u64 0]) (t := 25) ?hr ?_; (case hd => rfl); (case hg => rfl); (case hr => first | (go_simp; done) | (go_simp; rfl))
    intro gb127 hg w99 hbox hb
    have n0_ := Aside0.mk (blk_below (by exact BK121.out) hb)
    have n1_ := Aside0.mk (blk_below (by exact BK122.out) hb)
    have n2_ := Aside0.mk (below_step (by repeat (first | (with_reducible first | exact HB.out | apply below_alloc | apply pw_below_drewN | apply below_drew1 | refine below_set ?_ GE121.out | refine below_set ?_ GE122.out) | exact HB.out)) hb)
    have n3_ := Aside0.mk (hbox)
    have n4_ := Aside0.mk ((by rw [hg]; exact (below_size (by repeat (first | (with_reducible first | exact HB.out | apply below_alloc | apply pw_below_drewN | apply below_drew1 | refine below_set ?_ GE121.out | refine below_set ?_ GE122.out) | exact HB.out))) : w.heap.size ≤ gb127))
    have n5_ := Aside0.mk ((by rw [hg]; exact (below_size (by repeat (first | (with_reducible first | exact HB.out | apply below_alloc | apply pw_below_drewN | apply below_drew1 | refine below_set ?_ GE121.out | refine below_set ?_ GE122.out) | exact HB.out))) : w.heap.size ≤ gb127))
    have n6_ := Aside0.mk ((by rw [hg]; exact Nat.ne_of_lt (blk_lt (by exact BK121.out)) : gb121 ≠ gb127))
    have n7_ := Aside0.mk ((by rw [hg]; exact Nat.ne_of_gt (blk_lt (by exact BK121.out)) : gb127 ≠ gb121))
    have n8_ := Aside0.mk ((by rw [hg]; exact Nat.ne_of_lt (blk_lt (by exact BK122.out)) : gb122 ≠ gb127))
    have n9_ := Aside0.mk ((by rw [hg]; exact Nat.ne_of_gt (blk_lt (by exact BK122.out)) : gb127 ≠ gb122))
    have z_NB128_127 := fun (h0_ : up b 6 6 = true) (h1_ : up b 6 7 = true) => (show gb128 ≠ gb127 from ((by rw [hg]; exact Nat.ne_of_lt (blk_lt (by exact (Q_BK128 h1_ (hoff 9 (by kernel_rfl))))) : gb128 ≠ gb127)))
    have z_NB127_128 := fun (h0_ : up b 6 6 = true) (h1_ : up b 6 7 = true) => (show gb127 ≠ gb128 from ((by rw [hg]; exact Nat.ne_of_gt (blk_lt (by exact (Q_BK128 h1_ (hoff 9 (by kernel_rfl))))) : gb127 ≠ gb128)))
    have z_BK128 := fun (h0_ : b 7 = true) (h1_ : b 9 = false) => (show w99.heap[gb128]? = some (.cells #[.int .u64 0, .int .u64 0] 25 (0, 0)) from by first | exact (blk_below (g := gb128) (o := .cells #[.int .u64 0, .int .u64 0] 25 (0, 0)) (by exact (Q_BK128 h0_ h1_)) hb))
    clear BK121
    clear BK122
    clear HB
    have BK121 := n0_
    have BK122 := n1_
    have HB := n2_
    have BK127 := n3_
    have GW127 := n4_
    have GE127 := n5_
    have NB121_127 := n6_
    have NB127_121 := n7_
    have NB122_127 := n8_
    have NB127_122 := n9_
    clear n0_ n1_ n2_ n3_ n4_ n5_ n6_ n7_ n8_ n9_
    clear hb hbox hg
    refine hK.out _ _ ⟨gb127, gb128, (.pointer (some ⟨gb127, 0, none⟩)), m7_, (by rw [ha.out]; exact putSel_upk 4 hb_ rfl rfl rfl), (by exact BK121.out), (by exact BK122.out), (by repeat (first | (with_reducible first | exact HB.out | apply below_alloc | apply pw_below_drewN | apply below_drew1 | refine below_set ?_ GE121.out | refine below_set ?_ GE122.out | refine below_set ?_ GE127.out) | exact HB.out)), @z_NB128_127, @z_NB127_128, fun _ _ => (by exact BK127.out), fun _ => GW127.out, fun _ => GE127.out, fun _ => NB121_127.out, fun _ => NB127_121.out, fun _ => NB122_127.out, fun _ => NB127_122.out, z_BK128, Q_GW128, Q_GE128, Q_NB121_128, Q_NB128_121, Q_NB122_128, Q_NB128_122, fun h0_ => absurd ((hoff 8 (by kernel_rfl)).symm.trans h0_) (by decide), fun h0_ => absurd ((hoff 9 (by kernel_rfl)).symm.trans h0_) (by decide), fun _ => rfl, Q_X7_⟩
   refine steps_cons ?_ ?_
   ·rintro b a w' ⟨gb127, gb128, m6_, m7_, ha, Q_BK121, Q_BK122, Q_HB, Q_NB128_127, Q_NB127_128, Q_BK127, Q_GW127, Q_GE127, Q_NB121_127, Q_NB127_121, Q_NB122_127, Q_NB127_122, Q_BK128, Q_GW128, Q_GE128, Q_NB121_128, Q_NB128_121, Q_NB122_128, Q_NB128_122, Q_BK127_e8, Q_BK128_e9, Q_X6_, Q_X7_⟩ hb_ hon hoff
    refine ⟨_, rfl, fun K hK => ?_⟩
    replace ha := Aside0.mk ha
    have BK121 := Aside0.mk Q_BK121
    have BK122 := Aside0.mk Q_BK122
    have HB := Aside0.mk Q_HB
    refine box_step ?hg (N := 7) ?hd (cs := #[.int .u64 0, .int .u64 0]) (t := 25) ?hr ?_; (case hd => rfl); (case hg => rfl); (case hr => first | (go_simp; done) | (go_simp; rfl))
    intro gb128 hg w99 hbox hb
    have n0_ := Aside0.mk (blk_below (by exact BK121.out) hb)
    have n1_ := Aside0.mk (blk_below (by exact BK122.out) hb)
    have n2_ := Aside0.mk (below_step (by repeat (first | (with_reducible first | exact HB.out | apply below_alloc | apply pw_below_drewN | apply below_drew1 | refine below_set ?_ GE121.out | refine below_set ?_ GE122.out) | exact HB.out)) hb)
    have n3_ := Aside0.mk (hbox)
    have n4_ := Aside0.mk ((by rw [hg]; exact (below_size (by repeat (first | (with_reducible first | exact HB.out | apply below_alloc | apply pw_below_drewN | apply below_drew1 | refine below_set ?_ GE121.out | refine below_set ?_ GE122.out) | exact HB.out))) : w.heap.size ≤ gb128))
    have n5_ := Aside0.mk ((by rw [hg]; exact (below_size (by repeat (first | (with_reducible first | exact HB.out | apply below_alloc | apply pw_below_drewN | apply below_drew1 | refine below_set ?_ GE121.out | refine below_set ?_ GE122.out) | exact HB.out))) : w.heap.size ≤ gb128))
    have n6_ := Aside0.mk ((by rw [hg]; exact Nat.ne_of_lt (blk_lt (by exact BK121.out)) : gb121 ≠ gb128))
    have n7_ := Aside0.mk ((by rw [hg]; exact Nat.ne_of_gt (blk_lt (by exact BK121.out)) : gb128 ≠ gb121))
    have n8_ := Aside0.mk ((by rw [hg]; exact Nat.ne_of_lt (blk_lt (by exact BK122.out)) : gb122 ≠ gb128))
    have n9_ := Aside0.mk ((by rw [hg]; exact Nat.ne_of_gt (blk_lt (by exact BK122.out)) : gb128 ≠ gb122))
    have z_NB128_127 := fun (h0_ : up b 7 6 = true) (h1_ : up b 7 7 = true) => (show gb128 ≠ gb127 from ((by rw [hg]; exact Nat.ne_of_gt (blk_lt (by exact (Q_BK127 h0_ (hoff 8 (by kernel_rfl))))) : gb128 ≠ gb127)))
    have z_NB127_128 := fun (h0_ : up b 7 6 = true) (h1_ : up b 7 7 = true) => (show gb127 ≠ gb128 from ((by rw [hg]; exact Nat.ne_of_lt (blk_lt (by exact (Q_BK127 h0_ (hoff 8 (by kernel_rfl))))) : gb127 ≠ gb128)))
    have z_BK127 := fun (h0_ : b 6 = true) (h1_ : b 8 = false) => (show w99.heap[gb127]? = some (.cells #[.int .u64 0, .int .u64 0] 25 (0, 0)) from by first | exact (blk_below (g := gb127) (o := .cells #[.int .u64 0, .int .u64 0] 25 (0, 0)) (by exact (Q_BK127 h0_ h1_)) hb))
    clear BK121
    clear BK122
    clear HB
    have BK121 := n0_
    have BK122 := n1_
    have HB := n2_
    have BK128 := n3_
    have GW128 := n4_
    have GE128 := n5_
    have NB121_128 := n6_
    have NB128_121 := n7_
    have NB122_128 := n8_
    have NB128_122 := n9_
    clear n0_ n1_ n2_ n3_ n4_ n5_ n6_ n7_ n8_ n9_
    clear hb hbox hg
    refine hK.out _ _ ⟨gb127, gb128, m6_, (.pointer (some ⟨gb128, 0, none⟩)), (by rw [ha.out]; exact putSel_upk 5 hb_ rfl rfl rfl), (by exact BK121.out), (by exact BK122.out), (by repeat (first | (with_reducible first | exact HB.out | apply below_alloc | apply pw_below_drewN | apply below_drew1 | refine below_set ?_ GE121.out | refine below_set ?_ GE122.out | refine below_set ?_ GE128.out) | exact HB.out)), @z_NB128_127, @z_NB127_128, z_BK127, Q_GW127, Q_GE127, Q_NB121_127, Q_NB127_121, Q_NB122_127, Q_NB127_122, fun _ _ => (by exact BK128.out), fun _ => GW128.out, fun _ => GE128.out, fun _ => NB121_128.out, fun _ => NB128_121.out, fun _ => NB122_128.out, fun _ => NB128_122.out, fun h0_ => absurd ((hoff 8 (by kernel_rfl)).symm.trans h0_) (by decide), fun h0_ => absurd ((hoff 9 (by kernel_rfl)).symm.trans h0_) (by decide), Q_X6_, fun _ => rfl⟩
   refine steps_cons ?_ ?_
   ·rintro b a w' ⟨gb127, gb128, m6_, m7_, ha, Q_BK121, Q_BK122, Q_HB, Q_NB128_127, Q_NB127_128, Q_BK127, Q_GW127, Q_GE127, Q_NB121_127, Q_NB127_121, Q_NB122_127, Q_NB127_122, Q_BK128, Q_GW128, Q_GE128, Q_NB121_128, Q_NB128_121, Q_NB122_128, Q_NB128_122, Q_BK127_e8, Q_BK128_e9, Q_X6_, Q_X7_⟩ hb_ hon hoff
    refine ⟨_, rfl, fun K hK => ?_⟩
    have e6 : a.tmps[6]? = some (m6_) := by rw [ha]; exact putSel_on (e := (6, 6, m6_)) 4 rfl rfl (hon 6 (by kernel_rfl)) rfl
    rw [Q_X6_ (hon 6 (by kernel_rfl))] at e6
    have e14 : a.tmps[14]? = some (.agg #[.int .u64 t123, .int .u64 t124]) := by rw [ha]; exact putSel_on (e := (2, 14, .agg #[.int .u64 t123, .int .u64 t124])) 1 rfl rfl (hon 2 (by kernel_rfl)) rfl
    replace ha := Aside0.mk ha
    have BK121 := Aside0.mk Q_BK121
    have BK122 := Aside0.mk Q_BK122
    have HB := Aside0.mk Q_HB
    have NB128_127 := Aside0.mk (Q_NB128_127 (hon 6 (by kernel_rfl)) (hon 7 (by kernel_rfl)))
    have NB127_128 := Aside0.mk (Q_NB127_128 (hon 6 (by kernel_rfl)) (hon 7 (by kernel_rfl)))
    have BK127 := Aside0.mk (Q_BK127 (hon 6 (by kernel_rfl)) hb_)
    have GW127 := Aside0.mk (Q_GW127 (hon 6 (by kernel_rfl)))
    have GE127 := Aside0.mk (Q_GE127 (hon 6 (by kernel_rfl)))
    have NB121_127 := Aside0.mk (Q_NB121_127 (hon 6 (by kernel_rfl)))
    have NB127_121 := Aside0.mk (Q_NB127_121 (hon 6 (by kernel_rfl)))
    have NB122_127 := Aside0.mk (Q_NB122_127 (hon 6 (by kernel_rfl)))
    have NB127_122 := Aside0.mk (Q_NB127_122 (hon 6 (by kernel_rfl)))
    have BK128 := Aside0.mk (Q_BK128 (hon 7 (by kernel_rfl)) (hoff 9 (by kernel_rfl)))
    have GW128 := Aside0.mk (Q_GW128 (hon 7 (by kernel_rfl)))
    have GE128 := Aside0.mk (Q_GE128 (hon 7 (by kernel_rfl)))
    have NB121_128 := Aside0.mk (Q_NB121_128 (hon 7 (by kernel_rfl)))
    have NB128_121 := Aside0.mk (Q_NB128_121 (hon 7 (by kernel_rfl)))
    have NB122_128 := Aside0.mk (Q_NB122_128 (hon 7 (by kernel_rfl)))
    have NB128_122 := Aside0.mk (Q_NB128_122 (hon 7 (by kernel_rfl)))
    have hs104 : w'.cell? ⟨gb127, 0, none⟩ = some (.int .u64 0) := (blk_cell BK127.out 0).trans rfl
    have hfs104 := blk_frozen BK127.out 0
    have hns104_0 := NB121_127.out
    have hns104_1 := NB122_127.out
    have hns104_3 := NB128_127.out
    have hms104_0 := NB127_121.out
    have hms104_1 := NB127_122.out
    have hms104_3 := NB127_128.out
    have hs105 : w'.cell? ⟨gb127, 1, none⟩ = some (.int .u64 0) := (blk_cell BK127.out 1).trans rfl
    have hfs105 := blk_frozen BK127.out 1
    have hns105_0 := NB121_127.out
    have hns105_1 := NB122_127.out
    have hns105_3 := NB128_127.out
    have hms105_0 := NB127_121.out
    have hms105_1 := NB127_122.out
    have hms105_3 := NB127_128.out
    refine skip_ (w1 := ?_) (by rfl) rfl ?_ ?_
    rotate_left
    ·go_simp
     rfl
    refine hK.out _ _ ⟨gb127, gb128, m6_, m7_, (by rw [ha.out]; exact putSel_none (v := undef) rfl), (by refine blk_far ?_ NB121_127.out _; refine blk_far ?_ NB121_127.out _; exact BK121.out), (by refine blk_far ?_ NB122_127.out _; refine blk_far ?_ NB122_127.out _; exact BK122.out), (by repeat (first | (with_reducible first | exact HB.out | apply below_alloc | apply pw_below_drewN | apply below_drew1 | refine below_set ?_ GE121.out | refine below_set ?_ GE122.out | refine below_set ?_ GE127.out | refine below_set ?_ GE128.out) | exact HB.out)), fun _ _ => NB128_127.out, fun _ _ => NB127_128.out, fun _ h1_ => absurd ((up_self b 8).symm.trans h1_) (by decide), fun _ => GW127.out, fun _ => GE127.out, fun _ => NB121_127.out, fun _ => NB127_121.out, fun _ => NB122_127.out, fun _ => NB127_122.out, fun _ _ => (by refine blk_far ?_ NB128_127.out _; refine blk_far ?_ NB128_127.out _; exact BK128.out), fun _ => GW128.out, fun _ => GE128.out, fun _ => NB121_128.out, fun _ => NB128_121.out, fun _ => NB122_128.out, fun _ => NB128_122.out, fun _ => (by refine blk_put (cs := #[.int .u64 t123, .int .u64 0]) ?_ 1 _ rfl; refine blk_put (cs := #[.int .u64 0, .int .u64 0]) ?_ 0 _ rfl; exact BK127.out), fun h0_ => absurd ((hoff 9 (by kernel_rfl)).symm.trans h0_) (by decide), Q_X6_, Q_X7_⟩
   refine steps_cons ?_ ?_
   ·rintro b a w' ⟨gb127, gb128, m6_, m7_, ha, Q_BK121, Q_BK122, Q_HB, Q_NB128_127, Q_NB127_128, Q_BK127, Q_GW127, Q_GE127, Q_NB121_127, Q_NB127_121, Q_NB122_127, Q_NB127_122, Q_BK128, Q_GW128, Q_GE128, Q_NB121_128, Q_NB128_121, Q_NB122_128, Q_NB128_122, Q_BK127_e8, Q_BK128_e9, Q_X6_, Q_X7_⟩ hb_ hon hoff
    refine ⟨_, rfl, fun K hK => ?_⟩
    have e7 : a.tmps[7]? = some (m7_) := by rw [ha]; exact putSel_on (e := (7, 7, m7_)) 5 rfl rfl (hon 7 (by kernel_rfl)) rfl
    rw [Q_X7_ (hon 7 (by kernel_rfl))] at e7
    have e17 : a.tmps[17]? = some (.agg #[.int .u64 t125, .int .u64 t126]) := by rw [ha]; exact putSel_on (e := (5, 17, .agg #[.int .u64 t125, .int .u64 t126])) 3 rfl rfl (hon 5 (by kernel_rfl)) rfl
    replace ha := Aside0.mk ha
    have BK121 := Aside0.mk Q_BK121
    have BK122 := Aside0.mk Q_BK122
    have HB := Aside0.mk Q_HB
    have NB128_127 := Aside0.mk (Q_NB128_127 (hon 6 (by kernel_rfl)) (hon 7 (by kernel_rfl)))
    have NB127_128 := Aside0.mk (Q_NB127_128 (hon 6 (by kernel_rfl)) (hon 7 (by kernel_rfl)))
    have GW127 := Aside0.mk (Q_GW127 (hon 6 (by kernel_rfl)))
    have GE127 := Aside0.mk (Q_GE127 (hon 6 (by kernel_rfl)))
    have NB121_127 := Aside0.mk (Q_NB121_127 (hon 6 (by kernel_rfl)))
    have NB127_121 := Aside0.mk (Q_NB127_121 (hon 6 (by kernel_rfl)))
    have NB122_127 := Aside0.mk (Q_NB122_127 (hon 6 (by kernel_rfl)))
    have NB127_122 := Aside0.mk (Q_NB127_122 (hon 6 (by kernel_rfl)))
    have BK128 := Aside0.mk (Q_BK128 (hon 7 (by kernel_rfl)) hb_)
    have GW128 := Aside0.mk (Q_GW128 (hon 7 (by kernel_rfl)))
    have GE128 := Aside0.mk (Q_GE128 (hon 7 (by kernel_rfl)))
    have NB121_128 := Aside0.mk (Q_NB121_128 (hon 7 (by kernel_rfl)))
    have NB128_121 := Aside0.mk (Q_NB128_121 (hon 7 (by kernel_rfl)))
    have NB122_128 := Aside0.mk (Q_NB122_128 (hon 7 (by kernel_rfl)))
    have NB128_122 := Aside0.mk (Q_NB128_122 (hon 7 (by kernel_rfl)))
    have BK127 := Aside0.mk (Q_BK127_e8 (hon 8 (by kernel_rfl)))
    have hs106 : w'.cell? ⟨gb128, 0, none⟩ = some (.int .u64 0) := (blk_cell BK128.out 0).trans rfl
    have hfs106 := blk_frozen BK128.out 0
    have hns106_0 := NB121_128.out
    have hns106_1 := NB122_128.out
    have hns106_2 := NB127_128.out
    have hms106_0 := NB128_121.out
    have hms106_1 := NB128_122.out
    have hms106_2 := NB128_127.out
    have hs107 : w'.cell? ⟨gb128, 1, none⟩ = some (.int .u64 0) := (blk_cell BK128.out 1).trans rfl
    have hfs107 := blk_frozen BK128.out 1
    have hns107_0 := NB121_128.out
    have hns107_1 := NB122_128.out
    have hns107_2 := NB127_128.out
    have hms107_0 := NB128_121.out
    have hms107_1 := NB128_122.out
    have hms107_2 := NB128_127.out
    refine skip_ (w1 := ?_) (by rfl) rfl ?_ ?_
    rotate_left
    ·go_simp
     rfl
    refine hK.out _ _ ⟨gb127, gb128, m6_, m7_, (by rw [ha.out]; exact putSel_none (v := undef) rfl), (by refine blk_far ?_ NB121_128.out _; refine blk_far ?_ NB121_128.out _; exact BK121.out), (by refine blk_far ?_ NB122_128.out _; refine blk_far ?_ NB122_128.out _; exact BK122.out), (by repeat (first | (with_reducible first | exact HB.out | apply below_alloc | apply pw_below_drewN | apply below_drew1 | refine below_set ?_ GE121.out | refine below_set ?_ GE122.out | refine below_set ?_ GE127.out | refine below_set ?_ GE128.out) | exact HB.out)), fun _ _ => NB128_127.out, fun _ _ => NB127_128.out, fun _ h1_ => absurd ((hon 8 (by kernel_rfl)).symm.trans h1_) (by decide), fun _ => GW127.out, fun _ => GE127.out, fun _ => NB121_127.out, fun _ => NB127_121.out, fun _ => NB122_127.out, fun _ => NB127_122.out, fun _ h1_ => absurd ((up_self b 9).symm.trans h1_) (by decide), fun _ => GW128.out, fun _ => GE128.out, fun _ => NB121_128.out, fun _ => NB128_121.out, fun _ => NB122_128.out, fun _ => NB128_122.out, fun _ => (by refine blk_far ?_ NB127_128.out _; refine blk_far ?_ NB127_128.out _; exact BK127.out), fun _ => (by refine blk_put (cs := #[.int .u64 t125, .int .u64 0]) ?_ 1 _ rfl; refine blk_put (cs := #[.int .u64 0, .int .u64 0]) ?_ 0 _ rfl; exact BK128.out), Q_X6_, Q_X7_⟩
   exact steps_nil
  rintro b a w107 hall ⟨gb127, gb128, m6_, m7_, ha, Q_BK121, Q_BK122, Q_HB, Q_NB128_127, Q_NB127_128, Q_BK127, Q_GW127, Q_GE127, Q_NB121_127, Q_NB127_121, Q_NB122_127, Q_NB127_122, Q_BK128, Q_GW128, Q_GE128, Q_NB121_128, Q_NB128_121, Q_NB122_128, Q_NB128_122, Q_BK127_e8, Q_BK128_e9, Q_X6_, Q_X7_⟩
  clear BK121 BK122 HB
  have hb1_ := hall 1 (by kernel_rfl)
  have hb2_ := hall 2 (by kernel_rfl)
  have hb4_ := hall 4 (by kernel_rfl)
  have hb5_ := hall 5 (by kernel_rfl)
  have hb6_ := hall 6 (by kernel_rfl)
  have hb7_ := hall 7 (by kernel_rfl)
  have hb8_ := hall 8 (by kernel_rfl)
  have hb9_ := hall 9 (by kernel_rfl)
  subst ha
  obtain rfl := Q_X6_ hb6_
  obtain rfl := Q_X7_ hb7_
  simp only [putSel, hb1_, hb2_, hb4_, hb5_, hb6_, hb7_, hb8_, hb9_, if_true, Act.put, List.setIfInBounds_toArray, List.set_cons_zero, List.set_cons_succ]
  have BK121 := Aside0.mk Q_BK121
  clear Q_BK121
  have BK122 := Aside0.mk Q_BK122
  clear Q_BK122
  have HB := Aside0.mk Q_HB
  clear Q_HB
  have NB128_127 := Aside0.mk (Q_NB128_127 hb6_ hb7_)
  clear Q_NB128_127
  have NB127_128 := Aside0.mk (Q_NB127_128 hb6_ hb7_)
  clear Q_NB127_128
  clear Q_BK127
  have GW127 := Aside0.mk (Q_GW127 hb6_)
  clear Q_GW127
  have GE127 := Aside0.mk (Q_GE127 hb6_)
  clear Q_GE127
  have NB121_127 := Aside0.mk (Q_NB121_127 hb6_)
  clear Q_NB121_127
  have NB127_121 := Aside0.mk (Q_NB127_121 hb6_)
  clear Q_NB127_121
  have NB122_127 := Aside0.mk (Q_NB122_127 hb6_)
  clear Q_NB122_127
  have NB127_122 := Aside0.mk (Q_NB127_122 hb6_)
  clear Q_NB127_122
  clear Q_BK128
  have GW128 := Aside0.mk (Q_GW128 hb7_)
  clear Q_GW128
  have GE128 := Aside0.mk (Q_GE128 hb7_)
  clear Q_GE128
  have NB121_128 := Aside0.mk (Q_NB121_128 hb7_)
  clear Q_NB121_128
  have NB128_121 := Aside0.mk (Q_NB128_121 hb7_)
  clear Q_NB128_121
  have NB122_128 := Aside0.mk (Q_NB122_128 hb7_)
  clear Q_NB122_128
  have NB128_122 := Aside0.mk (Q_NB128_122 hb7_)
  clear Q_NB128_122
  have BK127 := Aside0.mk (Q_BK127_e8 hb8_)
  clear Q_BK127_e8
  have BK128 := Aside0.mk (Q_BK128_e9 hb9_)
  clear Q_BK128_e9
  clear hall hb1_ hb2_ hb4_ hb5_ hb6_ hb7_ hb8_ hb9_
  have hnb108 := NB128_121.out
  have hnc108 := NB121_128.out
  have hnb109 := NB128_122.out
  have hnc109 := NB122_128.out
  have hnb110 := NB128_127.out
  have hnc110 := NB127_128.out
  have hcz111_0 : w107.cell? ⟨gb128, 0, none⟩ = some (.int .u64 t125) := (blk_cell BK128.out 0).trans rfl
  have hcz111_1 : w107.cell? ⟨gb128, 1, none⟩ = some (.int .u64 t126) := (blk_cell BK128.out 1).trans rfl
  have hfz111_0 := blk_frozen BK128.out 0
  have hfz111_1 := blk_frozen BK128.out 1
  have hnb112 := NB127_121.out
  have hnc112 := NB121_127.out
  have hnb113 := NB127_122.out
  have hnc113 := NB122_127.out
  have hcz114_0 : w107.cell? ⟨gb127, 0, none⟩ = some (.int .u64 t123) := (blk_cell BK127.out 0).trans rfl
  have hcz114_1 : w107.cell? ⟨gb127, 1, none⟩ = some (.int .u64 t124) := (blk_cell BK127.out 1).trans rfl
  have hfz114_0 := blk_frozen BK127.out 0
  have hfz114_1 := blk_frozen BK127.out 1
  try go_wp2_with (first | ((with_reducible refine gate_callee (f := 18) rfl ?_); refine goesL_ (some 23) rfl rfl Try.func18 (by kernel_rfl) rfl #[.agg #[.int .u64 t126, .int .u64 0], .agg #[.int .u64 t123, .int .u64 t124]] rfl (by (try simp only [List.map_toArray, List.map_cons, List.map_nil]); first | done | rfl | (simp only [List.length_drop, List.length_take]; rfl)) ?_; (with_reducible refine (wide_Num_Add.calls t126 0 t123 t124 t129 t130 t131 _ A5.out).mono ?_); rintro e w115 ⟨rfl, hb⟩; refine ⟨_, rfl, ?_⟩; have n0_ := Aside0.mk (blk_below (by exact BK121.out) hb); have n1_ := Aside0.mk (blk_below (by exact BK122.out) hb); have n2_ := Aside0.mk (blk_below (by exact BK127.out) hb); have n3_ := Aside0.mk (blk_below (by exact BK128.out) hb); have n4_ := Aside0.mk (below_step (by repeat (first | (with_reducible first | exact HB.out | apply below_alloc | apply pw_below_drewN | apply below_drew1 | refine below_set ?_ GE121.out | refine below_set ?_ GE122.out | refine below_set ?_ GE127.out | refine below_set ?_ GE128.out) | exact HB.out)) hb); clear BK121; clear BK122; clear BK127; clear BK128; clear HB; have BK121 := n0_; have BK122 := n1_; have BK127 := n2_; have BK128 := n3_; have HB := n4_; clear n0_ n1_ n2_ n3_ n4_; (try clear hb); (try clear hb2); (try clear hk); (try clear hi)) | ((with_reducible refine gate_dst (N := 8) rfl ?_); refine box_event ?hg (N := 8) ?hd (cs := #[.int .u64 0, .int .u64 0]) (t := 25) ?hr ?_; (case hd => rfl); (case hg => rfl); (case hr => first | (go_simp; done) | (go_simp; rfl)); intro gb132 hg w116 hbox hb; have n0_ := Aside0.mk (blk_below (by exact BK121.out) hb); have n1_ := Aside0.mk (blk_below (by exact BK122.out) hb); have n2_ := Aside0.mk (blk_below (by exact BK127.out) hb); have n3_ := Aside0.mk (blk_below (by exact BK128.out) hb); have n4_ := Aside0.mk (below_step (by repeat (first | (with_reducible first | exact HB.out | apply below_alloc | apply pw_below_drewN | apply below_drew1 | refine below_set ?_ GE121.out | refine below_set ?_ GE122.out | refine below_set ?_ GE127.out | refine below_set ?_ GE128.out) | exact HB.out)) hb); have n5_ := Aside0.mk (hbox); have n6_ := Aside0.mk ((by rw [hg]; exact (below_size (by repeat (first | (with_reducible first | exact HB.out | apply below_alloc | apply pw_below_drewN | apply below_drew1 | refine below_set ?_ GE121.out | refine below_set ?_ GE122.out | refine below_set ?_ GE127.out | refine below_set ?_ GE128.out) | exact HB.out))) : w.heap.size ≤ gb132)); have n7_ := Aside0.mk ((by rw [hg]; exact (below_size (by repeat (first | (with_reducible first | exact HB.out | apply below_alloc | apply pw_below_drewN | apply below_drew1 | refine below_set ?_ GE121.out | refine below_set ?_ GE122.out | refine below_set ?_ GE127.out | refine below_set ?_ GE128.out) | exact HB.out))) : w.heap.size ≤ gb132)); have n8_ := Aside0.mk ((by rw [hg]; exact Nat.ne_of_lt (blk_lt (by exact BK121.out)) : gb121 ≠ gb132)); have n9_ := Aside0.mk ((by rw [hg]; exact Nat.ne_of_gt (blk_lt (by exact BK121.out)) : gb132 ≠ gb121)); have n10_ := Aside0.mk ((by rw [hg]; exact Nat.ne_of_lt (blk_lt (by exact BK122.out)) : gb122 ≠ gb132)); have n11_ := Aside0.mk ((by rw [hg]; exact Nat.ne_of_gt (blk_lt (by exact BK122.out)) : gb132 ≠ gb122)); have n12_ := Aside0.mk ((by rw [hg]; exact Nat.ne_of_lt (blk_lt (by exact BK127.out)) : gb127 ≠ gb132)); have n13_ := Aside0.mk ((by rw [hg]; exact Nat.ne_of_gt (blk_lt (by exact BK127.out)) : gb132 ≠ gb127)); have n14_ := Aside0.mk ((by rw [hg]; exact Nat.ne_of_lt (blk_lt (by exact BK128.out)) : gb128 ≠ gb132)); have n15_ := Aside0.mk ((by rw [hg]; exact Nat.ne_of_gt (blk_lt (by exact BK128.out)) : gb132 ≠ gb128)); clear BK121; clear BK122; clear BK127; clear BK128; clear HB; have BK121 := n0_; have BK122 := n1_; have BK127 := n2_; have BK128 := n3_; have HB := n4_; have BK132 := n5_; have GW132 := n6_; have GE132 := n7_; have NB121_132 := n8_; have NB132_121 := n9_; have NB122_132 := n10_; have NB132_122 := n11_; have NB127_132 := n12_; have NB132_127 := n13_; have NB128_132 := n14_; have NB132_128 := n15_; clear n0_ n1_ n2_ n3_ n4_ n5_ n6_ n7_ n8_ n9_ n10_ n11_ n12_ n13_ n14_ n15_; clear hb hbox hg; have hnb117 := NB132_121.out; have hnc117 := NB121_132.out; have hnb118 := NB132_122.out; have hnc118 := NB122_132.out; have hnb119 := NB132_127.out; have hnc119 := NB127_132.out; have hnb120 := NB132_128.out; have hnc120 := NB128_132.out; have hcz121_0 : w116.cell? ⟨gb132, 0, none⟩ = some (.int .u64 0) := (blk_cell BK132.out 0).trans rfl; have hcz121_1 : w116.cell? ⟨gb132, 1, none⟩ = some (.int .u64 0) := (blk_cell BK132.out 1).trans rfl; have hfz121_0 := blk_frozen BK132.out 0; have hfz121_1 := blk_frozen BK132.out 1))
  have n0_ : Aside0 (((w116.setCell ⟨gb132, 0, none⟩ (.int .u64 t129)).setCell ⟨gb132, 1, none⟩ (.int .u64 t130)).heap[gb121]? = some (.cells #[.int .u64 a0_0, .int .u64 a0_1] 25 (0, 0))) := ⟨by refine blk_far ?_ NB121_132.out _; refine blk_far ?_ NB121_132.out _; exact BK121.out⟩
  have n1_ : Aside0 (((w116.setCell ⟨gb132, 0, none⟩ (.int .u64 t129)).setCell ⟨gb132, 1, none⟩ (.int .u64 t130)).heap[gb122]? = some (.cells #[.int .u64 0, .int .u64 0] 25 (0, 0))) := ⟨by refine blk_far ?_ NB122_132.out _; refine blk_far ?_ NB122_132.out _; exact BK122.out⟩
  have n2_ : Aside0 (((w116.setCell ⟨gb132, 0, none⟩ (.int .u64 t129)).setCell ⟨gb132, 1, none⟩ (.int .u64 t130)).heap[gb127]? = some (.cells #[.int .u64 t123, .int .u64 t124] 25 (0, 0))) := ⟨by refine blk_far ?_ NB127_132.out _; refine blk_far ?_ NB127_132.out _; exact BK127.out⟩
  have n3_ : Aside0 (((w116.setCell ⟨gb132, 0, none⟩ (.int .u64 t129)).setCell ⟨gb132, 1, none⟩ (.int .u64 t130)).heap[gb128]? = some (.cells #[.int .u64 t125, .int .u64 t126] 25 (0, 0))) := ⟨by refine blk_far ?_ NB128_132.out _; refine blk_far ?_ NB128_132.out _; exact BK128.out⟩
  have n4_ : Aside0 (((w116.setCell ⟨gb132, 0, none⟩ (.int .u64 t129)).setCell ⟨gb132, 1, none⟩ (.int .u64 t130)).heap[gb132]? = some (.cells #[.int .u64 t129, .int .u64 t130] 25 (0, 0))) := ⟨by refine blk_put (cs := #[.int .u64 t129, .int .u64 0]) ?_ 1 _ rfl; refine blk_put (cs := #[.int .u64 0, .int .u64 0]) ?_ 0 _ rfl; exact BK132.out⟩
  have n5_ : Aside0 (Below w.heap.size w ((w116.setCell ⟨gb132, 0, none⟩ (.int .u64 t129)).setCell ⟨gb132, 1, none⟩ (.int .u64 t130))) := ⟨by repeat (first | (with_reducible first | exact HB.out | apply below_alloc | apply pw_below_drewN | apply below_drew1 | refine below_set ?_ GE121.out | refine below_set ?_ GE122.out | refine below_set ?_ GE127.out | refine below_set ?_ GE128.out | refine below_set ?_ GE132.out) | exact HB.out)⟩
  (try clear BK121)
  (try clear BK122)
  (try clear BK127)
  (try clear BK128)
  (try clear BK132)
  (try clear HB)
  generalize ((w116.setCell ⟨gb132, 0, none⟩ (.int .u64 t129)).setCell ⟨gb132, 1, none⟩ (.int .u64 t130)) = w122 at n0_ n1_ n2_ n3_ n4_ n5_ ⊢
  have BK121 := n0_
  have BK122 := n1_
  have BK127 := n2_
  have BK128 := n3_
  have BK132 := n4_
  have HB := n5_
  clear n0_ n1_ n2_ n3_ n4_ n5_
  have n0_ := Aside0.mk (blk_drew BK121.out)
  have n1_ := Aside0.mk (blk_drew BK122.out)
  have n2_ := Aside0.mk (blk_drew BK127.out)
  have n3_ := Aside0.mk (blk_drew BK128.out)
  have n4_ := Aside0.mk (blk_drew BK132.out)
  have n5_ := Aside0.mk (below_drew1 HB.out)
  clear BK121
  clear BK122
  clear BK127
  clear BK128
  clear BK132
  clear HB
  have BK121 := n0_
  have BK122 := n1_
  have BK127 := n2_
  have BK128 := n3_
  have BK132 := n4_
  have HB := n5_
  clear n0_ n1_ n2_ n3_ n4_ n5_
  refine start_ (n := 11) (S := fun w' => True) (ds := []) #[false, false, false, false, false, false, false, false, false, false, false] (by kernel_rfl) rfl rfl trivial (fun hHeld => ?_); refine with_tabW wide_Num_times.tab3 wide_Num_times.bits3 (fun HT_ HW_ => ?_)
  generalize w122.drew = w123 at BK121 BK122 BK127 BK128 BK132 HB hHeld ⊢
  refine pure_ (i := 1) (N := some 28) (v := ?_) (a' := ?_) #[false, true, false, false, false, false, false, false, false, false, false] rfl rfl (any_of HT_.out (by kernel_rfl)) (fun _ _ _ h => h) (Or.inl ⟨by rfl, ?_⟩) ?_ ?_
  rotate_left
  ·intro w'
   go_simp
   with_reducible rfl
  rotate_left
  ·simp only [Act.put, List.setIfInBounds_toArray, List.set_cons_zero, List.set_cons_succ, i64_w, i32_w]
   rfl
  refine inv_at [0, 2, 3, 4, 5, 6, 7, 8, 9, 10] (fun a0_ b a w' => ∃ (gb138 : Nat) (m8_ : Value), a = putSel a0_ b [(0, 27, .agg #[.int .u64 t129, .int .u64 t130]), (2, 29, .int .u64 (IntKind.u64.wrap (a1))), (3, 30, .agg #[.int .u64 t133, .int .u64 t134]), (4, 31, .tuple #[.agg #[.int .u64 t135, .int .u64 t136], .bool t137]), (5, 26, .tuple #[.agg #[.int .u64 t135, .int .u64 t136], .bool t137]), (6, 32, .agg #[.int .u64 t135, .int .u64 t136]), (7, 33, .bool t137), (8, 10, m8_), (10, 11, .bool t137)] ∧ (w'.heap[gb121]? = some (.cells #[.int .u64 a0_0, .int .u64 a0_1] 25 (0, 0))) ∧ (w'.heap[gb122]? = some (.cells #[.int .u64 0, .int .u64 0] 25 (0, 0))) ∧ (w'.heap[gb127]? = some (.cells #[.int .u64 t123, .int .u64 t124] 25 (0, 0))) ∧ (w'.heap[gb128]? = some (.cells #[.int .u64 t125, .int .u64 t126] 25 (0, 0))) ∧ (w'.heap[gb132]? = some (.cells #[.int .u64 t129, .int .u64 t130] 25 (0, 0))) ∧ (Below w.heap.size w w') ∧ (b 8 = true → b 9 = false → w'.heap[gb138]? = some (.cells #[.int .u64 0, .int .u64 0] 25 (0, 0))) ∧ (b 8 = true → w.heap.size ≤ gb138) ∧ (b 8 = true → w.heap.size ≤ gb138) ∧ (b 8 = true → gb121 ≠ gb138) ∧ (b 8 = true → gb138 ≠ gb121) ∧ (b 8 = true → gb122 ≠ gb138) ∧ (b 8 = true → gb138 ≠ gb122) ∧ (b 8 = true → gb127 ≠ gb138) ∧ (b 8 = true → gb138 ≠ gb127) ∧ (b 8 = true → gb128 ≠ gb138) ∧ (b 8 = true → gb138 ≠ gb128) ∧ (b 8 = true → gb132 ≠ gb138) ∧ (b 8 = true → gb138 ≠ gb132) ∧ (b 9 = true → w'.heap[gb138]? = some (.cells #[.int .u64 t135, .int .u64 t136] 25 (0, 0))) ∧ (b 8 = true → (m8_ : Value) = .pointer (some ⟨gb138, 0, none⟩))) HT_.out HW_.out (by kernel_rfl) (by kernel_rfl) ?_ ?_ ?_
  ·exact ⟨0, .bool false, by simp only [putSel, Bool.false_eq_true, if_false], BK121.out, BK122.out, BK127.out, BK128.out, BK132.out, HB.out, fun h_ => absurd h_ (by decide), fun h_ => absurd h_ (by decide), fun h_ => absurd h_ (by decide), fun h_ => absurd h_ (by decide), fun h_ => absurd h_ (by decide), fun h_ => absurd h_ (by decide), fun h_ => absurd h_ (by decide), fun h_ => absurd h_ (by decide), fun h_ => absurd h_ (by decide), fun h_ => absurd h_ (by decide), fun h_ => absurd h_ (by decide), fun h_ => absurd h_ (by decide), fun h_ => absurd h_ (by decide), fun h_ => absurd h_ (by decide), fun h_ => absurd h_ (by decide)⟩
  ·skip
   clear BK121 BK122 BK127 BK128 BK132 HB
   refine steps_cons ?_ ?_
   ·rintro b a w' ⟨gb138, m8_, ha, Q_BK121, Q_BK122, Q_BK127, Q_BK128, Q_BK132, Q_HB, Q_BK138, Q_GW138, Q_GE138, Q_NB121_138, Q_NB138_121, Q_NB122_138, Q_NB138_122, Q_NB127_138, Q_NB138_127, Q_NB128_138, Q_NB138_128, Q_NB132_138, Q_NB138_132, Q_BK138_e9, Q_X8_⟩ hb_ hon hoff
    refine ⟨_, rfl, fun K hK => ?_⟩
    have e8 : a.tmps[8]? = some (.pointer (some ⟨gb132, 0, none⟩)) := by rw [ha]; exact (putSel_off rfl).trans rfl
    replace ha := Aside0.mk ha
    have BK121 := Aside0.mk Q_BK121
    have BK122 := Aside0.mk Q_BK122
    have BK127 := Aside0.mk Q_BK127
    have BK128 := Aside0.mk Q_BK128
    have BK132 := Aside0.mk Q_BK132
    have HB := Aside0.mk Q_HB
    have hc0_ : w'.cell? ⟨gb132, 0, none⟩ = some (.int .u64 t129) := (blk_cell BK132.out 0).trans rfl
    have hc1_ : w'.cell? ⟨gb132, 1, none⟩ = some (.int .u64 t130) := (blk_cell BK132.out 1).trans rfl
    refine value_ (w1 := w') (v := .agg #[.int .u64 t129, .int .u64 t130]) (by rfl) rfl ?_ ?_
    ·go_simp
     (try simp only [i64_w])
     try rfl
    refine hK.out _ _ ⟨gb138, m8_, (by rw [ha.out]; exact putSel_upk 0 hb_ rfl rfl rfl), Q_BK121, Q_BK122, Q_BK127, Q_BK128, Q_BK132, Q_HB, Q_BK138, Q_GW138, Q_GE138, Q_NB121_138, Q_NB138_121, Q_NB122_138, Q_NB138_122, Q_NB127_138, Q_NB138_127, Q_NB128_138, Q_NB138_128, Q_NB132_138, Q_NB138_132, fun h0_ => absurd ((hoff 9 (by kernel_rfl)).symm.trans h0_) (by decide), Q_X8_⟩
   refine steps_cons ?_ ?_
   ·rintro b a w' ⟨gb138, m8_, ha, Q_BK121, Q_BK122, Q_BK127, Q_BK128, Q_BK132, Q_HB, Q_BK138, Q_GW138, Q_GE138, Q_NB121_138, Q_NB138_121, Q_NB122_138, Q_NB138_122, Q_NB127_138, Q_NB138_127, Q_NB128_138, Q_NB138_128, Q_NB132_138, Q_NB138_132, Q_BK138_e9, Q_X8_⟩ hb_ hon hoff
    refine ⟨_, rfl, fun K hK => ?_⟩
    have e28 : a.tmps[28]? = some (.int .u8 a1) := by rw [ha]; exact (putSel_off rfl).trans rfl
    replace ha := Aside0.mk ha
    have BK121 := Aside0.mk Q_BK121
    have BK122 := Aside0.mk Q_BK122
    have BK127 := Aside0.mk Q_BK127
    have BK128 := Aside0.mk Q_BK128
    have BK132 := Aside0.mk Q_BK132
    have HB := Aside0.mk Q_HB
    refine value_ (w1 := w') (v := .int .u64 (IntKind.u64.wrap (a1))) (by rfl) rfl ?_ ?_
    ·go_simp
     (try simp only [i64_w])
     try rfl
    refine hK.out _ _ ⟨gb138, m8_, (by rw [ha.out]; exact putSel_upk 1 hb_ rfl rfl rfl), Q_BK121, Q_BK122, Q_BK127, Q_BK128, Q_BK132, Q_HB, Q_BK138, Q_GW138, Q_GE138, Q_NB121_138, Q_NB138_121, Q_NB122_138, Q_NB138_122, Q_NB127_138, Q_NB138_127, Q_NB128_138, Q_NB138_128, Q_NB132_138, Q_NB138_132, fun h0_ => absurd ((hoff 9 (by kernel_rfl)).symm.trans h0_) (by decide), Q_X8_⟩
   refine steps_cons ?_ ?_
   ·rintro b a w' ⟨gb138, m8_, ha, Q_BK121, Q_BK122, Q_BK127, Q_BK128, Q_BK132, Q_HB, Q_BK138, Q_GW138, Q_GE138, Q_NB121_138, Q_NB138_121, Q_NB122_138, Q_NB138_122, Q_NB127_138, Q_NB138_127, Q_NB128_138, Q_NB138_128, Q_NB132_138, Q_NB138_132, Q_BK138_e9, Q_X8_⟩ hb_ hon hoff
    refine ⟨_, rfl, fun K hK => ?_⟩
    have e29 : a.tmps[29]? = some (.int .u64 (IntKind.u64.wrap (a1))) := by rw [ha]; exact putSel_on (e := (2, 29, .int .u64 (IntKind.u64.wrap (a1)))) 1 rfl rfl (hon 2 (by kernel_rfl)) rfl
    replace ha := Aside0.mk ha
    have BK121 := Aside0.mk Q_BK121
    have BK122 := Aside0.mk Q_BK122
    have BK127 := Aside0.mk Q_BK127
    have BK128 := Aside0.mk Q_BK128
    have BK132 := Aside0.mk Q_BK132
    have HB := Aside0.mk Q_HB
    refine goes_ Try.func16 (by kernel_rfl) rfl #[.int .u64 (IntKind.u64.wrap (a1))] (by rfl) rfl rfl (by first | (simp only [List.map_toArray, List.map_cons, List.map_nil, Act.eval, Array.getD_eq_getD_getElem?, Option.getD_some, e29]; done) | (simp only [List.map_toArray, List.map_cons, List.map_nil, Act.eval, Array.getD_eq_getD_getElem?, Option.getD_some, e29]; rfl)) ?_
    with_reducible refine (wide_Of.calls (IntKind.u64.wrap (a1)) t133 t134 _ A6.out).mono ?_
    rintro e w124 ⟨rfl, hb⟩
    refine ⟨_, rfl, ?_⟩
    have n0_ := Aside0.mk (blk_below (by exact BK121.out) hb)
    have n1_ := Aside0.mk (blk_below (by exact BK122.out) hb)
    have n2_ := Aside0.mk (blk_below (by exact BK127.out) hb)
    have n3_ := Aside0.mk (blk_below (by exact BK128.out) hb)
    have n4_ := Aside0.mk (blk_below (by exact BK132.out) hb)
    have n5_ := Aside0.mk (below_step (by repeat (first | (with_reducible first | exact HB.out | apply below_alloc | apply pw_below_drewN | apply below_drew1 | refine below_set ?_ GE121.out | refine below_set ?_ GE122.out | refine below_set ?_ GE127.out | refine below_set ?_ GE128.out | refine below_set ?_ GE132.out) | exact HB.out)) hb)
    have z_BK138 := fun (h0_ : b 8 = true) (h1_ : b 9 = false) => (show w124.heap[gb138]? = some (.cells #[.int .u64 0, .int .u64 0] 25 (0, 0)) from by first | exact (blk_below (g := gb138) (o := .cells #[.int .u64 0, .int .u64 0] 25 (0, 0)) (by exact (Q_BK138 h0_ h1_)) hb))
    clear BK121
    clear BK122
    clear BK127
    clear BK128
    clear BK132
    clear HB
    have BK121 := n0_
    have BK122 := n1_
    have BK127 := n2_
    have BK128 := n3_
    have BK132 := n4_
    have HB := n5_
    clear n0_ n1_ n2_ n3_ n4_ n5_
    (try clear hb)
    (try clear hb2)
    (try clear hk)
    (try clear hi)
    refine hK.out _ _ ⟨gb138, m8_, (by rw [ha.out]; exact putSel_upk 2 hb_ rfl rfl rfl), (by exact BK121.out), (by exact BK122.out), (by exact BK127.out), (by exact BK128.out), (by exact BK132.out), (by repeat (first | (with_reducible first | exact HB.out | apply below_alloc | apply pw_below_drewN | apply below_drew1 | refine below_set ?_ GE121.out | refine below_set ?_ GE122.out | refine below_set ?_ GE127.out | refine below_set ?_ GE128.out | refine below_set ?_ GE132.out) | exact HB.out)), z_BK138, Q_GW138, Q_GE138, Q_NB121_138, Q_NB138_121, Q_NB122_138, Q_NB138_122, Q_NB127_138, Q_NB138_127, Q_NB128_138, Q_NB138_128, Q_NB132_138, Q_NB138_132, fun h0_ => absurd ((hoff 9 (by kernel_rfl)).symm.trans h0_) (by decide), Q_X8_⟩
   refine steps_cons ?_ ?_
   ·rintro b a w' ⟨gb138, m8_, ha, Q_BK121, Q_BK122, Q_BK127, Q_BK128, Q_BK132, Q_HB, Q_BK138, Q_GW138, Q_GE138, Q_NB121_138, Q_NB138_121, Q_NB122_138, Q_NB138_122, Q_NB127_138, Q_NB138_127, Q_NB128_138, Q_NB138_128, Q_NB132_138, Q_NB138_132, Q_BK138_e9, Q_X8_⟩ hb_ hon hoff
    refine ⟨_, rfl, fun K hK => ?_⟩
    have e27 : a.tmps[27]? = some (.agg #[.int .u64 t129, .int .u64 t130]) := by rw [ha]; exact putSel_on (e := (0, 27, .agg #[.int .u64 t129, .int .u64 t130])) 0 rfl rfl (hon 0 (by kernel_rfl)) rfl
    have e30 : a.tmps[30]? = some (.agg #[.int .u64 t133, .int .u64 t134]) := by rw [ha]; exact putSel_on (e := (3, 30, .agg #[.int .u64 t133, .int .u64 t134])) 2 rfl rfl (hon 3 (by kernel_rfl)) rfl
    replace ha := Aside0.mk ha
    have BK121 := Aside0.mk Q_BK121
    have BK122 := Aside0.mk Q_BK122
    have BK127 := Aside0.mk Q_BK127
    have BK128 := Aside0.mk Q_BK128
    have BK132 := Aside0.mk Q_BK132
    have HB := Aside0.mk Q_HB
    refine goes_ Try.func18 (by kernel_rfl) rfl #[.agg #[.int .u64 t129, .int .u64 t130], .agg #[.int .u64 t133, .int .u64 t134]] (by rfl) rfl rfl (by first | (simp only [List.map_toArray, List.map_cons, List.map_nil, Act.eval, Array.getD_eq_getD_getElem?, Option.getD_some, e27, e30]; done) | (simp only [List.map_toArray, List.map_cons, List.map_nil, Act.eval, Array.getD_eq_getD_getElem?, Option.getD_some, e27, e30]; rfl)) ?_
    with_reducible refine (wide_Num_Add.calls t129 t130 t133 t134 t135 t136 t137 _ A7.out).mono ?_
    rintro e w126 ⟨rfl, hb⟩
    refine ⟨_, rfl, ?_⟩
    have n0_ := Aside0.mk (blk_below (by exact BK121.out) hb)
    have n1_ := Aside0.mk (blk_below (by exact BK122.out) hb)
    have n2_ := Aside0.mk (blk_below (by exact BK127.out) hb)
    have n3_ := Aside0.mk (blk_below (by exact BK128.out) hb)
    have n4_ := Aside0.mk (blk_below (by exact BK132.out) hb)
    have n5_ := Aside0.mk (below_step (by repeat (first | (with_reducible first | exact HB.out | apply below_alloc | apply pw_below_drewN | apply below_drew1 | refine below_set ?_ GE121.out | refine below_set ?_ GE122.out | refine below_set ?_ GE127.out | refine below_set ?_ GE128.out | refine below_set ?_ GE132.out) | exact HB.out)) hb)
    have z_BK138 := fun (h0_ : b 8 = true) (h1_ : b 9 = false) => (show w126.heap[gb138]? = some (.cells #[.int .u64 0, .int .u64 0] 25 (0, 0)) from by first | exact (blk_below (g := gb138) (o := .cells #[.int .u64 0, .int .u64 0] 25 (0, 0)) (by exact (Q_BK138 h0_ h1_)) hb))
    clear BK121
    clear BK122
    clear BK127
    clear BK128
    clear BK132
    clear HB
    have BK121 := n0_
    have BK122 := n1_
    have BK127 := n2_
    have BK128 := n3_
    have BK132 := n4_
    have HB := n5_
    clear n0_ n1_ n2_ n3_ n4_ n5_
    (try clear hb)
    (try clear hb2)
    (try clear hk)
    (try clear hi)
    refine hK.out _ _ ⟨gb138, m8_, (by rw [ha.out]; exact putSel_upk 3 hb_ rfl rfl rfl), (by exact BK121.out), (by exact BK122.out), (by exact BK127.out), (by exact BK128.out), (by exact BK132.out), (by repeat (first | (with_reducible first | exact HB.out | apply below_alloc | apply pw_below_drewN | apply below_drew1 | refine below_set ?_ GE121.out | refine below_set ?_ GE122.out | refine below_set ?_ GE127.out | refine below_set ?_ GE128.out | refine below_set ?_ GE132.out) | exact HB.out)), z_BK138, Q_GW138, Q_GE138, Q_NB121_138, Q_NB138_121, Q_NB122_138, Q_NB138_122, Q_NB127_138, Q_NB138_127, Q_NB128_138, Q_NB138_128, Q_NB132_138, Q_NB138_132, fun h0_ => absurd ((hoff 9 (by kernel_rfl)).symm.trans h0_) (by decide), Q_X8_⟩
   refine steps_cons ?_ ?_
   ·rintro b a w' ⟨gb138, m8_, ha, Q_BK121, Q_BK122, Q_BK127, Q_BK128, Q_BK132, Q_HB, Q_BK138, Q_GW138, Q_GE138, Q_NB121_138, Q_NB138_121, Q_NB122_138, Q_NB138_122, Q_NB127_138, Q_NB138_127, Q_NB128_138, Q_NB138_128, Q_NB132_138, Q_NB138_132, Q_BK138_e9, Q_X8_⟩ hb_ hon hoff
    refine ⟨_, rfl, fun K hK => ?_⟩
    have e31 : a.tmps[31]? = some (.tuple #[.agg #[.int .u64 t135, .int .u64 t136], .bool t137]) := by rw [ha]; exact putSel_on (e := (4, 31, .tuple #[.agg #[.int .u64 t135, .int .u64 t136], .bool t137])) 3 rfl rfl (hon 4 (by kernel_rfl)) rfl
    replace ha := Aside0.mk ha
    have BK121 := Aside0.mk Q_BK121
    have BK122 := Aside0.mk Q_BK122
    have BK127 := Aside0.mk Q_BK127
    have BK128 := Aside0.mk Q_BK128
    have BK132 := Aside0.mk Q_BK132
    have HB := Aside0.mk Q_HB
    refine value_ (w1 := w') (v := .tuple #[.agg #[.int .u64 t135, .int .u64 t136], .bool t137]) (by rfl) rfl ?_ ?_
    ·go_simp
     (try simp only [i64_w])
     try rfl
    refine hK.out _ _ ⟨gb138, m8_, (by rw [ha.out]; exact putSel_upk 4 hb_ rfl rfl rfl), Q_BK121, Q_BK122, Q_BK127, Q_BK128, Q_BK132, Q_HB, Q_BK138, Q_GW138, Q_GE138, Q_NB121_138, Q_NB138_121, Q_NB122_138, Q_NB138_122, Q_NB127_138, Q_NB138_127, Q_NB128_138, Q_NB138_128, Q_NB132_138, Q_NB138_132, fun h0_ => absurd ((hoff 9 (by kernel_rfl)).symm.trans h0_) (by decide), Q_X8_⟩
   refine steps_cons ?_ ?_
   ·rintro b a w' ⟨gb138, m8_, ha, Q_BK121, Q_BK122, Q_BK127, Q_BK128, Q_BK132, Q_HB, Q_BK138, Q_GW138, Q_GE138, Q_NB121_138, Q_NB138_121, Q_NB122_138, Q_NB138_122, Q_NB127_138, Q_NB138_127, Q_NB128_138, Q_NB138_128, Q_NB132_138, Q_NB138_132, Q_BK138_e9, Q_X8_⟩ hb_ hon hoff
    refine ⟨_, rfl, fun K hK => ?_⟩
    have e26 : a.tmps[26]? = some (.tuple #[.agg #[.int .u64 t135, .int .u64 t136], .bool t137]) := by rw [ha]; exact putSel_on (e := (5, 26, .tuple #[.agg #[.int .u64 t135, .int .u64 t136], .bool t137])) 4 rfl rfl (hon 5 (by kernel_rfl)) rfl
    replace ha := Aside0.mk ha
    have BK121 := Aside0.mk Q_BK121
    have BK122 := Aside0.mk Q_BK122
    have BK127 := Aside0.mk Q_BK127
    have BK128 := Aside0.mk Q_BK128
    have BK132 := Aside0.mk Q_BK132
    have HB := Aside0.mk Q_HB
    refine value_ (w1 := w') (v := .agg #[.int .u64 t135, .int .u64 t136]) (by rfl) rfl ?_ ?_
    ·go_simp
     (try simp only [i64_w])
     try rfl
    refine hK.out _ _ ⟨gb138, m8_, (by rw [ha.out]; exact putSel_upk 5 hb_ rfl rfl rfl), Q_BK121, Q_BK122, Q_BK127, Q_BK128, Q_BK132, Q_HB, Q_BK138, Q_GW138, Q_GE138, Q_NB121_138, Q_NB138_121, Q_NB122_138, Q_NB138_122, Q_NB127_138, Q_NB138_127, Q_NB128_138, Q_NB138_128, Q_NB132_138, Q_NB138_132, fun h0_ => absurd ((hoff 9 (by kernel_rfl)).symm.trans h0_) (by decide), Q_X8_⟩
   refine steps_cons ?_ ?_
   ·rintro b a w' ⟨gb138, m8_, ha, Q_BK121, Q_BK122, Q_BK127, Q_BK128, Q_BK132, Q_HB, Q_BK138, Q_GW138, Q_GE138, Q_NB121_138, Q_NB138_121, Q_NB122_138, Q_NB138_122, Q_NB127_138, Q_NB138_127, Q_NB128_138, Q_NB138_128, Q_NB132_138, Q_NB138_132, Q_BK138_e9, Q_X8_⟩ hb_ hon hoff
    refine ⟨_, rfl, fun K hK => ?_⟩
    have e26 : a.tmps[26]? = some (.tuple #[.agg #[.int .u64 t135, .int .u64 t136], .bool t137]) := by rw [ha]; exact putSel_on (e := (5, 26, .tuple #[.agg #[.int .u64 t135, .int .u64 t136], .bool t137])) 4 rfl rfl (hon 5 (by kernel_rfl)) rfl
    replace ha := Aside0.mk ha
    have BK121 := Aside0.mk Q_BK121
    have BK122 := Aside0.mk Q_BK122
    have BK127 := Aside0.mk Q_BK127
    have BK128 := Aside0.mk Q_BK128
    have BK132 := Aside0.mk Q_BK132
    have HB := Aside0.mk Q_HB
    refine value_ (w1 := w') (v := .bool t137) (by rfl) rfl ?_ ?_
    ·go_simp
     (try simp only [i64_w])
     try rfl
    refine hK.out _ _ ⟨gb138, m8_, (by rw [ha.out]; exact putSel_upk 6 hb_ rfl rfl rfl), Q_BK121, Q_BK122, Q_BK127, Q_BK128, Q_BK132, Q_HB, Q_BK138, Q_GW138, Q_GE138, Q_NB121_138, Q_NB138_121, Q_NB122_138, Q_NB138_122, Q_NB127_138, Q_NB138_127, Q_NB128_138, Q_NB138_128, Q_NB132_138, Q_NB138_132, Q_BK138_e9, Q_X8_⟩
   refine steps_cons ?_ ?_
   ·rintro b a w' ⟨gb138, m8_, ha, Q_BK121, Q_BK122, Q_BK127, Q_BK128, Q_BK132, Q_HB, Q_BK138, Q_GW138, Q_GE138, Q_NB121_138, Q_NB138_121, Q_NB122_138, Q_NB138_122, Q_NB127_138, Q_NB138_127, Q_NB128_138, Q_NB138_128, Q_NB132_138, Q_NB138_132, Q_BK138_e9, Q_X8_⟩ hb_ hon hoff
    refine ⟨_, rfl, fun K hK => ?_⟩
    replace ha := Aside0.mk ha
    have BK121 := Aside0.mk Q_BK121
    have BK122 := Aside0.mk Q_BK122
    have BK127 := Aside0.mk Q_BK127
    have BK128 := Aside0.mk Q_BK128
    have BK132 := Aside0.mk Q_BK132
    have HB := Aside0.mk Q_HB
    refine box_step ?hg (N := 10) ?hd (cs := #[.int .u64 0, .int .u64 0]) (t := 25) ?hr ?_; (case hd => rfl); (case hg => rfl); (case hr => first | (go_simp; done) | (go_simp; rfl))
    intro gb138 hg w124 hbox hb
    have n0_ := Aside0.mk (blk_below (by exact BK121.out) hb)
    have n1_ := Aside0.mk (blk_below (by exact BK122.out) hb)
    have n2_ := Aside0.mk (blk_below (by exact BK127.out) hb)
    have n3_ := Aside0.mk (blk_below (by exact BK128.out) hb)
    have n4_ := Aside0.mk (blk_below (by exact BK132.out) hb)
    have n5_ := Aside0.mk (below_step (by repeat (first | (with_reducible first | exact HB.out | apply below_alloc | apply pw_below_drewN | apply below_drew1 | refine below_set ?_ GE121.out | refine below_set ?_ GE122.out | refine below_set ?_ GE127.out | refine below_set ?_ GE128.out | refine below_set ?_ GE132.out) | exact HB.out)) hb)
    have n6_ := Aside0.mk (hbox)
    have n7_ := Aside0.mk ((by rw [hg]; exact (below_size (by repeat (first | (with_reducible first | exact HB.out | apply below_alloc | apply pw_below_drewN | apply below_drew1 | refine below_set ?_ GE121.out | refine below_set ?_ GE122.out | refine below_set ?_ GE127.out | refine below_set ?_ GE128.out | refine below_set ?_ GE132.out) | exact HB.out))) : w.heap.size ≤ gb138))
    have n8_ := Aside0.mk ((by rw [hg]; exact (below_size (by repeat (first | (with_reducible first | exact HB.out | apply below_alloc | apply pw_below_drewN | apply below_drew1 | refine below_set ?_ GE121.out | refine below_set ?_ GE122.out | refine below_set ?_ GE127.out | refine below_set ?_ GE128.out | refine below_set ?_ GE132.out) | exact HB.out))) : w.heap.size ≤ gb138))
    have n9_ := Aside0.mk ((by rw [hg]; exact Nat.ne_of_lt (blk_lt (by exact BK121.out)) : gb121 ≠ gb138))
    have n10_ := Aside0.mk ((by rw [hg]; exact Nat.ne_of_gt (blk_lt (by exact BK121.out)) : gb138 ≠ gb121))
    have n11_ := Aside0.mk ((by rw [hg]; exact Nat.ne_of_lt (blk_lt (by exact BK122.out)) : gb122 ≠ gb138))
    have n12_ := Aside0.mk ((by rw [hg]; exact Nat.ne_of_gt (blk_lt (by exact BK122.out)) : gb138 ≠ gb122))
    have n13_ := Aside0.mk ((by rw [hg]; exact Nat.ne_of_lt (blk_lt (by exact BK127.out)) : gb127 ≠ gb138))
    have n14_ := Aside0.mk ((by rw [hg]; exact Nat.ne_of_gt (blk_lt (by exact BK127.out)) : gb138 ≠ gb127))
    have n15_ := Aside0.mk ((by rw [hg]; exact Nat.ne_of_lt (blk_lt (by exact BK128.out)) : gb128 ≠ gb138))
    have n16_ := Aside0.mk ((by rw [hg]; exact Nat.ne_of_gt (blk_lt (by exact BK128.out)) : gb138 ≠ gb128))
    have n17_ := Aside0.mk ((by rw [hg]; exact Nat.ne_of_lt (blk_lt (by exact BK132.out)) : gb132 ≠ gb138))
    have n18_ := Aside0.mk ((by rw [hg]; exact Nat.ne_of_gt (blk_lt (by exact BK132.out)) : gb138 ≠ gb132))
    clear BK121
    clear BK122
    clear BK127
    clear BK128
    clear BK132
    clear HB
    have BK121 := n0_
    have BK122 := n1_
    have BK127 := n2_
    have BK128 := n3_
    have BK132 := n4_
    have HB := n5_
    have BK138 := n6_
    have GW138 := n7_
    have GE138 := n8_
    have NB121_138 := n9_
    have NB138_121 := n10_
    have NB122_138 := n11_
    have NB138_122 := n12_
    have NB127_138 := n13_
    have NB138_127 := n14_
    have NB128_138 := n15_
    have NB138_128 := n16_
    have NB132_138 := n17_
    have NB138_132 := n18_
    clear n0_ n1_ n2_ n3_ n4_ n5_ n6_ n7_ n8_ n9_ n10_ n11_ n12_ n13_ n14_ n15_ n16_ n17_ n18_
    clear hb hbox hg
    refine hK.out _ _ ⟨gb138, (.pointer (some ⟨gb138, 0, none⟩)), (by rw [ha.out]; exact putSel_upk 7 hb_ rfl rfl rfl), (by exact BK121.out), (by exact BK122.out), (by exact BK127.out), (by exact BK128.out), (by exact BK132.out), (by repeat (first | (with_reducible first | exact HB.out | apply below_alloc | apply pw_below_drewN | apply below_drew1 | refine below_set ?_ GE121.out | refine below_set ?_ GE122.out | refine below_set ?_ GE127.out | refine below_set ?_ GE128.out | refine below_set ?_ GE132.out | refine below_set ?_ GE138.out) | exact HB.out)), fun _ _ => (by exact BK138.out), fun _ => GW138.out, fun _ => GE138.out, fun _ => NB121_138.out, fun _ => NB138_121.out, fun _ => NB122_138.out, fun _ => NB138_122.out, fun _ => NB127_138.out, fun _ => NB138_127.out, fun _ => NB128_138.out, fun _ => NB138_128.out, fun _ => NB132_138.out, fun _ => NB138_132.out, fun h0_ => absurd ((hoff 9 (by kernel_rfl)).symm.trans h0_) (by decide), fun _ => rfl⟩
   refine steps_cons ?_ ?_
   ·rintro b a w' ⟨gb138, m8_, ha, Q_BK121, Q_BK122, Q_BK127, Q_BK128, Q_BK132, Q_HB, Q_BK138, Q_GW138, Q_GE138, Q_NB121_138, Q_NB138_121, Q_NB122_138, Q_NB138_122, Q_NB127_138, Q_NB138_127, Q_NB128_138, Q_NB138_128, Q_NB132_138, Q_NB138_132, Q_BK138_e9, Q_X8_⟩ hb_ hon hoff
    refine ⟨_, rfl, fun K hK => ?_⟩
    have e10 : a.tmps[10]? = some (m8_) := by rw [ha]; exact putSel_on (e := (8, 10, m8_)) 7 rfl rfl (hon 8 (by kernel_rfl)) rfl
    rw [Q_X8_ (hon 8 (by kernel_rfl))] at e10
    have e32 : a.tmps[32]? = some (.agg #[.int .u64 t135, .int .u64 t136]) := by rw [ha]; exact putSel_on (e := (6, 32, .agg #[.int .u64 t135, .int .u64 t136])) 5 rfl rfl (hon 6 (by kernel_rfl)) rfl
    replace ha := Aside0.mk ha
    have BK121 := Aside0.mk Q_BK121
    have BK122 := Aside0.mk Q_BK122
    have BK127 := Aside0.mk Q_BK127
    have BK128 := Aside0.mk Q_BK128
    have BK132 := Aside0.mk Q_BK132
    have HB := Aside0.mk Q_HB
    have BK138 := Aside0.mk (Q_BK138 (hon 8 (by kernel_rfl)) hb_)
    have GW138 := Aside0.mk (Q_GW138 (hon 8 (by kernel_rfl)))
    have GE138 := Aside0.mk (Q_GE138 (hon 8 (by kernel_rfl)))
    have NB121_138 := Aside0.mk (Q_NB121_138 (hon 8 (by kernel_rfl)))
    have NB138_121 := Aside0.mk (Q_NB138_121 (hon 8 (by kernel_rfl)))
    have NB122_138 := Aside0.mk (Q_NB122_138 (hon 8 (by kernel_rfl)))
    have NB138_122 := Aside0.mk (Q_NB138_122 (hon 8 (by kernel_rfl)))
    have NB127_138 := Aside0.mk (Q_NB127_138 (hon 8 (by kernel_rfl)))
    have NB138_127 := Aside0.mk (Q_NB138_127 (hon 8 (by kernel_rfl)))
    have NB128_138 := Aside0.mk (Q_NB128_138 (hon 8 (by kernel_rfl)))
    have NB138_128 := Aside0.mk (Q_NB138_128 (hon 8 (by kernel_rfl)))
    have NB132_138 := Aside0.mk (Q_NB132_138 (hon 8 (by kernel_rfl)))
    have NB138_132 := Aside0.mk (Q_NB138_132 (hon 8 (by kernel_rfl)))
    have hs128 : w'.cell? ⟨gb138, 0, none⟩ = some (.int .u64 0) := (blk_cell BK138.out 0).trans rfl
    have hfs128 := blk_frozen BK138.out 0
    have hns128_0 := NB121_138.out
    have hns128_1 := NB122_138.out
    have hns128_2 := NB127_138.out
    have hns128_3 := NB128_138.out
    have hns128_4 := NB132_138.out
    have hms128_0 := NB138_121.out
    have hms128_1 := NB138_122.out
    have hms128_2 := NB138_127.out
    have hms128_3 := NB138_128.out
    have hms128_4 := NB138_132.out
    have hs129 : w'.cell? ⟨gb138, 1, none⟩ = some (.int .u64 0) := (blk_cell BK138.out 1).trans rfl
    have hfs129 := blk_frozen BK138.out 1
    have hns129_0 := NB121_138.out
    have hns129_1 := NB122_138.out
    have hns129_2 := NB127_138.out
    have hns129_3 := NB128_138.out
    have hns129_4 := NB132_138.out
    have hms129_0 := NB138_121.out
    have hms129_1 := NB138_122.out
    have hms129_2 := NB138_127.out
    have hms129_3 := NB138_128.out
    have hms129_4 := NB138_132.out
    refine skip_ (w1 := ?_) (by rfl) rfl ?_ ?_
    rotate_left
    ·go_simp
     rfl
    refine hK.out _ _ ⟨gb138, m8_, (by rw [ha.out]; exact putSel_none (v := undef) rfl), (by refine blk_far ?_ NB121_138.out _; refine blk_far ?_ NB121_138.out _; exact BK121.out), (by refine blk_far ?_ NB122_138.out _; refine blk_far ?_ NB122_138.out _; exact BK122.out), (by refine blk_far ?_ NB127_138.out _; refine blk_far ?_ NB127_138.out _; exact BK127.out), (by refine blk_far ?_ NB128_138.out _; refine blk_far ?_ NB128_138.out _; exact BK128.out), (by refine blk_far ?_ NB132_138.out _; refine blk_far ?_ NB132_138.out _; exact BK132.out), (by repeat (first | (with_reducible first | exact HB.out | apply below_alloc | apply pw_below_drewN | apply below_drew1 | refine below_set ?_ GE121.out | refine below_set ?_ GE122.out | refine below_set ?_ GE127.out | refine below_set ?_ GE128.out | refine below_set ?_ GE132.out | refine below_set ?_ GE138.out) | exact HB.out)), fun _ h1_ => absurd ((up_self b 9).symm.trans h1_) (by decide), fun _ => GW138.out, fun _ => GE138.out, fun _ => NB121_138.out, fun _ => NB138_121.out, fun _ => NB122_138.out, fun _ => NB138_122.out, fun _ => NB127_138.out, fun _ => NB138_127.out, fun _ => NB128_138.out, fun _ => NB138_128.out, fun _ => NB132_138.out, fun _ => NB138_132.out, fun _ => (by refine blk_put (cs := #[.int .u64 t135, .int .u64 0]) ?_ 1 _ rfl; refine blk_put (cs := #[.int .u64 0, .int .u64 0]) ?_ 0 _ rfl; exact BK138.out), Q_X8_⟩
   refine steps_cons ?_ ?_
   ·rintro b a w' ⟨gb138, m8_, ha, Q_BK121, Q_BK122, Q_BK127, Q_BK128, Q_BK132, Q_HB, Q_BK138, Q_GW138, Q_GE138, Q_NB121_138, Q_NB138_121, Q_NB122_138, Q_NB138_122, Q_NB127_138, Q_NB138_127, Q_NB128_138, Q_NB138_128, Q_NB132_138, Q_NB138_132, Q_BK138_e9, Q_X8_⟩ hb_ hon hoff
    refine ⟨_, rfl, fun K hK => ?_⟩
    have e33 : a.tmps[33]? = some (.bool t137) := by rw [ha]; exact putSel_on (e := (7, 33, .bool t137)) 6 rfl rfl (hon 7 (by kernel_rfl)) rfl
    replace ha := Aside0.mk ha
    have BK121 := Aside0.mk Q_BK121
    have BK122 := Aside0.mk Q_BK122
    have BK127 := Aside0.mk Q_BK127
    have BK128 := Aside0.mk Q_BK128
    have BK132 := Aside0.mk Q_BK132
    have HB := Aside0.mk Q_HB
    have GW138 := Aside0.mk (Q_GW138 (hon 8 (by kernel_rfl)))
    have GE138 := Aside0.mk (Q_GE138 (hon 8 (by kernel_rfl)))
    have NB121_138 := Aside0.mk (Q_NB121_138 (hon 8 (by kernel_rfl)))
    have NB138_121 := Aside0.mk (Q_NB138_121 (hon 8 (by kernel_rfl)))
    have NB122_138 := Aside0.mk (Q_NB122_138 (hon 8 (by kernel_rfl)))
    have NB138_122 := Aside0.mk (Q_NB138_122 (hon 8 (by kernel_rfl)))
    have NB127_138 := Aside0.mk (Q_NB127_138 (hon 8 (by kernel_rfl)))
    have NB138_127 := Aside0.mk (Q_NB138_127 (hon 8 (by kernel_rfl)))
    have NB128_138 := Aside0.mk (Q_NB128_138 (hon 8 (by kernel_rfl)))
    have NB138_128 := Aside0.mk (Q_NB138_128 (hon 8 (by kernel_rfl)))
    have NB132_138 := Aside0.mk (Q_NB132_138 (hon 8 (by kernel_rfl)))
    have NB138_132 := Aside0.mk (Q_NB138_132 (hon 8 (by kernel_rfl)))
    have BK138 := Aside0.mk (Q_BK138_e9 (hon 9 (by kernel_rfl)))
    refine value_ (w1 := w') (v := .bool t137) (by rfl) rfl ?_ ?_
    ·go_simp
     (try simp only [i64_w])
     try rfl
    refine hK.out _ _ ⟨gb138, m8_, (by rw [ha.out]; exact putSel_upk 8 hb_ rfl rfl rfl), Q_BK121, Q_BK122, Q_BK127, Q_BK128, Q_BK132, Q_HB, fun _ h1_ => absurd ((hon 9 (by kernel_rfl)).symm.trans h1_) (by decide), Q_GW138, Q_GE138, Q_NB121_138, Q_NB138_121, Q_NB122_138, Q_NB138_122, Q_NB127_138, Q_NB138_127, Q_NB128_138, Q_NB138_128, Q_NB132_138, Q_NB138_132, Q_BK138_e9, Q_X8_⟩
   exact steps_nil
  rintro b a w129 hall ⟨gb138, m8_, ha, Q_BK121, Q_BK122, Q_BK127, Q_BK128, Q_BK132, Q_HB, Q_BK138, Q_GW138, Q_GE138, Q_NB121_138, Q_NB138_121, Q_NB122_138, Q_NB138_122, Q_NB127_138, Q_NB138_127, Q_NB128_138, Q_NB138_128, Q_NB132_138, Q_NB138_132, Q_BK138_e9, Q_X8_⟩
  clear BK121 BK122 BK127 BK128 BK132 HB
  have hb0_ := hall 0 (by kernel_rfl)
  have hb2_ := hall 2 (by kernel_rfl)
  have hb3_ := hall 3 (by kernel_rfl)
  have hb4_ := hall 4 (by kernel_rfl)
  have hb5_ := hall 5 (by kernel_rfl)
  have hb6_ := hall 6 (by kernel_rfl)
  have hb7_ := hall 7 (by kernel_rfl)
  have hb8_ := hall 8 (by kernel_rfl)
  have hb9_ := hall 9 (by kernel_rfl)
  have hb10_ := hall 10 (by kernel_rfl)
  subst ha
  obtain rfl := Q_X8_ hb8_
  simp only [putSel, hb0_, hb2_, hb3_, hb4_, hb5_, hb6_, hb7_, hb8_, hb9_, hb10_, if_true, Act.put, List.setIfInBounds_toArray, List.set_cons_zero, List.set_cons_succ]
  have BK121 := Aside0.mk Q_BK121
  clear Q_BK121
  have BK122 := Aside0.mk Q_BK122
  clear Q_BK122
  have BK127 := Aside0.mk Q_BK127
  clear Q_BK127
  have BK128 := Aside0.mk Q_BK128
  clear Q_BK128
  have BK132 := Aside0.mk Q_BK132
  clear Q_BK132
  have HB := Aside0.mk Q_HB
  clear Q_HB
  clear Q_BK138
  have GW138 := Aside0.mk (Q_GW138 hb8_)
  clear Q_GW138
  have GE138 := Aside0.mk (Q_GE138 hb8_)
  clear Q_GE138
  have NB121_138 := Aside0.mk (Q_NB121_138 hb8_)
  clear Q_NB121_138
  have NB138_121 := Aside0.mk (Q_NB138_121 hb8_)
  clear Q_NB138_121
  have NB122_138 := Aside0.mk (Q_NB122_138 hb8_)
  clear Q_NB122_138
  have NB138_122 := Aside0.mk (Q_NB138_122 hb8_)
  clear Q_NB138_122
  have NB127_138 := Aside0.mk (Q_NB127_138 hb8_)
  clear Q_NB127_138
  have NB138_127 := Aside0.mk (Q_NB138_127 hb8_)
  clear Q_NB138_127
  have NB128_138 := Aside0.mk (Q_NB128_138 hb8_)
  clear Q_NB128_138
  have NB138_128 := Aside0.mk (Q_NB138_128 hb8_)
  clear Q_NB138_128
  have NB132_138 := Aside0.mk (Q_NB132_138 hb8_)
  clear Q_NB132_138
  have NB138_132 := Aside0.mk (Q_NB138_132 hb8_)
  clear Q_NB138_132
  have BK138 := Aside0.mk (Q_BK138_e9 hb9_)
  clear Q_BK138_e9
  clear hall hb0_ hb2_ hb3_ hb4_ hb5_ hb6_ hb7_ hb8_ hb9_ hb10_
  have hnb130 := NB138_121.out
  have hnc130 := NB121_138.out
  have hnb131 := NB138_122.out
  have hnc131 := NB122_138.out
  have hnb132 := NB138_127.out
  have hnc132 := NB127_138.out
  have hnb133 := NB138_128.out
  have hnc133 := NB128_138.out
  have hnb134 := NB138_132.out
  have hnc134 := NB132_138.out
  have hcz135_0 : w129.cell? ⟨gb138, 0, none⟩ = some (.int .u64 t135) := (blk_cell BK138.out 0).trans rfl
  have hcz135_1 : w129.cell? ⟨gb138, 1, none⟩ = some (.int .u64 t136) := (blk_cell BK138.out 1).trans rfl
  have hfz135_0 := blk_frozen BK138.out 0
  have hfz135_1 := blk_frozen BK138.out 1
  have hcz136_0 : w129.cell? ⟨gb128, 0, none⟩ = some (.int .u64 t125) := (blk_cell BK128.out 0).trans rfl
  have hcz136_1 : w129.cell? ⟨gb128, 1, none⟩ = some (.int .u64 t126) := (blk_cell BK128.out 1).trans rfl
  have hfz136_0 := blk_frozen BK128.out 0
  have hfz136_1 := blk_frozen BK128.out 1
  have hnb137 := NB122_121.out
  have hnc137 := NB121_122.out
  have hcz138_0 : w129.cell? ⟨gb122, 0, none⟩ = some (.int .u64 0) := (blk_cell BK122.out 0).trans rfl
  have hcz138_1 : w129.cell? ⟨gb122, 1, none⟩ = some (.int .u64 0) := (blk_cell BK122.out 1).trans rfl
  have hfz138_0 := blk_frozen BK122.out 0
  have hfz138_1 := blk_frozen BK122.out 1
  try go_wp2
  refine bodyPost_ret (results_ct rfl _ _ gb122 25 #[.int .u64 t135, .int .u64 t136] (0, 0) _ rfl (by refine blk_put (cs := #[.int .u64 t135, .int .u64 0]) ?_ 1 _ rfl; refine blk_put (cs := #[.int .u64 0, .int .u64 0]) ?_ 0 _ rfl; exact BK122.out) Try.underlying25 rfl (by kernel_rfl)) rfl ?_
  exact ⟨by first | rfl | (simp [errW_none, errW_some] <;> rfl) | (simp [*, errW_none, errW_some] <;> rfl), by repeat (first | (with_reducible first | exact HB.out | apply below_alloc | apply pw_below_drewN | apply below_drew1 | refine below_set ?_ GE121.out | refine below_set ?_ GE122.out | refine below_set ?_ GE127.out | refine below_set ?_ GE128.out | refine below_set ?_ GE132.out | refine below_set ?_ GE138.out) | exact HB.out)⟩

end Go.Proofs.Ytdgbehbiigggmaa.Y

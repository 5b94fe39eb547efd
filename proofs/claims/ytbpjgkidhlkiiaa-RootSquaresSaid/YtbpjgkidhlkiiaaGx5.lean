-- Laid by a program of this claim's session (wip/tools/myprint.py) over the kit's printer.
import Derived.Test.YtbpjgkidhlkiiaaGx0
import Derived.Test.YtbpjgkidhlkiiaaGx4
namespace Go.Proofs.Ytbpjgkidhlkiiaa.G
open Go.RowKit Go.Proofs.YtbpjgkidhlkiiaaW.PrintWords Go.Proofs.YtbpjgkidhlkiiaaW.PrintLast Go.Proofs.YtbpjgkidhlkiiaaW.PrintMore
attribute [local go_sem] max2_int min2_int max_two min_two max_three min_three max_four min_four   -- for this text's walks alone
set_option linter.unusedVariables false
set_option linter.unusedSimpArgs false

/-! ### overfallref03_Fits: function 11 -/
def overfallref03_Fits.f (k : Nat) (a0 : Int) (a1 : Int) (a2_0 : Int) (a2_1 : Int) : Option (Bool) := (overfallref01_Mul.f k a0 a0).bind fun bt184 => (if a1 > 1 then ((overfallref01_Mul.f k bt184.2 a1).bind fun bt187 => ((overfallref01_Mul.f k bt184.1 a1).bind fun bt189 => ((overfallref01_Add.f k bt187.1 bt187.2 bt189.2 0).bind fun bt193 => (if bt189.1 > 0 then (some false) else (if bt193.2.2 = true then (some false) else ((overfallref01_Less.f a2_0 a2_1 bt193.1 bt193.2.1).bind fun t197 => (some (!t197)))))))) else ((overfallref01_Less.f a2_0 a2_1 bt184.1 bt184.2).bind fun t198 => (some (!t198))))
theorem overfallref03_Fits.mono : ∀ a0 a1 a2 a3 k, LeO (overfallref03_Fits.f k a0 a1 a2 a3) (overfallref03_Fits.f (k + 1) a0 a1 a2 a3) := by
 intro a0 a1 a2 a3 k
 unfold overfallref03_Fits.f
 repeat' first
   | (with_reducible exact overfallref01_Add.mono _ _ _ _ _)
   | (with_reducible exact overfallref01_Mul.mono _ _ _)
   | (with_reducible exact LeO.refl _)
   | (with_reducible exact LeO.none _)
   | (with_reducible refine LeO.ite ?_ ?_)
   | (with_reducible refine LeO.bind ?_ (fun _ => ?_))
   | exact overfallref01_Add.mono _ _ _ _ _
   | exact overfallref01_Mul.mono _ _ _
   | exact LeO.none _
   | refine LeO.ite ?_ ?_
   | refine LeO.bind ?_ (fun _ => ?_)
def overfallref03_Fits.T3 : Bool × List (List Nat × List Nat) := (true, [([], []), ([0], [0]), ([], []), ([1, 2], [1, 2]), ([], []), ([4], [4]), ([], []), ([5, 6, 3], [5, 6]), ([], []), ([], []), ([8, 3, 7, 0, 1, 2, 3, 8, 9], [3, 8]), ([9, 7, 10, 0, 1, 2, 3, 4, 5, 6, 7, 8, 9, 10], [7, 9])])
def overfallref03_Fits.B3 : List Nat := [0, 1, 0, 7, 0, 16, 0, 127, 0, 0, 1023, 2047]
theorem overfallref03_Fits.tab3 : rtab .any (opsOf Try.f11 3) = overfallref03_Fits.T3 := by kernel_rfl
theorem overfallref03_Fits.bits3 : waitsOk overfallref03_Fits.T3.2 overfallref03_Fits.B3 = true := by kernel_rfl
set_option maxHeartbeats 8000000 in
set_option maxRecDepth 100000 in
theorem overfallref03_Fits.calls (k : Nat) (a0 : Int) (a1 : Int) (a2_0 : Int) (a2_1 : Int) (r : Bool) (w : World) (h : overfallref03_Fits.f k a0 a1 a2_0 a2_1 = some r) :
  Calls Try.prog 11 #[.int .u64 a0, .int .u64 a1, .agg #[.int .u64 a2_0, .int .u64 a2_1]] w fun e w' => e = .returned (.bool r) ∧ Below w.heap.size w w' := by
 have hu26 := Try.underlying26
 have HB := Aside0.mk (Below.refl w.heap.size w)
 have H : ((overfallref01_Mul.f k a0 a0).bind fun bt184 => (if a1 > 1 then ((overfallref01_Mul.f k bt184.2 a1).bind fun bt187 => ((overfallref01_Mul.f k bt184.1 a1).bind fun bt189 => ((overfallref01_Add.f k bt187.1 bt187.2 bt189.2 0).bind fun bt193 => (if bt189.1 > 0 then (some false) else (if bt193.2.2 = true then (some false) else ((overfallref01_Less.f a2_0 a2_1 bt193.1 bt193.2.1).bind fun t197 => (some (!t197)))))))) else ((overfallref01_Less.f a2_0 a2_1 bt184.1 bt184.2).bind fun t198 => (some (!t198))))) = some r := h
 clear h
 replace H := Option.bind_eq_some_iff.mp H
 obtain ⟨⟨t184, t185⟩, A40, H⟩ := H
 replace H : (if a1 > 1 then ((overfallref01_Mul.f k t185 a1).bind fun bt187 => ((overfallref01_Mul.f k t184 a1).bind fun bt189 => ((overfallref01_Add.f k bt187.1 bt187.2 bt189.2 0).bind fun bt193 => (if bt189.1 > 0 then (some false) else (if bt193.2.2 = true then (some false) else ((overfallref01_Less.f a2_0 a2_1 bt193.1 bt193.2.1).bind fun t197 => (some (!t197)))))))) else ((overfallref01_Less.f a2_0 a2_1 t184 t185).bind fun t198 => (some (!t198)))) = some r := H
 have A4 := Aside0.mk A40
 clear A40
 by_cases c5 : a1 > 1
 ·rw [if_pos c5] at H
  have c5b0 : decide (1 < a1) = true := decide_eq_true c5
  clear c5
  replace H := Option.bind_eq_some_iff.mp H
  obtain ⟨⟨t187, t188⟩, A60, H⟩ := H
  replace H : ((overfallref01_Mul.f k t184 a1).bind fun bt189 => ((overfallref01_Add.f k t187 t188 bt189.2 0).bind fun bt193 => (if bt189.1 > 0 then (some false) else (if bt193.2.2 = true then (some false) else ((overfallref01_Less.f a2_0 a2_1 bt193.1 bt193.2.1).bind fun t197 => (some (!t197))))))) = some r := H
  have A6 := Aside0.mk A60
  clear A60
  replace H := Option.bind_eq_some_iff.mp H
  obtain ⟨⟨t189, t190⟩, A70, H⟩ := H
  replace H : ((overfallref01_Add.f k t187 t188 t190 0).bind fun bt193 => (if t189 > 0 then (some false) else (if bt193.2.2 = true then (some false) else ((overfallref01_Less.f a2_0 a2_1 bt193.1 bt193.2.1).bind fun t197 => (some (!t197)))))) = some r := H
  have A7 := Aside0.mk A70
  clear A70
  replace H := Option.bind_eq_some_iff.mp H
  obtain ⟨⟨t193, t194, t195⟩, A80, H⟩ := H
  replace H : (if t189 > 0 then (some false) else (if t195 = true then (some false) else ((overfallref01_Less.f a2_0 a2_1 t193 t194).bind fun t197 => (some (!t197))))) = some r := H
  have A8 := Aside0.mk A80
  clear A80
  by_cases c9 : t189 > 0
  ·rw [if_pos c9] at H
   have c9b0 : decide (0 < t189) = true := decide_eq_true c9
   clear c9
   obtain rfl := Option.some.inj H
   go_enter Try.func11, Try.ntmps11
   try go_wp2_with (first | ((with_reducible refine gate_dst (N := 5) rfl ?_); refine box_event ?hg (N := 5) ?hd (cs := #[.int .u64 a2_0, .int .u64 a2_1]) (t := 26) ?hr ?_; (case hd => rfl); (case hg => rfl); (case hr => first | (go_simp; done) | (go_simp; rfl)); intro gb183 hg w10 hbox hb; have n0_ := Aside0.mk (below_step (by repeat (first | (with_reducible first | exact HB.out | apply below_alloc | apply pw_below_drewN | apply below_drew1) | exact HB.out)) hb); have n1_ := Aside0.mk (hbox); have n2_ := Aside0.mk ((by rw [hg]; exact (below_size (by repeat (first | (with_reducible first | exact HB.out | apply below_alloc | apply pw_below_drewN | apply below_drew1) | exact HB.out))) : w.heap.size ≤ gb183)); have n3_ := Aside0.mk ((by rw [hg]; exact (below_size (by repeat (first | (with_reducible first | exact HB.out | apply below_alloc | apply pw_below_drewN | apply below_drew1) | exact HB.out))) : w.heap.size ≤ gb183)); clear HB; have HB := n0_; have BK183 := n1_; have GW183 := n2_; have GE183 := n3_; clear n0_ n1_ n2_ n3_; clear hb hbox hg) | ((with_reducible refine gate_callee (f := 14) rfl ?_); refine goesL_ (some 14) rfl rfl Try.func14 (by kernel_rfl) rfl #[.int .u64 a0, .int .u64 a0] rfl (by (try simp only [List.map_toArray, List.map_cons, List.map_nil]); first | done | rfl | (simp only [List.length_drop, List.length_take]; rfl)) ?_; (with_reducible refine (overfallref01_Mul.calls k a0 a0 t184 t185 _ A4.out).mono ?_); rintro e w11 ⟨rfl, hb⟩; refine ⟨_, rfl, ?_⟩; have n0_ := Aside0.mk (blk_below (by exact BK183.out) hb); have n1_ := Aside0.mk (below_step (by repeat (first | (with_reducible first | exact HB.out | apply below_alloc | apply pw_below_drewN | apply below_drew1 | refine below_set ?_ GE183.out) | exact HB.out)) hb); clear BK183; clear HB; have BK183 := n0_; have HB := n1_; clear n0_ n1_; (try clear hb); (try clear hb2); (try clear hk); (try clear hi)) | ((with_reducible refine gate_dst (N := 7) rfl ?_); refine box_event ?hg (N := 7) ?hd (cs := #[.int .u64 0, .int .u64 0]) (t := 26) ?hr ?_; (case hd => rfl); (case hg => rfl); (case hr => first | (go_simp; done) | (go_simp; rfl)); intro gb186 hg w12 hbox hb; have n0_ := Aside0.mk (blk_below (by exact BK183.out) hb); have n1_ := Aside0.mk (below_step (by repeat (first | (with_reducible first | exact HB.out | apply below_alloc | apply pw_below_drewN | apply below_drew1 | refine below_set ?_ GE183.out) | exact HB.out)) hb); have n2_ := Aside0.mk (hbox); have n3_ := Aside0.mk ((by rw [hg]; exact (below_size (by repeat (first | (with_reducible first | exact HB.out | apply below_alloc | apply pw_below_drewN | apply below_drew1 | refine below_set ?_ GE183.out) | exact HB.out))) : w.heap.size ≤ gb186)); have n4_ := Aside0.mk ((by rw [hg]; exact (below_size (by repeat (first | (with_reducible first | exact HB.out | apply below_alloc | apply pw_below_drewN | apply below_drew1 | refine below_set ?_ GE183.out) | exact HB.out))) : w.heap.size ≤ gb186)); have n5_ := Aside0.mk ((by rw [hg]; exact Nat.ne_of_lt (blk_lt (by exact BK183.out)) : gb183 ≠ gb186)); have n6_ := Aside0.mk ((by rw [hg]; exact Nat.ne_of_gt (blk_lt (by exact BK183.out)) : gb186 ≠ gb183)); clear BK183; clear HB; have BK183 := n0_; have HB := n1_; have BK186 := n2_; have GW186 := n3_; have GE186 := n4_; have NB183_186 := n5_; have NB186_183 := n6_; clear n0_ n1_ n2_ n3_ n4_ n5_ n6_; clear hb hbox hg; have hnb13 := NB186_183.out; have hnc13 := NB183_186.out; have hcz14_0 : w12.cell? ⟨gb186, 0, none⟩ = some (.int .u64 0) := (blk_cell BK186.out 0).trans rfl; have hcz14_1 : w12.cell? ⟨gb186, 1, none⟩ = some (.int .u64 0) := (blk_cell BK186.out 1).trans rfl; have hfz14_0 := blk_frozen BK186.out 0; have hfz14_1 := blk_frozen BK186.out 1))
   have n0_ : Aside0 (((w12.setCell ⟨gb186, 0, none⟩ (.int .u64 t184)).setCell ⟨gb186, 1, none⟩ (.int .u64 t185)).heap[gb183]? = some (.cells #[.int .u64 a2_0, .int .u64 a2_1] 26 (0, 0))) := ⟨by refine blk_far ?_ NB183_186.out _; refine blk_far ?_ NB183_186.out _; exact BK183.out⟩
   have n1_ : Aside0 (((w12.setCell ⟨gb186, 0, none⟩ (.int .u64 t184)).setCell ⟨gb186, 1, none⟩ (.int .u64 t185)).heap[gb186]? = some (.cells #[.int .u64 t184, .int .u64 t185] 26 (0, 0))) := ⟨by refine blk_put (cs := #[.int .u64 t184, .int .u64 0]) ?_ 1 _ rfl; refine blk_put (cs := #[.int .u64 0, .int .u64 0]) ?_ 0 _ rfl; exact BK186.out⟩
   have n2_ : Aside0 (Below w.heap.size w ((w12.setCell ⟨gb186, 0, none⟩ (.int .u64 t184)).setCell ⟨gb186, 1, none⟩ (.int .u64 t185))) := ⟨by repeat (first | (with_reducible first | exact HB.out | apply below_alloc | apply pw_below_drewN | apply below_drew1 | refine below_set ?_ GE183.out | refine below_set ?_ GE186.out) | exact HB.out)⟩
   (try clear BK183)
   (try clear BK186)
   (try clear HB)
   generalize ((w12.setCell ⟨gb186, 0, none⟩ (.int .u64 t184)).setCell ⟨gb186, 1, none⟩ (.int .u64 t185)) = w15 at n0_ n1_ n2_ ⊢
   have BK183 := n0_
   have BK186 := n1_
   have HB := n2_
   clear n0_ n1_ n2_
   have n0_ := Aside0.mk (blk_drew BK183.out)
   have n1_ := Aside0.mk (blk_drew BK186.out)
   have n2_ := Aside0.mk (below_drew1 HB.out)
   clear BK183
   clear BK186
   clear HB
   have BK183 := n0_
   have BK186 := n1_
   have HB := n2_
   clear n0_ n1_ n2_
   refine start_ (n := 12) (S := fun w' => True) (ds := []) #[false, false, false, false, false, false, false, false, false, false, false, false] (by kernel_rfl) rfl rfl trivial (fun hHeld => ?_); refine with_tabW overfallref03_Fits.tab3 overfallref03_Fits.bits3 (fun HT_ HW_ => ?_)
   generalize w15.drew = w16 at BK183 BK186 HB hHeld ⊢
   refine pure_ (i := 0) (N := some 17) (v := ?_) (a' := ?_) #[true, false, false, false, false, false, false, false, false, false, false, false] rfl rfl (any_of HT_.out (by kernel_rfl)) (fun _ _ _ h => h) (Or.inl ⟨by rfl, ?_⟩) ?_ ?_
   rotate_left
   ·intro w'
    go_simp
    with_reducible rfl
   rotate_left
   ·simp only [Act.put, List.setIfInBounds_toArray, List.set_cons_zero, List.set_cons_succ, i64_w, i32_w]
    rfl
   refine pure_ (i := 2) (N := some 19) (v := ?_) (a' := ?_) #[true, false, true, false, false, false, false, false, false, false, false, false] rfl rfl (any_of HT_.out (by kernel_rfl)) (fun _ _ _ h => h) (Or.inl ⟨by rfl, ?_⟩) ?_ ?_
   rotate_left
   ·intro w'
    go_simp
    with_reducible rfl
   rotate_left
   ·simp only [Act.put, List.setIfInBounds_toArray, List.set_cons_zero, List.set_cons_succ, i64_w, i32_w]
    rfl
   refine pure_ (i := 4) (N := some 21) (v := ?_) (a' := ?_) #[true, false, true, false, true, false, false, false, false, false, false, false] rfl rfl (any_of HT_.out (by kernel_rfl)) (fun _ _ _ h => h) (Or.inl ⟨by rfl, ?_⟩) ?_ ?_
   rotate_left
   ·intro w'
    go_simp
    with_reducible rfl
   rotate_left
   ·simp only [Act.put, List.setIfInBounds_toArray, List.set_cons_zero, List.set_cons_succ, i64_w, i32_w]
    rfl
   refine pure_ (i := 6) (N := some 23) (v := ?_) (a' := ?_) #[true, false, true, false, true, false, true, false, false, false, false, false] rfl rfl (any_of HT_.out (by kernel_rfl)) (fun _ _ _ h => h) (Or.inl ⟨by rfl, ?_⟩) ?_ ?_
   rotate_left
   ·intro w'
    go_simp
    with_reducible rfl
   rotate_left
   ·simp only [Act.put, List.setIfInBounds_toArray, List.set_cons_zero, List.set_cons_succ, i64_w, i32_w]
    rfl
   refine inv_at [1, 3, 5, 7, 8, 9, 10, 11] (fun a0_ b a w' => ∃ (gb191 : Nat) (gb192 : Nat) (m8_ : Value) (m9_ : Value), a = putSel a0_ b [(1, 18, .int .u64 t185), (3, 20, .agg #[.int .u64 t187, .int .u64 t188]), (5, 22, .int .u64 t184), (7, 24, .agg #[.int .u64 t189, .int .u64 t190]), (8, 8, m8_), (9, 9, m9_)] ∧ (w'.heap[gb183]? = some (.cells #[.int .u64 a2_0, .int .u64 a2_1] 26 (0, 0))) ∧ (w'.heap[gb186]? = some (.cells #[.int .u64 t184, .int .u64 t185] 26 (0, 0))) ∧ (Below w.heap.size w w') ∧ (b 8 = true → b 9 = true → gb192 ≠ gb191) ∧ (b 8 = true → b 9 = true → gb191 ≠ gb192) ∧ (b 8 = true → b 10 = false → w'.heap[gb191]? = some (.cells #[.int .u64 0, .int .u64 0] 26 (0, 0))) ∧ (b 8 = true → w.heap.size ≤ gb191) ∧ (b 8 = true → w.heap.size ≤ gb191) ∧ (b 8 = true → gb183 ≠ gb191) ∧ (b 8 = true → gb191 ≠ gb183) ∧ (b 8 = true → gb186 ≠ gb191) ∧ (b 8 = true → gb191 ≠ gb186) ∧ (b 9 = true → b 11 = false → w'.heap[gb192]? = some (.cells #[.int .u64 0, .int .u64 0] 26 (0, 0))) ∧ (b 9 = true → w.heap.size ≤ gb192) ∧ (b 9 = true → w.heap.size ≤ gb192) ∧ (b 9 = true → gb183 ≠ gb192) ∧ (b 9 = true → gb192 ≠ gb183) ∧ (b 9 = true → gb186 ≠ gb192) ∧ (b 9 = true → gb192 ≠ gb186) ∧ (b 10 = true → w'.heap[gb191]? = some (.cells #[.int .u64 t187, .int .u64 t188] 26 (0, 0))) ∧ (b 11 = true → w'.heap[gb192]? = some (.cells #[.int .u64 t189, .int .u64 t190] 26 (0, 0))) ∧ (b 8 = true → (m8_ : Value) = .pointer (some ⟨gb191, 0, none⟩)) ∧ (b 9 = true → (m9_ : Value) = .pointer (some ⟨gb192, 0, none⟩))) HT_.out HW_.out (by kernel_rfl) (by kernel_rfl) ?_ ?_ ?_
   ·exact ⟨0, 0, .bool false, .bool false, by simp only [putSel, Bool.false_eq_true, if_false], BK183.out, BK186.out, HB.out, fun h_ => absurd h_ (by decide), fun h_ => absurd h_ (by decide), fun h_ => absurd h_ (by decide), fun h_ => absurd h_ (by decide), fun h_ => absurd h_ (by decide), fun h_ => absurd h_ (by decide), fun h_ => absurd h_ (by decide), fun h_ => absurd h_ (by decide), fun h_ => absurd h_ (by decide), fun h_ => absurd h_ (by decide), fun h_ => absurd h_ (by decide), fun h_ => absurd h_ (by decide), fun h_ => absurd h_ (by decide), fun h_ => absurd h_ (by decide), fun h_ => absurd h_ (by decide), fun h_ => absurd h_ (by decide), fun h_ => absurd h_ (by decide), fun h_ => absurd h_ (by decide), fun h_ => absurd h_ (by decide), fun h_ => absurd h_ (by decide)⟩
   ·skip
    clear BK183 BK186 HB
    refine steps_cons ?_ ?_
    ·rintro b a w' ⟨gb191, gb192, m8_, m9_, ha, Q_BK183, Q_BK186, Q_HB, Q_NB192_191, Q_NB191_192, Q_BK191, Q_GW191, Q_GE191, Q_NB183_191, Q_NB191_183, Q_NB186_191, Q_NB191_186, Q_BK192, Q_GW192, Q_GE192, Q_NB183_192, Q_NB192_183, Q_NB186_192, Q_NB192_186, Q_BK191_e10, Q_BK192_e11, Q_X8_, Q_X9_⟩ hb_ hon hoff
     refine ⟨_, rfl, fun K hK => ?_⟩
     have e17 : a.tmps[17]? = some (.pointer (some ⟨gb186, 1, none⟩)) := by rw [ha]; exact (putSel_off rfl).trans rfl
     replace ha := Aside0.mk ha
     have BK183 := Aside0.mk Q_BK183
     have BK186 := Aside0.mk Q_BK186
     have HB := Aside0.mk Q_HB
     have hc0_ : w'.cell? ⟨gb186, 0, none⟩ = some (.int .u64 t184) := (blk_cell BK186.out 0).trans rfl
     have hc1_ : w'.cell? ⟨gb186, 1, none⟩ = some (.int .u64 t185) := (blk_cell BK186.out 1).trans rfl
     refine value_ (w1 := w') (v := .int .u64 t185) (by rfl) rfl ?_ ?_
     ·go_simp
      (try simp only [i64_w])
      try rfl
     refine hK.out _ _ ⟨gb191, gb192, m8_, m9_, (by rw [ha.out]; exact putSel_upk 0 hb_ rfl rfl rfl), Q_BK183, Q_BK186, Q_HB, Q_NB192_191, Q_NB191_192, Q_BK191, Q_GW191, Q_GE191, Q_NB183_191, Q_NB191_183, Q_NB186_191, Q_NB191_186, Q_BK192, Q_GW192, Q_GE192, Q_NB183_192, Q_NB192_183, Q_NB186_192, Q_NB192_186, fun h0_ => absurd ((hoff 10 (by kernel_rfl)).symm.trans h0_) (by decide), fun h0_ => absurd ((hoff 11 (by kernel_rfl)).symm.trans h0_) (by decide), Q_X8_, Q_X9_⟩
    refine steps_cons ?_ ?_
    ·rintro b a w' ⟨gb191, gb192, m8_, m9_, ha, Q_BK183, Q_BK186, Q_HB, Q_NB192_191, Q_NB191_192, Q_BK191, Q_GW191, Q_GE191, Q_NB183_191, Q_NB191_183, Q_NB186_191, Q_NB191_186, Q_BK192, Q_GW192, Q_GE192, Q_NB183_192, Q_NB192_183, Q_NB186_192, Q_NB192_186, Q_BK191_e10, Q_BK192_e11, Q_X8_, Q_X9_⟩ hb_ hon hoff
     refine ⟨_, rfl, fun K hK => ?_⟩
     have e18 : a.tmps[18]? = some (.int .u64 t185) := by rw [ha]; exact putSel_on (e := (1, 18, .int .u64 t185)) 0 rfl rfl (hon 1 (by kernel_rfl)) rfl
     have e19 : a.tmps[19]? = some (.int .u64 a1) := by rw [ha]; exact (putSel_off rfl).trans rfl
     replace ha := Aside0.mk ha
     have BK183 := Aside0.mk Q_BK183
     have BK186 := Aside0.mk Q_BK186
     have HB := Aside0.mk Q_HB
     refine goes_ Try.func14 (by kernel_rfl) rfl #[.int .u64 t185, .int .u64 a1] (by rfl) rfl rfl (by first | (simp only [List.map_toArray, List.map_cons, List.map_nil, Act.eval, Array.getD_eq_getD_getElem?, Option.getD_some, e18, e19]; done) | (simp only [List.map_toArray, List.map_cons, List.map_nil, Act.eval, Array.getD_eq_getD_getElem?, Option.getD_some, e18, e19]; rfl)) ?_
     with_reducible refine (overfallref01_Mul.calls k t185 a1 t187 t188 _ A6.out).mono ?_
     rintro e w17 ⟨rfl, hb⟩
     refine ⟨_, rfl, ?_⟩
     have n0_ := Aside0.mk (blk_below (by exact BK183.out) hb)
     have n1_ := Aside0.mk (blk_below (by exact BK186.out) hb)
     have n2_ := Aside0.mk (below_step (by repeat (first | (with_reducible first | exact HB.out | apply below_alloc | apply pw_below_drewN | apply below_drew1 | refine below_set ?_ GE183.out | refine below_set ?_ GE186.out) | exact HB.out)) hb)
     have z_BK191 := fun (h0_ : b 8 = true) (h1_ : b 10 = false) => (show w17.heap[gb191]? = some (.cells #[.int .u64 0, .int .u64 0] 26 (0, 0)) from by first | exact (blk_below (g := gb191) (o := .cells #[.int .u64 0, .int .u64 0] 26 (0, 0)) (by exact (Q_BK191 h0_ h1_)) hb))
     have z_BK192 := fun (h0_ : b 9 = true) (h1_ : b 11 = false) => (show w17.heap[gb192]? = some (.cells #[.int .u64 0, .int .u64 0] 26 (0, 0)) from by first | exact (blk_below (g := gb192) (o := .cells #[.int .u64 0, .int .u64 0] 26 (0, 0)) (by exact (Q_BK192 h0_ h1_)) hb))
     clear BK183
     clear BK186
     clear HB
     have BK183 := n0_
     have BK186 := n1_
     have HB := n2_
     clear n0_ n1_ n2_
     (try clear hb)
     (try clear hb2)
     (try clear hk)
     (try clear hi)
     refine hK.out _ _ ⟨gb191, gb192, m8_, m9_, (by rw [ha.out]; exact putSel_upk 1 hb_ rfl rfl rfl), (by exact BK183.out), (by exact BK186.out), (by repeat (first | (with_reducible first | exact HB.out | apply below_alloc | apply pw_below_drewN | apply below_drew1 | refine below_set ?_ GE183.out | refine below_set ?_ GE186.out) | exact HB.out)), Q_NB192_191, Q_NB191_192, z_BK191, Q_GW191, Q_GE191, Q_NB183_191, Q_NB191_183, Q_NB186_191, Q_NB191_186, z_BK192, Q_GW192, Q_GE192, Q_NB183_192, Q_NB192_183, Q_NB186_192, Q_NB192_186, fun h0_ => absurd ((hoff 10 (by kernel_rfl)).symm.trans h0_) (by decide), fun h0_ => absurd ((hoff 11 (by kernel_rfl)).symm.trans h0_) (by decide), Q_X8_, Q_X9_⟩
    refine steps_cons ?_ ?_
    ·rintro b a w' ⟨gb191, gb192, m8_, m9_, ha, Q_BK183, Q_BK186, Q_HB, Q_NB192_191, Q_NB191_192, Q_BK191, Q_GW191, Q_GE191, Q_NB183_191, Q_NB191_183, Q_NB186_191, Q_NB191_186, Q_BK192, Q_GW192, Q_GE192, Q_NB183_192, Q_NB192_183, Q_NB186_192, Q_NB192_186, Q_BK191_e10, Q_BK192_e11, Q_X8_, Q_X9_⟩ hb_ hon hoff
     refine ⟨_, rfl, fun K hK => ?_⟩
     have e21 : a.tmps[21]? = some (.pointer (some ⟨gb186, 0, none⟩)) := by rw [ha]; exact (putSel_off rfl).trans rfl
     replace ha := Aside0.mk ha
     have BK183 := Aside0.mk Q_BK183
     have BK186 := Aside0.mk Q_BK186
     have HB := Aside0.mk Q_HB
     have hc0_ : w'.cell? ⟨gb186, 0, none⟩ = some (.int .u64 t184) := (blk_cell BK186.out 0).trans rfl
     have hc1_ : w'.cell? ⟨gb186, 1, none⟩ = some (.int .u64 t185) := (blk_cell BK186.out 1).trans rfl
     refine value_ (w1 := w') (v := .int .u64 t184) (by rfl) rfl ?_ ?_
     ·go_simp
      (try simp only [i64_w])
      try rfl
     refine hK.out _ _ ⟨gb191, gb192, m8_, m9_, (by rw [ha.out]; exact putSel_upk 2 hb_ rfl rfl rfl), Q_BK183, Q_BK186, Q_HB, Q_NB192_191, Q_NB191_192, Q_BK191, Q_GW191, Q_GE191, Q_NB183_191, Q_NB191_183, Q_NB186_191, Q_NB191_186, Q_BK192, Q_GW192, Q_GE192, Q_NB183_192, Q_NB192_183, Q_NB186_192, Q_NB192_186, fun h0_ => absurd ((hoff 10 (by kernel_rfl)).symm.trans h0_) (by decide), fun h0_ => absurd ((hoff 11 (by kernel_rfl)).symm.trans h0_) (by decide), Q_X8_, Q_X9_⟩
    refine steps_cons ?_ ?_
    ·rintro b a w' ⟨gb191, gb192, m8_, m9_, ha, Q_BK183, Q_BK186, Q_HB, Q_NB192_191, Q_NB191_192, Q_BK191, Q_GW191, Q_GE191, Q_NB183_191, Q_NB191_183, Q_NB186_191, Q_NB191_186, Q_BK192, Q_GW192, Q_GE192, Q_NB183_192, Q_NB192_183, Q_NB186_192, Q_NB192_186, Q_BK191_e10, Q_BK192_e11, Q_X8_, Q_X9_⟩ hb_ hon hoff
     refine ⟨_, rfl, fun K hK => ?_⟩
     have e22 : a.tmps[22]? = some (.int .u64 t184) := by rw [ha]; exact putSel_on (e := (5, 22, .int .u64 t184)) 2 rfl rfl (hon 5 (by kernel_rfl)) rfl
     have e23 : a.tmps[23]? = some (.int .u64 a1) := by rw [ha]; exact (putSel_off rfl).trans rfl
     replace ha := Aside0.mk ha
     have BK183 := Aside0.mk Q_BK183
     have BK186 := Aside0.mk Q_BK186
     have HB := Aside0.mk Q_HB
     refine goes_ Try.func14 (by kernel_rfl) rfl #[.int .u64 t184, .int .u64 a1] (by rfl) rfl rfl (by first | (simp only [List.map_toArray, List.map_cons, List.map_nil, Act.eval, Array.getD_eq_getD_getElem?, Option.getD_some, e22, e23]; done) | (simp only [List.map_toArray, List.map_cons, List.map_nil, Act.eval, Array.getD_eq_getD_getElem?, Option.getD_some, e22, e23]; rfl)) ?_
     with_reducible refine (overfallref01_Mul.calls k t184 a1 t189 t190 _ A7.out).mono ?_
     rintro e w19 ⟨rfl, hb⟩
     refine ⟨_, rfl, ?_⟩
     have n0_ := Aside0.mk (blk_below (by exact BK183.out) hb)
     have n1_ := Aside0.mk (blk_below (by exact BK186.out) hb)
     have n2_ := Aside0.mk (below_step (by repeat (first | (with_reducible first | exact HB.out | apply below_alloc | apply pw_below_drewN | apply below_drew1 | refine below_set ?_ GE183.out | refine below_set ?_ GE186.out) | exact HB.out)) hb)
     have z_BK191 := fun (h0_ : b 8 = true) (h1_ : b 10 = false) => (show w19.heap[gb191]? = some (.cells #[.int .u64 0, .int .u64 0] 26 (0, 0)) from by first | exact (blk_below (g := gb191) (o := .cells #[.int .u64 0, .int .u64 0] 26 (0, 0)) (by exact (Q_BK191 h0_ h1_)) hb))
     have z_BK192 := fun (h0_ : b 9 = true) (h1_ : b 11 = false) => (show w19.heap[gb192]? = some (.cells #[.int .u64 0, .int .u64 0] 26 (0, 0)) from by first | exact (blk_below (g := gb192) (o := .cells #[.int .u64 0, .int .u64 0] 26 (0, 0)) (by exact (Q_BK192 h0_ h1_)) hb))
     clear BK183
     clear BK186
     clear HB
     have BK183 := n0_
     have BK186 := n1_
     have HB := n2_
     clear n0_ n1_ n2_
     (try clear hb)
     (try clear hb2)
     (try clear hk)
     (try clear hi)
     refine hK.out _ _ ⟨gb191, gb192, m8_, m9_, (by rw [ha.out]; exact putSel_upk 3 hb_ rfl rfl rfl), (by exact BK183.out), (by exact BK186.out), (by repeat (first | (with_reducible first | exact HB.out | apply below_alloc | apply pw_below_drewN | apply below_drew1 | refine below_set ?_ GE183.out | refine below_set ?_ GE186.out) | exact HB.out)), Q_NB192_191, Q_NB191_192, z_BK191, Q_GW191, Q_GE191, Q_NB183_191, Q_NB191_183, Q_NB186_191, Q_NB191_186, z_BK192, Q_GW192, Q_GE192, Q_NB183_192, Q_NB192_183, Q_NB186_192, Q_NB192_186, fun h0_ => absurd ((hoff 10 (by kernel_rfl)).symm.trans h0_) (by decide), fun h0_ => absurd ((hoff 11 (by kernel_rfl)).symm.trans h0_) (by decide), Q_X8_, Q_X9_⟩
    refine steps_cons ?_ ?_
    ·rintro b a w' ⟨gb191, gb192, m8_, m9_, ha, Q_BK183, Q_BK186, Q_HB, Q_NB192_191, Q_NB191_192, Q_BK191, Q_GW191, Q_GE191, Q_NB183_191, Q_NB191_183, Q_NB186_191, Q_NB191_186, Q_BK192, Q_GW192, Q_GE192, Q_NB183_192, Q_NB192_183, Q_NB186_192, Q_NB192_186, Q_BK191_e10, Q_BK192_e11, Q_X8_, Q_X9_⟩ hb_ hon hoff
     refine ⟨_, rfl, fun K hK => ?_⟩
     replace ha := Aside0.mk ha
     have BK183 := Aside0.mk Q_BK183
     have BK186 := Aside0.mk Q_BK186
     have HB := Aside0.mk Q_HB
     refine box_step ?hg (N := 8) ?hd (cs := #[.int .u64 0, .int .u64 0]) (t := 26) ?hr ?_; (case hd => rfl); (case hg => rfl); (case hr => first | (go_simp; done) | (go_simp; rfl))
     intro gb191 hg w17 hbox hb
     have n0_ := Aside0.mk (blk_below (by exact BK183.out) hb)
     have n1_ := Aside0.mk (blk_below (by exact BK186.out) hb)
     have n2_ := Aside0.mk (below_step (by repeat (first | (with_reducible first | exact HB.out | apply below_alloc | apply pw_below_drewN | apply below_drew1 | refine below_set ?_ GE183.out | refine below_set ?_ GE186.out) | exact HB.out)) hb)
     have n3_ := Aside0.mk (hbox)
     have n4_ := Aside0.mk ((by rw [hg]; exact (below_size (by repeat (first | (with_reducible first | exact HB.out | apply below_alloc | apply pw_below_drewN | apply below_drew1 | refine below_set ?_ GE183.out | refine below_set ?_ GE186.out) | exact HB.out))) : w.heap.size ≤ gb191))
     have n5_ := Aside0.mk ((by rw [hg]; exact (below_size (by repeat (first | (with_reducible first | exact HB.out | apply below_alloc | apply pw_below_drewN | apply below_drew1 | refine below_set ?_ GE183.out | refine below_set ?_ GE186.out) | exact HB.out))) : w.heap.size ≤ gb191))
     have n6_ := Aside0.mk ((by rw [hg]; exact Nat.ne_of_lt (blk_lt (by exact BK183.out)) : gb183 ≠ gb191))
     have n7_ := Aside0.mk ((by rw [hg]; exact Nat.ne_of_gt (blk_lt (by exact BK183.out)) : gb191 ≠ gb183))
     have n8_ := Aside0.mk ((by rw [hg]; exact Nat.ne_of_lt (blk_lt (by exact BK186.out)) : gb186 ≠ gb191))
     have n9_ := Aside0.mk ((by rw [hg]; exact Nat.ne_of_gt (blk_lt (by exact BK186.out)) : gb191 ≠ gb186))
     have z_NB192_191 := fun (h0_ : up b 8 8 = true) (h1_ : up b 8 9 = true) => (show gb192 ≠ gb191 from ((by rw [hg]; exact Nat.ne_of_lt (blk_lt (by exact (Q_BK192 h1_ (hoff 11 (by kernel_rfl))))) : gb192 ≠ gb191)))
     have z_NB191_192 := fun (h0_ : up b 8 8 = true) (h1_ : up b 8 9 = true) => (show gb191 ≠ gb192 from ((by rw [hg]; exact Nat.ne_of_gt (blk_lt (by exact (Q_BK192 h1_ (hoff 11 (by kernel_rfl))))) : gb191 ≠ gb192)))
     have z_BK192 := fun (h0_ : b 9 = true) (h1_ : b 11 = false) => (show w17.heap[gb192]? = some (.cells #[.int .u64 0, .int .u64 0] 26 (0, 0)) from by first | exact (blk_below (g := gb192) (o := .cells #[.int .u64 0, .int .u64 0] 26 (0, 0)) (by exact (Q_BK192 h0_ h1_)) hb))
     clear BK183
     clear BK186
     clear HB
     have BK183 := n0_
     have BK186 := n1_
     have HB := n2_
     have BK191 := n3_
     have GW191 := n4_
     have GE191 := n5_
     have NB183_191 := n6_
     have NB191_183 := n7_
     have NB186_191 := n8_
     have NB191_186 := n9_
     clear n0_ n1_ n2_ n3_ n4_ n5_ n6_ n7_ n8_ n9_
     clear hb hbox hg
     refine hK.out _ _ ⟨gb191, gb192, (.pointer (some ⟨gb191, 0, none⟩)), m9_, (by rw [ha.out]; exact putSel_upk 4 hb_ rfl rfl rfl), (by exact BK183.out), (by exact BK186.out), (by repeat (first | (with_reducible first | exact HB.out | apply below_alloc | apply pw_below_drewN | apply below_drew1 | refine below_set ?_ GE183.out | refine below_set ?_ GE186.out | refine below_set ?_ GE191.out) | exact HB.out)), @z_NB192_191, @z_NB191_192, fun _ _ => (by exact BK191.out), fun _ => GW191.out, fun _ => GE191.out, fun _ => NB183_191.out, fun _ => NB191_183.out, fun _ => NB186_191.out, fun _ => NB191_186.out, z_BK192, Q_GW192, Q_GE192, Q_NB183_192, Q_NB192_183, Q_NB186_192, Q_NB192_186, fun h0_ => absurd ((hoff 10 (by kernel_rfl)).symm.trans h0_) (by decide), fun h0_ => absurd ((hoff 11 (by kernel_rfl)).symm.trans h0_) (by decide), fun _ => rfl, Q_X9_⟩
    refine steps_cons ?_ ?_
    ·rintro b a w' ⟨gb191, gb192, m8_, m9_, ha, Q_BK183, Q_BK186, Q_HB, Q_NB192_191, Q_NB191_192, Q_BK191, Q_GW191, Q_GE191, Q_NB183_191, Q_NB191_183, Q_NB186_191, Q_NB191_186, Q_BK192, Q_GW192, Q_GE192, Q_NB183_192, Q_NB192_183, Q_NB186_192, Q_NB192_186, Q_BK191_e10, Q_BK192_e11, Q_X8_, Q_X9_⟩ hb_ hon hoff
     refine ⟨_, rfl, fun K hK => ?_⟩
     replace ha := Aside0.mk ha
     have BK183 := Aside0.mk Q_BK183
     have BK186 := Aside0.mk Q_BK186
     have HB := Aside0.mk Q_HB
     refine box_step ?hg (N := 9) ?hd (cs := #[.int .u64 0, .int .u64 0]) (t := 26) ?hr ?_; (case hd => rfl); (case hg => rfl); (case hr => first | (go_simp; done) | (go_simp; rfl))
     intro gb192 hg w17 hbox hb
     have n0_ := Aside0.mk (blk_below (by exact BK183.out) hb)
     have n1_ := Aside0.mk (blk_below (by exact BK186.out) hb)
     have n2_ := Aside0.mk (below_step (by repeat (first | (with_reducible first | exact HB.out | apply below_alloc | apply pw_below_drewN | apply below_drew1 | refine below_set ?_ GE183.out | refine below_set ?_ GE186.out) | exact HB.out)) hb)
     have n3_ := Aside0.mk (hbox)
     have n4_ := Aside0.mk ((by rw [hg]; exact (below_size (by repeat (first | (with_reducible first | exact HB.out | apply below_alloc | apply pw_below_drewN | apply below_drew1 | refine below_set ?_ GE183.out | refine below_set ?_ GE186.out) | exact HB.out))) : w.heap.size ≤ gb192))
     have n5_ := Aside0.mk ((by rw [hg]; exact (below_size (by repeat (first | (with_reducible first | exact HB.out | apply below_alloc | apply pw_below_drewN | apply below_drew1 | refine below_set ?_ GE183.out | refine below_set ?_ GE186.out) | exact HB.out))) : w.heap.size ≤ gb192))
     have n6_ := Aside0.mk ((by rw [hg]; exact Nat.ne_of_lt (blk_lt (by exact BK183.out)) : gb183 ≠ gb192))
     have n7_ := Aside0.mk ((by rw [hg]; exact Nat.ne_of_gt (blk_lt (by exact BK183.out)) : gb192 ≠ gb183))
     have n8_ := Aside0.mk ((by rw [hg]; exact Nat.ne_of_lt (blk_lt (by exact BK186.out)) : gb186 ≠ gb192))
     have n9_ := Aside0.mk ((by rw [hg]; exact Nat.ne_of_gt (blk_lt (by exact BK186.out)) : gb192 ≠ gb186))
     have z_NB192_191 := fun (h0_ : up b 9 8 = true) (h1_ : up b 9 9 = true) => (show gb192 ≠ gb191 from ((by rw [hg]; exact Nat.ne_of_gt (blk_lt (by exact (Q_BK191 h0_ (hoff 10 (by kernel_rfl))))) : gb192 ≠ gb191)))
     have z_NB191_192 := fun (h0_ : up b 9 8 = true) (h1_ : up b 9 9 = true) => (show gb191 ≠ gb192 from ((by rw [hg]; exact Nat.ne_of_lt (blk_lt (by exact (Q_BK191 h0_ (hoff 10 (by kernel_rfl))))) : gb191 ≠ gb192)))
     have z_BK191 := fun (h0_ : b 8 = true) (h1_ : b 10 = false) => (show w17.heap[gb191]? = some (.cells #[.int .u64 0, .int .u64 0] 26 (0, 0)) from by first | exact (blk_below (g := gb191) (o := .cells #[.int .u64 0, .int .u64 0] 26 (0, 0)) (by exact (Q_BK191 h0_ h1_)) hb))
     clear BK183
     clear BK186
     clear HB
     have BK183 := n0_
     have BK186 := n1_
     have HB := n2_
     have BK192 := n3_
     have GW192 := n4_
     have GE192 := n5_
     have NB183_192 := n6_
     have NB192_183 := n7_
     have NB186_192 := n8_
     have NB192_186 := n9_
     clear n0_ n1_ n2_ n3_ n4_ n5_ n6_ n7_ n8_ n9_
     clear hb hbox hg
     refine hK.out _ _ ⟨gb191, gb192, m8_, (.pointer (some ⟨gb192, 0, none⟩)), (by rw [ha.out]; exact putSel_upk 5 hb_ rfl rfl rfl), (by exact BK183.out), (by exact BK186.out), (by repeat (first | (with_reducible first | exact HB.out | apply below_alloc | apply pw_below_drewN | apply below_drew1 | refine below_set ?_ GE183.out | refine below_set ?_ GE186.out | refine below_set ?_ GE192.out) | exact HB.out)), @z_NB192_191, @z_NB191_192, z_BK191, Q_GW191, Q_GE191, Q_NB183_191, Q_NB191_183, Q_NB186_191, Q_NB191_186, fun _ _ => (by exact BK192.out), fun _ => GW192.out, fun _ => GE192.out, fun _ => NB183_192.out, fun _ => NB192_183.out, fun _ => NB186_192.out, fun _ => NB192_186.out, fun h0_ => absurd ((hoff 10 (by kernel_rfl)).symm.trans h0_) (by decide), fun h0_ => absurd ((hoff 11 (by kernel_rfl)).symm.trans h0_) (by decide), Q_X8_, fun _ => rfl⟩
    refine steps_cons ?_ ?_
    ·rintro b a w' ⟨gb191, gb192, m8_, m9_, ha, Q_BK183, Q_BK186, Q_HB, Q_NB192_191, Q_NB191_192, Q_BK191, Q_GW191, Q_GE191, Q_NB183_191, Q_NB191_183, Q_NB186_191, Q_NB191_186, Q_BK192, Q_GW192, Q_GE192, Q_NB183_192, Q_NB192_183, Q_NB186_192, Q_NB192_186, Q_BK191_e10, Q_BK192_e11, Q_X8_, Q_X9_⟩ hb_ hon hoff
     refine ⟨_, rfl, fun K hK => ?_⟩
     have e8 : a.tmps[8]? = some (m8_) := by rw [ha]; exact putSel_on (e := (8, 8, m8_)) 4 rfl rfl (hon 8 (by kernel_rfl)) rfl
     rw [Q_X8_ (hon 8 (by kernel_rfl))] at e8
     have e20 : a.tmps[20]? = some (.agg #[.int .u64 t187, .int .u64 t188]) := by rw [ha]; exact putSel_on (e := (3, 20, .agg #[.int .u64 t187, .int .u64 t188])) 1 rfl rfl (hon 3 (by kernel_rfl)) rfl
     replace ha := Aside0.mk ha
     have BK183 := Aside0.mk Q_BK183
     have BK186 := Aside0.mk Q_BK186
     have HB := Aside0.mk Q_HB
     have NB192_191 := Aside0.mk (Q_NB192_191 (hon 8 (by kernel_rfl)) (hon 9 (by kernel_rfl)))
     have NB191_192 := Aside0.mk (Q_NB191_192 (hon 8 (by kernel_rfl)) (hon 9 (by kernel_rfl)))
     have BK191 := Aside0.mk (Q_BK191 (hon 8 (by kernel_rfl)) hb_)
     have GW191 := Aside0.mk (Q_GW191 (hon 8 (by kernel_rfl)))
     have GE191 := Aside0.mk (Q_GE191 (hon 8 (by kernel_rfl)))
     have NB183_191 := Aside0.mk (Q_NB183_191 (hon 8 (by kernel_rfl)))
     have NB191_183 := Aside0.mk (Q_NB191_183 (hon 8 (by kernel_rfl)))
     have NB186_191 := Aside0.mk (Q_NB186_191 (hon 8 (by kernel_rfl)))
     have NB191_186 := Aside0.mk (Q_NB191_186 (hon 8 (by kernel_rfl)))
     have BK192 := Aside0.mk (Q_BK192 (hon 9 (by kernel_rfl)) (hoff 11 (by kernel_rfl)))
     have GW192 := Aside0.mk (Q_GW192 (hon 9 (by kernel_rfl)))
     have GE192 := Aside0.mk (Q_GE192 (hon 9 (by kernel_rfl)))
     have NB183_192 := Aside0.mk (Q_NB183_192 (hon 9 (by kernel_rfl)))
     have NB192_183 := Aside0.mk (Q_NB192_183 (hon 9 (by kernel_rfl)))
     have NB186_192 := Aside0.mk (Q_NB186_192 (hon 9 (by kernel_rfl)))
     have NB192_186 := Aside0.mk (Q_NB192_186 (hon 9 (by kernel_rfl)))
     have hs22 : w'.cell? ⟨gb191, 0, none⟩ = some (.int .u64 0) := (blk_cell BK191.out 0).trans rfl
     have hfs22 := blk_frozen BK191.out 0
     have hns22_0 := NB183_191.out
     have hns22_1 := NB186_191.out
     have hns22_3 := NB192_191.out
     have hms22_0 := NB191_183.out
     have hms22_1 := NB191_186.out
     have hms22_3 := NB191_192.out
     have hs23 : w'.cell? ⟨gb191, 1, none⟩ = some (.int .u64 0) := (blk_cell BK191.out 1).trans rfl
     have hfs23 := blk_frozen BK191.out 1
     have hns23_0 := NB183_191.out
     have hns23_1 := NB186_191.out
     have hns23_3 := NB192_191.out
     have hms23_0 := NB191_183.out
     have hms23_1 := NB191_186.out
     have hms23_3 := NB191_192.out
     refine skip_ (w1 := ?_) (by rfl) rfl ?_ ?_
     rotate_left
     ·go_simp
      rfl
     refine hK.out _ _ ⟨gb191, gb192, m8_, m9_, (by rw [ha.out]; exact putSel_none (v := undef) rfl), (by refine blk_far ?_ NB183_191.out _; refine blk_far ?_ NB183_191.out _; exact BK183.out), (by refine blk_far ?_ NB186_191.out _; refine blk_far ?_ NB186_191.out _; exact BK186.out), (by repeat (first | (with_reducible first | exact HB.out | apply below_alloc | apply pw_below_drewN | apply below_drew1 | refine below_set ?_ GE183.out | refine below_set ?_ GE186.out | refine below_set ?_ GE191.out | refine below_set ?_ GE192.out) | exact HB.out)), fun _ _ => NB192_191.out, fun _ _ => NB191_192.out, fun _ h1_ => absurd ((up_self b 10).symm.trans h1_) (by decide), fun _ => GW191.out, fun _ => GE191.out, fun _ => NB183_191.out, fun _ => NB191_183.out, fun _ => NB186_191.out, fun _ => NB191_186.out, fun _ _ => (by refine blk_far ?_ NB192_191.out _; refine blk_far ?_ NB192_191.out _; exact BK192.out), fun _ => GW192.out, fun _ => GE192.out, fun _ => NB183_192.out, fun _ => NB192_183.out, fun _ => NB186_192.out, fun _ => NB192_186.out, fun _ => (by refine blk_put (cs := #[.int .u64 t187, .int .u64 0]) ?_ 1 _ rfl; refine blk_put (cs := #[.int .u64 0, .int .u64 0]) ?_ 0 _ rfl; exact BK191.out), fun h0_ => absurd ((hoff 11 (by kernel_rfl)).symm.trans h0_) (by decide), Q_X8_, Q_X9_⟩
    refine steps_cons ?_ ?_
    ·rintro b a w' ⟨gb191, gb192, m8_, m9_, ha, Q_BK183, Q_BK186, Q_HB, Q_NB192_191, Q_NB191_192, Q_BK191, Q_GW191, Q_GE191, Q_NB183_191, Q_NB191_183, Q_NB186_191, Q_NB191_186, Q_BK192, Q_GW192, Q_GE192, Q_NB183_192, Q_NB192_183, Q_NB186_192, Q_NB192_186, Q_BK191_e10, Q_BK192_e11, Q_X8_, Q_X9_⟩ hb_ hon hoff
     refine ⟨_, rfl, fun K hK => ?_⟩
     have e9 : a.tmps[9]? = some (m9_) := by rw [ha]; exact putSel_on (e := (9, 9, m9_)) 5 rfl rfl (hon 9 (by kernel_rfl)) rfl
     rw [Q_X9_ (hon 9 (by kernel_rfl))] at e9
     have e24 : a.tmps[24]? = some (.agg #[.int .u64 t189, .int .u64 t190]) := by rw [ha]; exact putSel_on (e := (7, 24, .agg #[.int .u64 t189, .int .u64 t190])) 3 rfl rfl (hon 7 (by kernel_rfl)) rfl
     replace ha := Aside0.mk ha
     have BK183 := Aside0.mk Q_BK183
     have BK186 := Aside0.mk Q_BK186
     have HB := Aside0.mk Q_HB
     have NB192_191 := Aside0.mk (Q_NB192_191 (hon 8 (by kernel_rfl)) (hon 9 (by kernel_rfl)))
     have NB191_192 := Aside0.mk (Q_NB191_192 (hon 8 (by kernel_rfl)) (hon 9 (by kernel_rfl)))
     have GW191 := Aside0.mk (Q_GW191 (hon 8 (by kernel_rfl)))
     have GE191 := Aside0.mk (Q_GE191 (hon 8 (by kernel_rfl)))
     have NB183_191 := Aside0.mk (Q_NB183_191 (hon 8 (by kernel_rfl)))
     have NB191_183 := Aside0.mk (Q_NB191_183 (hon 8 (by kernel_rfl)))
     have NB186_191 := Aside0.mk (Q_NB186_191 (hon 8 (by kernel_rfl)))
     have NB191_186 := Aside0.mk (Q_NB191_186 (hon 8 (by kernel_rfl)))
     have BK192 := Aside0.mk (Q_BK192 (hon 9 (by kernel_rfl)) hb_)
     have GW192 := Aside0.mk (Q_GW192 (hon 9 (by kernel_rfl)))
     have GE192 := Aside0.mk (Q_GE192 (hon 9 (by kernel_rfl)))
     have NB183_192 := Aside0.mk (Q_NB183_192 (hon 9 (by kernel_rfl)))
     have NB192_183 := Aside0.mk (Q_NB192_183 (hon 9 (by kernel_rfl)))
     have NB186_192 := Aside0.mk (Q_NB186_192 (hon 9 (by kernel_rfl)))
     have NB192_186 := Aside0.mk (Q_NB192_186 (hon 9 (by kernel_rfl)))
     have BK191 := Aside0.mk (Q_BK191_e10 (hon 10 (by kernel_rfl)))
     have hs24 : w'.cell? ⟨gb192, 0, none⟩ = some (.int .u64 0) := (blk_cell BK192.out 0).trans rfl
     have hfs24 := blk_frozen BK192.out 0
     have hns24_0 := NB183_192.out
     have hns24_1 := NB186_192.out
     have hns24_2 := NB191_192.out
     have hms24_0 := NB192_183.out
     have hms24_1 := NB192_186.out
     have hms24_2 := NB192_191.out
     have hs25 : w'.cell? ⟨gb192, 1, none⟩ = some (.int .u64 0) := (blk_cell BK192.out 1).trans rfl
     have hfs25 := blk_frozen BK192.out 1
     have hns25_0 := NB183_192.out
     have hns25_1 := NB186_192.out
     have hns25_2 := NB191_192.out
     have hms25_0 := NB192_183.out
     have hms25_1 := NB192_186.out
     have hms25_2 := NB192_191.out
     refine skip_ (w1 := ?_) (by rfl) rfl ?_ ?_
     rotate_left
     ·go_simp
      rfl
     refine hK.out _ _ ⟨gb191, gb192, m8_, m9_, (by rw [ha.out]; exact putSel_none (v := undef) rfl), (by refine blk_far ?_ NB183_192.out _; refine blk_far ?_ NB183_192.out _; exact BK183.out), (by refine blk_far ?_ NB186_192.out _; refine blk_far ?_ NB186_192.out _; exact BK186.out), (by repeat (first | (with_reducible first | exact HB.out | apply below_alloc | apply pw_below_drewN | apply below_drew1 | refine below_set ?_ GE183.out | refine below_set ?_ GE186.out | refine below_set ?_ GE191.out | refine below_set ?_ GE192.out) | exact HB.out)), fun _ _ => NB192_191.out, fun _ _ => NB191_192.out, fun _ h1_ => absurd ((hon 10 (by kernel_rfl)).symm.trans h1_) (by decide), fun _ => GW191.out, fun _ => GE191.out, fun _ => NB183_191.out, fun _ => NB191_183.out, fun _ => NB186_191.out, fun _ => NB191_186.out, fun _ h1_ => absurd ((up_self b 11).symm.trans h1_) (by decide), fun _ => GW192.out, fun _ => GE192.out, fun _ => NB183_192.out, fun _ => NB192_183.out, fun _ => NB186_192.out, fun _ => NB192_186.out, fun _ => (by refine blk_far ?_ NB191_192.out _; refine blk_far ?_ NB191_192.out _; exact BK191.out), fun _ => (by refine blk_put (cs := #[.int .u64 t189, .int .u64 0]) ?_ 1 _ rfl; refine blk_put (cs := #[.int .u64 0, .int .u64 0]) ?_ 0 _ rfl; exact BK192.out), Q_X8_, Q_X9_⟩
    exact steps_nil
   rintro b a w25 hall ⟨gb191, gb192, m8_, m9_, ha, Q_BK183, Q_BK186, Q_HB, Q_NB192_191, Q_NB191_192, Q_BK191, Q_GW191, Q_GE191, Q_NB183_191, Q_NB191_183, Q_NB186_191, Q_NB191_186, Q_BK192, Q_GW192, Q_GE192, Q_NB183_192, Q_NB192_183, Q_NB186_192, Q_NB192_186, Q_BK191_e10, Q_BK192_e11, Q_X8_, Q_X9_⟩
   clear BK183 BK186 HB
   have hb1_ := hall 1 (by kernel_rfl)
   have hb3_ := hall 3 (by kernel_rfl)
   have hb5_ := hall 5 (by kernel_rfl)
   have hb7_ := hall 7 (by kernel_rfl)
   have hb8_ := hall 8 (by kernel_rfl)
   have hb9_ := hall 9 (by kernel_rfl)
   have hb10_ := hall 10 (by kernel_rfl)
   have hb11_ := hall 11 (by kernel_rfl)
   subst ha
   obtain rfl := Q_X8_ hb8_
   obtain rfl := Q_X9_ hb9_
   simp only [putSel, hb1_, hb3_, hb5_, hb7_, hb8_, hb9_, hb10_, hb11_, if_true, Act.put, List.setIfInBounds_toArray, List.set_cons_zero, List.set_cons_succ]
   have BK183 := Aside0.mk Q_BK183
   clear Q_BK183
   have BK186 := Aside0.mk Q_BK186
   clear Q_BK186
   have HB := Aside0.mk Q_HB
   clear Q_HB
   have NB192_191 := Aside0.mk (Q_NB192_191 hb8_ hb9_)
   clear Q_NB192_191
   have NB191_192 := Aside0.mk (Q_NB191_192 hb8_ hb9_)
   clear Q_NB191_192
   clear Q_BK191
   have GW191 := Aside0.mk (Q_GW191 hb8_)
   clear Q_GW191
   have GE191 := Aside0.mk (Q_GE191 hb8_)
   clear Q_GE191
   have NB183_191 := Aside0.mk (Q_NB183_191 hb8_)
   clear Q_NB183_191
   have NB191_183 := Aside0.mk (Q_NB191_183 hb8_)
   clear Q_NB191_183
   have NB186_191 := Aside0.mk (Q_NB186_191 hb8_)
   clear Q_NB186_191
   have NB191_186 := Aside0.mk (Q_NB191_186 hb8_)
   clear Q_NB191_186
   clear Q_BK192
   have GW192 := Aside0.mk (Q_GW192 hb9_)
   clear Q_GW192
   have GE192 := Aside0.mk (Q_GE192 hb9_)
   clear Q_GE192
   have NB183_192 := Aside0.mk (Q_NB183_192 hb9_)
   clear Q_NB183_192
   have NB192_183 := Aside0.mk (Q_NB192_183 hb9_)
   clear Q_NB192_183
   have NB186_192 := Aside0.mk (Q_NB186_192 hb9_)
   clear Q_NB186_192
   have NB192_186 := Aside0.mk (Q_NB192_186 hb9_)
   clear Q_NB192_186
   have BK191 := Aside0.mk (Q_BK191_e10 hb10_)
   clear Q_BK191_e10
   have BK192 := Aside0.mk (Q_BK192_e11 hb11_)
   clear Q_BK192_e11
   clear hall hb1_ hb3_ hb5_ hb7_ hb8_ hb9_ hb10_ hb11_
   have hnb26 := NB191_183.out
   have hnc26 := NB183_191.out
   have hnb27 := NB191_186.out
   have hnc27 := NB186_191.out
   have hnb28 := NB191_192.out
   have hnc28 := NB192_191.out
   have hcz29_0 : w25.cell? ⟨gb191, 0, none⟩ = some (.int .u64 t187) := (blk_cell BK191.out 0).trans rfl
   have hcz29_1 : w25.cell? ⟨gb191, 1, none⟩ = some (.int .u64 t188) := (blk_cell BK191.out 1).trans rfl
   have hfz29_0 := blk_frozen BK191.out 0
   have hfz29_1 := blk_frozen BK191.out 1
   have hnb30 := NB192_183.out
   have hnc30 := NB183_192.out
   have hnb31 := NB192_186.out
   have hnc31 := NB186_192.out
   have hcz32_0 : w25.cell? ⟨gb192, 0, none⟩ = some (.int .u64 t189) := (blk_cell BK192.out 0).trans rfl
   have hcz32_1 : w25.cell? ⟨gb192, 1, none⟩ = some (.int .u64 t190) := (blk_cell BK192.out 1).trans rfl
   have hfz32_0 := blk_frozen BK192.out 0
   have hfz32_1 := blk_frozen BK192.out 1
   try go_wp2_with (first | ((with_reducible refine gate_callee (f := 21) rfl ?_); refine goesL_ (some 30) rfl rfl Try.func21 (by kernel_rfl) rfl #[.agg #[.int .u64 t187, .int .u64 t188], .agg #[.int .u64 t190, .int .u64 0]] rfl (by (try simp only [List.map_toArray, List.map_cons, List.map_nil]); first | done | rfl | (simp only [List.length_drop, List.length_take]; rfl)) ?_; (with_reducible refine (overfallref01_Add.calls k t187 t188 t190 0 t193 t194 t195 _ A8.out).mono ?_); rintro e w33 ⟨rfl, hb⟩; refine ⟨_, rfl, ?_⟩; have n0_ := Aside0.mk (blk_below (by exact BK183.out) hb); have n1_ := Aside0.mk (blk_below (by exact BK186.out) hb); have n2_ := Aside0.mk (blk_below (by exact BK191.out) hb); have n3_ := Aside0.mk (blk_below (by exact BK192.out) hb); have n4_ := Aside0.mk (below_step (by repeat (first | (with_reducible first | exact HB.out | apply below_alloc | apply pw_below_drewN | apply below_drew1 | refine below_set ?_ GE183.out | refine below_set ?_ GE186.out | refine below_set ?_ GE191.out | refine below_set ?_ GE192.out) | exact HB.out)) hb); clear BK183; clear BK186; clear BK191; clear BK192; clear HB; have BK183 := n0_; have BK186 := n1_; have BK191 := n2_; have BK192 := n3_; have HB := n4_; clear n0_ n1_ n2_ n3_ n4_; (try clear hb); (try clear hb2); (try clear hk); (try clear hi)) | ((with_reducible refine gate_dst (N := 10) rfl ?_); refine box_event ?hg (N := 10) ?hd (cs := #[.int .u64 0, .int .u64 0]) (t := 26) ?hr ?_; (case hd => rfl); (case hg => rfl); (case hr => first | (go_simp; done) | (go_simp; rfl)); intro gb196 hg w34 hbox hb; have n0_ := Aside0.mk (blk_below (by exact BK183.out) hb); have n1_ := Aside0.mk (blk_below (by exact BK186.out) hb); have n2_ := Aside0.mk (blk_below (by exact BK191.out) hb); have n3_ := Aside0.mk (blk_below (by exact BK192.out) hb); have n4_ := Aside0.mk (below_step (by repeat (first | (with_reducible first | exact HB.out | apply below_alloc | apply pw_below_drewN | apply below_drew1 | refine below_set ?_ GE183.out | refine below_set ?_ GE186.out | refine below_set ?_ GE191.out | refine below_set ?_ GE192.out) | exact HB.out)) hb); have n5_ := Aside0.mk (hbox); have n6_ := Aside0.mk ((by rw [hg]; exact (below_size (by repeat (first | (with_reducible first | exact HB.out | apply below_alloc | apply pw_below_drewN | apply below_drew1 | refine below_set ?_ GE183.out | refine below_set ?_ GE186.out | refine below_set ?_ GE191.out | refine below_set ?_ GE192.out) | exact HB.out))) : w.heap.size ≤ gb196)); have n7_ := Aside0.mk ((by rw [hg]; exact (below_size (by repeat (first | (with_reducible first | exact HB.out | apply below_alloc | apply pw_below_drewN | apply below_drew1 | refine below_set ?_ GE183.out | refine below_set ?_ GE186.out | refine below_set ?_ GE191.out | refine below_set ?_ GE192.out) | exact HB.out))) : w.heap.size ≤ gb196)); have n8_ := Aside0.mk ((by rw [hg]; exact Nat.ne_of_lt (blk_lt (by exact BK183.out)) : gb183 ≠ gb196)); have n9_ := Aside0.mk ((by rw [hg]; exact Nat.ne_of_gt (blk_lt (by exact BK183.out)) : gb196 ≠ gb183)); have n10_ := Aside0.mk ((by rw [hg]; exact Nat.ne_of_lt (blk_lt (by exact BK186.out)) : gb186 ≠ gb196)); have n11_ := Aside0.mk ((by rw [hg]; exact Nat.ne_of_gt (blk_lt (by exact BK186.out)) : gb196 ≠ gb186)); have n12_ := Aside0.mk ((by rw [hg]; exact Nat.ne_of_lt (blk_lt (by exact BK191.out)) : gb191 ≠ gb196)); have n13_ := Aside0.mk ((by rw [hg]; exact Nat.ne_of_gt (blk_lt (by exact BK191.out)) : gb196 ≠ gb191)); have n14_ := Aside0.mk ((by rw [hg]; exact Nat.ne_of_lt (blk_lt (by exact BK192.out)) : gb192 ≠ gb196)); have n15_ := Aside0.mk ((by rw [hg]; exact Nat.ne_of_gt (blk_lt (by exact BK192.out)) : gb196 ≠ gb192)); clear BK183; clear BK186; clear BK191; clear BK192; clear HB; have BK183 := n0_; have BK186 := n1_; have BK191 := n2_; have BK192 := n3_; have HB := n4_; have BK196 := n5_; have GW196 := n6_; have GE196 := n7_; have NB183_196 := n8_; have NB196_183 := n9_; have NB186_196 := n10_; have NB196_186 := n11_; have NB191_196 := n12_; have NB196_191 := n13_; have NB192_196 := n14_; have NB196_192 := n15_; clear n0_ n1_ n2_ n3_ n4_ n5_ n6_ n7_ n8_ n9_ n10_ n11_ n12_ n13_ n14_ n15_; clear hb hbox hg; have hnb35 := NB196_183.out; have hnc35 := NB183_196.out; have hnb36 := NB196_186.out; have hnc36 := NB186_196.out; have hnb37 := NB196_191.out; have hnc37 := NB191_196.out; have hnb38 := NB196_192.out; have hnc38 := NB192_196.out; have hcz39_0 : w34.cell? ⟨gb196, 0, none⟩ = some (.int .u64 0) := (blk_cell BK196.out 0).trans rfl; have hcz39_1 : w34.cell? ⟨gb196, 1, none⟩ = some (.int .u64 0) := (blk_cell BK196.out 1).trans rfl; have hfz39_0 := blk_frozen BK196.out 0; have hfz39_1 := blk_frozen BK196.out 1; have hcz40_0 : w34.cell? ⟨gb192, 0, none⟩ = some (.int .u64 t189) := (blk_cell BK192.out 0).trans rfl; have hcz40_1 : w34.cell? ⟨gb192, 1, none⟩ = some (.int .u64 t190) := (blk_cell BK192.out 1).trans rfl; have hfz40_0 := blk_frozen BK192.out 0; have hfz40_1 := blk_frozen BK192.out 1))
   go_ret
   exact ⟨by first | rfl | (simp [errW_none, errW_some] <;> rfl) | (simp [*, errW_none, errW_some] <;> rfl), by repeat (first | (with_reducible first | exact HB.out | apply below_alloc | apply pw_below_drewN | apply below_drew1 | refine below_set ?_ GE183.out | refine below_set ?_ GE186.out | refine below_set ?_ GE191.out | refine below_set ?_ GE192.out | refine below_set ?_ GE196.out) | exact HB.out)⟩
  ·rw [if_neg c9] at H
   have c9b0 : decide (0 < t189) = false := decide_eq_false c9
   clear c9
   by_cases c41 : t195 = true
   ·subst c41
    have H1 : (some false) = some r := by rw [if_pos rfl] at H; exact H
    clear H
    have H := H1
    clear H1
    obtain rfl := Option.some.inj H
    go_enter Try.func11, Try.ntmps11
    try go_wp2_with (first | ((with_reducible refine gate_dst (N := 5) rfl ?_); refine box_event ?hg (N := 5) ?hd (cs := #[.int .u64 a2_0, .int .u64 a2_1]) (t := 26) ?hr ?_; (case hd => rfl); (case hg => rfl); (case hr => first | (go_simp; done) | (go_simp; rfl)); intro gb183 hg w42 hbox hb; have n0_ := Aside0.mk (below_step (by repeat (first | (with_reducible first | exact HB.out | apply below_alloc | apply pw_below_drewN | apply below_drew1) | exact HB.out)) hb); have n1_ := Aside0.mk (hbox); have n2_ := Aside0.mk ((by rw [hg]; exact (below_size (by repeat (first | (with_reducible first | exact HB.out | apply below_alloc | apply pw_below_drewN | apply below_drew1) | exact HB.out))) : w.heap.size ≤ gb183)); have n3_ := Aside0.mk ((by rw [hg]; exact (below_size (by repeat (first | (with_reducible first | exact HB.out | apply below_alloc | apply pw_below_drewN | apply below_drew1) | exact HB.out))) : w.heap.size ≤ gb183)); clear HB; have HB := n0_; have BK183 := n1_; have GW183 := n2_; have GE183 := n3_; clear n0_ n1_ n2_ n3_; clear hb hbox hg) | ((with_reducible refine gate_callee (f := 14) rfl ?_); refine goesL_ (some 14) rfl rfl Try.func14 (by kernel_rfl) rfl #[.int .u64 a0, .int .u64 a0] rfl (by (try simp only [List.map_toArray, List.map_cons, List.map_nil]); first | done | rfl | (simp only [List.length_drop, List.length_take]; rfl)) ?_; (with_reducible refine (overfallref01_Mul.calls k a0 a0 t184 t185 _ A4.out).mono ?_); rintro e w43 ⟨rfl, hb⟩; refine ⟨_, rfl, ?_⟩; have n0_ := Aside0.mk (blk_below (by exact BK183.out) hb); have n1_ := Aside0.mk (below_step (by repeat (first | (with_reducible first | exact HB.out | apply below_alloc | apply pw_below_drewN | apply below_drew1 | refine below_set ?_ GE183.out) | exact HB.out)) hb); clear BK183; clear HB; have BK183 := n0_; have HB := n1_; clear n0_ n1_; (try clear hb); (try clear hb2); (try clear hk); (try clear hi)) | ((with_reducible refine gate_dst (N := 7) rfl ?_); refine box_event ?hg (N := 7) ?hd (cs := #[.int .u64 0, .int .u64 0]) (t := 26) ?hr ?_; (case hd => rfl); (case hg => rfl); (case hr => first | (go_simp; done) | (go_simp; rfl)); intro gb186 hg w44 hbox hb; have n0_ := Aside0.mk (blk_below (by exact BK183.out) hb); have n1_ := Aside0.mk (below_step (by repeat (first | (with_reducible first | exact HB.out | apply below_alloc | apply pw_below_drewN | apply below_drew1 | refine below_set ?_ GE183.out) | exact HB.out)) hb); have n2_ := Aside0.mk (hbox); have n3_ := Aside0.mk ((by rw [hg]; exact (below_size (by repeat (first | (with_reducible first | exact HB.out | apply below_alloc | apply pw_below_drewN | apply below_drew1 | refine below_set ?_ GE183.out) | exact HB.out))) : w.heap.size ≤ gb186)); have n4_ := Aside0.mk ((by rw [hg]; exact (below_size (by repeat (first | (with_reducible first | exact HB.out | apply below_alloc | apply pw_below_drewN | apply below_drew1 | refine below_set ?_ GE183.out) | exact HB.out))) : w.heap.size ≤ gb186)); have n5_ := Aside0.mk ((by rw [hg]; exact Nat.ne_of_lt (blk_lt (by exact BK183.out)) : gb183 ≠ gb186)); have n6_ := Aside0.mk ((by rw [hg]; exact Nat.ne_of_gt (blk_lt (by exact BK183.out)) : gb186 ≠ gb183)); clear BK183; clear HB; have BK183 := n0_; have HB := n1_; have BK186 := n2_; have GW186 := n3_; have GE186 := n4_; have NB183_186 := n5_; have NB186_183 := n6_; clear n0_ n1_ n2_ n3_ n4_ n5_ n6_; clear hb hbox hg; have hnb45 := NB186_183.out; have hnc45 := NB183_186.out; have hcz46_0 : w44.cell? ⟨gb186, 0, none⟩ = some (.int .u64 0) := (blk_cell BK186.out 0).trans rfl; have hcz46_1 : w44.cell? ⟨gb186, 1, none⟩ = some (.int .u64 0) := (blk_cell BK186.out 1).trans rfl; have hfz46_0 := blk_frozen BK186.out 0; have hfz46_1 := blk_frozen BK186.out 1))
    have n0_ : Aside0 (((w44.setCell ⟨gb186, 0, none⟩ (.int .u64 t184)).setCell ⟨gb186, 1, none⟩ (.int .u64 t185)).heap[gb183]? = some (.cells #[.int .u64 a2_0, .int .u64 a2_1] 26 (0, 0))) := ⟨by refine blk_far ?_ NB183_186.out _; refine blk_far ?_ NB183_186.out _; exact BK183.out⟩
    have n1_ : Aside0 (((w44.setCell ⟨gb186, 0, none⟩ (.int .u64 t184)).setCell ⟨gb186, 1, none⟩ (.int .u64 t185)).heap[gb186]? = some (.cells #[.int .u64 t184, .int .u64 t185] 26 (0, 0))) := ⟨by refine blk_put (cs := #[.int .u64 t184, .int .u64 0]) ?_ 1 _ rfl; refine blk_put (cs := #[.int .u64 0, .int .u64 0]) ?_ 0 _ rfl; exact BK186.out⟩
    have n2_ : Aside0 (Below w.heap.size w ((w44.setCell ⟨gb186, 0, none⟩ (.int .u64 t184)).setCell ⟨gb186, 1, none⟩ (.int .u64 t185))) := ⟨by repeat (first | (with_reducible first | exact HB.out | apply below_alloc | apply pw_below_drewN | apply below_drew1 | refine below_set ?_ GE183.out | refine below_set ?_ GE186.out) | exact HB.out)⟩
    (try clear BK183)
    (try clear BK186)
    (try clear HB)
    generalize ((w44.setCell ⟨gb186, 0, none⟩ (.int .u64 t184)).setCell ⟨gb186, 1, none⟩ (.int .u64 t185)) = w47 at n0_ n1_ n2_ ⊢
    have BK183 := n0_
    have BK186 := n1_
    have HB := n2_
    clear n0_ n1_ n2_
    have n0_ := Aside0.mk (blk_drew BK183.out)
    have n1_ := Aside0.mk (blk_drew BK186.out)
    have n2_ := Aside0.mk (below_drew1 HB.out)
    clear BK183
    clear BK186
    clear HB
    have BK183 := n0_
    have BK186 := n1_
    have HB := n2_
    clear n0_ n1_ n2_
    refine start_ (n := 12) (S := fun w' => True) (ds := []) #[false, false, false, false, false, false, false, false, false, false, false, false] (by kernel_rfl) rfl rfl trivial (fun hHeld => ?_); refine with_tabW overfallref03_Fits.tab3 overfallref03_Fits.bits3 (fun HT_ HW_ => ?_)
    generalize w47.drew = w48 at BK183 BK186 HB hHeld ⊢
    refine pure_ (i := 0) (N := some 17) (v := ?_) (a' := ?_) #[true, false, false, false, false, false, false, false, false, false, false, false] rfl rfl (any_of HT_.out (by kernel_rfl)) (fun _ _ _ h => h) (Or.inl ⟨by rfl, ?_⟩) ?_ ?_
    rotate_left
    ·intro w'
     go_simp
     with_reducible rfl
    rotate_left
    ·simp only [Act.put, List.setIfInBounds_toArray, List.set_cons_zero, List.set_cons_succ, i64_w, i32_w]
     rfl
    refine pure_ (i := 2) (N := some 19) (v := ?_) (a' := ?_) #[true, false, true, false, false, false, false, false, false, false, false, false] rfl rfl (any_of HT_.out (by kernel_rfl)) (fun _ _ _ h => h) (Or.inl ⟨by rfl, ?_⟩) ?_ ?_
    rotate_left
    ·intro w'
     go_simp
     with_reducible rfl
    rotate_left
    ·simp only [Act.put, List.setIfInBounds_toArray, List.set_cons_zero, List.set_cons_succ, i64_w, i32_w]
     rfl
    refine pure_ (i := 4) (N := some 21) (v := ?_) (a' := ?_) #[true, false, true, false, true, false, false, false, false, false, false, false] rfl rfl (any_of HT_.out (by kernel_rfl)) (fun _ _ _ h => h) (Or.inl ⟨by rfl, ?_⟩) ?_ ?_
    rotate_left
    ·intro w'
     go_simp
     with_reducible rfl
    rotate_left
    ·simp only [Act.put, List.setIfInBounds_toArray, List.set_cons_zero, List.set_cons_succ, i64_w, i32_w]
     rfl
    refine pure_ (i := 6) (N := some 23) (v := ?_) (a' := ?_) #[true, false, true, false, true, false, true, false, false, false, false, false] rfl rfl (any_of HT_.out (by kernel_rfl)) (fun _ _ _ h => h) (Or.inl ⟨by rfl, ?_⟩) ?_ ?_
    rotate_left
    ·intro w'
     go_simp
     with_reducible rfl
    rotate_left
    ·simp only [Act.put, List.setIfInBounds_toArray, List.set_cons_zero, List.set_cons_succ, i64_w, i32_w]
     rfl
    refine inv_at [1, 3, 5, 7, 8, 9, 10, 11] (fun a0_ b a w' => ∃ (gb191 : Nat) (gb192 : Nat) (m8_ : Value) (m9_ : Value), a = putSel a0_ b [(1, 18, .int .u64 t185), (3, 20, .agg #[.int .u64 t187, .int .u64 t188]), (5, 22, .int .u64 t184), (7, 24, .agg #[.int .u64 t189, .int .u64 t190]), (8, 8, m8_), (9, 9, m9_)] ∧ (w'.heap[gb183]? = some (.cells #[.int .u64 a2_0, .int .u64 a2_1] 26 (0, 0))) ∧ (w'.heap[gb186]? = some (.cells #[.int .u64 t184, .int .u64 t185] 26 (0, 0))) ∧ (Below w.heap.size w w') ∧ (b 8 = true → b 9 = true → gb192 ≠ gb191) ∧ (b 8 = true → b 9 = true → gb191 ≠ gb192) ∧ (b 8 = true → b 10 = false → w'.heap[gb191]? = some (.cells #[.int .u64 0, .int .u64 0] 26 (0, 0))) ∧ (b 8 = true → w.heap.size ≤ gb191) ∧ (b 8 = true → w.heap.size ≤ gb191) ∧ (b 8 = true → gb183 ≠ gb191) ∧ (b 8 = true → gb191 ≠ gb183) ∧ (b 8 = true → gb186 ≠ gb191) ∧ (b 8 = true → gb191 ≠ gb186) ∧ (b 9 = true → b 11 = false → w'.heap[gb192]? = some (.cells #[.int .u64 0, .int .u64 0] 26 (0, 0))) ∧ (b 9 = true → w.heap.size ≤ gb192) ∧ (b 9 = true → w.heap.size ≤ gb192) ∧ (b 9 = true → gb183 ≠ gb192) ∧ (b 9 = true → gb192 ≠ gb183) ∧ (b 9 = true → gb186 ≠ gb192) ∧ (b 9 = true → gb192 ≠ gb186) ∧ (b 10 = true → w'.heap[gb191]? = some (.cells #[.int .u64 t187, .int .u64 t188] 26 (0, 0))) ∧ (b 11 = true → w'.heap[gb192]? = some (.cells #[.int .u64 t189, .int .u64 t190] 26 (0, 0))) ∧ (b 8 = true → (m8_ : Value) = .pointer (some ⟨gb191, 0, none⟩)) ∧ (b 9 = true → (m9_ : Value) = .pointer (some ⟨gb192, 0, none⟩))) HT_.out HW_.out (by kernel_rfl) (by kernel_rfl) ?_ ?_ ?_
    ·exact ⟨0, 0, .bool false, .bool false, by simp only [putSel, Bool.false_eq_true, if_false], BK183.out, BK186.out, HB.out, fun h_ => absurd h_ (by decide), fun h_ => absurd h_ (by decide), fun h_ => absurd h_ (by decide), fun h_ => absurd h_ (by decide), fun h_ => absurd h_ (by decide), fun h_ => absurd h_ (by decide), fun h_ => absurd h_ (by decide), fun h_ => absurd h_ (by decide), fun h_ => absurd h_ (by decide), fun h_ => absurd h_ (by decide), fun h_ => absurd h_ (by decide), fun h_ => absurd h_ (by decide), fun h_ => absurd h_ (by decide), fun h_ => absurd h_ (by decide), fun h_ => absurd h_ (by decide), fun h_ => absurd h_ (by decide), fun h_ => absurd h_ (by decide), fun h_ => absurd h_ (by decide), fun h_ => absurd h_ (by decide), fun h_ => absurd h_ (by decide)⟩
    ·skip
     clear BK183 BK186 HB
     refine steps_cons ?_ ?_
     ·rintro b a w' ⟨gb191, gb192, m8_, m9_, ha, Q_BK183, Q_BK186, Q_HB, Q_NB192_191, Q_NB191_192, Q_BK191, Q_GW191, Q_GE191, Q_NB183_191, Q_NB191_183, Q_NB186_191, Q_NB191_186, Q_BK192, Q_GW192, Q_GE192, Q_NB183_192, Q_NB192_183, Q_NB186_192, Q_NB192_186, Q_BK191_e10, Q_BK192_e11, Q_X8_, Q_X9_⟩ hb_ hon hoff
      refine ⟨_, rfl, fun K hK => ?_⟩
      have e17 : a.tmps[17]? = some (.pointer (some ⟨gb186, 1, none⟩)) := by rw [ha]; exact (putSel_off rfl).trans rfl
      replace ha := Aside0.mk ha
      have BK183 := Aside0.mk Q_BK183
      have BK186 := Aside0.mk Q_BK186
      have HB := Aside0.mk Q_HB
      have hc0_ : w'.cell? ⟨gb186, 0, none⟩ = some (.int .u64 t184) := (blk_cell BK186.out 0).trans rfl
      have hc1_ : w'.cell? ⟨gb186, 1, none⟩ = some (.int .u64 t185) := (blk_cell BK186.out 1).trans rfl
      refine value_ (w1 := w') (v := .int .u64 t185) (by rfl) rfl ?_ ?_
      ·go_simp
       (try simp only [i64_w])
       try rfl
      refine hK.out _ _ ⟨gb191, gb192, m8_, m9_, (by rw [ha.out]; exact putSel_upk 0 hb_ rfl rfl rfl), Q_BK183, Q_BK186, Q_HB, Q_NB192_191, Q_NB191_192, Q_BK191, Q_GW191, Q_GE191, Q_NB183_191, Q_NB191_183, Q_NB186_191, Q_NB191_186, Q_BK192, Q_GW192, Q_GE192, Q_NB183_192, Q_NB192_183, Q_NB186_192, Q_NB192_186, fun h0_ => absurd ((hoff 10 (by kernel_rfl)).symm.trans h0_) (by decide), fun h0_ => absurd ((hoff 11 (by kernel_rfl)).symm.trans h0_) (by decide), Q_X8_, Q_X9_⟩
     refine steps_cons ?_ ?_
     ·rintro b a w' ⟨gb191, gb192, m8_, m9_, ha, Q_BK183, Q_BK186, Q_HB, Q_NB192_191, Q_NB191_192, Q_BK191, Q_GW191, Q_GE191, Q_NB183_191, Q_NB191_183, Q_NB186_191, Q_NB191_186, Q_BK192, Q_GW192, Q_GE192, Q_NB183_192, Q_NB192_183, Q_NB186_192, Q_NB192_186, Q_BK191_e10, Q_BK192_e11, Q_X8_, Q_X9_⟩ hb_ hon hoff
      refine ⟨_, rfl, fun K hK => ?_⟩
      have e18 : a.tmps[18]? = some (.int .u64 t185) := by rw [ha]; exact putSel_on (e := (1, 18, .int .u64 t185)) 0 rfl rfl (hon 1 (by kernel_rfl)) rfl
      have e19 : a.tmps[19]? = some (.int .u64 a1) := by rw [ha]; exact (putSel_off rfl).trans rfl
      replace ha := Aside0.mk ha
      have BK183 := Aside0.mk Q_BK183
      have BK186 := Aside0.mk Q_BK186
      have HB := Aside0.mk Q_HB
      refine goes_ Try.func14 (by kernel_rfl) rfl #[.int .u64 t185, .int .u64 a1] (by rfl) rfl rfl (by first | (simp only [List.map_toArray, List.map_cons, List.map_nil, Act.eval, Array.getD_eq_getD_getElem?, Option.getD_some, e18, e19]; done) | (simp only [List.map_toArray, List.map_cons, List.map_nil, Act.eval, Array.getD_eq_getD_getElem?, Option.getD_some, e18, e19]; rfl)) ?_
      with_reducible refine (overfallref01_Mul.calls k t185 a1 t187 t188 _ A6.out).mono ?_
      rintro e w49 ⟨rfl, hb⟩
      refine ⟨_, rfl, ?_⟩
      have n0_ := Aside0.mk (blk_below (by exact BK183.out) hb)
      have n1_ := Aside0.mk (blk_below (by exact BK186.out) hb)
      have n2_ := Aside0.mk (below_step (by repeat (first | (with_reducible first | exact HB.out | apply below_alloc | apply pw_below_drewN | apply below_drew1 | refine below_set ?_ GE183.out | refine below_set ?_ GE186.out) | exact HB.out)) hb)
      have z_BK191 := fun (h0_ : b 8 = true) (h1_ : b 10 = false) => (show w49.heap[gb191]? = some (.cells #[.int .u64 0, .int .u64 0] 26 (0, 0)) from by first | exact (blk_below (g := gb191) (o := .cells #[.int .u64 0, .int .u64 0] 26 (0, 0)) (by exact (Q_BK191 h0_ h1_)) hb))
      have z_BK192 := fun (h0_ : b 9 = true) (h1_ : b 11 = false) => (show w49.heap[gb192]? = some (.cells #[.int .u64 0, .int .u64 0] 26 (0, 0)) from by first | exact (blk_below (g := gb192) (o := .cells #[.int .u64 0, .int .u64 0] 26 (0, 0)) (by exact (Q_BK192 h0_ h1_)) hb))
      clear BK183
      clear BK186
      clear HB
      have BK183 := n0_
      have BK186 := n1_
      have HB := n2_
      clear n0_ n1_ n2_
      (try clear hb)
      (try clear hb2)
      (try clear hk)
      (try clear hi)
      refine hK.out _ _ ⟨gb191, gb192, m8_, m9_, (by rw [ha.out]; exact putSel_upk 1 hb_ rfl rfl rfl), (by exact BK183.out), (by exact BK186.out), (by repeat (first | (with_reducible first | exact HB.out | apply below_alloc | apply pw_below_drewN | apply below_drew1 | refine below_set ?_ GE183.out | refine below_set ?_ GE186.out) | exact HB.out)), Q_NB192_191, Q_NB191_192, z_BK191, Q_GW191, Q_GE191, Q_NB183_191, Q_NB191_183, Q_NB186_191, Q_NB191_186, z_BK192, Q_GW192, Q_GE192, Q_NB183_192, Q_NB192_183, Q_NB186_192, Q_NB192_186, fun h0_ => absurd ((hoff 10 (by kernel_rfl)).symm.trans h0_) (by decide), fun h0_ => absurd ((hoff 11 (by kernel_rfl)).symm.trans h0_) (by decide), Q_X8_, Q_X9_⟩
     refine steps_cons ?_ ?_
     ·rintro b a w' ⟨gb191, gb192, m8_, m9_, ha, Q_BK183, Q_BK186, Q_HB, Q_NB192_191, Q_NB191_192, Q_BK191, Q_GW191, Q_GE191, Q_NB183_191, Q_NB191_183, Q_NB186_191, Q_NB191_186, Q_BK192, Q_GW192, Q_GE192, Q_NB183_192, Q_NB192_183, Q_NB186_192, Q_NB192_186, Q_BK191_e10, Q_BK192_e11, Q_X8_, Q_X9_⟩ hb_ hon hoff
      refine ⟨_, rfl, fun K hK => ?_⟩
      have e21 : a.tmps[21]? = some (.pointer (some ⟨gb186, 0, none⟩)) := by rw [ha]; exact (putSel_off rfl).trans rfl
      replace ha := Aside0.mk ha
      have BK183 := Aside0.mk Q_BK183
      have BK186 := Aside0.mk Q_BK186
      have HB := Aside0.mk Q_HB
      have hc0_ : w'.cell? ⟨gb186, 0, none⟩ = some (.int .u64 t184) := (blk_cell BK186.out 0).trans rfl
      have hc1_ : w'.cell? ⟨gb186, 1, none⟩ = some (.int .u64 t185) := (blk_cell BK186.out 1).trans rfl
      refine value_ (w1 := w') (v := .int .u64 t184) (by rfl) rfl ?_ ?_
      ·go_simp
       (try simp only [i64_w])
       try rfl
      refine hK.out _ _ ⟨gb191, gb192, m8_, m9_, (by rw [ha.out]; exact putSel_upk 2 hb_ rfl rfl rfl), Q_BK183, Q_BK186, Q_HB, Q_NB192_191, Q_NB191_192, Q_BK191, Q_GW191, Q_GE191, Q_NB183_191, Q_NB191_183, Q_NB186_191, Q_NB191_186, Q_BK192, Q_GW192, Q_GE192, Q_NB183_192, Q_NB192_183, Q_NB186_192, Q_NB192_186, fun h0_ => absurd ((hoff 10 (by kernel_rfl)).symm.trans h0_) (by decide), fun h0_ => absurd ((hoff 11 (by kernel_rfl)).symm.trans h0_) (by decide), Q_X8_, Q_X9_⟩
     refine steps_cons ?_ ?_
     ·rintro b a w' ⟨gb191, gb192, m8_, m9_, ha, Q_BK183, Q_BK186, Q_HB, Q_NB192_191, Q_NB191_192, Q_BK191, Q_GW191, Q_GE191, Q_NB183_191, Q_NB191_183, Q_NB186_191, Q_NB191_186, Q_BK192, Q_GW192, Q_GE192, Q_NB183_192, Q_NB192_183, Q_NB186_192, Q_NB192_186, Q_BK191_e10, Q_BK192_e11, Q_X8_, Q_X9_⟩ hb_ hon hoff
      refine ⟨_, rfl, fun K hK => ?_⟩
      have e22 : a.tmps[22]? = some (.int .u64 t184) := by rw [ha]; exact putSel_on (e := (5, 22, .int .u64 t184)) 2 rfl rfl (hon 5 (by kernel_rfl)) rfl
      have e23 : a.tmps[23]? = some (.int .u64 a1) := by rw [ha]; exact (putSel_off rfl).trans rfl
      replace ha := Aside0.mk ha
      have BK183 := Aside0.mk Q_BK183
      have BK186 := Aside0.mk Q_BK186
      have HB := Aside0.mk Q_HB
      refine goes_ Try.func14 (by kernel_rfl) rfl #[.int .u64 t184, .int .u64 a1] (by rfl) rfl rfl (by first | (simp only [List.map_toArray, List.map_cons, List.map_nil, Act.eval, Array.getD_eq_getD_getElem?, Option.getD_some, e22, e23]; done) | (simp only [List.map_toArray, List.map_cons, List.map_nil, Act.eval, Array.getD_eq_getD_getElem?, Option.getD_some, e22, e23]; rfl)) ?_
      with_reducible refine (overfallref01_Mul.calls k t184 a1 t189 t190 _ A7.out).mono ?_
      rintro e w51 ⟨rfl, hb⟩
      refine ⟨_, rfl, ?_⟩
      have n0_ := Aside0.mk (blk_below (by exact BK183.out) hb)
      have n1_ := Aside0.mk (blk_below (by exact BK186.out) hb)
      have n2_ := Aside0.mk (below_step (by repeat (first | (with_reducible first | exact HB.out | apply below_alloc | apply pw_below_drewN | apply below_drew1 | refine below_set ?_ GE183.out | refine below_set ?_ GE186.out) | exact HB.out)) hb)
      have z_BK191 := fun (h0_ : b 8 = true) (h1_ : b 10 = false) => (show w51.heap[gb191]? = some (.cells #[.int .u64 0, .int .u64 0] 26 (0, 0)) from by first | exact (blk_below (g := gb191) (o := .cells #[.int .u64 0, .int .u64 0] 26 (0, 0)) (by exact (Q_BK191 h0_ h1_)) hb))
      have z_BK192 := fun (h0_ : b 9 = true) (h1_ : b 11 = false) => (show w51.heap[gb192]? = some (.cells #[.int .u64 0, .int .u64 0] 26 (0, 0)) from by first | exact (blk_below (g := gb192) (o := .cells #[.int .u64 0, .int .u64 0] 26 (0, 0)) (by exact (Q_BK192 h0_ h1_)) hb))
      clear BK183
      clear BK186
      clear HB
      have BK183 := n0_
      have BK186 := n1_
      have HB := n2_
      clear n0_ n1_ n2_
      (try clear hb)
      (try clear hb2)
      (try clear hk)
      (try clear hi)
      refine hK.out _ _ ⟨gb191, gb192, m8_, m9_, (by rw [ha.out]; exact putSel_upk 3 hb_ rfl rfl rfl), (by exact BK183.out), (by exact BK186.out), (by repeat (first | (with_reducible first | exact HB.out | apply below_alloc | apply pw_below_drewN | apply below_drew1 | refine below_set ?_ GE183.out | refine below_set ?_ GE186.out) | exact HB.out)), Q_NB192_191, Q_NB191_192, z_BK191, Q_GW191, Q_GE191, Q_NB183_191, Q_NB191_183, Q_NB186_191, Q_NB191_186, z_BK192, Q_GW192, Q_GE192, Q_NB183_192, Q_NB192_183, Q_NB186_192, Q_NB192_186, fun h0_ => absurd ((hoff 10 (by kernel_rfl)).symm.trans h0_) (by decide), fun h0_ => absurd ((hoff 11 (by kernel_rfl)).symm.trans h0_) (by decide), Q_X8_, Q_X9_⟩
     refine steps_cons ?_ ?_
     ·rintro b a w' ⟨gb191, gb192, m8_, m9_, ha, Q_BK183, Q_BK186, Q_HB, Q_NB192_191, Q_NB191_192, Q_BK191, Q_GW191, Q_GE191, Q_NB183_191, Q_NB191_183, Q_NB186_191, Q_NB191_186, Q_BK192, Q_GW192, Q_GE192, Q_NB183_192, Q_NB192_183, Q_NB186_192, Q_NB192_186, Q_BK191_e10, Q_BK192_e11, Q_X8_, Q_X9_⟩ hb_ hon hoff
      refine ⟨_, rfl, fun K hK => ?_⟩
      replace ha := Aside0.mk ha
      have BK183 := Aside0.mk Q_BK183
      have BK186 := Aside0.mk Q_BK186
      have HB := Aside0.mk Q_HB
      refine box_step ?hg (N := 8) ?hd (cs := #[.int .u64 0, .int .u64 0]) (t := 26) ?hr ?_; (case hd => rfl); (case hg => rfl); (case hr => first | (go_simp; done) | (go_simp; rfl))
      intro gb191 hg w49 hbox hb
      have n0_ := Aside0.mk (blk_below (by exact BK183.out) hb)
      have n1_ := Aside0.mk (blk_below (by exact BK186.out) hb)
      have n2_ := Aside0.mk (below_step (by repeat (first | (with_reducible first | exact HB.out | apply below_alloc | apply pw_below_drewN | apply below_drew1 | refine below_set ?_ GE183.out | refine below_set ?_ GE186.out) | exact HB.out)) hb)
      have n3_ := Aside0.mk (hbox)
      have n4_ := Aside0.mk ((by rw [hg]; exact (below_size (by repeat (first | (with_reducible first | exact HB.out | apply below_alloc | apply pw_below_drewN | apply below_drew1 | refine below_set ?_ GE183.out | refine below_set ?_ GE186.out) | exact HB.out))) : w.heap.size ≤ gb191))
      have n5_ := Aside0.mk ((by rw [hg]; exact (below_size (by repeat (first | (with_reducible first | exact HB.out | apply below_alloc | apply pw_below_drewN | apply below_drew1 | refine below_set ?_ GE183.out | refine below_set ?_ GE186.out) | exact HB.out))) : w.heap.size ≤ gb191))
      have n6_ := Aside0.mk ((by rw [hg]; exact Nat.ne_of_lt (blk_lt (by exact BK183.out)) : gb183 ≠ gb191))
      have n7_ := Aside0.mk ((by rw [hg]; exact Nat.ne_of_gt (blk_lt (by exact BK183.out)) : gb191 ≠ gb183))
      have n8_ := Aside0.mk ((by rw [hg]; exact Nat.ne_of_lt (blk_lt (by exact BK186.out)) : gb186 ≠ gb191))
      have n9_ := Aside0.mk ((by rw [hg]; exact Nat.ne_of_gt (blk_lt (by exact BK186.out)) : gb191 ≠ gb186))
      have z_NB192_191 := fun (h0_ : up b 8 8 = true) (h1_ : up b 8 9 = true) => (show gb192 ≠ gb191 from ((by rw [hg]; exact Nat.ne_of_lt (blk_lt (by exact (Q_BK192 h1_ (hoff 11 (by kernel_rfl))))) : gb192 ≠ gb191)))
      have z_NB191_192 := fun (h0_ : up b 8 8 = true) (h1_ : up b 8 9 = true) => (show gb191 ≠ gb192 from ((by rw [hg]; exact Nat.ne_of_gt (blk_lt (by exact (Q_BK192 h1_ (hoff 11 (by kernel_rfl))))) : gb191 ≠ gb192)))
      have z_BK192 := fun (h0_ : b 9 = true) (h1_ : b 11 = false) => (show w49.heap[gb192]? = some (.cells #[.int .u64 0, .int .u64 0] 26 (0, 0)) from by first | exact (blk_below (g := gb192) (o := .cells #[.int .u64 0, .int .u64 0] 26 (0, 0)) (by exact (Q_BK192 h0_ h1_)) hb))
      clear BK183
      clear BK186
      clear HB
      have BK183 := n0_
      have BK186 := n1_
      have HB := n2_
      have BK191 := n3_
      have GW191 := n4_
      have GE191 := n5_
      have NB183_191 := n6_
      have NB191_183 := n7_
      have NB186_191 := n8_
      have NB191_186 := n9_
      clear n0_ n1_ n2_ n3_ n4_ n5_ n6_ n7_ n8_ n9_
      clear hb hbox hg
      refine hK.out _ _ ⟨gb191, gb192, (.pointer (some ⟨gb191, 0, none⟩)), m9_, (by rw [ha.out]; exact putSel_upk 4 hb_ rfl rfl rfl), (by exact BK183.out), (by exact BK186.out), (by repeat (first | (with_reducible first | exact HB.out | apply below_alloc | apply pw_below_drewN | apply below_drew1 | refine below_set ?_ GE183.out | refine below_set ?_ GE186.out | refine below_set ?_ GE191.out) | exact HB.out)), @z_NB192_191, @z_NB191_192, fun _ _ => (by exact BK191.out), fun _ => GW191.out, fun _ => GE191.out, fun _ => NB183_191.out, fun _ => NB191_183.out, fun _ => NB186_191.out, fun _ => NB191_186.out, z_BK192, Q_GW192, Q_GE192, Q_NB183_192, Q_NB192_183, Q_NB186_192, Q_NB192_186, fun h0_ => absurd ((hoff 10 (by kernel_rfl)).symm.trans h0_) (by decide), fun h0_ => absurd ((hoff 11 (by kernel_rfl)).symm.trans h0_) (by decide), fun _ => rfl, Q_X9_⟩
     refine steps_cons ?_ ?_
     ·rintro b a w' ⟨gb191, gb192, m8_, m9_, ha, Q_BK183, Q_BK186, Q_HB, Q_NB192_191, Q_NB191_192, Q_BK191, Q_GW191, Q_GE191, Q_NB183_191, Q_NB191_183, Q_NB186_191, Q_NB191_186, Q_BK192, Q_GW192, Q_GE192, Q_NB183_192, Q_NB192_183, Q_NB186_192, Q_NB192_186, Q_BK191_e10, Q_BK192_e11, Q_X8_, Q_X9_⟩ hb_ hon hoff
      refine ⟨_, rfl, fun K hK => ?_⟩
      replace ha := Aside0.mk ha
      have BK183 := Aside0.mk Q_BK183
      have BK186 := Aside0.mk Q_BK186
      have HB := Aside0.mk Q_HB
      refine box_step ?hg (N := 9) ?hd (cs := #[.int .u64 0, .int .u64 0]) (t := 26) ?hr ?_; (case hd => rfl); (case hg => rfl); (case hr => first | (go_simp; done) | (go_simp; rfl))
      intro gb192 hg w49 hbox hb
      have n0_ := Aside0.mk (blk_below (by exact BK183.out) hb)
      have n1_ := Aside0.mk (blk_below (by exact BK186.out) hb)
      have n2_ := Aside0.mk (below_step (by repeat (first | (with_reducible first | exact HB.out | apply below_alloc | apply pw_below_drewN | apply below_drew1 | refine below_set ?_ GE183.out | refine below_set ?_ GE186.out) | exact HB.out)) hb)
      have n3_ := Aside0.mk (hbox)
      have n4_ := Aside0.mk ((by rw [hg]; exact (below_size (by repeat (first | (with_reducible first | exact HB.out | apply below_alloc | apply pw_below_drewN | apply below_drew1 | refine below_set ?_ GE183.out | refine below_set ?_ GE186.out) | exact HB.out))) : w.heap.size ≤ gb192))
      have n5_ := Aside0.mk ((by rw [hg]; exact (below_size (by repeat (first | (with_reducible first | exact HB.out | apply below_alloc | apply pw_below_drewN | apply below_drew1 | refine below_set ?_ GE183.out | refine below_set ?_ GE186.out) | exact HB.out))) : w.heap.size ≤ gb192))
      have n6_ := Aside0.mk ((by rw [hg]; exact Nat.ne_of_lt (blk_lt (by exact BK183.out)) : gb183 ≠ gb192))
      have n7_ := Aside0.mk ((by rw [hg]; exact Nat.ne_of_gt (blk_lt (by exact BK183.out)) : gb192 ≠ gb183))
      have n8_ := Aside0.mk ((by rw [hg]; exact Nat.ne_of_lt (blk_lt (by exact BK186.out)) : gb186 ≠ gb192))
      have n9_ := Aside0.mk ((by rw [hg]; exact Nat.ne_of_gt (blk_lt (by exact BK186.out)) : gb192 ≠ gb186))
      have z_NB192_191 := fun (h0_ : up b 9 8 = true) (h1_ : up b 9 9 = true) => (show gb192 ≠ gb191 from ((by rw [hg]; exact Nat.ne_of_gt (blk_lt (by exact (Q_BK191 h0_ (hoff 10 (by kernel_rfl))))) : gb192 ≠ gb191)))
      have z_NB191_192 := fun (h0_ : up b 9 8 = true) (h1_ : up b 9 9 = true) => (show gb191 ≠ gb192 from ((by rw [hg]; exact Nat.ne_of_lt (blk_lt (by exact (Q_BK191 h0_ (hoff 10 (by kernel_rfl))))) : gb191 ≠ gb192)))
      have z_BK191 := fun (h0_ : b 8 = true) (h1_ : b 10 = false) => (show w49.heap[gb191]? = some (.cells #[.int .u64 0, .int .u64 0] 26 (0, 0)) from by first | exact (blk_below (g := gb191) (o := .cells #[.int .u64 0, .int .u64 0] 26 (0, 0)) (by exact (Q_BK191 h0_ h1_)) hb))
      clear BK183
      clear BK186
      clear HB
      have BK183 := n0_
      have BK186 := n1_
      have HB := n2_
      have BK192 := n3_
      have GW192 := n4_
      have GE192 := n5_
      have NB183_192 := n6_
      have NB192_183 := n7_
      have NB186_192 := n8_
      have NB192_186 := n9_
      clear n0_ n1_ n2_ n3_ n4_ n5_ n6_ n7_ n8_ n9_
      clear hb hbox hg
      refine hK.out _ _ ⟨gb191, gb192, m8_, (.pointer (some ⟨gb192, 0, none⟩)), (by rw [ha.out]; exact putSel_upk 5 hb_ rfl rfl rfl), (by exact BK183.out), (by exact BK186.out), (by repeat (first | (with_reducible first | exact HB.out | apply below_alloc | apply pw_below_drewN | apply below_drew1 | refine below_set ?_ GE183.out | refine below_set ?_ GE186.out | refine below_set ?_ GE192.out) | exact HB.out)), @z_NB192_191, @z_NB191_192, z_BK191, Q_GW191, Q_GE191, Q_NB183_191, Q_NB191_183, Q_NB186_191, Q_NB191_186, fun _ _ => (by exact BK192.out), fun _ => GW192.out, fun _ => GE192.out, fun _ => NB183_192.out, fun _ => NB192_183.out, fun _ => NB186_192.out, fun _ => NB192_186.out, fun h0_ => absurd ((hoff 10 (by kernel_rfl)).symm.trans h0_) (by decide), fun h0_ => absurd ((hoff 11 (by kernel_rfl)).symm.trans h0_) (by decide), Q_X8_, fun _ => rfl⟩
     refine steps_cons ?_ ?_
     ·rintro b a w' ⟨gb191, gb192, m8_, m9_, ha, Q_BK183, Q_BK186, Q_HB, Q_NB192_191, Q_NB191_192, Q_BK191, Q_GW191, Q_GE191, Q_NB183_191, Q_NB191_183, Q_NB186_191, Q_NB191_186, Q_BK192, Q_GW192, Q_GE192, Q_NB183_192, Q_NB192_183, Q_NB186_192, Q_NB192_186, Q_BK191_e10, Q_BK192_e11, Q_X8_, Q_X9_⟩ hb_ hon hoff
      refine ⟨_, rfl, fun K hK => ?_⟩
      have e8 : a.tmps[8]? = some (m8_) := by rw [ha]; exact putSel_on (e := (8, 8, m8_)) 4 rfl rfl (hon 8 (by kernel_rfl)) rfl
      rw [Q_X8_ (hon 8 (by kernel_rfl))] at e8
      have e20 : a.tmps[20]? = some (.agg #[.int .u64 t187, .int .u64 t188]) := by rw [ha]; exact putSel_on (e := (3, 20, .agg #[.int .u64 t187, .int .u64 t188])) 1 rfl rfl (hon 3 (by kernel_rfl)) rfl
      replace ha := Aside0.mk ha
      have BK183 := Aside0.mk Q_BK183
      have BK186 := Aside0.mk Q_BK186
      have HB := Aside0.mk Q_HB
      have NB192_191 := Aside0.mk (Q_NB192_191 (hon 8 (by kernel_rfl)) (hon 9 (by kernel_rfl)))
      have NB191_192 := Aside0.mk (Q_NB191_192 (hon 8 (by kernel_rfl)) (hon 9 (by kernel_rfl)))
      have BK191 := Aside0.mk (Q_BK191 (hon 8 (by kernel_rfl)) hb_)
      have GW191 := Aside0.mk (Q_GW191 (hon 8 (by kernel_rfl)))
      have GE191 := Aside0.mk (Q_GE191 (hon 8 (by kernel_rfl)))
      have NB183_191 := Aside0.mk (Q_NB183_191 (hon 8 (by kernel_rfl)))
      have NB191_183 := Aside0.mk (Q_NB191_183 (hon 8 (by kernel_rfl)))
      have NB186_191 := Aside0.mk (Q_NB186_191 (hon 8 (by kernel_rfl)))
      have NB191_186 := Aside0.mk (Q_NB191_186 (hon 8 (by kernel_rfl)))
      have BK192 := Aside0.mk (Q_BK192 (hon 9 (by kernel_rfl)) (hoff 11 (by kernel_rfl)))
      have GW192 := Aside0.mk (Q_GW192 (hon 9 (by kernel_rfl)))
      have GE192 := Aside0.mk (Q_GE192 (hon 9 (by kernel_rfl)))
      have NB183_192 := Aside0.mk (Q_NB183_192 (hon 9 (by kernel_rfl)))
      have NB192_183 := Aside0.mk (Q_NB192_183 (hon 9 (by kernel_rfl)))
      have NB186_192 := Aside0.mk (Q_NB186_192 (hon 9 (by kernel_rfl)))
      have NB192_186 := Aside0.mk (Q_NB192_186 (hon 9 (by kernel_rfl)))
      have hs54 : w'.cell? ⟨gb191, 0, none⟩ = some (.int .u64 0) := (blk_cell BK191.out 0).trans rfl
      have hfs54 := blk_frozen BK191.out 0
      have hns54_0 := NB183_191.out
      have hns54_1 := NB186_191.out
      have hns54_3 := NB192_191.out
      have hms54_0 := NB191_183.out
      have hms54_1 := NB191_186.out
      have hms54_3 := NB191_192.out
      have hs55 : w'.cell? ⟨gb191, 1, none⟩ = some (.int .u64 0) := (blk_cell BK191.out 1).trans rfl
      have hfs55 := blk_frozen BK191.out 1
      have hns55_0 := NB183_191.out
      have hns55_1 := NB186_191.out
      have hns55_3 := NB192_191.out
      have hms55_0 := NB191_183.out
      have hms55_1 := NB191_186.out
      have hms55_3 := NB191_192.out
      refine skip_ (w1 := ?_) (by rfl) rfl ?_ ?_
      rotate_left
      ·go_simp
       rfl
      refine hK.out _ _ ⟨gb191, gb192, m8_, m9_, (by rw [ha.out]; exact putSel_none (v := undef) rfl), (by refine blk_far ?_ NB183_191.out _; refine blk_far ?_ NB183_191.out _; exact BK183.out), (by refine blk_far ?_ NB186_191.out _; refine blk_far ?_ NB186_191.out _; exact BK186.out), (by repeat (first | (with_reducible first | exact HB.out | apply below_alloc | apply pw_below_drewN | apply below_drew1 | refine below_set ?_ GE183.out | refine below_set ?_ GE186.out | refine below_set ?_ GE191.out | refine below_set ?_ GE192.out) | exact HB.out)), fun _ _ => NB192_191.out, fun _ _ => NB191_192.out, fun _ h1_ => absurd ((up_self b 10).symm.trans h1_) (by decide), fun _ => GW191.out, fun _ => GE191.out, fun _ => NB183_191.out, fun _ => NB191_183.out, fun _ => NB186_191.out, fun _ => NB191_186.out, fun _ _ => (by refine blk_far ?_ NB192_191.out _; refine blk_far ?_ NB192_191.out _; exact BK192.out), fun _ => GW192.out, fun _ => GE192.out, fun _ => NB183_192.out, fun _ => NB192_183.out, fun _ => NB186_192.out, fun _ => NB192_186.out, fun _ => (by refine blk_put (cs := #[.int .u64 t187, .int .u64 0]) ?_ 1 _ rfl; refine blk_put (cs := #[.int .u64 0, .int .u64 0]) ?_ 0 _ rfl; exact BK191.out), fun h0_ => absurd ((hoff 11 (by kernel_rfl)).symm.trans h0_) (by decide), Q_X8_, Q_X9_⟩
     refine steps_cons ?_ ?_
     ·rintro b a w' ⟨gb191, gb192, m8_, m9_, ha, Q_BK183, Q_BK186, Q_HB, Q_NB192_191, Q_NB191_192, Q_BK191, Q_GW191, Q_GE191, Q_NB183_191, Q_NB191_183, Q_NB186_191, Q_NB191_186, Q_BK192, Q_GW192, Q_GE192, Q_NB183_192, Q_NB192_183, Q_NB186_192, Q_NB192_186, Q_BK191_e10, Q_BK192_e11, Q_X8_, Q_X9_⟩ hb_ hon hoff
      refine ⟨_, rfl, fun K hK => ?_⟩
      have e9 : a.tmps[9]? = some (m9_) := by rw [ha]; exact putSel_on (e := (9, 9, m9_)) 5 rfl rfl (hon 9 (by kernel_rfl)) rfl
      rw [Q_X9_ (hon 9 (by kernel_rfl))] at e9
      have e24 : a.tmps[24]? = some (.agg #[.int .u64 t189, .int .u64 t190]) := by rw [ha]; exact putSel_on (e := (7, 24, .agg #[.int .u64 t189, .int .u64 t190])) 3 rfl rfl (hon 7 (by kernel_rfl)) rfl
      replace ha := Aside0.mk ha
      have BK183 := Aside0.mk Q_BK183
      have BK186 := Aside0.mk Q_BK186
      have HB := Aside0.mk Q_HB
      have NB192_191 := Aside0.mk (Q_NB192_191 (hon 8 (by kernel_rfl)) (hon 9 (by kernel_rfl)))
      have NB191_192 := Aside0.mk (Q_NB191_192 (hon 8 (by kernel_rfl)) (hon 9 (by kernel_rfl)))
      have GW191 := Aside0.mk (Q_GW191 (hon 8 (by kernel_rfl)))
      have GE191 := Aside0.mk (Q_GE191 (hon 8 (by kernel_rfl)))
      have NB183_191 := Aside0.mk (Q_NB183_191 (hon 8 (by kernel_rfl)))
      have NB191_183 := Aside0.mk (Q_NB191_183 (hon 8 (by kernel_rfl)))
      have NB186_191 := Aside0.mk (Q_NB186_191 (hon 8 (by kernel_rfl)))
      have NB191_186 := Aside0.mk (Q_NB191_186 (hon 8 (by kernel_rfl)))
      have BK192 := Aside0.mk (Q_BK192 (hon 9 (by kernel_rfl)) hb_)
      have GW192 := Aside0.mk (Q_GW192 (hon 9 (by kernel_rfl)))
      have GE192 := Aside0.mk (Q_GE192 (hon 9 (by kernel_rfl)))
      have NB183_192 := Aside0.mk (Q_NB183_192 (hon 9 (by kernel_rfl)))
      have NB192_183 := Aside0.mk (Q_NB192_183 (hon 9 (by kernel_rfl)))
      have NB186_192 := Aside0.mk (Q_NB186_192 (hon 9 (by kernel_rfl)))
      have NB192_186 := Aside0.mk (Q_NB192_186 (hon 9 (by kernel_rfl)))
      have BK191 := Aside0.mk (Q_BK191_e10 (hon 10 (by kernel_rfl)))
      have hs56 : w'.cell? ⟨gb192, 0, none⟩ = some (.int .u64 0) := (blk_cell BK192.out 0).trans rfl
      have hfs56 := blk_frozen BK192.out 0
      have hns56_0 := NB183_192.out
      have hns56_1 := NB186_192.out
      have hns56_2 := NB191_192.out
      have hms56_0 := NB192_183.out
      have hms56_1 := NB192_186.out
      have hms56_2 := NB192_191.out
      have hs57 : w'.cell? ⟨gb192, 1, none⟩ = some (.int .u64 0) := (blk_cell BK192.out 1).trans rfl
      have hfs57 := blk_frozen BK192.out 1
      have hns57_0 := NB183_192.out
      have hns57_1 := NB186_192.out
      have hns57_2 := NB191_192.out
      have hms57_0 := NB192_183.out
      have hms57_1 := NB192_186.out
      have hms57_2 := NB192_191.out
      refine skip_ (w1 := ?_) (by rfl) rfl ?_ ?_
      rotate_left
      ·go_simp
       rfl
      refine hK.out _ _ ⟨gb191, gb192, m8_, m9_, (by rw [ha.out]; exact putSel_none (v := undef) rfl), (by refine blk_far ?_ NB183_192.out _; refine blk_far ?_ NB183_192.out _; exact BK183.out), (by refine blk_far ?_ NB186_192.out _; refine blk_far ?_ NB186_192.out _; exact BK186.out), (by repeat (first | (with_reducible first | exact HB.out | apply below_alloc | apply pw_below_drewN | apply below_drew1 | refine below_set ?_ GE183.out | refine below_set ?_ GE186.out | refine below_set ?_ GE191.out | refine below_set ?_ GE192.out) | exact HB.out)), fun _ _ => NB192_191.out, fun _ _ => NB191_192.out, fun _ h1_ => absurd ((hon 10 (by kernel_rfl)).symm.trans h1_) (by decide), fun _ => GW191.out, fun _ => GE191.out, fun _ => NB183_191.out, fun _ => NB191_183.out, fun _ => NB186_191.out, fun _ => NB191_186.out, fun _ h1_ => absurd ((up_self b 11).symm.trans h1_) (by decide), fun _ => GW192.out, fun _ => GE192.out, fun _ => NB183_192.out, fun _ => NB192_183.out, fun _ => NB186_192.out, fun _ => NB192_186.out, fun _ => (by refine blk_far ?_ NB191_192.out _; refine blk_far ?_ NB191_192.out _; exact BK191.out), fun _ => (by refine blk_put (cs := #[.int .u64 t189, .int .u64 0]) ?_ 1 _ rfl; refine blk_put (cs := #[.int .u64 0, .int .u64 0]) ?_ 0 _ rfl; exact BK192.out), Q_X8_, Q_X9_⟩
     exact steps_nil
    rintro b a w57 hall ⟨gb191, gb192, m8_, m9_, ha, Q_BK183, Q_BK186, Q_HB, Q_NB192_191, Q_NB191_192, Q_BK191, Q_GW191, Q_GE191, Q_NB183_191, Q_NB191_183, Q_NB186_191, Q_NB191_186, Q_BK192, Q_GW192, Q_GE192, Q_NB183_192, Q_NB192_183, Q_NB186_192, Q_NB192_186, Q_BK191_e10, Q_BK192_e11, Q_X8_, Q_X9_⟩
    clear BK183 BK186 HB
    have hb1_ := hall 1 (by kernel_rfl)
    have hb3_ := hall 3 (by kernel_rfl)
    have hb5_ := hall 5 (by kernel_rfl)
    have hb7_ := hall 7 (by kernel_rfl)
    have hb8_ := hall 8 (by kernel_rfl)
    have hb9_ := hall 9 (by kernel_rfl)
    have hb10_ := hall 10 (by kernel_rfl)
    have hb11_ := hall 11 (by kernel_rfl)
    subst ha
    obtain rfl := Q_X8_ hb8_
    obtain rfl := Q_X9_ hb9_
    simp only [putSel, hb1_, hb3_, hb5_, hb7_, hb8_, hb9_, hb10_, hb11_, if_true, Act.put, List.setIfInBounds_toArray, List.set_cons_zero, List.set_cons_succ]
    have BK183 := Aside0.mk Q_BK183
    clear Q_BK183
    have BK186 := Aside0.mk Q_BK186
    clear Q_BK186
    have HB := Aside0.mk Q_HB
    clear Q_HB
    have NB192_191 := Aside0.mk (Q_NB192_191 hb8_ hb9_)
    clear Q_NB192_191
    have NB191_192 := Aside0.mk (Q_NB191_192 hb8_ hb9_)
    clear Q_NB191_192
    clear Q_BK191
    have GW191 := Aside0.mk (Q_GW191 hb8_)
    clear Q_GW191
    have GE191 := Aside0.mk (Q_GE191 hb8_)
    clear Q_GE191
    have NB183_191 := Aside0.mk (Q_NB183_191 hb8_)
    clear Q_NB183_191
    have NB191_183 := Aside0.mk (Q_NB191_183 hb8_)
    clear Q_NB191_183
    have NB186_191 := Aside0.mk (Q_NB186_191 hb8_)
    clear Q_NB186_191
    have NB191_186 := Aside0.mk (Q_NB191_186 hb8_)
    clear Q_NB191_186
    clear Q_BK192
    have GW192 := Aside0.mk (Q_GW192 hb9_)
    clear Q_GW192
    have GE192 := Aside0.mk (Q_GE192 hb9_)
    clear Q_GE192
    have NB183_192 := Aside0.mk (Q_NB183_192 hb9_)
    clear Q_NB183_192
    have NB192_183 := Aside0.mk (Q_NB192_183 hb9_)
    clear Q_NB192_183
    have NB186_192 := Aside0.mk (Q_NB186_192 hb9_)
    clear Q_NB186_192
    have NB192_186 := Aside0.mk (Q_NB192_186 hb9_)
    clear Q_NB192_186
    have BK191 := Aside0.mk (Q_BK191_e10 hb10_)
    clear Q_BK191_e10
    have BK192 := Aside0.mk (Q_BK192_e11 hb11_)
    clear Q_BK192_e11
    clear hall hb1_ hb3_ hb5_ hb7_ hb8_ hb9_ hb10_ hb11_
    have hnb58 := NB191_183.out
    have hnc58 := NB183_191.out
    have hnb59 := NB191_186.out
    have hnc59 := NB186_191.out
    have hnb60 := NB191_192.out
    have hnc60 := NB192_191.out
    have hcz61_0 : w57.cell? ⟨gb191, 0, none⟩ = some (.int .u64 t187) := (blk_cell BK191.out 0).trans rfl
    have hcz61_1 : w57.cell? ⟨gb191, 1, none⟩ = some (.int .u64 t188) := (blk_cell BK191.out 1).trans rfl
    have hfz61_0 := blk_frozen BK191.out 0
    have hfz61_1 := blk_frozen BK191.out 1
    have hnb62 := NB192_183.out
    have hnc62 := NB183_192.out
    have hnb63 := NB192_186.out
    have hnc63 := NB186_192.out
    have hcz64_0 : w57.cell? ⟨gb192, 0, none⟩ = some (.int .u64 t189) := (blk_cell BK192.out 0).trans rfl
    have hcz64_1 : w57.cell? ⟨gb192, 1, none⟩ = some (.int .u64 t190) := (blk_cell BK192.out 1).trans rfl
    have hfz64_0 := blk_frozen BK192.out 0
    have hfz64_1 := blk_frozen BK192.out 1
    try go_wp2_with (first | ((with_reducible refine gate_callee (f := 21) rfl ?_); refine goesL_ (some 30) rfl rfl Try.func21 (by kernel_rfl) rfl #[.agg #[.int .u64 t187, .int .u64 t188], .agg #[.int .u64 t190, .int .u64 0]] rfl (by (try simp only [List.map_toArray, List.map_cons, List.map_nil]); first | done | rfl | (simp only [List.length_drop, List.length_take]; rfl)) ?_; (with_reducible refine (overfallref01_Add.calls k t187 t188 t190 0 t193 t194 true _ A8.out).mono ?_); rintro e w65 ⟨rfl, hb⟩; refine ⟨_, rfl, ?_⟩; have n0_ := Aside0.mk (blk_below (by exact BK183.out) hb); have n1_ := Aside0.mk (blk_below (by exact BK186.out) hb); have n2_ := Aside0.mk (blk_below (by exact BK191.out) hb); have n3_ := Aside0.mk (blk_below (by exact BK192.out) hb); have n4_ := Aside0.mk (below_step (by repeat (first | (with_reducible first | exact HB.out | apply below_alloc | apply pw_below_drewN | apply below_drew1 | refine below_set ?_ GE183.out | refine below_set ?_ GE186.out | refine below_set ?_ GE191.out | refine below_set ?_ GE192.out) | exact HB.out)) hb); clear BK183; clear BK186; clear BK191; clear BK192; clear HB; have BK183 := n0_; have BK186 := n1_; have BK191 := n2_; have BK192 := n3_; have HB := n4_; clear n0_ n1_ n2_ n3_ n4_; (try clear hb); (try clear hb2); (try clear hk); (try clear hi)) | ((with_reducible refine gate_dst (N := 10) rfl ?_); refine box_event ?hg (N := 10) ?hd (cs := #[.int .u64 0, .int .u64 0]) (t := 26) ?hr ?_; (case hd => rfl); (case hg => rfl); (case hr => first | (go_simp; done) | (go_simp; rfl)); intro gb196 hg w66 hbox hb; have n0_ := Aside0.mk (blk_below (by exact BK183.out) hb); have n1_ := Aside0.mk (blk_below (by exact BK186.out) hb); have n2_ := Aside0.mk (blk_below (by exact BK191.out) hb); have n3_ := Aside0.mk (blk_below (by exact BK192.out) hb); have n4_ := Aside0.mk (below_step (by repeat (first | (with_reducible first | exact HB.out | apply below_alloc | apply pw_below_drewN | apply below_drew1 | refine below_set ?_ GE183.out | refine below_set ?_ GE186.out | refine below_set ?_ GE191.out | refine below_set ?_ GE192.out) | exact HB.out)) hb); have n5_ := Aside0.mk (hbox); have n6_ := Aside0.mk ((by rw [hg]; exact (below_size (by repeat (first | (with_reducible first | exact HB.out | apply below_alloc | apply pw_below_drewN | apply below_drew1 | refine below_set ?_ GE183.out | refine below_set ?_ GE186.out | refine below_set ?_ GE191.out | refine below_set ?_ GE192.out) | exact HB.out))) : w.heap.size ≤ gb196)); have n7_ := Aside0.mk ((by rw [hg]; exact (below_size (by repeat (first | (with_reducible first | exact HB.out | apply below_alloc | apply pw_below_drewN | apply below_drew1 | refine below_set ?_ GE183.out | refine below_set ?_ GE186.out | refine below_set ?_ GE191.out | refine below_set ?_ GE192.out) | exact HB.out))) : w.heap.size ≤ gb196)); have n8_ := Aside0.mk ((by rw [hg]; exact Nat.ne_of_lt (blk_lt (by exact BK183.out)) : gb183 ≠ gb196)); have n9_ := Aside0.mk ((by rw [hg]; exact Nat.ne_of_gt (blk_lt (by exact BK183.out)) : gb196 ≠ gb183)); have n10_ := Aside0.mk ((by rw [hg]; exact Nat.ne_of_lt (blk_lt (by exact BK186.out)) : gb186 ≠ gb196)); have n11_ := Aside0.mk ((by rw [hg]; exact Nat.ne_of_gt (blk_lt (by exact BK186.out)) : gb196 ≠ gb186)); have n12_ := Aside0.mk ((by rw [hg]; exact Nat.ne_of_lt (blk_lt (by exact BK191.out)) : gb191 ≠ gb196)); have n13_ := Aside0.mk ((by rw [hg]; exact Nat.ne_of_gt (blk_lt (by exact BK191.out)) : gb196 ≠ gb191)); have n14_ := Aside0.mk ((by rw [hg]; exact Nat.ne_of_lt (blk_lt (by exact BK192.out)) : gb192 ≠ gb196)); have n15_ := Aside0.mk ((by rw [hg]; exact Nat.ne_of_gt (blk_lt (by exact BK192.out)) : gb196 ≠ gb192)); clear BK183; clear BK186; clear BK191; clear BK192; clear HB; have BK183 := n0_; have BK186 := n1_; have BK191 := n2_; have BK192 := n3_; have HB := n4_; have BK196 := n5_; have GW196 := n6_; have GE196 := n7_; have NB183_196 := n8_; have NB196_183 := n9_; have NB186_196 := n10_; have NB196_186 := n11_; have NB191_196 := n12_; have NB196_191 := n13_; have NB192_196 := n14_; have NB196_192 := n15_; clear n0_ n1_ n2_ n3_ n4_ n5_ n6_ n7_ n8_ n9_ n10_ n11_ n12_ n13_ n14_ n15_; clear hb hbox hg; have hnb67 := NB196_183.out; have hnc67 := NB183_196.out; have hnb68 := NB196_186.out; have hnc68 := NB186_196.out; have hnb69 := NB196_191.out; have hnc69 := NB191_196.out; have hnb70 := NB196_192.out; have hnc70 := NB192_196.out; have hcz71_0 : w66.cell? ⟨gb196, 0, none⟩ = some (.int .u64 0) := (blk_cell BK196.out 0).trans rfl; have hcz71_1 : w66.cell? ⟨gb196, 1, none⟩ = some (.int .u64 0) := (blk_cell BK196.out 1).trans rfl; have hfz71_0 := blk_frozen BK196.out 0; have hfz71_1 := blk_frozen BK196.out 1; have hcz72_0 : w66.cell? ⟨gb192, 0, none⟩ = some (.int .u64 t189) := (blk_cell BK192.out 0).trans rfl; have hcz72_1 : w66.cell? ⟨gb192, 1, none⟩ = some (.int .u64 t190) := (blk_cell BK192.out 1).trans rfl; have hfz72_0 := blk_frozen BK192.out 0; have hfz72_1 := blk_frozen BK192.out 1))
    go_ret
    exact ⟨by first | rfl | (simp [errW_none, errW_some] <;> rfl) | (simp [*, errW_none, errW_some] <;> rfl), by repeat (first | (with_reducible first | exact HB.out | apply below_alloc | apply pw_below_drewN | apply below_drew1 | refine below_set ?_ GE183.out | refine below_set ?_ GE186.out | refine below_set ?_ GE191.out | refine below_set ?_ GE192.out | refine below_set ?_ GE196.out) | exact HB.out)⟩
   ·replace c41 := Bool.eq_false_iff.mpr c41
    subst c41
    have H1 : ((overfallref01_Less.f a2_0 a2_1 t193 t194).bind fun t197 => (some (!t197))) = some r := by rw [if_neg (show ¬ (false = true) by decide)] at H; exact H
    clear H
    have H := H1
    clear H1
    replace H := Option.bind_eq_some_iff.mp H
    obtain ⟨t197, A730, H⟩ := H
    replace H : (some (!t197)) = some r := H
    have A73 := Aside0.mk A730
    clear A730
    obtain rfl := Option.some.inj H
    go_enter Try.func11, Try.ntmps11
    try go_wp2_with (first | ((with_reducible refine gate_dst (N := 5) rfl ?_); refine box_event ?hg (N := 5) ?hd (cs := #[.int .u64 a2_0, .int .u64 a2_1]) (t := 26) ?hr ?_; (case hd => rfl); (case hg => rfl); (case hr => first | (go_simp; done) | (go_simp; rfl)); intro gb183 hg w74 hbox hb; have n0_ := Aside0.mk (below_step (by repeat (first | (with_reducible first | exact HB.out | apply below_alloc | apply pw_below_drewN | apply below_drew1) | exact HB.out)) hb); have n1_ := Aside0.mk (hbox); have n2_ := Aside0.mk ((by rw [hg]; exact (below_size (by repeat (first | (with_reducible first | exact HB.out | apply below_alloc | apply pw_below_drewN | apply below_drew1) | exact HB.out))) : w.heap.size ≤ gb183)); have n3_ := Aside0.mk ((by rw [hg]; exact (below_size (by repeat (first | (with_reducible first | exact HB.out | apply below_alloc | apply pw_below_drewN | apply below_drew1) | exact HB.out))) : w.heap.size ≤ gb183)); clear HB; have HB := n0_; have BK183 := n1_; have GW183 := n2_; have GE183 := n3_; clear n0_ n1_ n2_ n3_; clear hb hbox hg) | ((with_reducible refine gate_callee (f := 14) rfl ?_); refine goesL_ (some 14) rfl rfl Try.func14 (by kernel_rfl) rfl #[.int .u64 a0, .int .u64 a0] rfl (by (try simp only [List.map_toArray, List.map_cons, List.map_nil]); first | done | rfl | (simp only [List.length_drop, List.length_take]; rfl)) ?_; (with_reducible refine (overfallref01_Mul.calls k a0 a0 t184 t185 _ A4.out).mono ?_); rintro e w75 ⟨rfl, hb⟩; refine ⟨_, rfl, ?_⟩; have n0_ := Aside0.mk (blk_below (by exact BK183.out) hb); have n1_ := Aside0.mk (below_step (by repeat (first | (with_reducible first | exact HB.out | apply below_alloc | apply pw_below_drewN | apply below_drew1 | refine below_set ?_ GE183.out) | exact HB.out)) hb); clear BK183; clear HB; have BK183 := n0_; have HB := n1_; clear n0_ n1_; (try clear hb); (try clear hb2); (try clear hk); (try clear hi)) | ((with_reducible refine gate_dst (N := 7) rfl ?_); refine box_event ?hg (N := 7) ?hd (cs := #[.int .u64 0, .int .u64 0]) (t := 26) ?hr ?_; (case hd => rfl); (case hg => rfl); (case hr => first | (go_simp; done) | (go_simp; rfl)); intro gb186 hg w76 hbox hb; have n0_ := Aside0.mk (blk_below (by exact BK183.out) hb); have n1_ := Aside0.mk (below_step (by repeat (first | (with_reducible first | exact HB.out | apply below_alloc | apply pw_below_drewN | apply below_drew1 | refine below_set ?_ GE183.out) | exact HB.out)) hb); have n2_ := Aside0.mk (hbox); have n3_ := Aside0.mk ((by rw [hg]; exact (below_size (by repeat (first | (with_reducible first | exact HB.out | apply below_alloc | apply pw_below_drewN | apply below_drew1 | refine below_set ?_ GE183.out) | exact HB.out))) : w.heap.size ≤ gb186)); have n4_ := Aside0.mk ((by rw [hg]; exact (below_size (by repeat (first | (with_reducible first | exact HB.out | apply below_alloc | apply pw_below_drewN | apply below_drew1 | refine below_set ?_ GE183.out) | exact HB.out))) : w.heap.size ≤ gb186)); have n5_ := Aside0.mk ((by rw [hg]; exact Nat.ne_of_lt (blk_lt (by exact BK183.out)) : gb183 ≠ gb186)); have n6_ := Aside0.mk ((by rw [hg]; exact Nat.ne_of_gt (blk_lt (by exact BK183.out)) : gb186 ≠ gb183)); clear BK183; clear HB; have BK183 := n0_; have HB := n1_; have BK186 := n2_; have GW186 := n3_; have GE186 := n4_; have NB183_186 := n5_; have NB186_183 := n6_; clear n0_ n1_ n2_ n3_ n4_ n5_ n6_; clear hb hbox hg; have hnb77 := NB186_183.out; have hnc77 := NB183_186.out; have hcz78_0 : w76.cell? ⟨gb186, 0, none⟩ = some (.int .u64 0) := (blk_cell BK186.out 0).trans rfl; have hcz78_1 : w76.cell? ⟨gb186, 1, none⟩ = some (.int .u64 0) := (blk_cell BK186.out 1).trans rfl; have hfz78_0 := blk_frozen BK186.out 0; have hfz78_1 := blk_frozen BK186.out 1))
    have n0_ : Aside0 (((w76.setCell ⟨gb186, 0, none⟩ (.int .u64 t184)).setCell ⟨gb186, 1, none⟩ (.int .u64 t185)).heap[gb183]? = some (.cells #[.int .u64 a2_0, .int .u64 a2_1] 26 (0, 0))) := ⟨by refine blk_far ?_ NB183_186.out _; refine blk_far ?_ NB183_186.out _; exact BK183.out⟩
    have n1_ : Aside0 (((w76.setCell ⟨gb186, 0, none⟩ (.int .u64 t184)).setCell ⟨gb186, 1, none⟩ (.int .u64 t185)).heap[gb186]? = some (.cells #[.int .u64 t184, .int .u64 t185] 26 (0, 0))) := ⟨by refine blk_put (cs := #[.int .u64 t184, .int .u64 0]) ?_ 1 _ rfl; refine blk_put (cs := #[.int .u64 0, .int .u64 0]) ?_ 0 _ rfl; exact BK186.out⟩
    have n2_ : Aside0 (Below w.heap.size w ((w76.setCell ⟨gb186, 0, none⟩ (.int .u64 t184)).setCell ⟨gb186, 1, none⟩ (.int .u64 t185))) := ⟨by repeat (first | (with_reducible first | exact HB.out | apply below_alloc | apply pw_below_drewN | apply below_drew1 | refine below_set ?_ GE183.out | refine below_set ?_ GE186.out) | exact HB.out)⟩
    (try clear BK183)
    (try clear BK186)
    (try clear HB)
    generalize ((w76.setCell ⟨gb186, 0, none⟩ (.int .u64 t184)).setCell ⟨gb186, 1, none⟩ (.int .u64 t185)) = w79 at n0_ n1_ n2_ ⊢
    have BK183 := n0_
    have BK186 := n1_
    have HB := n2_
    clear n0_ n1_ n2_
    have n0_ := Aside0.mk (blk_drew BK183.out)
    have n1_ := Aside0.mk (blk_drew BK186.out)
    have n2_ := Aside0.mk (below_drew1 HB.out)
    clear BK183
    clear BK186
    clear HB
    have BK183 := n0_
    have BK186 := n1_
    have HB := n2_
    clear n0_ n1_ n2_
    refine start_ (n := 12) (S := fun w' => True) (ds := []) #[false, false, false, false, false, false, false, false, false, false, false, false] (by kernel_rfl) rfl rfl trivial (fun hHeld => ?_); refine with_tabW overfallref03_Fits.tab3 overfallref03_Fits.bits3 (fun HT_ HW_ => ?_)
    generalize w79.drew = w80 at BK183 BK186 HB hHeld ⊢
    refine pure_ (i := 0) (N := some 17) (v := ?_) (a' := ?_) #[true, false, false, false, false, false, false, false, false, false, false, false] rfl rfl (any_of HT_.out (by kernel_rfl)) (fun _ _ _ h => h) (Or.inl ⟨by rfl, ?_⟩) ?_ ?_
    rotate_left
    ·intro w'
     go_simp
     with_reducible rfl
    rotate_left
    ·simp only [Act.put, List.setIfInBounds_toArray, List.set_cons_zero, List.set_cons_succ, i64_w, i32_w]
     rfl
    refine pure_ (i := 2) (N := some 19) (v := ?_) (a' := ?_) #[true, false, true, false, false, false, false, false, false, false, false, false] rfl rfl (any_of HT_.out (by kernel_rfl)) (fun _ _ _ h => h) (Or.inl ⟨by rfl, ?_⟩) ?_ ?_
    rotate_left
    ·intro w'
     go_simp
     with_reducible rfl
    rotate_left
    ·simp only [Act.put, List.setIfInBounds_toArray, List.set_cons_zero, List.set_cons_succ, i64_w, i32_w]
     rfl
    refine pure_ (i := 4) (N := some 21) (v := ?_) (a' := ?_) #[true, false, true, false, true, false, false, false, false, false, false, false] rfl rfl (any_of HT_.out (by kernel_rfl)) (fun _ _ _ h => h) (Or.inl ⟨by rfl, ?_⟩) ?_ ?_
    rotate_left
    ·intro w'
     go_simp
     with_reducible rfl
    rotate_left
    ·simp only [Act.put, List.setIfInBounds_toArray, List.set_cons_zero, List.set_cons_succ, i64_w, i32_w]
     rfl
    refine pure_ (i := 6) (N := some 23) (v := ?_) (a' := ?_) #[true, false, true, false, true, false, true, false, false, false, false, false] rfl rfl (any_of HT_.out (by kernel_rfl)) (fun _ _ _ h => h) (Or.inl ⟨by rfl, ?_⟩) ?_ ?_
    rotate_left
    ·intro w'
     go_simp
     with_reducible rfl
    rotate_left
    ·simp only [Act.put, List.setIfInBounds_toArray, List.set_cons_zero, List.set_cons_succ, i64_w, i32_w]
     rfl
    refine inv_at [1, 3, 5, 7, 8, 9, 10, 11] (fun a0_ b a w' => ∃ (gb191 : Nat) (gb192 : Nat) (m8_ : Value) (m9_ : Value), a = putSel a0_ b [(1, 18, .int .u64 t185), (3, 20, .agg #[.int .u64 t187, .int .u64 t188]), (5, 22, .int .u64 t184), (7, 24, .agg #[.int .u64 t189, .int .u64 t190]), (8, 8, m8_), (9, 9, m9_)] ∧ (w'.heap[gb183]? = some (.cells #[.int .u64 a2_0, .int .u64 a2_1] 26 (0, 0))) ∧ (w'.heap[gb186]? = some (.cells #[.int .u64 t184, .int .u64 t185] 26 (0, 0))) ∧ (Below w.heap.size w w') ∧ (b 8 = true → b 9 = true → gb192 ≠ gb191) ∧ (b 8 = true → b 9 = true → gb191 ≠ gb192) ∧ (b 8 = true → b 10 = false → w'.heap[gb191]? = some (.cells #[.int .u64 0, .int .u64 0] 26 (0, 0))) ∧ (b 8 = true → w.heap.size ≤ gb191) ∧ (b 8 = true → w.heap.size ≤ gb191) ∧ (b 8 = true → gb183 ≠ gb191) ∧ (b 8 = true → gb191 ≠ gb183) ∧ (b 8 = true → gb186 ≠ gb191) ∧ (b 8 = true → gb191 ≠ gb186) ∧ (b 9 = true → b 11 = false → w'.heap[gb192]? = some (.cells #[.int .u64 0, .int .u64 0] 26 (0, 0))) ∧ (b 9 = true → w.heap.size ≤ gb192) ∧ (b 9 = true → w.heap.size ≤ gb192) ∧ (b 9 = true → gb183 ≠ gb192) ∧ (b 9 = true → gb192 ≠ gb183) ∧ (b 9 = true → gb186 ≠ gb192) ∧ (b 9 = true → gb192 ≠ gb186) ∧ (b 10 = true → w'.heap[gb191]? = some (.cells #[.int .u64 t187, .int .u64 t188] 26 (0, 0))) ∧ (b 11 = true → w'.heap[gb192]? = some (.cells #[.int .u64 t189, .int .u64 t190] 26 (0, 0))) ∧ (b 8 = true → (m8_ : Value) = .pointer (some ⟨gb191, 0, none⟩)) ∧ (b 9 = true → (m9_ : Value) = .pointer (some ⟨gb192, 0, none⟩))) HT_.out HW_.out (by kernel_rfl) (by kernel_rfl) ?_ ?_ ?_
    ·exact ⟨0, 0, .bool false, .bool false, by simp only [putSel, Bool.false_eq_true, if_false], BK183.out, BK186.out, HB.out, fun h_ => absurd h_ (by decide), fun h_ => absurd h_ (by decide), fun h_ => absurd h_ (by decide), fun h_ => absurd h_ (by decide), fun h_ => absurd h_ (by decide), fun h_ => absurd h_ (by decide), fun h_ => absurd h_ (by decide), fun h_ => absurd h_ (by decide), fun h_ => absurd h_ (by decide), fun h_ => absurd h_ (by decide), fun h_ => absurd h_ (by decide), fun h_ => absurd h_ (by decide), fun h_ => absurd h_ (by decide), fun h_ => absurd h_ (by decide), fun h_ => absurd h_ (by decide), fun h_ => absurd h_ (by decide), fun h_ => absurd h_ (by decide), fun h_ => absurd h_ (by decide), fun h_ => absurd h_ (by decide), fun h_ => absurd h_ (by decide)⟩
    ·skip
     clear BK183 BK186 HB
     refine steps_cons ?_ ?_
     ·rintro b a w' ⟨gb191, gb192, m8_, m9_, ha, Q_BK183, Q_BK186, Q_HB, Q_NB192_191, Q_NB191_192, Q_BK191, Q_GW191, Q_GE191, Q_NB183_191, Q_NB191_183, Q_NB186_191, Q_NB191_186, Q_BK192, Q_GW192, Q_GE192, Q_NB183_192, Q_NB192_183, Q_NB186_192, Q_NB192_186, Q_BK191_e10, Q_BK192_e11, Q_X8_, Q_X9_⟩ hb_ hon hoff
      refine ⟨_, rfl, fun K hK => ?_⟩
      have e17 : a.tmps[17]? = some (.pointer (some ⟨gb186, 1, none⟩)) := by rw [ha]; exact (putSel_off rfl).trans rfl
      replace ha := Aside0.mk ha
      have BK183 := Aside0.mk Q_BK183
      have BK186 := Aside0.mk Q_BK186
      have HB := Aside0.mk Q_HB
      have hc0_ : w'.cell? ⟨gb186, 0, none⟩ = some (.int .u64 t184) := (blk_cell BK186.out 0).trans rfl
      have hc1_ : w'.cell? ⟨gb186, 1, none⟩ = some (.int .u64 t185) := (blk_cell BK186.out 1).trans rfl
      refine value_ (w1 := w') (v := .int .u64 t185) (by rfl) rfl ?_ ?_
      ·go_simp
       (try simp only [i64_w])
       try rfl
      refine hK.out _ _ ⟨gb191, gb192, m8_, m9_, (by rw [ha.out]; exact putSel_upk 0 hb_ rfl rfl rfl), Q_BK183, Q_BK186, Q_HB, Q_NB192_191, Q_NB191_192, Q_BK191, Q_GW191, Q_GE191, Q_NB183_191, Q_NB191_183, Q_NB186_191, Q_NB191_186, Q_BK192, Q_GW192, Q_GE192, Q_NB183_192, Q_NB192_183, Q_NB186_192, Q_NB192_186, fun h0_ => absurd ((hoff 10 (by kernel_rfl)).symm.trans h0_) (by decide), fun h0_ => absurd ((hoff 11 (by kernel_rfl)).symm.trans h0_) (by decide), Q_X8_, Q_X9_⟩
     refine steps_cons ?_ ?_
     ·rintro b a w' ⟨gb191, gb192, m8_, m9_, ha, Q_BK183, Q_BK186, Q_HB, Q_NB192_191, Q_NB191_192, Q_BK191, Q_GW191, Q_GE191, Q_NB183_191, Q_NB191_183, Q_NB186_191, Q_NB191_186, Q_BK192, Q_GW192, Q_GE192, Q_NB183_192, Q_NB192_183, Q_NB186_192, Q_NB192_186, Q_BK191_e10, Q_BK192_e11, Q_X8_, Q_X9_⟩ hb_ hon hoff
      refine ⟨_, rfl, fun K hK => ?_⟩
      have e18 : a.tmps[18]? = some (.int .u64 t185) := by rw [ha]; exact putSel_on (e := (1, 18, .int .u64 t185)) 0 rfl rfl (hon 1 (by kernel_rfl)) rfl
      have e19 : a.tmps[19]? = some (.int .u64 a1) := by rw [ha]; exact (putSel_off rfl).trans rfl
      replace ha := Aside0.mk ha
      have BK183 := Aside0.mk Q_BK183
      have BK186 := Aside0.mk Q_BK186
      have HB := Aside0.mk Q_HB
      refine goes_ Try.func14 (by kernel_rfl) rfl #[.int .u64 t185, .int .u64 a1] (by rfl) rfl rfl (by first | (simp only [List.map_toArray, List.map_cons, List.map_nil, Act.eval, Array.getD_eq_getD_getElem?, Option.getD_some, e18, e19]; done) | (simp only [List.map_toArray, List.map_cons, List.map_nil, Act.eval, Array.getD_eq_getD_getElem?, Option.getD_some, e18, e19]; rfl)) ?_
      with_reducible refine (overfallref01_Mul.calls k t185 a1 t187 t188 _ A6.out).mono ?_
      rintro e w81 ⟨rfl, hb⟩
      refine ⟨_, rfl, ?_⟩
      have n0_ := Aside0.mk (blk_below (by exact BK183.out) hb)
      have n1_ := Aside0.mk (blk_below (by exact BK186.out) hb)
      have n2_ := Aside0.mk (below_step (by repeat (first | (with_reducible first | exact HB.out | apply below_alloc | apply pw_below_drewN | apply below_drew1 | refine below_set ?_ GE183.out | refine below_set ?_ GE186.out) | exact HB.out)) hb)
      have z_BK191 := fun (h0_ : b 8 = true) (h1_ : b 10 = false) => (show w81.heap[gb191]? = some (.cells #[.int .u64 0, .int .u64 0] 26 (0, 0)) from by first | exact (blk_below (g := gb191) (o := .cells #[.int .u64 0, .int .u64 0] 26 (0, 0)) (by exact (Q_BK191 h0_ h1_)) hb))
      have z_BK192 := fun (h0_ : b 9 = true) (h1_ : b 11 = false) => (show w81.heap[gb192]? = some (.cells #[.int .u64 0, .int .u64 0] 26 (0, 0)) from by first | exact (blk_below (g := gb192) (o := .cells #[.int .u64 0, .int .u64 0] 26 (0, 0)) (by exact (Q_BK192 h0_ h1_)) hb))
      clear BK183
      clear BK186
      clear HB
      have BK183 := n0_
      have BK186 := n1_
      have HB := n2_
      clear n0_ n1_ n2_
      (try clear hb)
      (try clear hb2)
      (try clear hk)
      (try clear hi)
      refine hK.out _ _ ⟨gb191, gb192, m8_, m9_, (by rw [ha.out]; exact putSel_upk 1 hb_ rfl rfl rfl), (by exact BK183.out), (by exact BK186.out), (by repeat (first | (with_reducible first | exact HB.out | apply below_alloc | apply pw_below_drewN | apply below_drew1 | refine below_set ?_ GE183.out | refine below_set ?_ GE186.out) | exact HB.out)), Q_NB192_191, Q_NB191_192, z_BK191, Q_GW191, Q_GE191, Q_NB183_191, Q_NB191_183, Q_NB186_191, Q_NB191_186, z_BK192, Q_GW192, Q_GE192, Q_NB183_192, Q_NB192_183, Q_NB186_192, Q_NB192_186, fun h0_ => absurd ((hoff 10 (by kernel_rfl)).symm.trans h0_) (by decide), fun h0_ => absurd ((hoff 11 (by kernel_rfl)).symm.trans h0_) (by decide), Q_X8_, Q_X9_⟩
     refine steps_cons ?_ ?_
     ·rintro b a w' ⟨gb191, gb192, m8_, m9_, ha, Q_BK183, Q_BK186, Q_HB, Q_NB192_191, Q_NB191_192, Q_BK191, Q_GW191, Q_GE191, Q_NB183_191, Q_NB191_183, Q_NB186_191, Q_NB191_186, Q_BK192, Q_GW192, Q_GE192, Q_NB183_192, Q_NB192_183, Q_NB186_192, Q_NB192_186, Q_BK191_e10, Q_BK192_e11, Q_X8_, Q_X9_⟩ hb_ hon hoff
      refine ⟨_, rfl, fun K hK => ?_⟩
      have e21 : a.tmps[21]? = some (.pointer (some ⟨gb186, 0, none⟩)) := by rw [ha]; exact (putSel_off rfl).trans rfl
      replace ha := Aside0.mk ha
      have BK183 := Aside0.mk Q_BK183
      have BK186 := Aside0.mk Q_BK186
      have HB := Aside0.mk Q_HB
      have hc0_ : w'.cell? ⟨gb186, 0, none⟩ = some (.int .u64 t184) := (blk_cell BK186.out 0).trans rfl
      have hc1_ : w'.cell? ⟨gb186, 1, none⟩ = some (.int .u64 t185) := (blk_cell BK186.out 1).trans rfl
      refine value_ (w1 := w') (v := .int .u64 t184) (by rfl) rfl ?_ ?_
      ·go_simp
       (try simp only [i64_w])
       try rfl
      refine hK.out _ _ ⟨gb191, gb192, m8_, m9_, (by rw [ha.out]; exact putSel_upk 2 hb_ rfl rfl rfl), Q_BK183, Q_BK186, Q_HB, Q_NB192_191, Q_NB191_192, Q_BK191, Q_GW191, Q_GE191, Q_NB183_191, Q_NB191_183, Q_NB186_191, Q_NB191_186, Q_BK192, Q_GW192, Q_GE192, Q_NB183_192, Q_NB192_183, Q_NB186_192, Q_NB192_186, fun h0_ => absurd ((hoff 10 (by kernel_rfl)).symm.trans h0_) (by decide), fun h0_ => absurd ((hoff 11 (by kernel_rfl)).symm.trans h0_) (by decide), Q_X8_, Q_X9_⟩
     refine steps_cons ?_ ?_
     ·rintro b a w' ⟨gb191, gb192, m8_, m9_, ha, Q_BK183, Q_BK186, Q_HB, Q_NB192_191, Q_NB191_192, Q_BK191, Q_GW191, Q_GE191, Q_NB183_191, Q_NB191_183, Q_NB186_191, Q_NB191_186, Q_BK192, Q_GW192, Q_GE192, Q_NB183_192, Q_NB192_183, Q_NB186_192, Q_NB192_186, Q_BK191_e10, Q_BK192_e11, Q_X8_, Q_X9_⟩ hb_ hon hoff
      refine ⟨_, rfl, fun K hK => ?_⟩
      have e22 : a.tmps[22]? = some (.int .u64 t184) := by rw [ha]; exact putSel_on (e := (5, 22, .int .u64 t184)) 2 rfl rfl (hon 5 (by kernel_rfl)) rfl
      have e23 : a.tmps[23]? = some (.int .u64 a1) := by rw [ha]; exact (putSel_off rfl).trans rfl
      replace ha := Aside0.mk ha
      have BK183 := Aside0.mk Q_BK183
      have BK186 := Aside0.mk Q_BK186
      have HB := Aside0.mk Q_HB
      refine goes_ Try.func14 (by kernel_rfl) rfl #[.int .u64 t184, .int .u64 a1] (by rfl) rfl rfl (by first | (simp only [List.map_toArray, List.map_cons, List.map_nil, Act.eval, Array.getD_eq_getD_getElem?, Option.getD_some, e22, e23]; done) | (simp only [List.map_toArray, List.map_cons, List.map_nil, Act.eval, Array.getD_eq_getD_getElem?, Option.getD_some, e22, e23]; rfl)) ?_
      with_reducible refine (overfallref01_Mul.calls k t184 a1 t189 t190 _ A7.out).mono ?_
      rintro e w83 ⟨rfl, hb⟩
      refine ⟨_, rfl, ?_⟩
      have n0_ := Aside0.mk (blk_below (by exact BK183.out) hb)
      have n1_ := Aside0.mk (blk_below (by exact BK186.out) hb)
      have n2_ := Aside0.mk (below_step (by repeat (first | (with_reducible first | exact HB.out | apply below_alloc | apply pw_below_drewN | apply below_drew1 | refine below_set ?_ GE183.out | refine below_set ?_ GE186.out) | exact HB.out)) hb)
      have z_BK191 := fun (h0_ : b 8 = true) (h1_ : b 10 = false) => (show w83.heap[gb191]? = some (.cells #[.int .u64 0, .int .u64 0] 26 (0, 0)) from by first | exact (blk_below (g := gb191) (o := .cells #[.int .u64 0, .int .u64 0] 26 (0, 0)) (by exact (Q_BK191 h0_ h1_)) hb))
      have z_BK192 := fun (h0_ : b 9 = true) (h1_ : b 11 = false) => (show w83.heap[gb192]? = some (.cells #[.int .u64 0, .int .u64 0] 26 (0, 0)) from by first | exact (blk_below (g := gb192) (o := .cells #[.int .u64 0, .int .u64 0] 26 (0, 0)) (by exact (Q_BK192 h0_ h1_)) hb))
      clear BK183
      clear BK186
      clear HB
      have BK183 := n0_
      have BK186 := n1_
      have HB := n2_
      clear n0_ n1_ n2_
      (try clear hb)
      (try clear hb2)
      (try clear hk)
      (try clear hi)
      refine hK.out _ _ ⟨gb191, gb192, m8_, m9_, (by rw [ha.out]; exact putSel_upk 3 hb_ rfl rfl rfl), (by exact BK183.out), (by exact BK186.out), (by repeat (first | (with_reducible first | exact HB.out | apply below_alloc | apply pw_below_drewN | apply below_drew1 | refine below_set ?_ GE183.out | refine below_set ?_ GE186.out) | exact HB.out)), Q_NB192_191, Q_NB191_192, z_BK191, Q_GW191, Q_GE191, Q_NB183_191, Q_NB191_183, Q_NB186_191, Q_NB191_186, z_BK192, Q_GW192, Q_GE192, Q_NB183_192, Q_NB192_183, Q_NB186_192, Q_NB192_186, fun h0_ => absurd ((hoff 10 (by kernel_rfl)).symm.trans h0_) (by decide), fun h0_ => absurd ((hoff 11 (by kernel_rfl)).symm.trans h0_) (by decide), Q_X8_, Q_X9_⟩
     refine steps_cons ?_ ?_
     ·rintro b a w' ⟨gb191, gb192, m8_, m9_, ha, Q_BK183, Q_BK186, Q_HB, Q_NB192_191, Q_NB191_192, Q_BK191, Q_GW191, Q_GE191, Q_NB183_191, Q_NB191_183, Q_NB186_191, Q_NB191_186, Q_BK192, Q_GW192, Q_GE192, Q_NB183_192, Q_NB192_183, Q_NB186_192, Q_NB192_186, Q_BK191_e10, Q_BK192_e11, Q_X8_, Q_X9_⟩ hb_ hon hoff
      refine ⟨_, rfl, fun K hK => ?_⟩
      replace ha := Aside0.mk ha
      have BK183 := Aside0.mk Q_BK183
      have BK186 := Aside0.mk Q_BK186
      have HB := Aside0.mk Q_HB
      refine box_step ?hg (N := 8) ?hd (cs := #[.int .u64 0, .int .u64 0]) (t := 26) ?hr ?_; (case hd => rfl); (case hg => rfl); (case hr => first | (go_simp; done) | (go_simp; rfl))
      intro gb191 hg w81 hbox hb
      have n0_ := Aside0.mk (blk_below (by exact BK183.out) hb)
      have n1_ := Aside0.mk (blk_below (by exact BK186.out) hb)
      have n2_ := Aside0.mk (below_step (by repeat (first | (with_reducible first | exact HB.out | apply below_alloc | apply pw_below_drewN | apply below_drew1 | refine below_set ?_ GE183.out | refine below_set ?_ GE186.out) | exact HB.out)) hb)
      have n3_ := Aside0.mk (hbox)
      have n4_ := Aside0.mk ((by rw [hg]; exact (below_size (by repeat (first | (with_reducible first | exact HB.out | apply below_alloc | apply pw_below_drewN | apply below_drew1 | refine below_set ?_ GE183.out | refine below_set ?_ GE186.out) | exact HB.out))) : w.heap.size ≤ gb191))
      have n5_ := Aside0.mk ((by rw [hg]; exact (below_size (by repeat (first | (with_reducible first | exact HB.out | apply below_alloc | apply pw_below_drewN | apply below_drew1 | refine below_set ?_ GE183.out | refine below_set ?_ GE186.out) | exact HB.out))) : w.heap.size ≤ gb191))
      have n6_ := Aside0.mk ((by rw [hg]; exact Nat.ne_of_lt (blk_lt (by exact BK183.out)) : gb183 ≠ gb191))
      have n7_ := Aside0.mk ((by rw [hg]; exact Nat.ne_of_gt (blk_lt (by exact BK183.out)) : gb191 ≠ gb183))
      have n8_ := Aside0.mk ((by rw [hg]; exact Nat.ne_of_lt (blk_lt (by exact BK186.out)) : gb186 ≠ gb191))
      have n9_ := Aside0.mk ((by rw [hg]; exact Nat.ne_of_gt (blk_lt (by exact BK186.out)) : gb191 ≠ gb186))
      have z_NB192_191 := fun (h0_ : up b 8 8 = true) (h1_ : up b 8 9 = true) => (show gb192 ≠ gb191 from ((by rw [hg]; exact Nat.ne_of_lt (blk_lt (by exact (Q_BK192 h1_ (hoff 11 (by kernel_rfl))))) : gb192 ≠ gb191)))
      have z_NB191_192 := fun (h0_ : up b 8 8 = true) (h1_ : up b 8 9 = true) => (show gb191 ≠ gb192 from ((by rw [hg]; exact Nat.ne_of_gt (blk_lt (by exact (Q_BK192 h1_ (hoff 11 (by kernel_rfl))))) : gb191 ≠ gb192)))
      have z_BK192 := fun (h0_ : b 9 = true) (h1_ : b 11 = false) => (show w81.heap[gb192]? = some (.cells #[.int .u64 0, .int .u64 0] 26 (0, 0)) from by first | exact (blk_below (g := gb192) (o := .cells #[.int .u64 0, .int .u64 0] 26 (0, 0)) (by exact (Q_BK192 h0_ h1_)) hb))
      clear BK183
      clear BK186
      clear HB
      have BK183 := n0_
      have BK186 := n1_
      have HB := n2_
      have BK191 := n3_
      have GW191 := n4_
      have GE191 := n5_
      have NB183_191 := n6_
      have NB191_183 := n7_
      have NB186_191 := n8_
      have NB191_186 := n9_
      clear n0_ n1_ n2_ n3_ n4_ n5_ n6_ n7_ n8_ n9_
      clear hb hbox hg
      refine hK.out _ _ ⟨gb191, gb192, (.pointer (some ⟨gb191, 0, none⟩)), m9_, (by rw [ha.out]; exact putSel_upk 4 hb_ rfl rfl rfl), (by exact BK183.out), (by exact BK186.out), (by repeat (first | (with_reducible first | exact HB.out | apply below_alloc | apply pw_below_drewN | apply below_drew1 | refine below_set ?_ GE183.out | refine below_set ?_ GE186.out | refine below_set ?_ GE191.out) | exact HB.out)), @z_NB192_191, @z_NB191_192, fun _ _ => (by exact BK191.out), fun _ => GW191.out, fun _ => GE191.out, fun _ => NB183_191.out, fun _ => NB191_183.out, fun _ => NB186_191.out, fun _ => NB191_186.out, z_BK192, Q_GW192, Q_GE192, Q_NB183_192, Q_NB192_183, Q_NB186_192, Q_NB192_186, fun h0_ => absurd ((hoff 10 (by kernel_rfl)).symm.trans h0_) (by decide), fun h0_ => absurd ((hoff 11 (by kernel_rfl)).symm.trans h0_) (by decide), fun _ => rfl, Q_X9_⟩
     refine steps_cons ?_ ?_
     ·rintro b a w' ⟨gb191, gb192, m8_, m9_, ha, Q_BK183, Q_BK186, Q_HB, Q_NB192_191, Q_NB191_192, Q_BK191, Q_GW191, Q_GE191, Q_NB183_191, Q_NB191_183, Q_NB186_191, Q_NB191_186, Q_BK192, Q_GW192, Q_GE192, Q_NB183_192, Q_NB192_183, Q_NB186_192, Q_NB192_186, Q_BK191_e10, Q_BK192_e11, Q_X8_, Q_X9_⟩ hb_ hon hoff
      refine ⟨_, rfl, fun K hK => ?_⟩
      replace ha := Aside0.mk ha
      have BK183 := Aside0.mk Q_BK183
      have BK186 := Aside0.mk Q_BK186
      have HB := Aside0.mk Q_HB
      refine box_step ?hg (N := 9) ?hd (cs := #[.int .u64 0, .int .u64 0]) (t := 26) ?hr ?_; (case hd => rfl); (case hg => rfl); (case hr => first | (go_simp; done) | (go_simp; rfl))
      intro gb192 hg w81 hbox hb
      have n0_ := Aside0.mk (blk_below (by exact BK183.out) hb)
      have n1_ := Aside0.mk (blk_below (by exact BK186.out) hb)
      have n2_ := Aside0.mk (below_step (by repeat (first | (with_reducible first | exact HB.out | apply below_alloc | apply pw_below_drewN | apply below_drew1 | refine below_set ?_ GE183.out | refine below_set ?_ GE186.out) | exact HB.out)) hb)
      have n3_ := Aside0.mk (hbox)
      have n4_ := Aside0.mk ((by rw [hg]; exact (below_size (by repeat (first | (with_reducible first | exact HB.out | apply below_alloc | apply pw_below_drewN | apply below_drew1 | refine below_set ?_ GE183.out | refine below_set ?_ GE186.out) | exact HB.out))) : w.heap.size ≤ gb192))
      have n5_ := Aside0.mk ((by rw [hg]; exact (below_size (by repeat (first | (with_reducible first | exact HB.out | apply below_alloc | apply pw_below_drewN | apply below_drew1 | refine below_set ?_ GE183.out | refine below_set ?_ GE186.out) | exact HB.out))) : w.heap.size ≤ gb192))
      have n6_ := Aside0.mk ((by rw [hg]; exact Nat.ne_of_lt (blk_lt (by exact BK183.out)) : gb183 ≠ gb192))
      have n7_ := Aside0.mk ((by rw [hg]; exact Nat.ne_of_gt (blk_lt (by exact BK183.out)) : gb192 ≠ gb183))
      have n8_ := Aside0.mk ((by rw [hg]; exact Nat.ne_of_lt (blk_lt (by exact BK186.out)) : gb186 ≠ gb192))
      have n9_ := Aside0.mk ((by rw [hg]; exact Nat.ne_of_gt (blk_lt (by exact BK186.out)) : gb192 ≠ gb186))
      have z_NB192_191 := fun (h0_ : up b 9 8 = true) (h1_ : up b 9 9 = true) => (show gb192 ≠ gb191 from ((by rw [hg]; exact Nat.ne_of_gt (blk_lt (by exact (Q_BK191 h0_ (hoff 10 (by kernel_rfl))))) : gb192 ≠ gb191)))
      have z_NB191_192 := fun (h0_ : up b 9 8 = true) (h1_ : up b 9 9 = true) => (show gb191 ≠ gb192 from ((by rw [hg]; exact Nat.ne_of_lt (blk_lt (by exact (Q_BK191 h0_ (hoff 10 (by kernel_rfl))))) : gb191 ≠ gb192)))
      have z_BK191 := fun (h0_ : b 8 = true) (h1_ : b 10 = false) => (show w81.heap[gb191]? = some (.cells #[.int .u64 0, .int .u64 0] 26 (0, 0)) from by first | exact (blk_below (g := gb191) (o := .cells #[.int .u64 0, .int .u64 0] 26 (0, 0)) (by exact (Q_BK191 h0_ h1_)) hb))
      clear BK183
      clear BK186
      clear HB
      have BK183 := n0_
      have BK186 := n1_
      have HB := n2_
      have BK192 := n3_
      have GW192 := n4_
      have GE192 := n5_
      have NB183_192 := n6_
      have NB192_183 := n7_
      have NB186_192 := n8_
      have NB192_186 := n9_
      clear n0_ n1_ n2_ n3_ n4_ n5_ n6_ n7_ n8_ n9_
      clear hb hbox hg
      refine hK.out _ _ ⟨gb191, gb192, m8_, (.pointer (some ⟨gb192, 0, none⟩)), (by rw [ha.out]; exact putSel_upk 5 hb_ rfl rfl rfl), (by exact BK183.out), (by exact BK186.out), (by repeat (first | (with_reducible first | exact HB.out | apply below_alloc | apply pw_below_drewN | apply below_drew1 | refine below_set ?_ GE183.out | refine below_set ?_ GE186.out | refine below_set ?_ GE192.out) | exact HB.out)), @z_NB192_191, @z_NB191_192, z_BK191, Q_GW191, Q_GE191, Q_NB183_191, Q_NB191_183, Q_NB186_191, Q_NB191_186, fun _ _ => (by exact BK192.out), fun _ => GW192.out, fun _ => GE192.out, fun _ => NB183_192.out, fun _ => NB192_183.out, fun _ => NB186_192.out, fun _ => NB192_186.out, fun h0_ => absurd ((hoff 10 (by kernel_rfl)).symm.trans h0_) (by decide), fun h0_ => absurd ((hoff 11 (by kernel_rfl)).symm.trans h0_) (by decide), Q_X8_, fun _ => rfl⟩
     refine steps_cons ?_ ?_
     ·rintro b a w' ⟨gb191, gb192, m8_, m9_, ha, Q_BK183, Q_BK186, Q_HB, Q_NB192_191, Q_NB191_192, Q_BK191, Q_GW191, Q_GE191, Q_NB183_191, Q_NB191_183, Q_NB186_191, Q_NB191_186, Q_BK192, Q_GW192, Q_GE192, Q_NB183_192, Q_NB192_183, Q_NB186_192, Q_NB192_186, Q_BK191_e10, Q_BK192_e11, Q_X8_, Q_X9_⟩ hb_ hon hoff
      refine ⟨_, rfl, fun K hK => ?_⟩
      have e8 : a.tmps[8]? = some (m8_) := by rw [ha]; exact putSel_on (e := (8, 8, m8_)) 4 rfl rfl (hon 8 (by kernel_rfl)) rfl
      rw [Q_X8_ (hon 8 (by kernel_rfl))] at e8
      have e20 : a.tmps[20]? = some (.agg #[.int .u64 t187, .int .u64 t188]) := by rw [ha]; exact putSel_on (e := (3, 20, .agg #[.int .u64 t187, .int .u64 t188])) 1 rfl rfl (hon 3 (by kernel_rfl)) rfl
      replace ha := Aside0.mk ha
      have BK183 := Aside0.mk Q_BK183
      have BK186 := Aside0.mk Q_BK186
      have HB := Aside0.mk Q_HB
      have NB192_191 := Aside0.mk (Q_NB192_191 (hon 8 (by kernel_rfl)) (hon 9 (by kernel_rfl)))
      have NB191_192 := Aside0.mk (Q_NB191_192 (hon 8 (by kernel_rfl)) (hon 9 (by kernel_rfl)))
      have BK191 := Aside0.mk (Q_BK191 (hon 8 (by kernel_rfl)) hb_)
      have GW191 := Aside0.mk (Q_GW191 (hon 8 (by kernel_rfl)))
      have GE191 := Aside0.mk (Q_GE191 (hon 8 (by kernel_rfl)))
      have NB183_191 := Aside0.mk (Q_NB183_191 (hon 8 (by kernel_rfl)))
      have NB191_183 := Aside0.mk (Q_NB191_183 (hon 8 (by kernel_rfl)))
      have NB186_191 := Aside0.mk (Q_NB186_191 (hon 8 (by kernel_rfl)))
      have NB191_186 := Aside0.mk (Q_NB191_186 (hon 8 (by kernel_rfl)))
      have BK192 := Aside0.mk (Q_BK192 (hon 9 (by kernel_rfl)) (hoff 11 (by kernel_rfl)))
      have GW192 := Aside0.mk (Q_GW192 (hon 9 (by kernel_rfl)))
      have GE192 := Aside0.mk (Q_GE192 (hon 9 (by kernel_rfl)))
      have NB183_192 := Aside0.mk (Q_NB183_192 (hon 9 (by kernel_rfl)))
      have NB192_183 := Aside0.mk (Q_NB192_183 (hon 9 (by kernel_rfl)))
      have NB186_192 := Aside0.mk (Q_NB186_192 (hon 9 (by kernel_rfl)))
      have NB192_186 := Aside0.mk (Q_NB192_186 (hon 9 (by kernel_rfl)))
      have hs86 : w'.cell? ⟨gb191, 0, none⟩ = some (.int .u64 0) := (blk_cell BK191.out 0).trans rfl
      have hfs86 := blk_frozen BK191.out 0
      have hns86_0 := NB183_191.out
      have hns86_1 := NB186_191.out
      have hns86_3 := NB192_191.out
      have hms86_0 := NB191_183.out
      have hms86_1 := NB191_186.out
      have hms86_3 := NB191_192.out
      have hs87 : w'.cell? ⟨gb191, 1, none⟩ = some (.int .u64 0) := (blk_cell BK191.out 1).trans rfl
      have hfs87 := blk_frozen BK191.out 1
      have hns87_0 := NB183_191.out
      have hns87_1 := NB186_191.out
      have hns87_3 := NB192_191.out
      have hms87_0 := NB191_183.out
      have hms87_1 := NB191_186.out
      have hms87_3 := NB191_192.out
      refine skip_ (w1 := ?_) (by rfl) rfl ?_ ?_
      rotate_left
      ·go_simp
       rfl
      refine hK.out _ _ ⟨gb191, gb192, m8_, m9_, (by rw [ha.out]; exact putSel_none (v := undef) rfl), (by refine blk_far ?_ NB183_191.out _; refine blk_far ?_ NB183_191.out _; exact BK183.out), (by refine blk_far ?_ NB186_191.out _; refine blk_far ?_ NB186_191.out _; exact BK186.out), (by repeat (first | (with_reducible first | exact HB.out | apply below_alloc | apply pw_below_drewN | apply below_drew1 | refine below_set ?_ GE183.out | refine below_set ?_ GE186.out | refine below_set ?_ GE191.out | refine below_set ?_ GE192.out) | exact HB.out)), fun _ _ => NB192_191.out, fun _ _ => NB191_192.out, fun _ h1_ => absurd ((up_self b 10).symm.trans h1_) (by decide), fun _ => GW191.out, fun _ => GE191.out, fun _ => NB183_191.out, fun _ => NB191_183.out, fun _ => NB186_191.out, fun _ => NB191_186.out, fun _ _ => (by refine blk_far ?_ NB192_191.out _; refine blk_far ?_ NB192_191.out _; exact BK192.out), fun _ => GW192.out, fun _ => GE192.out, fun _ => NB183_192.out, fun _ => NB192_183.out, fun _ => NB186_192.out, fun _ => NB192_186.out, fun _ => (by refine blk_put (cs := #[.int .u64 t187, .int .u64 0]) ?_ 1 _ rfl; refine blk_put (cs := #[.int .u64 0, .int .u64 0]) ?_ 0 _ rfl; exact BK191.out), fun h0_ => absurd ((hoff 11 (by kernel_rfl)).symm.trans h0_) (by decide), Q_X8_, Q_X9_⟩
     refine steps_cons ?_ ?_
     ·rintro b a w' ⟨gb191, gb192, m8_, m9_, ha, Q_BK183, Q_BK186, Q_HB, Q_NB192_191, Q_NB191_192, Q_BK191, Q_GW191, Q_GE191, Q_NB183_191, Q_NB191_183, Q_NB186_191, Q_NB191_186, Q_BK192, Q_GW192, Q_GE192, Q_NB183_192, Q_NB192_183, Q_NB186_192, Q_NB192_186, Q_BK191_e10, Q_BK192_e11, Q_X8_, Q_X9_⟩ hb_ hon hoff
      refine ⟨_, rfl, fun K hK => ?_⟩
      have e9 : a.tmps[9]? = some (m9_) := by rw [ha]; exact putSel_on (e := (9, 9, m9_)) 5 rfl rfl (hon 9 (by kernel_rfl)) rfl
      rw [Q_X9_ (hon 9 (by kernel_rfl))] at e9
      have e24 : a.tmps[24]? = some (.agg #[.int .u64 t189, .int .u64 t190]) := by rw [ha]; exact putSel_on (e := (7, 24, .agg #[.int .u64 t189, .int .u64 t190])) 3 rfl rfl (hon 7 (by kernel_rfl)) rfl
      replace ha := Aside0.mk ha
      have BK183 := Aside0.mk Q_BK183
      have BK186 := Aside0.mk Q_BK186
      have HB := Aside0.mk Q_HB
      have NB192_191 := Aside0.mk (Q_NB192_191 (hon 8 (by kernel_rfl)) (hon 9 (by kernel_rfl)))
      have NB191_192 := Aside0.mk (Q_NB191_192 (hon 8 (by kernel_rfl)) (hon 9 (by kernel_rfl)))
      have GW191 := Aside0.mk (Q_GW191 (hon 8 (by kernel_rfl)))
      have GE191 := Aside0.mk (Q_GE191 (hon 8 (by kernel_rfl)))
      have NB183_191 := Aside0.mk (Q_NB183_191 (hon 8 (by kernel_rfl)))
      have NB191_183 := Aside0.mk (Q_NB191_183 (hon 8 (by kernel_rfl)))
      have NB186_191 := Aside0.mk (Q_NB186_191 (hon 8 (by kernel_rfl)))
      have NB191_186 := Aside0.mk (Q_NB191_186 (hon 8 (by kernel_rfl)))
      have BK192 := Aside0.mk (Q_BK192 (hon 9 (by kernel_rfl)) hb_)
      have GW192 := Aside0.mk (Q_GW192 (hon 9 (by kernel_rfl)))
      have GE192 := Aside0.mk (Q_GE192 (hon 9 (by kernel_rfl)))
      have NB183_192 := Aside0.mk (Q_NB183_192 (hon 9 (by kernel_rfl)))
      have NB192_183 := Aside0.mk (Q_NB192_183 (hon 9 (by kernel_rfl)))
      have NB186_192 := Aside0.mk (Q_NB186_192 (hon 9 (by kernel_rfl)))
      have NB192_186 := Aside0.mk (Q_NB192_186 (hon 9 (by kernel_rfl)))
      have BK191 := Aside0.mk (Q_BK191_e10 (hon 10 (by kernel_rfl)))
      have hs88 : w'.cell? ⟨gb192, 0, none⟩ = some (.int .u64 0) := (blk_cell BK192.out 0).trans rfl
      have hfs88 := blk_frozen BK192.out 0
      have hns88_0 := NB183_192.out
      have hns88_1 := NB186_192.out
      have hns88_2 := NB191_192.out
      have hms88_0 := NB192_183.out
      have hms88_1 := NB192_186.out
      have hms88_2 := NB192_191.out
      have hs89 : w'.cell? ⟨gb192, 1, none⟩ = some (.int .u64 0) := (blk_cell BK192.out 1).trans rfl
      have hfs89 := blk_frozen BK192.out 1
      have hns89_0 := NB183_192.out
      have hns89_1 := NB186_192.out
      have hns89_2 := NB191_192.out
      have hms89_0 := NB192_183.out
      have hms89_1 := NB192_186.out
      have hms89_2 := NB192_191.out
      refine skip_ (w1 := ?_) (by rfl) rfl ?_ ?_
      rotate_left
      ·go_simp
       rfl
      refine hK.out _ _ ⟨gb191, gb192, m8_, m9_, (by rw [ha.out]; exact putSel_none (v := undef) rfl), (by refine blk_far ?_ NB183_192.out _; refine blk_far ?_ NB183_192.out _; exact BK183.out), (by refine blk_far ?_ NB186_192.out _; refine blk_far ?_ NB186_192.out _; exact BK186.out), (by repeat (first | (with_reducible first | exact HB.out | apply below_alloc | apply pw_below_drewN | apply below_drew1 | refine below_set ?_ GE183.out | refine below_set ?_ GE186.out | refine below_set ?_ GE191.out | refine below_set ?_ GE192.out) | exact HB.out)), fun _ _ => NB192_191.out, fun _ _ => NB191_192.out, fun _ h1_ => absurd ((hon 10 (by kernel_rfl)).symm.trans h1_) (by decide), fun _ => GW191.out, fun _ => GE191.out, fun _ => NB183_191.out, fun _ => NB191_183.out, fun _ => NB186_191.out, fun _ => NB191_186.out, fun _ h1_ => absurd ((up_self b 11).symm.trans h1_) (by decide), fun _ => GW192.out, fun _ => GE192.out, fun _ => NB183_192.out, fun _ => NB192_183.out, fun _ => NB186_192.out, fun _ => NB192_186.out, fun _ => (by refine blk_far ?_ NB191_192.out _; refine blk_far ?_ NB191_192.out _; exact BK191.out), fun _ => (by refine blk_put (cs := #[.int .u64 t189, .int .u64 0]) ?_ 1 _ rfl; refine blk_put (cs := #[.int .u64 0, .int .u64 0]) ?_ 0 _ rfl; exact BK192.out), Q_X8_, Q_X9_⟩
     exact steps_nil
    rintro b a w89 hall ⟨gb191, gb192, m8_, m9_, ha, Q_BK183, Q_BK186, Q_HB, Q_NB192_191, Q_NB191_192, Q_BK191, Q_GW191, Q_GE191, Q_NB183_191, Q_NB191_183, Q_NB186_191, Q_NB191_186, Q_BK192, Q_GW192, Q_GE192, Q_NB183_192, Q_NB192_183, Q_NB186_192, Q_NB192_186, Q_BK191_e10, Q_BK192_e11, Q_X8_, Q_X9_⟩
    clear BK183 BK186 HB
    have hb1_ := hall 1 (by kernel_rfl)
    have hb3_ := hall 3 (by kernel_rfl)
    have hb5_ := hall 5 (by kernel_rfl)
    have hb7_ := hall 7 (by kernel_rfl)
    have hb8_ := hall 8 (by kernel_rfl)
    have hb9_ := hall 9 (by kernel_rfl)
    have hb10_ := hall 10 (by kernel_rfl)
    have hb11_ := hall 11 (by kernel_rfl)
    subst ha
    obtain rfl := Q_X8_ hb8_
    obtain rfl := Q_X9_ hb9_
    simp only [putSel, hb1_, hb3_, hb5_, hb7_, hb8_, hb9_, hb10_, hb11_, if_true, Act.put, List.setIfInBounds_toArray, List.set_cons_zero, List.set_cons_succ]
    have BK183 := Aside0.mk Q_BK183
    clear Q_BK183
    have BK186 := Aside0.mk Q_BK186
    clear Q_BK186
    have HB := Aside0.mk Q_HB
    clear Q_HB
    have NB192_191 := Aside0.mk (Q_NB192_191 hb8_ hb9_)
    clear Q_NB192_191
    have NB191_192 := Aside0.mk (Q_NB191_192 hb8_ hb9_)
    clear Q_NB191_192
    clear Q_BK191
    have GW191 := Aside0.mk (Q_GW191 hb8_)
    clear Q_GW191
    have GE191 := Aside0.mk (Q_GE191 hb8_)
    clear Q_GE191
    have NB183_191 := Aside0.mk (Q_NB183_191 hb8_)
    clear Q_NB183_191
    have NB191_183 := Aside0.mk (Q_NB191_183 hb8_)
    clear Q_NB191_183
    have NB186_191 := Aside0.mk (Q_NB186_191 hb8_)
    clear Q_NB186_191
    have NB191_186 := Aside0.mk (Q_NB191_186 hb8_)
    clear Q_NB191_186
    clear Q_BK192
    have GW192 := Aside0.mk (Q_GW192 hb9_)
    clear Q_GW192
    have GE192 := Aside0.mk (Q_GE192 hb9_)
    clear Q_GE192
    have NB183_192 := Aside0.mk (Q_NB183_192 hb9_)
    clear Q_NB183_192
    have NB192_183 := Aside0.mk (Q_NB192_183 hb9_)
    clear Q_NB192_183
    have NB186_192 := Aside0.mk (Q_NB186_192 hb9_)
    clear Q_NB186_192
    have NB192_186 := Aside0.mk (Q_NB192_186 hb9_)
    clear Q_NB192_186
    have BK191 := Aside0.mk (Q_BK191_e10 hb10_)
    clear Q_BK191_e10
    have BK192 := Aside0.mk (Q_BK192_e11 hb11_)
    clear Q_BK192_e11
    clear hall hb1_ hb3_ hb5_ hb7_ hb8_ hb9_ hb10_ hb11_
    have hnb90 := NB191_183.out
    have hnc90 := NB183_191.out
    have hnb91 := NB191_186.out
    have hnc91 := NB186_191.out
    have hnb92 := NB191_192.out
    have hnc92 := NB192_191.out
    have hcz93_0 : w89.cell? ⟨gb191, 0, none⟩ = some (.int .u64 t187) := (blk_cell BK191.out 0).trans rfl
    have hcz93_1 : w89.cell? ⟨gb191, 1, none⟩ = some (.int .u64 t188) := (blk_cell BK191.out 1).trans rfl
    have hfz93_0 := blk_frozen BK191.out 0
    have hfz93_1 := blk_frozen BK191.out 1
    have hnb94 := NB192_183.out
    have hnc94 := NB183_192.out
    have hnb95 := NB192_186.out
    have hnc95 := NB186_192.out
    have hcz96_0 : w89.cell? ⟨gb192, 0, none⟩ = some (.int .u64 t189) := (blk_cell BK192.out 0).trans rfl
    have hcz96_1 : w89.cell? ⟨gb192, 1, none⟩ = some (.int .u64 t190) := (blk_cell BK192.out 1).trans rfl
    have hfz96_0 := blk_frozen BK192.out 0
    have hfz96_1 := blk_frozen BK192.out 1
    try go_wp2_with (first | ((with_reducible refine gate_callee (f := 21) rfl ?_); refine goesL_ (some 30) rfl rfl Try.func21 (by kernel_rfl) rfl #[.agg #[.int .u64 t187, .int .u64 t188], .agg #[.int .u64 t190, .int .u64 0]] rfl (by (try simp only [List.map_toArray, List.map_cons, List.map_nil]); first | done | rfl | (simp only [List.length_drop, List.length_take]; rfl)) ?_; (with_reducible refine (overfallref01_Add.calls k t187 t188 t190 0 t193 t194 false _ A8.out).mono ?_); rintro e w97 ⟨rfl, hb⟩; refine ⟨_, rfl, ?_⟩; have n0_ := Aside0.mk (blk_below (by exact BK183.out) hb); have n1_ := Aside0.mk (blk_below (by exact BK186.out) hb); have n2_ := Aside0.mk (blk_below (by exact BK191.out) hb); have n3_ := Aside0.mk (blk_below (by exact BK192.out) hb); have n4_ := Aside0.mk (below_step (by repeat (first | (with_reducible first | exact HB.out | apply below_alloc | apply pw_below_drewN | apply below_drew1 | refine below_set ?_ GE183.out | refine below_set ?_ GE186.out | refine below_set ?_ GE191.out | refine below_set ?_ GE192.out) | exact HB.out)) hb); clear BK183; clear BK186; clear BK191; clear BK192; clear HB; have BK183 := n0_; have BK186 := n1_; have BK191 := n2_; have BK192 := n3_; have HB := n4_; clear n0_ n1_ n2_ n3_ n4_; (try clear hb); (try clear hb2); (try clear hk); (try clear hi)) | ((with_reducible refine gate_dst (N := 10) rfl ?_); refine box_event ?hg (N := 10) ?hd (cs := #[.int .u64 0, .int .u64 0]) (t := 26) ?hr ?_; (case hd => rfl); (case hg => rfl); (case hr => first | (go_simp; done) | (go_simp; rfl)); intro gb196 hg w98 hbox hb; have n0_ := Aside0.mk (blk_below (by exact BK183.out) hb); have n1_ := Aside0.mk (blk_below (by exact BK186.out) hb); have n2_ := Aside0.mk (blk_below (by exact BK191.out) hb); have n3_ := Aside0.mk (blk_below (by exact BK192.out) hb); have n4_ := Aside0.mk (below_step (by repeat (first | (with_reducible first | exact HB.out | apply below_alloc | apply pw_below_drewN | apply below_drew1 | refine below_set ?_ GE183.out | refine below_set ?_ GE186.out | refine below_set ?_ GE191.out | refine below_set ?_ GE192.out) | exact HB.out)) hb); have n5_ := Aside0.mk (hbox); have n6_ := Aside0.mk ((by rw [hg]; exact (below_size (by repeat (first | (with_reducible first | exact HB.out | apply below_alloc | apply pw_below_drewN | apply below_drew1 | refine below_set ?_ GE183.out | refine below_set ?_ GE186.out | refine below_set ?_ GE191.out | refine below_set ?_ GE192.out) | exact HB.out))) : w.heap.size ≤ gb196)); have n7_ := Aside0.mk ((by rw [hg]; exact (below_size (by repeat (first | (with_reducible first | exact HB.out | apply below_alloc | apply pw_below_drewN | apply below_drew1 | refine below_set ?_ GE183.out | refine below_set ?_ GE186.out | refine below_set ?_ GE191.out | refine below_set ?_ GE192.out) | exact HB.out))) : w.heap.size ≤ gb196)); have n8_ := Aside0.mk ((by rw [hg]; exact Nat.ne_of_lt (blk_lt (by exact BK183.out)) : gb183 ≠ gb196)); have n9_ := Aside0.mk ((by rw [hg]; exact Nat.ne_of_gt (blk_lt (by exact BK183.out)) : gb196 ≠ gb183)); have n10_ := Aside0.mk ((by rw [hg]; exact Nat.ne_of_lt (blk_lt (by exact BK186.out)) : gb186 ≠ gb196)); have n11_ := Aside0.mk ((by rw [hg]; exact Nat.ne_of_gt (blk_lt (by exact BK186.out)) : gb196 ≠ gb186)); have n12_ := Aside0.mk ((by rw [hg]; exact Nat.ne_of_lt (blk_lt (by exact BK191.out)) : gb191 ≠ gb196)); have n13_ := Aside0.mk ((by rw [hg]; exact Nat.ne_of_gt (blk_lt (by exact BK191.out)) : gb196 ≠ gb191)); have n14_ := Aside0.mk ((by rw [hg]; exact Nat.ne_of_lt (blk_lt (by exact BK192.out)) : gb192 ≠ gb196)); have n15_ := Aside0.mk ((by rw [hg]; exact Nat.ne_of_gt (blk_lt (by exact BK192.out)) : gb196 ≠ gb192)); clear BK183; clear BK186; clear BK191; clear BK192; clear HB; have BK183 := n0_; have BK186 := n1_; have BK191 := n2_; have BK192 := n3_; have HB := n4_; have BK196 := n5_; have GW196 := n6_; have GE196 := n7_; have NB183_196 := n8_; have NB196_183 := n9_; have NB186_196 := n10_; have NB196_186 := n11_; have NB191_196 := n12_; have NB196_191 := n13_; have NB192_196 := n14_; have NB196_192 := n15_; clear n0_ n1_ n2_ n3_ n4_ n5_ n6_ n7_ n8_ n9_ n10_ n11_ n12_ n13_ n14_ n15_; clear hb hbox hg; have hnb99 := NB196_183.out; have hnc99 := NB183_196.out; have hnb100 := NB196_186.out; have hnc100 := NB186_196.out; have hnb101 := NB196_191.out; have hnc101 := NB191_196.out; have hnb102 := NB196_192.out; have hnc102 := NB192_196.out; have hcz103_0 : w98.cell? ⟨gb196, 0, none⟩ = some (.int .u64 0) := (blk_cell BK196.out 0).trans rfl; have hcz103_1 : w98.cell? ⟨gb196, 1, none⟩ = some (.int .u64 0) := (blk_cell BK196.out 1).trans rfl; have hfz103_0 := blk_frozen BK196.out 0; have hfz103_1 := blk_frozen BK196.out 1; have hcz104_0 : w98.cell? ⟨gb192, 0, none⟩ = some (.int .u64 t189) := (blk_cell BK192.out 0).trans rfl; have hcz104_1 : w98.cell? ⟨gb192, 1, none⟩ = some (.int .u64 t190) := (blk_cell BK192.out 1).trans rfl; have hfz104_0 := blk_frozen BK192.out 0; have hfz104_1 := blk_frozen BK192.out 1; have hcz105_0 : w98.cell? ⟨gb186, 0, none⟩ = some (.int .u64 t184) := (blk_cell BK186.out 0).trans rfl; have hcz105_1 : w98.cell? ⟨gb186, 1, none⟩ = some (.int .u64 t185) := (blk_cell BK186.out 1).trans rfl; have hfz105_0 := blk_frozen BK186.out 0; have hfz105_1 := blk_frozen BK186.out 1; have hcz106_0 : w98.cell? ⟨gb183, 0, none⟩ = some (.int .u64 a2_0) := (blk_cell BK183.out 0).trans rfl; have hcz106_1 : w98.cell? ⟨gb183, 1, none⟩ = some (.int .u64 a2_1) := (blk_cell BK183.out 1).trans rfl; have hfz106_0 := blk_frozen BK183.out 0; have hfz106_1 := blk_frozen BK183.out 1) | ((with_reducible refine gate_callee (f := 22) rfl ?_); refine goesL_ (some 42) rfl rfl Try.func22 (by kernel_rfl) rfl #[.agg #[.int .u64 a2_0, .int .u64 a2_1], .agg #[.int .u64 t193, .int .u64 t194]] rfl (by (try simp only [List.map_toArray, List.map_cons, List.map_nil]); first | done | rfl | (simp only [List.length_drop, List.length_take]; rfl)) ?_; (with_reducible refine (overfallref01_Less.calls a2_0 a2_1 t193 t194 t197 _ A73.out).mono ?_); rintro e w107 ⟨rfl, hb⟩; refine ⟨_, rfl, ?_⟩; have n0_ := Aside0.mk (blk_below (g := gb183) (o := .cells #[.int .u64 a2_0, .int .u64 a2_1] 26 (0, 0)) (by refine blk_far ?_ NB183_186.out _; refine blk_far ?_ NB183_186.out _; refine blk_far ?_ NB183_196.out _; refine blk_far ?_ NB183_196.out _; exact BK183.out) hb); have n1_ := Aside0.mk (blk_below (g := gb186) (o := .cells #[.int .u64 t193, .int .u64 t194] 26 (0, 0)) (by refine blk_put (cs := #[.int .u64 t193, .int .u64 t185]) ?_ 1 _ rfl; refine blk_put (cs := #[.int .u64 t184, .int .u64 t185]) ?_ 0 _ rfl; refine blk_far ?_ NB186_196.out _; refine blk_far ?_ NB186_196.out _; exact BK186.out) hb); have n2_ := Aside0.mk (blk_below (g := gb191) (o := .cells #[.int .u64 t187, .int .u64 t188] 26 (0, 0)) (by refine blk_far ?_ NB191_186.out _; refine blk_far ?_ NB191_186.out _; refine blk_far ?_ NB191_196.out _; refine blk_far ?_ NB191_196.out _; exact BK191.out) hb); have n3_ := Aside0.mk (blk_below (g := gb192) (o := .cells #[.int .u64 t189, .int .u64 t190] 26 (0, 0)) (by refine blk_far ?_ NB192_186.out _; refine blk_far ?_ NB192_186.out _; refine blk_far ?_ NB192_196.out _; refine blk_far ?_ NB192_196.out _; exact BK192.out) hb); have n4_ := Aside0.mk (blk_below (g := gb196) (o := .cells #[.int .u64 t193, .int .u64 t194] 26 (0, 0)) (by refine blk_far ?_ NB196_186.out _; refine blk_far ?_ NB196_186.out _; refine blk_put (cs := #[.int .u64 t193, .int .u64 0]) ?_ 1 _ rfl; refine blk_put (cs := #[.int .u64 0, .int .u64 0]) ?_ 0 _ rfl; exact BK196.out) hb); have n5_ := Aside0.mk (below_step (by repeat (first | (with_reducible first | exact HB.out | apply below_alloc | apply pw_below_drewN | apply below_drew1 | refine below_set ?_ GE183.out | refine below_set ?_ GE186.out | refine below_set ?_ GE191.out | refine below_set ?_ GE192.out | refine below_set ?_ GE196.out) | exact HB.out)) hb); clear BK183; clear BK186; clear BK191; clear BK192; clear BK196; clear HB; have BK183 := n0_; have BK186 := n1_; have BK191 := n2_; have BK192 := n3_; have BK196 := n4_; have HB := n5_; clear n0_ n1_ n2_ n3_ n4_ n5_; (try clear hb); (try clear hb2); (try clear hk); (try clear hi)))
    go_ret
    exact ⟨by first | rfl | (simp [errW_none, errW_some] <;> rfl) | (simp [*, errW_none, errW_some] <;> rfl), by repeat (first | (with_reducible first | exact HB.out | apply below_alloc | apply pw_below_drewN | apply below_drew1 | refine below_set ?_ GE183.out | refine below_set ?_ GE186.out | refine below_set ?_ GE191.out | refine below_set ?_ GE192.out | refine below_set ?_ GE196.out) | exact HB.out)⟩
 ·rw [if_neg c5] at H
  have c5b0 : decide (1 < a1) = false := decide_eq_false c5
  clear c5
  replace H := Option.bind_eq_some_iff.mp H
  obtain ⟨t198, A1080, H⟩ := H
  replace H : (some (!t198)) = some r := H
  have A108 := Aside0.mk A1080
  clear A1080
  obtain rfl := Option.some.inj H
  go_enter Try.func11, Try.ntmps11
  go_wp2_with (first | ((with_reducible refine gate_dst (N := 5) rfl ?_); refine box_event ?hg (N := 5) ?hd (cs := #[.int .u64 a2_0, .int .u64 a2_1]) (t := 26) ?hr ?_; (case hd => rfl); (case hg => rfl); (case hr => first | (go_simp; done) | (go_simp; rfl)); intro gb183 hg w109 hbox hb; have n0_ := Aside0.mk (below_step (by repeat (first | (with_reducible first | exact HB.out | apply below_alloc | apply pw_below_drewN | apply below_drew1) | exact HB.out)) hb); have n1_ := Aside0.mk (hbox); have n2_ := Aside0.mk ((by rw [hg]; exact (below_size (by repeat (first | (with_reducible first | exact HB.out | apply below_alloc | apply pw_below_drewN | apply below_drew1) | exact HB.out))) : w.heap.size ≤ gb183)); have n3_ := Aside0.mk ((by rw [hg]; exact (below_size (by repeat (first | (with_reducible first | exact HB.out | apply below_alloc | apply pw_below_drewN | apply below_drew1) | exact HB.out))) : w.heap.size ≤ gb183)); clear HB; have HB := n0_; have BK183 := n1_; have GW183 := n2_; have GE183 := n3_; clear n0_ n1_ n2_ n3_; clear hb hbox hg) | ((with_reducible refine gate_callee (f := 14) rfl ?_); refine goesL_ (some 14) rfl rfl Try.func14 (by kernel_rfl) rfl #[.int .u64 a0, .int .u64 a0] rfl (by (try simp only [List.map_toArray, List.map_cons, List.map_nil]); first | done | rfl | (simp only [List.length_drop, List.length_take]; rfl)) ?_; (with_reducible refine (overfallref01_Mul.calls k a0 a0 t184 t185 _ A4.out).mono ?_); rintro e w110 ⟨rfl, hb⟩; refine ⟨_, rfl, ?_⟩; have n0_ := Aside0.mk (blk_below (by exact BK183.out) hb); have n1_ := Aside0.mk (below_step (by repeat (first | (with_reducible first | exact HB.out | apply below_alloc | apply pw_below_drewN | apply below_drew1 | refine below_set ?_ GE183.out) | exact HB.out)) hb); clear BK183; clear HB; have BK183 := n0_; have HB := n1_; clear n0_ n1_; (try clear hb); (try clear hb2); (try clear hk); (try clear hi)) | ((with_reducible refine gate_dst (N := 7) rfl ?_); refine box_event ?hg (N := 7) ?hd (cs := #[.int .u64 0, .int .u64 0]) (t := 26) ?hr ?_; (case hd => rfl); (case hg => rfl); (case hr => first | (go_simp; done) | (go_simp; rfl)); intro gb186 hg w111 hbox hb; have n0_ := Aside0.mk (blk_below (by exact BK183.out) hb); have n1_ := Aside0.mk (below_step (by repeat (first | (with_reducible first | exact HB.out | apply below_alloc | apply pw_below_drewN | apply below_drew1 | refine below_set ?_ GE183.out) | exact HB.out)) hb); have n2_ := Aside0.mk (hbox); have n3_ := Aside0.mk ((by rw [hg]; exact (below_size (by repeat (first | (with_reducible first | exact HB.out | apply below_alloc | apply pw_below_drewN | apply below_drew1 | refine below_set ?_ GE183.out) | exact HB.out))) : w.heap.size ≤ gb186)); have n4_ := Aside0.mk ((by rw [hg]; exact (below_size (by repeat (first | (with_reducible first | exact HB.out | apply below_alloc | apply pw_below_drewN | apply below_drew1 | refine below_set ?_ GE183.out) | exact HB.out))) : w.heap.size ≤ gb186)); have n5_ := Aside0.mk ((by rw [hg]; exact Nat.ne_of_lt (blk_lt (by exact BK183.out)) : gb183 ≠ gb186)); have n6_ := Aside0.mk ((by rw [hg]; exact Nat.ne_of_gt (blk_lt (by exact BK183.out)) : gb186 ≠ gb183)); clear BK183; clear HB; have BK183 := n0_; have HB := n1_; have BK186 := n2_; have GW186 := n3_; have GE186 := n4_; have NB183_186 := n5_; have NB186_183 := n6_; clear n0_ n1_ n2_ n3_ n4_ n5_ n6_; clear hb hbox hg; have hnb112 := NB186_183.out; have hnc112 := NB183_186.out; have hcz113_0 : w111.cell? ⟨gb186, 0, none⟩ = some (.int .u64 0) := (blk_cell BK186.out 0).trans rfl; have hcz113_1 : w111.cell? ⟨gb186, 1, none⟩ = some (.int .u64 0) := (blk_cell BK186.out 1).trans rfl; have hfz113_0 := blk_frozen BK186.out 0; have hfz113_1 := blk_frozen BK186.out 1; have hcz114_0 : w111.cell? ⟨gb183, 0, none⟩ = some (.int .u64 a2_0) := (blk_cell BK183.out 0).trans rfl; have hcz114_1 : w111.cell? ⟨gb183, 1, none⟩ = some (.int .u64 a2_1) := (blk_cell BK183.out 1).trans rfl; have hfz114_0 := blk_frozen BK183.out 0; have hfz114_1 := blk_frozen BK183.out 1) | ((with_reducible refine gate_callee (f := 22) rfl ?_); refine goesL_ (some 42) rfl rfl Try.func22 (by kernel_rfl) rfl #[.agg #[.int .u64 a2_0, .int .u64 a2_1], .agg #[.int .u64 t184, .int .u64 t185]] rfl (by (try simp only [List.map_toArray, List.map_cons, List.map_nil]); first | done | rfl | (simp only [List.length_drop, List.length_take]; rfl)) ?_; (with_reducible refine (overfallref01_Less.calls a2_0 a2_1 t184 t185 t198 _ A108.out).mono ?_); rintro e w115 ⟨rfl, hb⟩; refine ⟨_, rfl, ?_⟩; have n0_ := Aside0.mk (blk_below (g := gb183) (o := .cells #[.int .u64 a2_0, .int .u64 a2_1] 26 (0, 0)) (by refine blk_far ?_ NB183_186.out _; refine blk_far ?_ NB183_186.out _; exact BK183.out) hb); have n1_ := Aside0.mk (blk_below (g := gb186) (o := .cells #[.int .u64 t184, .int .u64 t185] 26 (0, 0)) (by refine blk_put (cs := #[.int .u64 t184, .int .u64 0]) ?_ 1 _ rfl; refine blk_put (cs := #[.int .u64 0, .int .u64 0]) ?_ 0 _ rfl; exact BK186.out) hb); have n2_ := Aside0.mk (below_step (by repeat (first | (with_reducible first | exact HB.out | apply below_alloc | apply pw_below_drewN | apply below_drew1 | refine below_set ?_ GE183.out | refine below_set ?_ GE186.out) | exact HB.out)) hb); clear BK183; clear BK186; clear HB; have BK183 := n0_; have BK186 := n1_; have HB := n2_; clear n0_ n1_ n2_; (try clear hb); (try clear hb2); (try clear hk); (try clear hi)))
  go_ret
  exact ⟨by first | rfl | (simp [errW_none, errW_some] <;> rfl) | (simp [*, errW_none, errW_some] <;> rfl), by repeat (first | (with_reducible first | exact HB.out | apply below_alloc | apply pw_below_drewN | apply below_drew1 | refine below_set ?_ GE183.out | refine below_set ?_ GE186.out) | exact HB.out)⟩

end Go.Proofs.Ytbpjgkidhlkiiaa.G

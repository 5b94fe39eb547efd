-- Laid by a program of this claim's session (wip/tools/myprint.py) over the kit's printer.
import Derived.Test.YtiiffgmbkajkhaaLx0
import Derived.Test.YtiiffgmbkajkhaaLx8
import Derived.Test.YtiiffgmbkajkhaaLx10
namespace Go.Proofs.Ytiiffgmbkajkhaa.L
open Go.RowKit Go.Proofs.YtiiffgmbkajkhaaW.PrintWords Go.Proofs.YtiiffgmbkajkhaaW.PrintLast Go.Proofs.YtiiffgmbkajkhaaW.PrintMore
attribute [local go_sem] max2_int min2_int max_two min_two max_three min_three max_four min_four   -- for this text's walks alone
set_option linter.unusedVariables false
set_option linter.unusedSimpArgs false

/-! ### overfallref03_Fits: function 39 -/
def overfallref03_Fits.f (k : Nat) (a0 : Int) (a1 : Int) (a2_0 : Int) (a2_1 : Int) : Option (Bool) := (overfallref01_Mul.f k a0 a0).bind fun bt339 => (if a1 > 1 then ((overfallref01_Mul.f k bt339.2 a1).bind fun bt342 => ((overfallref01_Mul.f k bt339.1 a1).bind fun bt344 => ((overfallref01_Add.f k bt342.1 bt342.2 bt344.2 0).bind fun bt348 => (if bt344.1 > 0 then (some false) else (if bt348.2.2 = true then (some false) else ((overfallref01_Less.f a2_0 a2_1 bt348.1 bt348.2.1).bind fun t352 => (some (!t352)))))))) else ((overfallref01_Less.f a2_0 a2_1 bt339.1 bt339.2).bind fun t353 => (some (!t353))))
theorem overfallref03_Fits.mono : ∀ a0 a1 a2 a3 k, LeO (overfallref03_Fits.f k a0 a1 a2 a3) (overfallref03_Fits.f (k + 1) a0 a1 a2 a3) := by
 intro a0 a1 a2 a3 k
 unfold overfallref03_Fits.f
 repeat' first
   | (with_reducible exact overfallref01_Add.mono _ _ _ _ _)
   | (with_reducible exact overfallref01_Mul.mono _ _ _)
   | (with_reducible exact LeO.refl _)
   | (with_reducible exact LeO.none _)
   | (with_reducible refine LeO.ite ?_ ?_)
   | (with_reducible refine LeO.bind ?_ (fun _ => ?_))
   | exact overfallref01_Add.mono _ _ _ _ _
   | exact overfallref01_Mul.mono _ _ _
   | exact LeO.none _
   | refine LeO.ite ?_ ?_
   | refine LeO.bind ?_ (fun _ => ?_)
def overfallref03_Fits.T3 : Bool × List (List Nat × List Nat) := (true, [([], []), ([0], [0]), ([], []), ([1, 2], [1, 2]), ([], []), ([4], [4]), ([], []), ([5, 6, 3], [5, 6]), ([], []), ([], []), ([8, 3, 7, 0, 1, 2, 3, 8, 9], [3, 8]), ([9, 7, 10, 0, 1, 2, 3, 4, 5, 6, 7, 8, 9, 10], [7, 9])])
def overfallref03_Fits.B3 : List Nat := [0, 1, 0, 7, 0, 16, 0, 127, 0, 0, 1023, 2047]
theorem overfallref03_Fits.tab3 : rtab .any (opsOf Try.f39 3) = overfallref03_Fits.T3 := by kernel_rfl
theorem overfallref03_Fits.bits3 : waitsOk overfallref03_Fits.T3.2 overfallref03_Fits.B3 = true := by kernel_rfl
set_option maxHeartbeats 8000000 in
set_option maxRecDepth 100000 in
theorem overfallref03_Fits.calls (k : Nat) (a0 : Int) (a1 : Int) (a2_0 : Int) (a2_1 : Int) (r : Bool) (w : World) (h : overfallref03_Fits.f k a0 a1 a2_0 a2_1 = some r) :
  Calls Try.prog 39 #[.int .u64 a0, .int .u64 a1, .agg #[.int .u64 a2_0, .int .u64 a2_1]] w fun e w' => e = .returned (.bool r) ∧ Below w.heap.size w w' := by
 have hu50 := Try.underlying50
 have HB := m_ (Below.refl w.heap.size w)
 have H : ((overfallref01_Mul.f k a0 a0).bind fun bt339 => (if a1 > 1 then ((overfallref01_Mul.f k bt339.2 a1).bind fun bt342 => ((overfallref01_Mul.f k bt339.1 a1).bind fun bt344 => ((overfallref01_Add.f k bt342.1 bt342.2 bt344.2 0).bind fun bt348 => (if bt344.1 > 0 then (some false) else (if bt348.2.2 = true then (some false) else ((overfallref01_Less.f a2_0 a2_1 bt348.1 bt348.2.1).bind fun t352 => (some (!t352)))))))) else ((overfallref01_Less.f a2_0 a2_1 bt339.1 bt339.2).bind fun t353 => (some (!t353))))) = some r := h
 clear h
 replace H := Option.bind_eq_some_iff.mp H
 obtain ⟨⟨t339, t340⟩, A40, H⟩ := H
 replace H : (if a1 > 1 then ((overfallref01_Mul.f k t340 a1).bind fun bt342 => ((overfallref01_Mul.f k t339 a1).bind fun bt344 => ((overfallref01_Add.f k bt342.1 bt342.2 bt344.2 0).bind fun bt348 => (if bt344.1 > 0 then (some false) else (if bt348.2.2 = true then (some false) else ((overfallref01_Less.f a2_0 a2_1 bt348.1 bt348.2.1).bind fun t352 => (some (!t352)))))))) else ((overfallref01_Less.f a2_0 a2_1 t339 t340).bind fun t353 => (some (!t353)))) = some r := H
 have A4 := Aside0.mk A40
 clear A40
 by_cases c5 : a1 > 1
 ·rw [if_pos c5] at H
  have c5b0 : decide (1 < a1) = true := decide_eq_true c5
  clear c5
  replace H := Option.bind_eq_some_iff.mp H
  obtain ⟨⟨t342, t343⟩, A60, H⟩ := H
  replace H : ((overfallref01_Mul.f k t339 a1).bind fun bt344 => ((overfallref01_Add.f k t342 t343 bt344.2 0).bind fun bt348 => (if bt344.1 > 0 then (some false) else (if bt348.2.2 = true then (some false) else ((overfallref01_Less.f a2_0 a2_1 bt348.1 bt348.2.1).bind fun t352 => (some (!t352))))))) = some r := H
  have A6 := Aside0.mk A60
  clear A60
  replace H := Option.bind_eq_some_iff.mp H
  obtain ⟨⟨t344, t345⟩, A70, H⟩ := H
  replace H : ((overfallref01_Add.f k t342 t343 t345 0).bind fun bt348 => (if t344 > 0 then (some false) else (if bt348.2.2 = true then (some false) else ((overfallref01_Less.f a2_0 a2_1 bt348.1 bt348.2.1).bind fun t352 => (some (!t352)))))) = some r := H
  have A7 := Aside0.mk A70
  clear A70
  replace H := Option.bind_eq_some_iff.mp H
  obtain ⟨⟨t348, t349, t350⟩, A80, H⟩ := H
  replace H : (if t344 > 0 then (some false) else (if t350 = true then (some false) else ((overfallref01_Less.f a2_0 a2_1 t348 t349).bind fun t352 => (some (!t352))))) = some r := H
  have A8 := Aside0.mk A80
  clear A80
  by_cases c9 : t344 > 0
  ·rw [if_pos c9] at H
   have c9b0 : decide (0 < t344) = true := decide_eq_true c9
   clear c9
   obtain rfl := Option.some.inj H
   go_enter Try.func39, Try.ntmps39
   try go_wp2_with (first | ((with_reducible refine gate_dst (N := 5) rfl ?_); refine box_event ?hg (N := 5) ?hd (cs := #[.int .u64 a2_0, .int .u64 a2_1]) (t := 50) ?hr ?_; (case hd => rfl); (case hg => rfl); (case hr => first | (go_simp; done) | (go_simp; rfl)); intro gb338 hg w10 hbox hb; have BK338 := m_ (hbox); have GW338 := ge_ (by repeat (with_reducible first | exact HB.out)) hg; have GE338 := GW338; replace HB := st_ (by repeat (with_reducible first | exact HB.out)) hb; clear hb hbox hg) | ((with_reducible refine gate_callee (f := 30) rfl ?_); refine goesL_ (some 14) rfl rfl Try.func30 (by kernel_rfl) rfl #[.int .u64 a0, .int .u64 a0] rfl (by first | rfl | (simp only [List.map_toArray, List.map_cons, List.map_nil]; first | done | rfl)) ?_; (with_reducible refine (overfallref01_Mul.calls k a0 a0 t339 t340 _ A4.out).mono ?_); rintro e w11 ⟨rfl, hb⟩; refine ⟨_, rfl, ?_⟩; replace BK338 := bb_ BK338 hb; replace HB := st_ (by repeat (with_reducible first | exact HB.out | apply bs_ GE338)) hb; (try clear hb)) | ((with_reducible refine gate_dst (N := 7) rfl ?_); refine box_event ?hg (N := 7) ?hd (cs := #[.int .u64 0, .int .u64 0]) (t := 50) ?hr ?_; (case hd => rfl); (case hg => rfl); (case hr => first | (go_simp; done) | (go_simp; rfl)); intro gb341 hg w12 hbox hb; have BK341 := m_ (hbox); have GW341 := ge_ (by repeat (with_reducible first | exact HB.out | apply bs_ GE338)) hg; have GE341 := GW341; have NB338_341 := nl_ BK338 hg; have NB341_338 := ng_ BK338 hg; replace BK338 := bb_ BK338 hb; replace HB := st_ (by repeat (with_reducible first | exact HB.out | apply bs_ GE338)) hb; clear hb hbox hg; have hnb13 := NB341_338.out; have hnc13 := NB338_341.out; obtain ⟨hcz14_0, hcz14_1, hfz14_0, hfz14_1⟩ := cf2 BK341))
   have n0_ : Aside0 (((w12.setCell ⟨gb341, 0, none⟩ (.int .u64 t339)).setCell ⟨gb341, 1, none⟩ (.int .u64 t340)).heap[gb338]? = some (.cells #[.int .u64 a2_0, .int .u64 a2_1] 50 (0, 0))) := ⟨by refine far2_ NB338_341 ?_; exact BK338.out⟩
   have n1_ : Aside0 (((w12.setCell ⟨gb341, 0, none⟩ (.int .u64 t339)).setCell ⟨gb341, 1, none⟩ (.int .u64 t340)).heap[gb341]? = some (.cells #[.int .u64 t339, .int .u64 t340] 50 (0, 0))) := ⟨by apply put2_; exact BK341.out⟩
   have n2_ : Aside0 (Below w.heap.size w ((w12.setCell ⟨gb341, 0, none⟩ (.int .u64 t339)).setCell ⟨gb341, 1, none⟩ (.int .u64 t340))) := ⟨by repeat (with_reducible first | exact HB.out | apply bs_ GE338 | apply bs_ GE341)⟩
   (try clear BK338)
   (try clear BK341)
   (try clear HB)
   generalize ((w12.setCell ⟨gb341, 0, none⟩ (.int .u64 t339)).setCell ⟨gb341, 1, none⟩ (.int .u64 t340)) = w15 at n0_ n1_ n2_ ⊢
   have BK338 := n0_
   have BK341 := n1_
   have HB := n2_
   clear n0_ n1_ n2_
   replace BK338 := m_ (blk_drew BK338.out)
   replace BK341 := m_ (blk_drew BK341.out)
   replace HB := m_ (below_drew1 HB.out)
   refine start_ (n := 12) (S := fun w' => True) (ds := []) #[false, false, false, false, false, false, false, false, false, false, false, false] (by kernel_rfl) rfl rfl trivial (fun hHeld => ?_); refine with_tabW overfallref03_Fits.tab3 overfallref03_Fits.bits3 (fun HT_ HW_ => ?_)
   generalize w15.drew = w16 at BK338 BK341 HB hHeld ⊢
   refine pure_ (i := 0) (N := some 17) (v := ?_) (a' := ?_) #[true, false, false, false, false, false, false, false, false, false, false, false] rfl rfl (any_of HT_.out (by kernel_rfl)) (fun _ _ _ h => h) (Or.inl ⟨by rfl, ?_⟩) ?_ ?_
   rotate_left
   ·intro w'
    go_simp
    with_reducible rfl
   rotate_left
   ·simp only [Act.put, sa_, s0_, ss_, i64_w, i32_w]
    rfl
   refine pure_ (i := 2) (N := some 19) (v := ?_) (a' := ?_) #[true, false, true, false, false, false, false, false, false, false, false, false] rfl rfl (any_of HT_.out (by kernel_rfl)) (fun _ _ _ h => h) (Or.inl ⟨by rfl, ?_⟩) ?_ ?_
   rotate_left
   ·intro w'
    go_simp
    with_reducible rfl
   rotate_left
   ·simp only [Act.put, sa_, s0_, ss_, i64_w, i32_w]
    rfl
   refine pure_ (i := 4) (N := some 21) (v := ?_) (a' := ?_) #[true, false, true, false, true, false, false, false, false, false, false, false] rfl rfl (any_of HT_.out (by kernel_rfl)) (fun _ _ _ h => h) (Or.inl ⟨by rfl, ?_⟩) ?_ ?_
   rotate_left
   ·intro w'
    go_simp
    with_reducible rfl
   rotate_left
   ·simp only [Act.put, sa_, s0_, ss_, i64_w, i32_w]
    rfl
   refine pure_ (i := 6) (N := some 23) (v := ?_) (a' := ?_) #[true, false, true, false, true, false, true, false, false, false, false, false] rfl rfl (any_of HT_.out (by kernel_rfl)) (fun _ _ _ h => h) (Or.inl ⟨by rfl, ?_⟩) ?_ ?_
   rotate_left
   ·intro w'
    go_simp
    with_reducible rfl
   rotate_left
   ·simp only [Act.put, sa_, s0_, ss_, i64_w, i32_w]
    rfl
   refine inv_at [1, 3, 5, 7, 8, 9, 10, 11] (fun a0_ b a w' => ∃ (gb346 : Nat) (gb347 : Nat) (m8_ : Value) (m9_ : Value), a = putSel a0_ b [(1, 18, .int .u64 t340), (3, 20, .agg #[.int .u64 t342, .int .u64 t343]), (5, 22, .int .u64 t339), (7, 24, .agg #[.int .u64 t344, .int .u64 t345]), (8, 8, m8_), (9, 9, m9_)] ∧ (w'.heap[gb338]? = some (.cells #[.int .u64 a2_0, .int .u64 a2_1] 50 (0, 0))) ∧ (w'.heap[gb341]? = some (.cells #[.int .u64 t339, .int .u64 t340] 50 (0, 0))) ∧ (Below w.heap.size w w') ∧ (b 8 = true → b 9 = true → gb347 ≠ gb346) ∧ (b 8 = true → b 9 = true → gb346 ≠ gb347) ∧ (b 8 = true → b 10 = false → w'.heap[gb346]? = some (.cells #[.int .u64 0, .int .u64 0] 50 (0, 0))) ∧ (b 8 = true → w.heap.size ≤ gb346) ∧ (b 8 = true → w.heap.size ≤ gb346) ∧ (b 8 = true → gb338 ≠ gb346) ∧ (b 8 = true → gb346 ≠ gb338) ∧ (b 8 = true → gb341 ≠ gb346) ∧ (b 8 = true → gb346 ≠ gb341) ∧ (b 9 = true → b 11 = false → w'.heap[gb347]? = some (.cells #[.int .u64 0, .int .u64 0] 50 (0, 0))) ∧ (b 9 = true → w.heap.size ≤ gb347) ∧ (b 9 = true → w.heap.size ≤ gb347) ∧ (b 9 = true → gb338 ≠ gb347) ∧ (b 9 = true → gb347 ≠ gb338) ∧ (b 9 = true → gb341 ≠ gb347) ∧ (b 9 = true → gb347 ≠ gb341) ∧ (b 10 = true → w'.heap[gb346]? = some (.cells #[.int .u64 t342, .int .u64 t343] 50 (0, 0))) ∧ (b 11 = true → w'.heap[gb347]? = some (.cells #[.int .u64 t344, .int .u64 t345] 50 (0, 0))) ∧ (b 8 = true → (m8_ : Value) = .pointer (some ⟨gb346, 0, none⟩)) ∧ (b 9 = true → (m9_ : Value) = .pointer (some ⟨gb347, 0, none⟩))) HT_.out HW_.out (by kernel_rfl) (by kernel_rfl) ?_ ?_ ?_
   ·exact ⟨0, 0, .bool false, .bool false, by simp only [putSel, Bool.false_eq_true, if_false], BK338.out, BK341.out, HB.out, fun h_ => absurd h_ (by decide), fun h_ => absurd h_ (by decide), fun h_ => absurd h_ (by decide), fun h_ => absurd h_ (by decide), fun h_ => absurd h_ (by decide), fun h_ => absurd h_ (by decide), fun h_ => absurd h_ (by decide), fun h_ => absurd h_ (by decide), fun h_ => absurd h_ (by decide), fun h_ => absurd h_ (by decide), fun h_ => absurd h_ (by decide), fun h_ => absurd h_ (by decide), fun h_ => absurd h_ (by decide), fun h_ => absurd h_ (by decide), fun h_ => absurd h_ (by decide), fun h_ => absurd h_ (by decide), fun h_ => absurd h_ (by decide), fun h_ => absurd h_ (by decide), fun h_ => absurd h_ (by decide), fun h_ => absurd h_ (by decide)⟩
   ·skip
    clear BK338 BK341 HB
    refine steps_cons ?_ ?_
    ·rintro b a w' ⟨gb346, gb347, m8_, m9_, ha, Q_BK338, Q_BK341, Q_HB, Q_NB347_346, Q_NB346_347, Q_BK346, Q_GW346, Q_GE346, Q_NB338_346, Q_NB346_338, Q_NB341_346, Q_NB346_341, Q_BK347, Q_GW347, Q_GE347, Q_NB338_347, Q_NB347_338, Q_NB341_347, Q_NB347_341, Q_BK346_e10, Q_BK347_e11, Q_X8_, Q_X9_⟩ hb_ hon hoff
     refine ⟨_, rfl, fun K hK => ?_⟩
     have e17 : a.tmps[17]? = some (.pointer (some ⟨gb341, 1, none⟩)) := by rw [ha]; exact (putSel_off rfl).trans rfl
     replace ha := Aside0.mk ha
     have BK338 := Aside0.mk Q_BK338
     have BK341 := Aside0.mk Q_BK341
     have HB := Aside0.mk Q_HB
     have hc0_ : w'.cell? ⟨gb341, 0, none⟩ = some (.int .u64 t339) := (blk_cell BK341.out 0).trans rfl
     have hc1_ : w'.cell? ⟨gb341, 1, none⟩ = some (.int .u64 t340) := (blk_cell BK341.out 1).trans rfl
     refine value_ (w1 := w') (v := .int .u64 t340) (by rfl) rfl ?_ ?_
     ·go_simp
      (try simp only [i64_w])
      try rfl
     refine hK.out _ _ ⟨gb346, gb347, m8_, m9_, (by rw [ha.out]; exact putSel_upk 0 hb_ rfl rfl rfl), Q_BK338, Q_BK341, Q_HB, Q_NB347_346, Q_NB346_347, Q_BK346, Q_GW346, Q_GE346, Q_NB338_346, Q_NB346_338, Q_NB341_346, Q_NB346_341, Q_BK347, Q_GW347, Q_GE347, Q_NB338_347, Q_NB347_338, Q_NB341_347, Q_NB347_341, fun h0_ => absurd ((hoff 10 (by kernel_rfl)).symm.trans h0_) (by decide), fun h0_ => absurd ((hoff 11 (by kernel_rfl)).symm.trans h0_) (by decide), Q_X8_, Q_X9_⟩
    refine steps_cons ?_ ?_
    ·rintro b a w' ⟨gb346, gb347, m8_, m9_, ha, Q_BK338, Q_BK341, Q_HB, Q_NB347_346, Q_NB346_347, Q_BK346, Q_GW346, Q_GE346, Q_NB338_346, Q_NB346_338, Q_NB341_346, Q_NB346_341, Q_BK347, Q_GW347, Q_GE347, Q_NB338_347, Q_NB347_338, Q_NB341_347, Q_NB347_341, Q_BK346_e10, Q_BK347_e11, Q_X8_, Q_X9_⟩ hb_ hon hoff
     refine ⟨_, rfl, fun K hK => ?_⟩
     have e18 : a.tmps[18]? = some (.int .u64 t340) := by rw [ha]; exact putSel_on (e := (1, 18, .int .u64 t340)) 0 rfl rfl (hon 1 (by kernel_rfl)) rfl
     have e19 : a.tmps[19]? = some (.int .u64 a1) := by rw [ha]; exact (putSel_off rfl).trans rfl
     replace ha := Aside0.mk ha
     have BK338 := Aside0.mk Q_BK338
     have BK341 := Aside0.mk Q_BK341
     have HB := Aside0.mk Q_HB
     refine goes_ Try.func30 (by kernel_rfl) rfl #[.int .u64 t340, .int .u64 a1] (by rfl) rfl rfl (by first | (simp only [List.map_toArray, List.map_cons, List.map_nil, Act.eval, Array.getD_eq_getD_getElem?, Option.getD_some, e18, e19]; done) | (simp only [List.map_toArray, List.map_cons, List.map_nil, Act.eval, Array.getD_eq_getD_getElem?, Option.getD_some, e18, e19]; rfl)) ?_
     with_reducible refine (overfallref01_Mul.calls k t340 a1 t342 t343 _ A6.out).mono ?_
     rintro e w17 ⟨rfl, hb⟩
     refine ⟨_, rfl, ?_⟩
     have n0_ := bb_ BK338 hb
     have n1_ := bb_ BK341 hb
     have n2_ := st_ (by repeat (with_reducible first | exact HB.out | apply bs_ GE338 | apply bs_ GE341)) hb
     have z_BK346 := fun (h0_ : b 8 = true) (h1_ : b 10 = false) => (show w17.heap[gb346]? = some (.cells #[.int .u64 0, .int .u64 0] 50 (0, 0)) from by first | exact (blk_below (g := gb346) (o := .cells #[.int .u64 0, .int .u64 0] 50 (0, 0)) (by exact (Q_BK346 h0_ h1_)) hb))
     have z_BK347 := fun (h0_ : b 9 = true) (h1_ : b 11 = false) => (show w17.heap[gb347]? = some (.cells #[.int .u64 0, .int .u64 0] 50 (0, 0)) from by first | exact (blk_below (g := gb347) (o := .cells #[.int .u64 0, .int .u64 0] 50 (0, 0)) (by exact (Q_BK347 h0_ h1_)) hb))
     clear BK338
     clear BK341
     clear HB
     have BK338 := n0_
     have BK341 := n1_
     have HB := n2_
     clear n0_ n1_ n2_
     (try clear hb)
     (try clear hb2)
     (try clear hk)
     (try clear hi)
     refine hK.out _ _ ⟨gb346, gb347, m8_, m9_, (by rw [ha.out]; exact putSel_upk 1 hb_ rfl rfl rfl), (by exact BK338.out), (by exact BK341.out), (by repeat (with_reducible first | exact HB.out | apply bs_ GE338 | apply bs_ GE341)), Q_NB347_346, Q_NB346_347, z_BK346, Q_GW346, Q_GE346, Q_NB338_346, Q_NB346_338, Q_NB341_346, Q_NB346_341, z_BK347, Q_GW347, Q_GE347, Q_NB338_347, Q_NB347_338, Q_NB341_347, Q_NB347_341, fun h0_ => absurd ((hoff 10 (by kernel_rfl)).symm.trans h0_) (by decide), fun h0_ => absurd ((hoff 11 (by kernel_rfl)).symm.trans h0_) (by decide), Q_X8_, Q_X9_⟩
    refine steps_cons ?_ ?_
    ·rintro b a w' ⟨gb346, gb347, m8_, m9_, ha, Q_BK338, Q_BK341, Q_HB, Q_NB347_346, Q_NB346_347, Q_BK346, Q_GW346, Q_GE346, Q_NB338_346, Q_NB346_338, Q_NB341_346, Q_NB346_341, Q_BK347, Q_GW347, Q_GE347, Q_NB338_347, Q_NB347_338, Q_NB341_347, Q_NB347_341, Q_BK346_e10, Q_BK347_e11, Q_X8_, Q_X9_⟩ hb_ hon hoff
     refine ⟨_, rfl, fun K hK => ?_⟩
     have e21 : a.tmps[21]? = some (.pointer (some ⟨gb341, 0, none⟩)) := by rw [ha]; exact (putSel_off rfl).trans rfl
     replace ha := Aside0.mk ha
     have BK338 := Aside0.mk Q_BK338
     have BK341 := Aside0.mk Q_BK341
     have HB := Aside0.mk Q_HB
     have hc0_ : w'.cell? ⟨gb341, 0, none⟩ = some (.int .u64 t339) := (blk_cell BK341.out 0).trans rfl
     have hc1_ : w'.cell? ⟨gb341, 1, none⟩ = some (.int .u64 t340) := (blk_cell BK341.out 1).trans rfl
     refine value_ (w1 := w') (v := .int .u64 t339) (by rfl) rfl ?_ ?_
     ·go_simp
      (try simp only [i64_w])
      try rfl
     refine hK.out _ _ ⟨gb346, gb347, m8_, m9_, (by rw [ha.out]; exact putSel_upk 2 hb_ rfl rfl rfl), Q_BK338, Q_BK341, Q_HB, Q_NB347_346, Q_NB346_347, Q_BK346, Q_GW346, Q_GE346, Q_NB338_346, Q_NB346_338, Q_NB341_346, Q_NB346_341, Q_BK347, Q_GW347, Q_GE347, Q_NB338_347, Q_NB347_338, Q_NB341_347, Q_NB347_341, fun h0_ => absurd ((hoff 10 (by kernel_rfl)).symm.trans h0_) (by decide), fun h0_ => absurd ((hoff 11 (by kernel_rfl)).symm.trans h0_) (by decide), Q_X8_, Q_X9_⟩
    refine steps_cons ?_ ?_
    ·rintro b a w' ⟨gb346, gb347, m8_, m9_, ha, Q_BK338, Q_BK341, Q_HB, Q_NB347_346, Q_NB346_347, Q_BK346, Q_GW346, Q_GE346, Q_NB338_346, Q_NB346_338, Q_NB341_346, Q_NB346_341, Q_BK347, Q_GW347, Q_GE347, Q_NB338_347, Q_NB347_338, Q_NB341_347, Q_NB347_341, Q_BK346_e10, Q_BK347_e11, Q_X8_, Q_X9_⟩ hb_ hon hoff
     refine ⟨_, rfl, fun K hK => ?_⟩
     have e22 : a.tmps[22]? = some (.int .u64 t339) := by rw [ha]; exact putSel_on (e := (5, 22, .int .u64 t339)) 2 rfl rfl (hon 5 (by kernel_rfl)) rfl
     have e23 : a.tmps[23]? = some (.int .u64 a1) := by rw [ha]; exact (putSel_off rfl).trans rfl
     replace ha := Aside0.mk ha
     have BK338 := Aside0.mk Q_BK338
     have BK341 := Aside0.mk Q_BK341
     have HB := Aside0.mk Q_HB
     refine goes_ Try.func30 (by kernel_rfl) rfl #[.int .u64 t339, .int .u64 a1] (by rfl) rfl rfl (by first | (simp only [List.map_toArray, List.map_cons, List.map_nil, Act.eval, Array.getD_eq_getD_getElem?, Option.getD_some, e22, e23]; done) | (simp only [List.map_toArray, List.map_cons, List.map_nil, Act.eval, Array.getD_eq_getD_getElem?, Option.getD_some, e22, e23]; rfl)) ?_
     with_reducible refine (overfallref01_Mul.calls k t339 a1 t344 t345 _ A7.out).mono ?_
     rintro e w19 ⟨rfl, hb⟩
     refine ⟨_, rfl, ?_⟩
     have n0_ := bb_ BK338 hb
     have n1_ := bb_ BK341 hb
     have n2_ := st_ (by repeat (with_reducible first | exact HB.out | apply bs_ GE338 | apply bs_ GE341)) hb
     have z_BK346 := fun (h0_ : b 8 = true) (h1_ : b 10 = false) => (show w19.heap[gb346]? = some (.cells #[.int .u64 0, .int .u64 0] 50 (0, 0)) from by first | exact (blk_below (g := gb346) (o := .cells #[.int .u64 0, .int .u64 0] 50 (0, 0)) (by exact (Q_BK346 h0_ h1_)) hb))
     have z_BK347 := fun (h0_ : b 9 = true) (h1_ : b 11 = false) => (show w19.heap[gb347]? = some (.cells #[.int .u64 0, .int .u64 0] 50 (0, 0)) from by first | exact (blk_below (g := gb347) (o := .cells #[.int .u64 0, .int .u64 0] 50 (0, 0)) (by exact (Q_BK347 h0_ h1_)) hb))
     clear BK338
     clear BK341
     clear HB
     have BK338 := n0_
     have BK341 := n1_
     have HB := n2_
     clear n0_ n1_ n2_
     (try clear hb)
     (try clear hb2)
     (try clear hk)
     (try clear hi)
     refine hK.out _ _ ⟨gb346, gb347, m8_, m9_, (by rw [ha.out]; exact putSel_upk 3 hb_ rfl rfl rfl), (by exact BK338.out), (by exact BK341.out), (by repeat (with_reducible first | exact HB.out | apply bs_ GE338 | apply bs_ GE341)), Q_NB347_346, Q_NB346_347, z_BK346, Q_GW346, Q_GE346, Q_NB338_346, Q_NB346_338, Q_NB341_346, Q_NB346_341, z_BK347, Q_GW347, Q_GE347, Q_NB338_347, Q_NB347_338, Q_NB341_347, Q_NB347_341, fun h0_ => absurd ((hoff 10 (by kernel_rfl)).symm.trans h0_) (by decide), fun h0_ => absurd ((hoff 11 (by kernel_rfl)).symm.trans h0_) (by decide), Q_X8_, Q_X9_⟩
    refine steps_cons ?_ ?_
    ·rintro b a w' ⟨gb346, gb347, m8_, m9_, ha, Q_BK338, Q_BK341, Q_HB, Q_NB347_346, Q_NB346_347, Q_BK346, Q_GW346, Q_GE346, Q_NB338_346, Q_NB346_338, Q_NB341_346, Q_NB346_341, Q_BK347, Q_GW347, Q_GE347, Q_NB338_347, Q_NB347_338, Q_NB341_347, Q_NB347_341, Q_BK346_e10, Q_BK347_e11, Q_X8_, Q_X9_⟩ hb_ hon hoff
     refine ⟨_, rfl, fun K hK => ?_⟩
     replace ha := Aside0.mk ha
     have BK338 := Aside0.mk Q_BK338
     have BK341 := Aside0.mk Q_BK341
     have HB := Aside0.mk Q_HB
     refine box_step ?hg (N := 8) ?hd (cs := #[.int .u64 0, .int .u64 0]) (t := 50) ?hr ?_; (case hd => rfl); (case hg => rfl); (case hr => first | (go_simp; done) | (go_simp; rfl))
     intro gb346 hg w17 hbox hb
     have n0_ := bb_ BK338 hb
     have n1_ := bb_ BK341 hb
     have n2_ := st_ (by repeat (with_reducible first | exact HB.out | apply bs_ GE338 | apply bs_ GE341)) hb
     have n3_ := m_ (hbox)
     have n4_ := ge_ (by repeat (with_reducible first | exact HB.out | apply bs_ GE338 | apply bs_ GE341)) hg
     have n5_ := ge_ (by repeat (with_reducible first | exact HB.out | apply bs_ GE338 | apply bs_ GE341)) hg
     have n6_ := nl_ BK338 hg
     have n7_ := ng_ BK338 hg
     have n8_ := nl_ BK341 hg
     have n9_ := ng_ BK341 hg
     have z_NB347_346 := fun (h0_ : up b 8 8 = true) (h1_ : up b 8 9 = true) => (show gb347 ≠ gb346 from ((by rw [hg]; exact Nat.ne_of_lt (blk_lt (by exact (Q_BK347 h1_ (hoff 11 (by kernel_rfl))))) : gb347 ≠ gb346)))
     have z_NB346_347 := fun (h0_ : up b 8 8 = true) (h1_ : up b 8 9 = true) => (show gb346 ≠ gb347 from ((by rw [hg]; exact Nat.ne_of_gt (blk_lt (by exact (Q_BK347 h1_ (hoff 11 (by kernel_rfl))))) : gb346 ≠ gb347)))
     have z_BK347 := fun (h0_ : b 9 = true) (h1_ : b 11 = false) => (show w17.heap[gb347]? = some (.cells #[.int .u64 0, .int .u64 0] 50 (0, 0)) from by first | exact (blk_below (g := gb347) (o := .cells #[.int .u64 0, .int .u64 0] 50 (0, 0)) (by exact (Q_BK347 h0_ h1_)) hb))
     clear BK338
     clear BK341
     clear HB
     have BK338 := n0_
     have BK341 := n1_
     have HB := n2_
     have BK346 := n3_
     have GW346 := n4_
     have GE346 := n5_
     have NB338_346 := n6_
     have NB346_338 := n7_
     have NB341_346 := n8_
     have NB346_341 := n9_
     clear n0_ n1_ n2_ n3_ n4_ n5_ n6_ n7_ n8_ n9_
     clear hb hbox hg
     refine hK.out _ _ ⟨gb346, gb347, (.pointer (some ⟨gb346, 0, none⟩)), m9_, (by rw [ha.out]; exact putSel_upk 4 hb_ rfl rfl rfl), (by exact BK338.out), (by exact BK341.out), (by repeat (with_reducible first | exact HB.out | apply bs_ GE338 | apply bs_ GE341 | apply bs_ GE346)), @z_NB347_346, @z_NB346_347, fun _ _ => (by exact BK346.out), fun _ => GW346.out, fun _ => GE346.out, fun _ => NB338_346.out, fun _ => NB346_338.out, fun _ => NB341_346.out, fun _ => NB346_341.out, z_BK347, Q_GW347, Q_GE347, Q_NB338_347, Q_NB347_338, Q_NB341_347, Q_NB347_341, fun h0_ => absurd ((hoff 10 (by kernel_rfl)).symm.trans h0_) (by decide), fun h0_ => absurd ((hoff 11 (by kernel_rfl)).symm.trans h0_) (by decide), fun _ => rfl, Q_X9_⟩
    refine steps_cons ?_ ?_
    ·rintro b a w' ⟨gb346, gb347, m8_, m9_, ha, Q_BK338, Q_BK341, Q_HB, Q_NB347_346, Q_NB346_347, Q_BK346, Q_GW346, Q_GE346, Q_NB338_346, Q_NB346_338, Q_NB341_346, Q_NB346_341, Q_BK347, Q_GW347, Q_GE347, Q_NB338_347, Q_NB347_338, Q_NB341_347, Q_NB347_341, Q_BK346_e10, Q_BK347_e11, Q_X8_, Q_X9_⟩ hb_ hon hoff
     refine ⟨_, rfl, fun K hK => ?_⟩
     replace ha := Aside0.mk ha
     have BK338 := Aside0.mk Q_BK338
     have BK341 := Aside0.mk Q_BK341
     have HB := Aside0.mk Q_HB
     refine box_step ?hg (N := 9) ?hd (cs := #[.int .u64 0, .int .u64 0]) (t := 50) ?hr ?_; (case hd => rfl); (case hg => rfl); (case hr => first | (go_simp; done) | (go_simp; rfl))
     intro gb347 hg w17 hbox hb
     have n0_ := bb_ BK338 hb
     have n1_ := bb_ BK341 hb
     have n2_ := st_ (by repeat (with_reducible first | exact HB.out | apply bs_ GE338 | apply bs_ GE341)) hb
     have n3_ := m_ (hbox)
     have n4_ := ge_ (by repeat (with_reducible first | exact HB.out | apply bs_ GE338 | apply bs_ GE341)) hg
     have n5_ := ge_ (by repeat (with_reducible first | exact HB.out | apply bs_ GE338 | apply bs_ GE341)) hg
     have n6_ := nl_ BK338 hg
     have n7_ := ng_ BK338 hg
     have n8_ := nl_ BK341 hg
     have n9_ := ng_ BK341 hg
     have z_NB347_346 := fun (h0_ : up b 9 8 = true) (h1_ : up b 9 9 = true) => (show gb347 ≠ gb346 from ((by rw [hg]; exact Nat.ne_of_gt (blk_lt (by exact (Q_BK346 h0_ (hoff 10 (by kernel_rfl))))) : gb347 ≠ gb346)))
     have z_NB346_347 := fun (h0_ : up b 9 8 = true) (h1_ : up b 9 9 = true) => (show gb346 ≠ gb347 from ((by rw [hg]; exact Nat.ne_of_lt (blk_lt (by exact (Q_BK346 h0_ (hoff 10 (by kernel_rfl))))) : gb346 ≠ gb347)))
     have z_BK346 := fun (h0_ : b 8 = true) (h1_ : b 10 = false) => (show w17.heap[gb346]? = some (.cells #[.int .u64 0, .int .u64 0] 50 (0, 0)) from by first | exact (blk_below (g := gb346) (o := .cells #[.int .u64 0, .int .u64 0] 50 (0, 0)) (by exact (Q_BK346 h0_ h1_)) hb))
     clear BK338
     clear BK341
     clear HB
     have BK338 := n0_
     have BK341 := n1_
     have HB := n2_
     have BK347 := n3_
     have GW347 := n4_
     have GE347 := n5_
     have NB338_347 := n6_
     have NB347_338 := n7_
     have NB341_347 := n8_
     have NB347_341 := n9_
     clear n0_ n1_ n2_ n3_ n4_ n5_ n6_ n7_ n8_ n9_
     clear hb hbox hg
     refine hK.out _ _ ⟨gb346, gb347, m8_, (.pointer (some ⟨gb347, 0, none⟩)), (by rw [ha.out]; exact putSel_upk 5 hb_ rfl rfl rfl), (by exact BK338.out), (by exact BK341.out), (by repeat (with_reducible first | exact HB.out | apply bs_ GE338 | apply bs_ GE341 | apply bs_ GE347)), @z_NB347_346, @z_NB346_347, z_BK346, Q_GW346, Q_GE346, Q_NB338_346, Q_NB346_338, Q_NB341_346, Q_NB346_341, fun _ _ => (by exact BK347.out), fun _ => GW347.out, fun _ => GE347.out, fun _ => NB338_347.out, fun _ => NB347_338.out, fun _ => NB341_347.out, fun _ => NB347_341.out, fun h0_ => absurd ((hoff 10 (by kernel_rfl)).symm.trans h0_) (by decide), fun h0_ => absurd ((hoff 11 (by kernel_rfl)).symm.trans h0_) (by decide), Q_X8_, fun _ => rfl⟩
    refine steps_cons ?_ ?_
    ·rintro b a w' ⟨gb346, gb347, m8_, m9_, ha, Q_BK338, Q_BK341, Q_HB, Q_NB347_346, Q_NB346_347, Q_BK346, Q_GW346, Q_GE346, Q_NB338_346, Q_NB346_338, Q_NB341_346, Q_NB346_341, Q_BK347, Q_GW347, Q_GE347, Q_NB338_347, Q_NB347_338, Q_NB341_347, Q_NB347_341, Q_BK346_e10, Q_BK347_e11, Q_X8_, Q_X9_⟩ hb_ hon hoff
     refine ⟨_, rfl, fun K hK => ?_⟩
     have e8 : a.tmps[8]? = some (m8_) := by rw [ha]; exact putSel_on (e := (8, 8, m8_)) 4 rfl rfl (hon 8 (by kernel_rfl)) rfl
     rw [Q_X8_ (hon 8 (by kernel_rfl))] at e8
     have e20 : a.tmps[20]? = some (.agg #[.int .u64 t342, .int .u64 t343]) := by rw [ha]; exact putSel_on (e := (3, 20, .agg #[.int .u64 t342, .int .u64 t343])) 1 rfl rfl (hon 3 (by kernel_rfl)) rfl
     replace ha := Aside0.mk ha
     have BK338 := Aside0.mk Q_BK338
     have BK341 := Aside0.mk Q_BK341
     have HB := Aside0.mk Q_HB
     have NB347_346 := m_ (Q_NB347_346 (hon 8 (by kernel_rfl)) (hon 9 (by kernel_rfl)))
     have NB346_347 := m_ (Q_NB346_347 (hon 8 (by kernel_rfl)) (hon 9 (by kernel_rfl)))
     have BK346 := m_ (Q_BK346 (hon 8 (by kernel_rfl)) hb_)
     have GW346 := m_ (Q_GW346 (hon 8 (by kernel_rfl)))
     have GE346 := m_ (Q_GE346 (hon 8 (by kernel_rfl)))
     have NB338_346 := m_ (Q_NB338_346 (hon 8 (by kernel_rfl)))
     have NB346_338 := m_ (Q_NB346_338 (hon 8 (by kernel_rfl)))
     have NB341_346 := m_ (Q_NB341_346 (hon 8 (by kernel_rfl)))
     have NB346_341 := m_ (Q_NB346_341 (hon 8 (by kernel_rfl)))
     have BK347 := m_ (Q_BK347 (hon 9 (by kernel_rfl)) (hoff 11 (by kernel_rfl)))
     have GW347 := m_ (Q_GW347 (hon 9 (by kernel_rfl)))
     have GE347 := m_ (Q_GE347 (hon 9 (by kernel_rfl)))
     have NB338_347 := m_ (Q_NB338_347 (hon 9 (by kernel_rfl)))
     have NB347_338 := m_ (Q_NB347_338 (hon 9 (by kernel_rfl)))
     have NB341_347 := m_ (Q_NB341_347 (hon 9 (by kernel_rfl)))
     have NB347_341 := m_ (Q_NB347_341 (hon 9 (by kernel_rfl)))
     have hs22 : w'.cell? ⟨gb346, 0, none⟩ = some (.int .u64 0) := (blk_cell BK346.out 0).trans rfl
     have hfs22 := blk_frozen BK346.out 0
     have hns22_0 := NB338_346.out
     have hns22_1 := NB341_346.out
     have hns22_3 := NB347_346.out
     have hms22_0 := NB346_338.out
     have hms22_1 := NB346_341.out
     have hms22_3 := NB346_347.out
     have hs23 : w'.cell? ⟨gb346, 1, none⟩ = some (.int .u64 0) := (blk_cell BK346.out 1).trans rfl
     have hfs23 := blk_frozen BK346.out 1
     have hns23_0 := NB338_346.out
     have hns23_1 := NB341_346.out
     have hns23_3 := NB347_346.out
     have hms23_0 := NB346_338.out
     have hms23_1 := NB346_341.out
     have hms23_3 := NB346_347.out
     refine skip_ (w1 := ?_) (by rfl) rfl ?_ ?_
     rotate_left
     ·go_simp
      rfl
     refine hK.out _ _ ⟨gb346, gb347, m8_, m9_, (by rw [ha.out]; exact putSel_none (v := undef) rfl), (by refine far2_ NB338_346 ?_; exact BK338.out), (by refine far2_ NB341_346 ?_; exact BK341.out), (by repeat (with_reducible first | exact HB.out | apply bs_ GE338 | apply bs_ GE341 | apply bs_ GE346 | apply bs_ GE347)), fun _ _ => NB347_346.out, fun _ _ => NB346_347.out, fun _ h1_ => absurd ((up_self b 10).symm.trans h1_) (by decide), fun _ => GW346.out, fun _ => GE346.out, fun _ => NB338_346.out, fun _ => NB346_338.out, fun _ => NB341_346.out, fun _ => NB346_341.out, fun _ _ => (by refine far2_ NB347_346 ?_; exact BK347.out), fun _ => GW347.out, fun _ => GE347.out, fun _ => NB338_347.out, fun _ => NB347_338.out, fun _ => NB341_347.out, fun _ => NB347_341.out, fun _ => (by apply put2_; exact BK346.out), fun h0_ => absurd ((hoff 11 (by kernel_rfl)).symm.trans h0_) (by decide), Q_X8_, Q_X9_⟩
    refine steps_cons ?_ ?_
    ·rintro b a w' ⟨gb346, gb347, m8_, m9_, ha, Q_BK338, Q_BK341, Q_HB, Q_NB347_346, Q_NB346_347, Q_BK346, Q_GW346, Q_GE346, Q_NB338_346, Q_NB346_338, Q_NB341_346, Q_NB346_341, Q_BK347, Q_GW347, Q_GE347, Q_NB338_347, Q_NB347_338, Q_NB341_347, Q_NB347_341, Q_BK346_e10, Q_BK347_e11, Q_X8_, Q_X9_⟩ hb_ hon hoff
     refine ⟨_, rfl, fun K hK => ?_⟩
     have e9 : a.tmps[9]? = some (m9_) := by rw [ha]; exact putSel_on (e := (9, 9, m9_)) 5 rfl rfl (hon 9 (by kernel_rfl)) rfl
     rw [Q_X9_ (hon 9 (by kernel_rfl))] at e9
     have e24 : a.tmps[24]? = some (.agg #[.int .u64 t344, .int .u64 t345]) := by rw [ha]; exact putSel_on (e := (7, 24, .agg #[.int .u64 t344, .int .u64 t345])) 3 rfl rfl (hon 7 (by kernel_rfl)) rfl
     replace ha := Aside0.mk ha
     have BK338 := Aside0.mk Q_BK338
     have BK341 := Aside0.mk Q_BK341
     have HB := Aside0.mk Q_HB
     have NB347_346 := m_ (Q_NB347_346 (hon 8 (by kernel_rfl)) (hon 9 (by kernel_rfl)))
     have NB346_347 := m_ (Q_NB346_347 (hon 8 (by kernel_rfl)) (hon 9 (by kernel_rfl)))
     have GW346 := m_ (Q_GW346 (hon 8 (by kernel_rfl)))
     have GE346 := m_ (Q_GE346 (hon 8 (by kernel_rfl)))
     have NB338_346 := m_ (Q_NB338_346 (hon 8 (by kernel_rfl)))
     have NB346_338 := m_ (Q_NB346_338 (hon 8 (by kernel_rfl)))
     have NB341_346 := m_ (Q_NB341_346 (hon 8 (by kernel_rfl)))
     have NB346_341 := m_ (Q_NB346_341 (hon 8 (by kernel_rfl)))
     have BK347 := m_ (Q_BK347 (hon 9 (by kernel_rfl)) hb_)
     have GW347 := m_ (Q_GW347 (hon 9 (by kernel_rfl)))
     have GE347 := m_ (Q_GE347 (hon 9 (by kernel_rfl)))
     have NB338_347 := m_ (Q_NB338_347 (hon 9 (by kernel_rfl)))
     have NB347_338 := m_ (Q_NB347_338 (hon 9 (by kernel_rfl)))
     have NB341_347 := m_ (Q_NB341_347 (hon 9 (by kernel_rfl)))
     have NB347_341 := m_ (Q_NB347_341 (hon 9 (by kernel_rfl)))
     have BK346 := m_ (Q_BK346_e10 (hon 10 (by kernel_rfl)))
     have hs24 : w'.cell? ⟨gb347, 0, none⟩ = some (.int .u64 0) := (blk_cell BK347.out 0).trans rfl
     have hfs24 := blk_frozen BK347.out 0
     have hns24_0 := NB338_347.out
     have hns24_1 := NB341_347.out
     have hns24_2 := NB346_347.out
     have hms24_0 := NB347_338.out
     have hms24_1 := NB347_341.out
     have hms24_2 := NB347_346.out
     have hs25 : w'.cell? ⟨gb347, 1, none⟩ = some (.int .u64 0) := (blk_cell BK347.out 1).trans rfl
     have hfs25 := blk_frozen BK347.out 1
     have hns25_0 := NB338_347.out
     have hns25_1 := NB341_347.out
     have hns25_2 := NB346_347.out
     have hms25_0 := NB347_338.out
     have hms25_1 := NB347_341.out
     have hms25_2 := NB347_346.out
     refine skip_ (w1 := ?_) (by rfl) rfl ?_ ?_
     rotate_left
     ·go_simp
      rfl
     refine hK.out _ _ ⟨gb346, gb347, m8_, m9_, (by rw [ha.out]; exact putSel_none (v := undef) rfl), (by refine far2_ NB338_347 ?_; exact BK338.out), (by refine far2_ NB341_347 ?_; exact BK341.out), (by repeat (with_reducible first | exact HB.out | apply bs_ GE338 | apply bs_ GE341 | apply bs_ GE346 | apply bs_ GE347)), fun _ _ => NB347_346.out, fun _ _ => NB346_347.out, fun _ h1_ => absurd ((hon 10 (by kernel_rfl)).symm.trans h1_) (by decide), fun _ => GW346.out, fun _ => GE346.out, fun _ => NB338_346.out, fun _ => NB346_338.out, fun _ => NB341_346.out, fun _ => NB346_341.out, fun _ h1_ => absurd ((up_self b 11).symm.trans h1_) (by decide), fun _ => GW347.out, fun _ => GE347.out, fun _ => NB338_347.out, fun _ => NB347_338.out, fun _ => NB341_347.out, fun _ => NB347_341.out, fun _ => (by refine far2_ NB346_347 ?_; exact BK346.out), fun _ => (by apply put2_; exact BK347.out), Q_X8_, Q_X9_⟩
    exact steps_nil
   rintro b a w25 hall ⟨gb346, gb347, m8_, m9_, ha, Q_BK338, Q_BK341, Q_HB, Q_NB347_346, Q_NB346_347, Q_BK346, Q_GW346, Q_GE346, Q_NB338_346, Q_NB346_338, Q_NB341_346, Q_NB346_341, Q_BK347, Q_GW347, Q_GE347, Q_NB338_347, Q_NB347_338, Q_NB341_347, Q_NB347_341, Q_BK346_e10, Q_BK347_e11, Q_X8_, Q_X9_⟩
   clear BK338 BK341 HB
   have hb1_ := hall 1 (by kernel_rfl)
   have hb3_ := hall 3 (by kernel_rfl)
   have hb5_ := hall 5 (by kernel_rfl)
   have hb7_ := hall 7 (by kernel_rfl)
   have hb8_ := hall 8 (by kernel_rfl)
   have hb9_ := hall 9 (by kernel_rfl)
   have hb10_ := hall 10 (by kernel_rfl)
   have hb11_ := hall 11 (by kernel_rfl)
   subst ha
   obtain rfl := Q_X8_ hb8_
   obtain rfl := Q_X9_ hb9_
   simp only [putSel, hb1_, hb3_, hb5_, hb7_, hb8_, hb9_, hb10_, hb11_, if_true, Act.put, sa_, s0_, ss_]
   have BK338 := Aside0.mk Q_BK338
   clear Q_BK338
   have BK341 := Aside0.mk Q_BK341
   clear Q_BK341
   have HB := Aside0.mk Q_HB
   clear Q_HB
   have NB347_346 := m_ (Q_NB347_346 hb8_ hb9_)
   clear Q_NB347_346
   have NB346_347 := m_ (Q_NB346_347 hb8_ hb9_)
   clear Q_NB346_347
   clear Q_BK346
   have GW346 := m_ (Q_GW346 hb8_)
   clear Q_GW346
   have GE346 := m_ (Q_GE346 hb8_)
   clear Q_GE346
   have NB338_346 := m_ (Q_NB338_346 hb8_)
   clear Q_NB338_346
   have NB346_338 := m_ (Q_NB346_338 hb8_)
   clear Q_NB346_338
   have NB341_346 := m_ (Q_NB341_346 hb8_)
   clear Q_NB341_346
   have NB346_341 := m_ (Q_NB346_341 hb8_)
   clear Q_NB346_341
   clear Q_BK347
   have GW347 := m_ (Q_GW347 hb9_)
   clear Q_GW347
   have GE347 := m_ (Q_GE347 hb9_)
   clear Q_GE347
   have NB338_347 := m_ (Q_NB338_347 hb9_)
   clear Q_NB338_347
   have NB347_338 := m_ (Q_NB347_338 hb9_)
   clear Q_NB347_338
   have NB341_347 := m_ (Q_NB341_347 hb9_)
   clear Q_NB341_347
   have NB347_341 := m_ (Q_NB347_341 hb9_)
   clear Q_NB347_341
   have BK346 := m_ (Q_BK346_e10 hb10_)
   clear Q_BK346_e10
   have BK347 := m_ (Q_BK347_e11 hb11_)
   clear Q_BK347_e11
   clear hall hb1_ hb3_ hb5_ hb7_ hb8_ hb9_ hb10_ hb11_
   have hnb26 := NB346_338.out
   have hnc26 := NB338_346.out
   have hnb27 := NB346_341.out
   have hnc27 := NB341_346.out
   have hnb28 := NB346_347.out
   have hnc28 := NB347_346.out
   obtain ⟨hcz29_0, hcz29_1, hfz29_0, hfz29_1⟩ := cf2 BK346
   have hnb30 := NB347_338.out
   have hnc30 := NB338_347.out
   have hnb31 := NB347_341.out
   have hnc31 := NB341_347.out
   obtain ⟨hcz32_0, hcz32_1, hfz32_0, hfz32_1⟩ := cf2 BK347
   try go_wp2_with (first | ((with_reducible refine gate_callee (f := 23) rfl ?_); refine goesL_ (some 30) rfl rfl Try.func23 (by kernel_rfl) rfl #[.agg #[.int .u64 t342, .int .u64 t343], .agg #[.int .u64 t345, .int .u64 0]] rfl (by first | rfl | (simp only [List.map_toArray, List.map_cons, List.map_nil]; first | done | rfl)) ?_; (with_reducible refine (overfallref01_Add.calls k t342 t343 t345 0 t348 t349 t350 _ A8.out).mono ?_); rintro e w33 ⟨rfl, hb⟩; refine ⟨_, rfl, ?_⟩; replace BK338 := bb_ BK338 hb; replace BK341 := bb_ BK341 hb; replace BK346 := bb_ BK346 hb; replace BK347 := bb_ BK347 hb; replace HB := st_ (by repeat (with_reducible first | exact HB.out | apply bs_ GE338 | apply bs_ GE341 | apply bs_ GE346 | apply bs_ GE347)) hb; (try clear hb)) | ((with_reducible refine gate_dst (N := 10) rfl ?_); refine box_event ?hg (N := 10) ?hd (cs := #[.int .u64 0, .int .u64 0]) (t := 50) ?hr ?_; (case hd => rfl); (case hg => rfl); (case hr => first | (go_simp; done) | (go_simp; rfl)); intro gb351 hg w34 hbox hb; have BK351 := m_ (hbox); have GW351 := ge_ (by repeat (with_reducible first | exact HB.out | apply bs_ GE338 | apply bs_ GE341 | apply bs_ GE346 | apply bs_ GE347)) hg; have GE351 := GW351; have NB338_351 := nl_ BK338 hg; have NB351_338 := ng_ BK338 hg; have NB341_351 := nl_ BK341 hg; have NB351_341 := ng_ BK341 hg; have NB346_351 := nl_ BK346 hg; have NB351_346 := ng_ BK346 hg; have NB347_351 := nl_ BK347 hg; have NB351_347 := ng_ BK347 hg; replace BK338 := bb_ BK338 hb; replace BK341 := bb_ BK341 hb; replace BK346 := bb_ BK346 hb; replace BK347 := bb_ BK347 hb; replace HB := st_ (by repeat (with_reducible first | exact HB.out | apply bs_ GE338 | apply bs_ GE341 | apply bs_ GE346 | apply bs_ GE347)) hb; clear hb hbox hg; have hnb35 := NB351_338.out; have hnc35 := NB338_351.out; have hnb36 := NB351_341.out; have hnc36 := NB341_351.out; have hnb37 := NB351_346.out; have hnc37 := NB346_351.out; have hnb38 := NB351_347.out; have hnc38 := NB347_351.out; obtain ⟨hcz39_0, hcz39_1, hfz39_0, hfz39_1⟩ := cf2 BK351; obtain ⟨hcz40_0, hcz40_1, hfz40_0, hfz40_1⟩ := cf2 BK347))
   go_ret
   exact ⟨by first | rfl | (simp [errW_none, errW_some] <;> rfl) | (simp [*, errW_none, errW_some] <;> rfl), by repeat (with_reducible first | exact HB.out | apply bs_ GE338 | apply bs_ GE341 | apply bs_ GE346 | apply bs_ GE347 | apply bs_ GE351)⟩
  ·rw [if_neg c9] at H
   have c9b0 : decide (0 < t344) = false := decide_eq_false c9
   clear c9
   by_cases c41 : t350 = true
   ·subst c41
    have H1 : (some false) = some r := by rw [if_pos rfl] at H; exact H
    clear H
    have H := H1
    clear H1
    obtain rfl := Option.some.inj H
    go_enter Try.func39, Try.ntmps39
    try go_wp2_with (first | ((with_reducible refine gate_dst (N := 5) rfl ?_); refine box_event ?hg (N := 5) ?hd (cs := #[.int .u64 a2_0, .int .u64 a2_1]) (t := 50) ?hr ?_; (case hd => rfl); (case hg => rfl); (case hr => first | (go_simp; done) | (go_simp; rfl)); intro gb338 hg w42 hbox hb; have BK338 := m_ (hbox); have GW338 := ge_ (by repeat (with_reducible first | exact HB.out)) hg; have GE338 := GW338; replace HB := st_ (by repeat (with_reducible first | exact HB.out)) hb; clear hb hbox hg) | ((with_reducible refine gate_callee (f := 30) rfl ?_); refine goesL_ (some 14) rfl rfl Try.func30 (by kernel_rfl) rfl #[.int .u64 a0, .int .u64 a0] rfl (by first | rfl | (simp only [List.map_toArray, List.map_cons, List.map_nil]; first | done | rfl)) ?_; (with_reducible refine (overfallref01_Mul.calls k a0 a0 t339 t340 _ A4.out).mono ?_); rintro e w43 ⟨rfl, hb⟩; refine ⟨_, rfl, ?_⟩; replace BK338 := bb_ BK338 hb; replace HB := st_ (by repeat (with_reducible first | exact HB.out | apply bs_ GE338)) hb; (try clear hb)) | ((with_reducible refine gate_dst (N := 7) rfl ?_); refine box_event ?hg (N := 7) ?hd (cs := #[.int .u64 0, .int .u64 0]) (t := 50) ?hr ?_; (case hd => rfl); (case hg => rfl); (case hr => first | (go_simp; done) | (go_simp; rfl)); intro gb341 hg w44 hbox hb; have BK341 := m_ (hbox); have GW341 := ge_ (by repeat (with_reducible first | exact HB.out | apply bs_ GE338)) hg; have GE341 := GW341; have NB338_341 := nl_ BK338 hg; have NB341_338 := ng_ BK338 hg; replace BK338 := bb_ BK338 hb; replace HB := st_ (by repeat (with_reducible first | exact HB.out | apply bs_ GE338)) hb; clear hb hbox hg; have hnb45 := NB341_338.out; have hnc45 := NB338_341.out; obtain ⟨hcz46_0, hcz46_1, hfz46_0, hfz46_1⟩ := cf2 BK341))
    have n0_ : Aside0 (((w44.setCell ⟨gb341, 0, none⟩ (.int .u64 t339)).setCell ⟨gb341, 1, none⟩ (.int .u64 t340)).heap[gb338]? = some (.cells #[.int .u64 a2_0, .int .u64 a2_1] 50 (0, 0))) := ⟨by refine far2_ NB338_341 ?_; exact BK338.out⟩
    have n1_ : Aside0 (((w44.setCell ⟨gb341, 0, none⟩ (.int .u64 t339)).setCell ⟨gb341, 1, none⟩ (.int .u64 t340)).heap[gb341]? = some (.cells #[.int .u64 t339, .int .u64 t340] 50 (0, 0))) := ⟨by apply put2_; exact BK341.out⟩
    have n2_ : Aside0 (Below w.heap.size w ((w44.setCell ⟨gb341, 0, none⟩ (.int .u64 t339)).setCell ⟨gb341, 1, none⟩ (.int .u64 t340))) := ⟨by repeat (with_reducible first | exact HB.out | apply bs_ GE338 | apply bs_ GE341)⟩
    (try clear BK338)
    (try clear BK341)
    (try clear HB)
    generalize ((w44.setCell ⟨gb341, 0, none⟩ (.int .u64 t339)).setCell ⟨gb341, 1, none⟩ (.int .u64 t340)) = w47 at n0_ n1_ n2_ ⊢
    have BK338 := n0_
    have BK341 := n1_
    have HB := n2_
    clear n0_ n1_ n2_
    replace BK338 := m_ (blk_drew BK338.out)
    replace BK341 := m_ (blk_drew BK341.out)
    replace HB := m_ (below_drew1 HB.out)
    refine start_ (n := 12) (S := fun w' => True) (ds := []) #[false, false, false, false, false, false, false, false, false, false, false, false] (by kernel_rfl) rfl rfl trivial (fun hHeld => ?_); refine with_tabW overfallref03_Fits.tab3 overfallref03_Fits.bits3 (fun HT_ HW_ => ?_)
    generalize w47.drew = w48 at BK338 BK341 HB hHeld ⊢
    refine pure_ (i := 0) (N := some 17) (v := ?_) (a' := ?_) #[true, false, false, false, false, false, false, false, false, false, false, false] rfl rfl (any_of HT_.out (by kernel_rfl)) (fun _ _ _ h => h) (Or.inl ⟨by rfl, ?_⟩) ?_ ?_
    rotate_left
    ·intro w'
     go_simp
     with_reducible rfl
    rotate_left
    ·simp only [Act.put, sa_, s0_, ss_, i64_w, i32_w]
     rfl
    refine pure_ (i := 2) (N := some 19) (v := ?_) (a' := ?_) #[true, false, true, false, false, false, false, false, false, false, false, false] rfl rfl (any_of HT_.out (by kernel_rfl)) (fun _ _ _ h => h) (Or.inl ⟨by rfl, ?_⟩) ?_ ?_
    rotate_left
    ·intro w'
     go_simp
     with_reducible rfl
    rotate_left
    ·simp only [Act.put, sa_, s0_, ss_, i64_w, i32_w]
     rfl
    refine pure_ (i := 4) (N := some 21) (v := ?_) (a' := ?_) #[true, false, true, false, true, false, false, false, false, false, false, false] rfl rfl (any_of HT_.out (by kernel_rfl)) (fun _ _ _ h => h) (Or.inl ⟨by rfl, ?_⟩) ?_ ?_
    rotate_left
    ·intro w'
     go_simp
     with_reducible rfl
    rotate_left
    ·simp only [Act.put, sa_, s0_, ss_, i64_w, i32_w]
     rfl
    refine pure_ (i := 6) (N := some 23) (v := ?_) (a' := ?_) #[true, false, true, false, true, false, true, false, false, false, false, false] rfl rfl (any_of HT_.out (by kernel_rfl)) (fun _ _ _ h => h) (Or.inl ⟨by rfl, ?_⟩) ?_ ?_
    rotate_left
    ·intro w'
     go_simp
     with_reducible rfl
    rotate_left
    ·simp only [Act.put, sa_, s0_, ss_, i64_w, i32_w]
     rfl
    refine inv_at [1, 3, 5, 7, 8, 9, 10, 11] (fun a0_ b a w' => ∃ (gb346 : Nat) (gb347 : Nat) (m8_ : Value) (m9_ : Value), a = putSel a0_ b [(1, 18, .int .u64 t340), (3, 20, .agg #[.int .u64 t342, .int .u64 t343]), (5, 22, .int .u64 t339), (7, 24, .agg #[.int .u64 t344, .int .u64 t345]), (8, 8, m8_), (9, 9, m9_)] ∧ (w'.heap[gb338]? = some (.cells #[.int .u64 a2_0, .int .u64 a2_1] 50 (0, 0))) ∧ (w'.heap[gb341]? = some (.cells #[.int .u64 t339, .int .u64 t340] 50 (0, 0))) ∧ (Below w.heap.size w w') ∧ (b 8 = true → b 9 = true → gb347 ≠ gb346) ∧ (b 8 = true → b 9 = true → gb346 ≠ gb347) ∧ (b 8 = true → b 10 = false → w'.heap[gb346]? = some (.cells #[.int .u64 0, .int .u64 0] 50 (0, 0))) ∧ (b 8 = true → w.heap.size ≤ gb346) ∧ (b 8 = true → w.heap.size ≤ gb346) ∧ (b 8 = true → gb338 ≠ gb346) ∧ (b 8 = true → gb346 ≠ gb338) ∧ (b 8 = true → gb341 ≠ gb346) ∧ (b 8 = true → gb346 ≠ gb341) ∧ (b 9 = true → b 11 = false → w'.heap[gb347]? = some (.cells #[.int .u64 0, .int .u64 0] 50 (0, 0))) ∧ (b 9 = true → w.heap.size ≤ gb347) ∧ (b 9 = true → w.heap.size ≤ gb347) ∧ (b 9 = true → gb338 ≠ gb347) ∧ (b 9 = true → gb347 ≠ gb338) ∧ (b 9 = true → gb341 ≠ gb347) ∧ (b 9 = true → gb347 ≠ gb341) ∧ (b 10 = true → w'.heap[gb346]? = some (.cells #[.int .u64 t342, .int .u64 t343] 50 (0, 0))) ∧ (b 11 = true → w'.heap[gb347]? = some (.cells #[.int .u64 t344, .int .u64 t345] 50 (0, 0))) ∧ (b 8 = true → (m8_ : Value) = .pointer (some ⟨gb346, 0, none⟩)) ∧ (b 9 = true → (m9_ : Value) = .pointer (some ⟨gb347, 0, none⟩))) HT_.out HW_.out (by kernel_rfl) (by kernel_rfl) ?_ ?_ ?_
    ·exact ⟨0, 0, .bool false, .bool false, by simp only [putSel, Bool.false_eq_true, if_false], BK338.out, BK341.out, HB.out, fun h_ => absurd h_ (by decide), fun h_ => absurd h_ (by decide), fun h_ => absurd h_ (by decide), fun h_ => absurd h_ (by decide), fun h_ => absurd h_ (by decide), fun h_ => absurd h_ (by decide), fun h_ => absurd h_ (by decide), fun h_ => absurd h_ (by decide), fun h_ => absurd h_ (by decide), fun h_ => absurd h_ (by decide), fun h_ => absurd h_ (by decide), fun h_ => absurd h_ (by decide), fun h_ => absurd h_ (by decide), fun h_ => absurd h_ (by decide), fun h_ => absurd h_ (by decide), fun h_ => absurd h_ (by decide), fun h_ => absurd h_ (by decide), fun h_ => absurd h_ (by decide), fun h_ => absurd h_ (by decide), fun h_ => absurd h_ (by decide)⟩
    ·skip
     clear BK338 BK341 HB
     refine steps_cons ?_ ?_
     ·rintro b a w' ⟨gb346, gb347, m8_, m9_, ha, Q_BK338, Q_BK341, Q_HB, Q_NB347_346, Q_NB346_347, Q_BK346, Q_GW346, Q_GE346, Q_NB338_346, Q_NB346_338, Q_NB341_346, Q_NB346_341, Q_BK347, Q_GW347, Q_GE347, Q_NB338_347, Q_NB347_338, Q_NB341_347, Q_NB347_341, Q_BK346_e10, Q_BK347_e11, Q_X8_, Q_X9_⟩ hb_ hon hoff
      refine ⟨_, rfl, fun K hK => ?_⟩
      have e17 : a.tmps[17]? = some (.pointer (some ⟨gb341, 1, none⟩)) := by rw [ha]; exact (putSel_off rfl).trans rfl
      replace ha := Aside0.mk ha
      have BK338 := Aside0.mk Q_BK338
      have BK341 := Aside0.mk Q_BK341
      have HB := Aside0.mk Q_HB
      have hc0_ : w'.cell? ⟨gb341, 0, none⟩ = some (.int .u64 t339) := (blk_cell BK341.out 0).trans rfl
      have hc1_ : w'.cell? ⟨gb341, 1, none⟩ = some (.int .u64 t340) := (blk_cell BK341.out 1).trans rfl
      refine value_ (w1 := w') (v := .int .u64 t340) (by rfl) rfl ?_ ?_
      ·go_simp
       (try simp only [i64_w])
       try rfl
      refine hK.out _ _ ⟨gb346, gb347, m8_, m9_, (by rw [ha.out]; exact putSel_upk 0 hb_ rfl rfl rfl), Q_BK338, Q_BK341, Q_HB, Q_NB347_346, Q_NB346_347, Q_BK346, Q_GW346, Q_GE346, Q_NB338_346, Q_NB346_338, Q_NB341_346, Q_NB346_341, Q_BK347, Q_GW347, Q_GE347, Q_NB338_347, Q_NB347_338, Q_NB341_347, Q_NB347_341, fun h0_ => absurd ((hoff 10 (by kernel_rfl)).symm.trans h0_) (by decide), fun h0_ => absurd ((hoff 11 (by kernel_rfl)).symm.trans h0_) (by decide), Q_X8_, Q_X9_⟩
     refine steps_cons ?_ ?_
     ·rintro b a w' ⟨gb346, gb347, m8_, m9_, ha, Q_BK338, Q_BK341, Q_HB, Q_NB347_346, Q_NB346_347, Q_BK346, Q_GW346, Q_GE346, Q_NB338_346, Q_NB346_338, Q_NB341_346, Q_NB346_341, Q_BK347, Q_GW347, Q_GE347, Q_NB338_347, Q_NB347_338, Q_NB341_347, Q_NB347_341, Q_BK346_e10, Q_BK347_e11, Q_X8_, Q_X9_⟩ hb_ hon hoff
      refine ⟨_, rfl, fun K hK => ?_⟩
      have e18 : a.tmps[18]? = some (.int .u64 t340) := by rw [ha]; exact putSel_on (e := (1, 18, .int .u64 t340)) 0 rfl rfl (hon 1 (by kernel_rfl)) rfl
      have e19 : a.tmps[19]? = some (.int .u64 a1) := by rw [ha]; exact (putSel_off rfl).trans rfl
      replace ha := Aside0.mk ha
      have BK338 := Aside0.mk Q_BK338
      have BK341 := Aside0.mk Q_BK341
      have HB := Aside0.mk Q_HB
      refine goes_ Try.func30 (by kernel_rfl) rfl #[.int .u64 t340, .int .u64 a1] (by rfl) rfl rfl (by first | (simp only [List.map_toArray, List.map_cons, List.map_nil, Act.eval, Array.getD_eq_getD_getElem?, Option.getD_some, e18, e19]; done) | (simp only [List.map_toArray, List.map_cons, List.map_nil, Act.eval, Array.getD_eq_getD_getElem?, Option.getD_some, e18, e19]; rfl)) ?_
      with_reducible refine (overfallref01_Mul.calls k t340 a1 t342 t343 _ A6.out).mono ?_
      rintro e w49 ⟨rfl, hb⟩
      refine ⟨_, rfl, ?_⟩
      have n0_ := bb_ BK338 hb
      have n1_ := bb_ BK341 hb
      have n2_ := st_ (by repeat (with_reducible first | exact HB.out | apply bs_ GE338 | apply bs_ GE341)) hb
      have z_BK346 := fun (h0_ : b 8 = true) (h1_ : b 10 = false) => (show w49.heap[gb346]? = some (.cells #[.int .u64 0, .int .u64 0] 50 (0, 0)) from by first | exact (blk_below (g := gb346) (o := .cells #[.int .u64 0, .int .u64 0] 50 (0, 0)) (by exact (Q_BK346 h0_ h1_)) hb))
      have z_BK347 := fun (h0_ : b 9 = true) (h1_ : b 11 = false) => (show w49.heap[gb347]? = some (.cells #[.int .u64 0, .int .u64 0] 50 (0, 0)) from by first | exact (blk_below (g := gb347) (o := .cells #[.int .u64 0, .int .u64 0] 50 (0, 0)) (by exact (Q_BK347 h0_ h1_)) hb))
      clear BK338
      clear BK341
      clear HB
      have BK338 := n0_
      have BK341 := n1_
      have HB := n2_
      clear n0_ n1_ n2_
      (try clear hb)
      (try clear hb2)
      (try clear hk)
      (try clear hi)
      refine hK.out _ _ ⟨gb346, gb347, m8_, m9_, (by rw [ha.out]; exact putSel_upk 1 hb_ rfl rfl rfl), (by exact BK338.out), (by exact BK341.out), (by repeat (with_reducible first | exact HB.out | apply bs_ GE338 | apply bs_ GE341)), Q_NB347_346, Q_NB346_347, z_BK346, Q_GW346, Q_GE346, Q_NB338_346, Q_NB346_338, Q_NB341_346, Q_NB346_341, z_BK347, Q_GW347, Q_GE347, Q_NB338_347, Q_NB347_338, Q_NB341_347, Q_NB347_341, fun h0_ => absurd ((hoff 10 (by kernel_rfl)).symm.trans h0_) (by decide), fun h0_ => absurd ((hoff 11 (by kernel_rfl)).symm.trans h0_) (by decide), Q_X8_, Q_X9_⟩
     refine steps_cons ?_ ?_
     ·rintro b a w' ⟨gb346, gb347, m8_, m9_, ha, Q_BK338, Q_BK341, Q_HB, Q_NB347_346, Q_NB346_347, Q_BK346, Q_GW346, Q_GE346, Q_NB338_346, Q_NB346_338, Q_NB341_346, Q_NB346_341, Q_BK347, Q_GW347, Q_GE347, Q_NB338_347, Q_NB347_338, Q_NB341_347, Q_NB347_341, Q_BK346_e10, Q_BK347_e11, Q_X8_, Q_X9_⟩ hb_ hon hoff
      refine ⟨_, rfl, fun K hK => ?_⟩
      have e21 : a.tmps[21]? = some (.pointer (some ⟨gb341, 0, none⟩)) := by rw [ha]; exact (putSel_off rfl).trans rfl
      replace ha := Aside0.mk ha
      have BK338 := Aside0.mk Q_BK338
      have BK341 := Aside0.mk Q_BK341
      have HB := Aside0.mk Q_HB
      have hc0_ : w'.cell? ⟨gb341, 0, none⟩ = some (.int .u64 t339) := (blk_cell BK341.out 0).trans rfl
      have hc1_ : w'.cell? ⟨gb341, 1, none⟩ = some (.int .u64 t340) := (blk_cell BK341.out 1).trans rfl
      refine value_ (w1 := w') (v := .int .u64 t339) (by rfl) rfl ?_ ?_
      ·go_simp
       (try simp only [i64_w])
       try rfl
      refine hK.out _ _ ⟨gb346, gb347, m8_, m9_, (by rw [ha.out]; exact putSel_upk 2 hb_ rfl rfl rfl), Q_BK338, Q_BK341, Q_HB, Q_NB347_346, Q_NB346_347, Q_BK346, Q_GW346, Q_GE346, Q_NB338_346, Q_NB346_338, Q_NB341_346, Q_NB346_341, Q_BK347, Q_GW347, Q_GE347, Q_NB338_347, Q_NB347_338, Q_NB341_347, Q_NB347_341, fun h0_ => absurd ((hoff 10 (by kernel_rfl)).symm.trans h0_) (by decide), fun h0_ => absurd ((hoff 11 (by kernel_rfl)).symm.trans h0_) (by decide), Q_X8_, Q_X9_⟩
     refine steps_cons ?_ ?_
     ·rintro b a w' ⟨gb346, gb347, m8_, m9_, ha, Q_BK338, Q_BK341, Q_HB, Q_NB347_346, Q_NB346_347, Q_BK346, Q_GW346, Q_GE346, Q_NB338_346, Q_NB346_338, Q_NB341_346, Q_NB346_341, Q_BK347, Q_GW347, Q_GE347, Q_NB338_347, Q_NB347_338, Q_NB341_347, Q_NB347_341, Q_BK346_e10, Q_BK347_e11, Q_X8_, Q_X9_⟩ hb_ hon hoff
      refine ⟨_, rfl, fun K hK => ?_⟩
      have e22 : a.tmps[22]? = some (.int .u64 t339) := by rw [ha]; exact putSel_on (e := (5, 22, .int .u64 t339)) 2 rfl rfl (hon 5 (by kernel_rfl)) rfl
      have e23 : a.tmps[23]? = some (.int .u64 a1) := by rw [ha]; exact (putSel_off rfl).trans rfl
      replace ha := Aside0.mk ha
      have BK338 := Aside0.mk Q_BK338
      have BK341 := Aside0.mk Q_BK341
      have HB := Aside0.mk Q_HB
      refine goes_ Try.func30 (by kernel_rfl) rfl #[.int .u64 t339, .int .u64 a1] (by rfl) rfl rfl (by first | (simp only [List.map_toArray, List.map_cons, List.map_nil, Act.eval, Array.getD_eq_getD_getElem?, Option.getD_some, e22, e23]; done) | (simp only [List.map_toArray, List.map_cons, List.map_nil, Act.eval, Array.getD_eq_getD_getElem?, Option.getD_some, e22, e23]; rfl)) ?_
      with_reducible refine (overfallref01_Mul.calls k t339 a1 t344 t345 _ A7.out).mono ?_
      rintro e w51 ⟨rfl, hb⟩
      refine ⟨_, rfl, ?_⟩
      have n0_ := bb_ BK338 hb
      have n1_ := bb_ BK341 hb
      have n2_ := st_ (by repeat (with_reducible first | exact HB.out | apply bs_ GE338 | apply bs_ GE341)) hb
      have z_BK346 := fun (h0_ : b 8 = true) (h1_ : b 10 = false) => (show w51.heap[gb346]? = some (.cells #[.int .u64 0, .int .u64 0] 50 (0, 0)) from by first | exact (blk_below (g := gb346) (o := .cells #[.int .u64 0, .int .u64 0] 50 (0, 0)) (by exact (Q_BK346 h0_ h1_)) hb))
      have z_BK347 := fun (h0_ : b 9 = true) (h1_ : b 11 = false) => (show w51.heap[gb347]? = some (.cells #[.int .u64 0, .int .u64 0] 50 (0, 0)) from by first | exact (blk_below (g := gb347) (o := .cells #[.int .u64 0, .int .u64 0] 50 (0, 0)) (by exact (Q_BK347 h0_ h1_)) hb))
      clear BK338
      clear BK341
      clear HB
      have BK338 := n0_
      have BK341 := n1_
      have HB := n2_
      clear n0_ n1_ n2_
      (try clear hb)
      (try clear hb2)
      (try clear hk)
      (try clear hi)
      refine hK.out _ _ ⟨gb346, gb347, m8_, m9_, (by rw [ha.out]; exact putSel_upk 3 hb_ rfl rfl rfl), (by exact BK338.out), (by exact BK341.out), (by repeat (with_reducible first | exact HB.out | apply bs_ GE338 | apply bs_ GE341)), Q_NB347_346, Q_NB346_347, z_BK346, Q_GW346, Q_GE346, Q_NB338_346, Q_NB346_338, Q_NB341_346, Q_NB346_341, z_BK347, Q_GW347, Q_GE347, Q_NB338_347, Q_NB347_338, Q_NB341_347, Q_NB347_341, fun h0_ => absurd ((hoff 10 (by kernel_rfl)).symm.trans h0_) (by decide), fun h0_ => absurd ((hoff 11 (by kernel_rfl)).symm.trans h0_) (by decide), Q_X8_, Q_X9_⟩
     refine steps_cons ?_ ?_
     ·rintro b a w' ⟨gb346, gb347, m8_, m9_, ha, Q_BK338, Q_BK341, Q_HB, Q_NB347_346, Q_NB346_347, Q_BK346, Q_GW346, Q_GE346, Q_NB338_346, Q_NB346_338, Q_NB341_346, Q_NB346_341, Q_BK347, Q_GW347, Q_GE347, Q_NB338_347, Q_NB347_338, Q_NB341_347, Q_NB347_341, Q_BK346_e10, Q_BK347_e11, Q_X8_, Q_X9_⟩ hb_ hon hoff
      refine ⟨_, rfl, fun K hK => ?_⟩
      replace ha := Aside0.mk ha
      have BK338 := Aside0.mk Q_BK338
      have BK341 := Aside0.mk Q_BK341
      have HB := Aside0.mk Q_HB
      refine box_step ?hg (N := 8) ?hd (cs := #[.int .u64 0, .int .u64 0]) (t := 50) ?hr ?_; (case hd => rfl); (case hg => rfl); (case hr => first | (go_simp; done) | (go_simp; rfl))
      intro gb346 hg w49 hbox hb
      have n0_ := bb_ BK338 hb
      have n1_ := bb_ BK341 hb
      have n2_ := st_ (by repeat (with_reducible first | exact HB.out | apply bs_ GE338 | apply bs_ GE341)) hb
      have n3_ := m_ (hbox)
      have n4_ := ge_ (by repeat (with_reducible first | exact HB.out | apply bs_ GE338 | apply bs_ GE341)) hg
      have n5_ := ge_ (by repeat (with_reducible first | exact HB.out | apply bs_ GE338 | apply bs_ GE341)) hg
      have n6_ := nl_ BK338 hg
      have n7_ := ng_ BK338 hg
      have n8_ := nl_ BK341 hg
      have n9_ := ng_ BK341 hg
      have z_NB347_346 := fun (h0_ : up b 8 8 = true) (h1_ : up b 8 9 = true) => (show gb347 ≠ gb346 from ((by rw [hg]; exact Nat.ne_of_lt (blk_lt (by exact (Q_BK347 h1_ (hoff 11 (by kernel_rfl))))) : gb347 ≠ gb346)))
      have z_NB346_347 := fun (h0_ : up b 8 8 = true) (h1_ : up b 8 9 = true) => (show gb346 ≠ gb347 from ((by rw [hg]; exact Nat.ne_of_gt (blk_lt (by exact (Q_BK347 h1_ (hoff 11 (by kernel_rfl))))) : gb346 ≠ gb347)))
      have z_BK347 := fun (h0_ : b 9 = true) (h1_ : b 11 = false) => (show w49.heap[gb347]? = some (.cells #[.int .u64 0, .int .u64 0] 50 (0, 0)) from by first | exact (blk_below (g := gb347) (o := .cells #[.int .u64 0, .int .u64 0] 50 (0, 0)) (by exact (Q_BK347 h0_ h1_)) hb))
      clear BK338
      clear BK341
      clear HB
      have BK338 := n0_
      have BK341 := n1_
      have HB := n2_
      have BK346 := n3_
      have GW346 := n4_
      have GE346 := n5_
      have NB338_346 := n6_
      have NB346_338 := n7_
      have NB341_346 := n8_
      have NB346_341 := n9_
      clear n0_ n1_ n2_ n3_ n4_ n5_ n6_ n7_ n8_ n9_
      clear hb hbox hg
      refine hK.out _ _ ⟨gb346, gb347, (.pointer (some ⟨gb346, 0, none⟩)), m9_, (by rw [ha.out]; exact putSel_upk 4 hb_ rfl rfl rfl), (by exact BK338.out), (by exact BK341.out), (by repeat (with_reducible first | exact HB.out | apply bs_ GE338 | apply bs_ GE341 | apply bs_ GE346)), @z_NB347_346, @z_NB346_347, fun _ _ => (by exact BK346.out), fun _ => GW346.out, fun _ => GE346.out, fun _ => NB338_346.out, fun _ => NB346_338.out, fun _ => NB341_346.out, fun _ => NB346_341.out, z_BK347, Q_GW347, Q_GE347, Q_NB338_347, Q_NB347_338, Q_NB341_347, Q_NB347_341, fun h0_ => absurd ((hoff 10 (by kernel_rfl)).symm.trans h0_) (by decide), fun h0_ => absurd ((hoff 11 (by kernel_rfl)).symm.trans h0_) (by decide), fun _ => rfl, Q_X9_⟩
     refine steps_cons ?_ ?_
     ·rintro b a w' ⟨gb346, gb347, m8_, m9_, ha, Q_BK338, Q_BK341, Q_HB, Q_NB347_346, Q_NB346_347, Q_BK346, Q_GW346, Q_GE346, Q_NB338_346, Q_NB346_338, Q_NB341_346, Q_NB346_341, Q_BK347, Q_GW347, Q_GE347, Q_NB338_347, Q_NB347_338, Q_NB341_347, Q_NB347_341, Q_BK346_e10, Q_BK347_e11, Q_X8_, Q_X9_⟩ hb_ hon hoff
      refine ⟨_, rfl, fun K hK => ?_⟩
      replace ha := Aside0.mk ha
      have BK338 := Aside0.mk Q_BK338
      have BK341 := Aside0.mk Q_BK341
      have HB := Aside0.mk Q_HB
      refine box_step ?hg (N := 9) ?hd (cs := #[.int .u64 0, .int .u64 0]) (t := 50) ?hr ?_; (case hd => rfl); (case hg => rfl); (case hr => first | (go_simp; done) | (go_simp; rfl))
      intro gb347 hg w49 hbox hb
      have n0_ := bb_ BK338 hb
      have n1_ := bb_ BK341 hb
      have n2_ := st_ (by repeat (with_reducible first | exact HB.out | apply bs_ GE338 | apply bs_ GE341)) hb
      have n3_ := m_ (hbox)
      have n4_ := ge_ (by repeat (with_reducible first | exact HB.out | apply bs_ GE338 | apply bs_ GE341)) hg
      have n5_ := ge_ (by repeat (with_reducible first | exact HB.out | apply bs_ GE338 | apply bs_ GE341)) hg
      have n6_ := nl_ BK338 hg
      have n7_ := ng_ BK338 hg
      have n8_ := nl_ BK341 hg
      have n9_ := ng_ BK341 hg
      have z_NB347_346 := fun (h0_ : up b 9 8 = true) (h1_ : up b 9 9 = true) => (show gb347 ≠ gb346 from ((by rw [hg]; exact Nat.ne_of_gt (blk_lt (by exact (Q_BK346 h0_ (hoff 10 (by kernel_rfl))))) : gb347 ≠ gb346)))
      have z_NB346_347 := fun (h0_ : up b 9 8 = true) (h1_ : up b 9 9 = true) => (show gb346 ≠ gb347 from ((by rw [hg]; exact Nat.ne_of_lt (blk_lt (by exact (Q_BK346 h0_ (hoff 10 (by kernel_rfl))))) : gb346 ≠ gb347)))
      have z_BK346 := fun (h0_ : b 8 = true) (h1_ : b 10 = false) => (show w49.heap[gb346]? = some (.cells #[.int .u64 0, .int .u64 0] 50 (0, 0)) from by first | exact (blk_below (g := gb346) (o := .cells #[.int .u64 0, .int .u64 0] 50 (0, 0)) (by exact (Q_BK346 h0_ h1_)) hb))
      clear BK338
      clear BK341
      clear HB
      have BK338 := n0_
      have BK341 := n1_
      have HB := n2_
      have BK347 := n3_
      have GW347 := n4_
      have GE347 := n5_
      have NB338_347 := n6_
      have NB347_338 := n7_
      have NB341_347 := n8_
      have NB347_341 := n9_
      clear n0_ n1_ n2_ n3_ n4_ n5_ n6_ n7_ n8_ n9_
      clear hb hbox hg
      refine hK.out _ _ ⟨gb346, gb347, m8_, (.pointer (some ⟨gb347, 0, none⟩)), (by rw [ha.out]; exact putSel_upk 5 hb_ rfl rfl rfl), (by exact BK338.out), (by exact BK341.out), (by repeat (with_reducible first | exact HB.out | apply bs_ GE338 | apply bs_ GE341 | apply bs_ GE347)), @z_NB347_346, @z_NB346_347, z_BK346, Q_GW346, Q_GE346, Q_NB338_346, Q_NB346_338, Q_NB341_346, Q_NB346_341, fun _ _ => (by exact BK347.out), fun _ => GW347.out, fun _ => GE347.out, fun _ => NB338_347.out, fun _ => NB347_338.out, fun _ => NB341_347.out, fun _ => NB347_341.out, fun h0_ => absurd ((hoff 10 (by kernel_rfl)).symm.trans h0_) (by decide), fun h0_ => absurd ((hoff 11 (by kernel_rfl)).symm.trans h0_) (by decide), Q_X8_, fun _ => rfl⟩
     refine steps_cons ?_ ?_
     ·rintro b a w' ⟨gb346, gb347, m8_, m9_, ha, Q_BK338, Q_BK341, Q_HB, Q_NB347_346, Q_NB346_347, Q_BK346, Q_GW346, Q_GE346, Q_NB338_346, Q_NB346_338, Q_NB341_346, Q_NB346_341, Q_BK347, Q_GW347, Q_GE347, Q_NB338_347, Q_NB347_338, Q_NB341_347, Q_NB347_341, Q_BK346_e10, Q_BK347_e11, Q_X8_, Q_X9_⟩ hb_ hon hoff
      refine ⟨_, rfl, fun K hK => ?_⟩
      have e8 : a.tmps[8]? = some (m8_) := by rw [ha]; exact putSel_on (e := (8, 8, m8_)) 4 rfl rfl (hon 8 (by kernel_rfl)) rfl
      rw [Q_X8_ (hon 8 (by kernel_rfl))] at e8
      have e20 : a.tmps[20]? = some (.agg #[.int .u64 t342, .int .u64 t343]) := by rw [ha]; exact putSel_on (e := (3, 20, .agg #[.int .u64 t342, .int .u64 t343])) 1 rfl rfl (hon 3 (by kernel_rfl)) rfl
      replace ha := Aside0.mk ha
      have BK338 := Aside0.mk Q_BK338
      have BK341 := Aside0.mk Q_BK341
      have HB := Aside0.mk Q_HB
      have NB347_346 := m_ (Q_NB347_346 (hon 8 (by kernel_rfl)) (hon 9 (by kernel_rfl)))
      have NB346_347 := m_ (Q_NB346_347 (hon 8 (by kernel_rfl)) (hon 9 (by kernel_rfl)))
      have BK346 := m_ (Q_BK346 (hon 8 (by kernel_rfl)) hb_)
      have GW346 := m_ (Q_GW346 (hon 8 (by kernel_rfl)))
      have GE346 := m_ (Q_GE346 (hon 8 (by kernel_rfl)))
      have NB338_346 := m_ (Q_NB338_346 (hon 8 (by kernel_rfl)))
      have NB346_338 := m_ (Q_NB346_338 (hon 8 (by kernel_rfl)))
      have NB341_346 := m_ (Q_NB341_346 (hon 8 (by kernel_rfl)))
      have NB346_341 := m_ (Q_NB346_341 (hon 8 (by kernel_rfl)))
      have BK347 := m_ (Q_BK347 (hon 9 (by kernel_rfl)) (hoff 11 (by kernel_rfl)))
      have GW347 := m_ (Q_GW347 (hon 9 (by kernel_rfl)))
      have GE347 := m_ (Q_GE347 (hon 9 (by kernel_rfl)))
      have NB338_347 := m_ (Q_NB338_347 (hon 9 (by kernel_rfl)))
      have NB347_338 := m_ (Q_NB347_338 (hon 9 (by kernel_rfl)))
      have NB341_347 := m_ (Q_NB341_347 (hon 9 (by kernel_rfl)))
      have NB347_341 := m_ (Q_NB347_341 (hon 9 (by kernel_rfl)))
      have hs54 : w'.cell? ⟨gb346, 0, none⟩ = some (.int .u64 0) := (blk_cell BK346.out 0).trans rfl
      have hfs54 := blk_frozen BK346.out 0
      have hns54_0 := NB338_346.out
      have hns54_1 := NB341_346.out
      have hns54_3 := NB347_346.out
      have hms54_0 := NB346_338.out
      have hms54_1 := NB346_341.out
      have hms54_3 := NB346_347.out
      have hs55 : w'.cell? ⟨gb346, 1, none⟩ = some (.int .u64 0) := (blk_cell BK346.out 1).trans rfl
      have hfs55 := blk_frozen BK346.out 1
      have hns55_0 := NB338_346.out
      have hns55_1 := NB341_346.out
      have hns55_3 := NB347_346.out
      have hms55_0 := NB346_338.out
      have hms55_1 := NB346_341.out
      have hms55_3 := NB346_347.out
      refine skip_ (w1 := ?_) (by rfl) rfl ?_ ?_
      rotate_left
      ·go_simp
       rfl
      refine hK.out _ _ ⟨gb346, gb347, m8_, m9_, (by rw [ha.out]; exact putSel_none (v := undef) rfl), (by refine far2_ NB338_346 ?_; exact BK338.out), (by refine far2_ NB341_346 ?_; exact BK341.out), (by repeat (with_reducible first | exact HB.out | apply bs_ GE338 | apply bs_ GE341 | apply bs_ GE346 | apply bs_ GE347)), fun _ _ => NB347_346.out, fun _ _ => NB346_347.out, fun _ h1_ => absurd ((up_self b 10).symm.trans h1_) (by decide), fun _ => GW346.out, fun _ => GE346.out, fun _ => NB338_346.out, fun _ => NB346_338.out, fun _ => NB341_346.out, fun _ => NB346_341.out, fun _ _ => (by refine far2_ NB347_346 ?_; exact BK347.out), fun _ => GW347.out, fun _ => GE347.out, fun _ => NB338_347.out, fun _ => NB347_338.out, fun _ => NB341_347.out, fun _ => NB347_341.out, fun _ => (by apply put2_; exact BK346.out), fun h0_ => absurd ((hoff 11 (by kernel_rfl)).symm.trans h0_) (by decide), Q_X8_, Q_X9_⟩
     refine steps_cons ?_ ?_
     ·rintro b a w' ⟨gb346, gb347, m8_, m9_, ha, Q_BK338, Q_BK341, Q_HB, Q_NB347_346, Q_NB346_347, Q_BK346, Q_GW346, Q_GE346, Q_NB338_346, Q_NB346_338, Q_NB341_346, Q_NB346_341, Q_BK347, Q_GW347, Q_GE347, Q_NB338_347, Q_NB347_338, Q_NB341_347, Q_NB347_341, Q_BK346_e10, Q_BK347_e11, Q_X8_, Q_X9_⟩ hb_ hon hoff
      refine ⟨_, rfl, fun K hK => ?_⟩
      have e9 : a.tmps[9]? = some (m9_) := by rw [ha]; exact putSel_on (e := (9, 9, m9_)) 5 rfl rfl (hon 9 (by kernel_rfl)) rfl
      rw [Q_X9_ (hon 9 (by kernel_rfl))] at e9
      have e24 : a.tmps[24]? = some (.agg #[.int .u64 t344, .int .u64 t345]) := by rw [ha]; exact putSel_on (e := (7, 24, .agg #[.int .u64 t344, .int .u64 t345])) 3 rfl rfl (hon 7 (by kernel_rfl)) rfl
      replace ha := Aside0.mk ha
      have BK338 := Aside0.mk Q_BK338
      have BK341 := Aside0.mk Q_BK341
      have HB := Aside0.mk Q_HB
      have NB347_346 := m_ (Q_NB347_346 (hon 8 (by kernel_rfl)) (hon 9 (by kernel_rfl)))
      have NB346_347 := m_ (Q_NB346_347 (hon 8 (by kernel_rfl)) (hon 9 (by kernel_rfl)))
      have GW346 := m_ (Q_GW346 (hon 8 (by kernel_rfl)))
      have GE346 := m_ (Q_GE346 (hon 8 (by kernel_rfl)))
      have NB338_346 := m_ (Q_NB338_346 (hon 8 (by kernel_rfl)))
      have NB346_338 := m_ (Q_NB346_338 (hon 8 (by kernel_rfl)))
      have NB341_346 := m_ (Q_NB341_346 (hon 8 (by kernel_rfl)))
      have NB346_341 := m_ (Q_NB346_341 (hon 8 (by kernel_rfl)))
      have BK347 := m_ (Q_BK347 (hon 9 (by kernel_rfl)) hb_)
      have GW347 := m_ (Q_GW347 (hon 9 (by kernel_rfl)))
      have GE347 := m_ (Q_GE347 (hon 9 (by kernel_rfl)))
      have NB338_347 := m_ (Q_NB338_347 (hon 9 (by kernel_rfl)))
      have NB347_338 := m_ (Q_NB347_338 (hon 9 (by kernel_rfl)))
      have NB341_347 := m_ (Q_NB341_347 (hon 9 (by kernel_rfl)))
      have NB347_341 := m_ (Q_NB347_341 (hon 9 (by kernel_rfl)))
      have BK346 := m_ (Q_BK346_e10 (hon 10 (by kernel_rfl)))
      have hs56 : w'.cell? ⟨gb347, 0, none⟩ = some (.int .u64 0) := (blk_cell BK347.out 0).trans rfl
      have hfs56 := blk_frozen BK347.out 0
      have hns56_0 := NB338_347.out
      have hns56_1 := NB341_347.out
      have hns56_2 := NB346_347.out
      have hms56_0 := NB347_338.out
      have hms56_1 := NB347_341.out
      have hms56_2 := NB347_346.out
      have hs57 : w'.cell? ⟨gb347, 1, none⟩ = some (.int .u64 0) := (blk_cell BK347.out 1).trans rfl
      have hfs57 := blk_frozen BK347.out 1
      have hns57_0 := NB338_347.out
      have hns57_1 := NB341_347.out
      have hns57_2 := NB346_347.out
      have hms57_0 := NB347_338.out
      have hms57_1 := NB347_341.out
      have hms57_2 := NB347_346.out
      refine skip_ (w1 := ?_) (by rfl) rfl ?_ ?_
      rotate_left
      ·go_simp
       rfl
      refine hK.out _ _ ⟨gb346, gb347, m8_, m9_, (by rw [ha.out]; exact putSel_none (v := undef) rfl), (by refine far2_ NB338_347 ?_; exact BK338.out), (by refine far2_ NB341_347 ?_; exact BK341.out), (by repeat (with_reducible first | exact HB.out | apply bs_ GE338 | apply bs_ GE341 | apply bs_ GE346 | apply bs_ GE347)), fun _ _ => NB347_346.out, fun _ _ => NB346_347.out, fun _ h1_ => absurd ((hon 10 (by kernel_rfl)).symm.trans h1_) (by decide), fun _ => GW346.out, fun _ => GE346.out, fun _ => NB338_346.out, fun _ => NB346_338.out, fun _ => NB341_346.out, fun _ => NB346_341.out, fun _ h1_ => absurd ((up_self b 11).symm.trans h1_) (by decide), fun _ => GW347.out, fun _ => GE347.out, fun _ => NB338_347.out, fun _ => NB347_338.out, fun _ => NB341_347.out, fun _ => NB347_341.out, fun _ => (by refine far2_ NB346_347 ?_; exact BK346.out), fun _ => (by apply put2_; exact BK347.out), Q_X8_, Q_X9_⟩
     exact steps_nil
    rintro b a w57 hall ⟨gb346, gb347, m8_, m9_, ha, Q_BK338, Q_BK341, Q_HB, Q_NB347_346, Q_NB346_347, Q_BK346, Q_GW346, Q_GE346, Q_NB338_346, Q_NB346_338, Q_NB341_346, Q_NB346_341, Q_BK347, Q_GW347, Q_GE347, Q_NB338_347, Q_NB347_338, Q_NB341_347, Q_NB347_341, Q_BK346_e10, Q_BK347_e11, Q_X8_, Q_X9_⟩
    clear BK338 BK341 HB
    have hb1_ := hall 1 (by kernel_rfl)
    have hb3_ := hall 3 (by kernel_rfl)
    have hb5_ := hall 5 (by kernel_rfl)
    have hb7_ := hall 7 (by kernel_rfl)
    have hb8_ := hall 8 (by kernel_rfl)
    have hb9_ := hall 9 (by kernel_rfl)
    have hb10_ := hall 10 (by kernel_rfl)
    have hb11_ := hall 11 (by kernel_rfl)
    subst ha
    obtain rfl := Q_X8_ hb8_
    obtain rfl := Q_X9_ hb9_
    simp only [putSel, hb1_, hb3_, hb5_, hb7_, hb8_, hb9_, hb10_, hb11_, if_true, Act.put, sa_, s0_, ss_]
    have BK338 := Aside0.mk Q_BK338
    clear Q_BK338
    have BK341 := Aside0.mk Q_BK341
    clear Q_BK341
    have HB := Aside0.mk Q_HB
    clear Q_HB
    have NB347_346 := m_ (Q_NB347_346 hb8_ hb9_)
    clear Q_NB347_346
    have NB346_347 := m_ (Q_NB346_347 hb8_ hb9_)
    clear Q_NB346_347
    clear Q_BK346
    have GW346 := m_ (Q_GW346 hb8_)
    clear Q_GW346
    have GE346 := m_ (Q_GE346 hb8_)
    clear Q_GE346
    have NB338_346 := m_ (Q_NB338_346 hb8_)
    clear Q_NB338_346
    have NB346_338 := m_ (Q_NB346_338 hb8_)
    clear Q_NB346_338
    have NB341_346 := m_ (Q_NB341_346 hb8_)
    clear Q_NB341_346
    have NB346_341 := m_ (Q_NB346_341 hb8_)
    clear Q_NB346_341
    clear Q_BK347
    have GW347 := m_ (Q_GW347 hb9_)
    clear Q_GW347
    have GE347 := m_ (Q_GE347 hb9_)
    clear Q_GE347
    have NB338_347 := m_ (Q_NB338_347 hb9_)
    clear Q_NB338_347
    have NB347_338 := m_ (Q_NB347_338 hb9_)
    clear Q_NB347_338
    have NB341_347 := m_ (Q_NB341_347 hb9_)
    clear Q_NB341_347
    have NB347_341 := m_ (Q_NB347_341 hb9_)
    clear Q_NB347_341
    have BK346 := m_ (Q_BK346_e10 hb10_)
    clear Q_BK346_e10
    have BK347 := m_ (Q_BK347_e11 hb11_)
    clear Q_BK347_e11
    clear hall hb1_ hb3_ hb5_ hb7_ hb8_ hb9_ hb10_ hb11_
    have hnb58 := NB346_338.out
    have hnc58 := NB338_346.out
    have hnb59 := NB346_341.out
    have hnc59 := NB341_346.out
    have hnb60 := NB346_347.out
    have hnc60 := NB347_346.out
    obtain ⟨hcz61_0, hcz61_1, hfz61_0, hfz61_1⟩ := cf2 BK346
    have hnb62 := NB347_338.out
    have hnc62 := NB338_347.out
    have hnb63 := NB347_341.out
    have hnc63 := NB341_347.out
    obtain ⟨hcz64_0, hcz64_1, hfz64_0, hfz64_1⟩ := cf2 BK347
    try go_wp2_with (first | ((with_reducible refine gate_callee (f := 23) rfl ?_); refine goesL_ (some 30) rfl rfl Try.func23 (by kernel_rfl) rfl #[.agg #[.int .u64 t342, .int .u64 t343], .agg #[.int .u64 t345, .int .u64 0]] rfl (by first | rfl | (simp only [List.map_toArray, List.map_cons, List.map_nil]; first | done | rfl)) ?_; (with_reducible refine (overfallref01_Add.calls k t342 t343 t345 0 t348 t349 true _ A8.out).mono ?_); rintro e w65 ⟨rfl, hb⟩; refine ⟨_, rfl, ?_⟩; replace BK338 := bb_ BK338 hb; replace BK341 := bb_ BK341 hb; replace BK346 := bb_ BK346 hb; replace BK347 := bb_ BK347 hb; replace HB := st_ (by repeat (with_reducible first | exact HB.out | apply bs_ GE338 | apply bs_ GE341 | apply bs_ GE346 | apply bs_ GE347)) hb; (try clear hb)) | ((with_reducible refine gate_dst (N := 10) rfl ?_); refine box_event ?hg (N := 10) ?hd (cs := #[.int .u64 0, .int .u64 0]) (t := 50) ?hr ?_; (case hd => rfl); (case hg => rfl); (case hr => first | (go_simp; done) | (go_simp; rfl)); intro gb351 hg w66 hbox hb; have BK351 := m_ (hbox); have GW351 := ge_ (by repeat (with_reducible first | exact HB.out | apply bs_ GE338 | apply bs_ GE341 | apply bs_ GE346 | apply bs_ GE347)) hg; have GE351 := GW351; have NB338_351 := nl_ BK338 hg; have NB351_338 := ng_ BK338 hg; have NB341_351 := nl_ BK341 hg; have NB351_341 := ng_ BK341 hg; have NB346_351 := nl_ BK346 hg; have NB351_346 := ng_ BK346 hg; have NB347_351 := nl_ BK347 hg; have NB351_347 := ng_ BK347 hg; replace BK338 := bb_ BK338 hb; replace BK341 := bb_ BK341 hb; replace BK346 := bb_ BK346 hb; replace BK347 := bb_ BK347 hb; replace HB := st_ (by repeat (with_reducible first | exact HB.out | apply bs_ GE338 | apply bs_ GE341 | apply bs_ GE346 | apply bs_ GE347)) hb; clear hb hbox hg; have hnb67 := NB351_338.out; have hnc67 := NB338_351.out; have hnb68 := NB351_341.out; have hnc68 := NB341_351.out; have hnb69 := NB351_346.out; have hnc69 := NB346_351.out; have hnb70 := NB351_347.out; have hnc70 := NB347_351.out; obtain ⟨hcz71_0, hcz71_1, hfz71_0, hfz71_1⟩ := cf2 BK351; obtain ⟨hcz72_0, hcz72_1, hfz72_0, hfz72_1⟩ := cf2 BK347))
    go_ret
    exact ⟨by first | rfl | (simp [errW_none, errW_some] <;> rfl) | (simp [*, errW_none, errW_some] <;> rfl), by repeat (with_reducible first | exact HB.out | apply bs_ GE338 | apply bs_ GE341 | apply bs_ GE346 | apply bs_ GE347 | apply bs_ GE351)⟩
   ·replace c41 := Bool.eq_false_iff.mpr c41
    subst c41
    have H1 : ((overfallref01_Less.f a2_0 a2_1 t348 t349).bind fun t352 => (some (!t352))) = some r := by rw [if_neg (show ¬ (false = true) by decide)] at H; exact H
    clear H
    have H := H1
    clear H1
    replace H := Option.bind_eq_some_iff.mp H
    obtain ⟨t352, A730, H⟩ := H
    replace H : (some (!t352)) = some r := H
    have A73 := Aside0.mk A730
    clear A730
    obtain rfl := Option.some.inj H
    go_enter Try.func39, Try.ntmps39
    try go_wp2_with (first | ((with_reducible refine gate_dst (N := 5) rfl ?_); refine box_event ?hg (N := 5) ?hd (cs := #[.int .u64 a2_0, .int .u64 a2_1]) (t := 50) ?hr ?_; (case hd => rfl); (case hg => rfl); (case hr => first | (go_simp; done) | (go_simp; rfl)); intro gb338 hg w74 hbox hb; have BK338 := m_ (hbox); have GW338 := ge_ (by repeat (with_reducible first | exact HB.out)) hg; have GE338 := GW338; replace HB := st_ (by repeat (with_reducible first | exact HB.out)) hb; clear hb hbox hg) | ((with_reducible refine gate_callee (f := 30) rfl ?_); refine goesL_ (some 14) rfl rfl Try.func30 (by kernel_rfl) rfl #[.int .u64 a0, .int .u64 a0] rfl (by first | rfl | (simp only [List.map_toArray, List.map_cons, List.map_nil]; first | done | rfl)) ?_; (with_reducible refine (overfallref01_Mul.calls k a0 a0 t339 t340 _ A4.out).mono ?_); rintro e w75 ⟨rfl, hb⟩; refine ⟨_, rfl, ?_⟩; replace BK338 := bb_ BK338 hb; replace HB := st_ (by repeat (with_reducible first | exact HB.out | apply bs_ GE338)) hb; (try clear hb)) | ((with_reducible refine gate_dst (N := 7) rfl ?_); refine box_event ?hg (N := 7) ?hd (cs := #[.int .u64 0, .int .u64 0]) (t := 50) ?hr ?_; (case hd => rfl); (case hg => rfl); (case hr => first | (go_simp; done) | (go_simp; rfl)); intro gb341 hg w76 hbox hb; have BK341 := m_ (hbox); have GW341 := ge_ (by repeat (with_reducible first | exact HB.out | apply bs_ GE338)) hg; have GE341 := GW341; have NB338_341 := nl_ BK338 hg; have NB341_338 := ng_ BK338 hg; replace BK338 := bb_ BK338 hb; replace HB := st_ (by repeat (with_reducible first | exact HB.out | apply bs_ GE338)) hb; clear hb hbox hg; have hnb77 := NB341_338.out; have hnc77 := NB338_341.out; obtain ⟨hcz78_0, hcz78_1, hfz78_0, hfz78_1⟩ := cf2 BK341))
    have n0_ : Aside0 (((w76.setCell ⟨gb341, 0, none⟩ (.int .u64 t339)).setCell ⟨gb341, 1, none⟩ (.int .u64 t340)).heap[gb338]? = some (.cells #[.int .u64 a2_0, .int .u64 a2_1] 50 (0, 0))) := ⟨by refine far2_ NB338_341 ?_; exact BK338.out⟩
    have n1_ : Aside0 (((w76.setCell ⟨gb341, 0, none⟩ (.int .u64 t339)).setCell ⟨gb341, 1, none⟩ (.int .u64 t340)).heap[gb341]? = some (.cells #[.int .u64 t339, .int .u64 t340] 50 (0, 0))) := ⟨by apply put2_; exact BK341.out⟩
    have n2_ : Aside0 (Below w.heap.size w ((w76.setCell ⟨gb341, 0, none⟩ (.int .u64 t339)).setCell ⟨gb341, 1, none⟩ (.int .u64 t340))) := ⟨by repeat (with_reducible first | exact HB.out | apply bs_ GE338 | apply bs_ GE341)⟩
    (try clear BK338)
    (try clear BK341)
    (try clear HB)
    generalize ((w76.setCell ⟨gb341, 0, none⟩ (.int .u64 t339)).setCell ⟨gb341, 1, none⟩ (.int .u64 t340)) = w79 at n0_ n1_ n2_ ⊢
    have BK338 := n0_
    have BK341 := n1_
    have HB := n2_
    clear n0_ n1_ n2_
    replace BK338 := m_ (blk_drew BK338.out)
    replace BK341 := m_ (blk_drew BK341.out)
    replace HB := m_ (below_drew1 HB.out)
    refine start_ (n := 12) (S := fun w' => True) (ds := []) #[false, false, false, false, false, false, false, false, false, false, false, false] (by kernel_rfl) rfl rfl trivial (fun hHeld => ?_); refine with_tabW overfallref03_Fits.tab3 overfallref03_Fits.bits3 (fun HT_ HW_ => ?_)
    generalize w79.drew = w80 at BK338 BK341 HB hHeld ⊢
    refine pure_ (i := 0) (N := some 17) (v := ?_) (a' := ?_) #[true, false, false, false, false, false, false, false, false, false, false, false] rfl rfl (any_of HT_.out (by kernel_rfl)) (fun _ _ _ h => h) (Or.inl ⟨by rfl, ?_⟩) ?_ ?_
    rotate_left
    ·intro w'
     go_simp
     with_reducible rfl
    rotate_left
    ·simp only [Act.put, sa_, s0_, ss_, i64_w, i32_w]
     rfl
    refine pure_ (i := 2) (N := some 19) (v := ?_) (a' := ?_) #[true, false, true, false, false, false, false, false, false, false, false, false] rfl rfl (any_of HT_.out (by kernel_rfl)) (fun _ _ _ h => h) (Or.inl ⟨by rfl, ?_⟩) ?_ ?_
    rotate_left
    ·intro w'
     go_simp
     with_reducible rfl
    rotate_left
    ·simp only [Act.put, sa_, s0_, ss_, i64_w, i32_w]
     rfl
    refine pure_ (i := 4) (N := some 21) (v := ?_) (a' := ?_) #[true, false, true, false, true, false, false, false, false, false, false, false] rfl rfl (any_of HT_.out (by kernel_rfl)) (fun _ _ _ h => h) (Or.inl ⟨by rfl, ?_⟩) ?_ ?_
    rotate_left
    ·intro w'
     go_simp
     with_reducible rfl
    rotate_left
    ·simp only [Act.put, sa_, s0_, ss_, i64_w, i32_w]
     rfl
    refine pure_ (i := 6) (N := some 23) (v := ?_) (a' := ?_) #[true, false, true, false, true, false, true, false, false, false, false, false] rfl rfl (any_of HT_.out (by kernel_rfl)) (fun _ _ _ h => h) (Or.inl ⟨by rfl, ?_⟩) ?_ ?_
    rotate_left
    ·intro w'
     go_simp
     with_reducible rfl
    rotate_left
    ·simp only [Act.put, sa_, s0_, ss_, i64_w, i32_w]
     rfl
    refine inv_at [1, 3, 5, 7, 8, 9, 10, 11] (fun a0_ b a w' => ∃ (gb346 : Nat) (gb347 : Nat) (m8_ : Value) (m9_ : Value), a = putSel a0_ b [(1, 18, .int .u64 t340), (3, 20, .agg #[.int .u64 t342, .int .u64 t343]), (5, 22, .int .u64 t339), (7, 24, .agg #[.int .u64 t344, .int .u64 t345]), (8, 8, m8_), (9, 9, m9_)] ∧ (w'.heap[gb338]? = some (.cells #[.int .u64 a2_0, .int .u64 a2_1] 50 (0, 0))) ∧ (w'.heap[gb341]? = some (.cells #[.int .u64 t339, .int .u64 t340] 50 (0, 0))) ∧ (Below w.heap.size w w') ∧ (b 8 = true → b 9 = true → gb347 ≠ gb346) ∧ (b 8 = true → b 9 = true → gb346 ≠ gb347) ∧ (b 8 = true → b 10 = false → w'.heap[gb346]? = some (.cells #[.int .u64 0, .int .u64 0] 50 (0, 0))) ∧ (b 8 = true → w.heap.size ≤ gb346) ∧ (b 8 = true → w.heap.size ≤ gb346) ∧ (b 8 = true → gb338 ≠ gb346) ∧ (b 8 = true → gb346 ≠ gb338) ∧ (b 8 = true → gb341 ≠ gb346) ∧ (b 8 = true → gb346 ≠ gb341) ∧ (b 9 = true → b 11 = false → w'.heap[gb347]? = some (.cells #[.int .u64 0, .int .u64 0] 50 (0, 0))) ∧ (b 9 = true → w.heap.size ≤ gb347) ∧ (b 9 = true → w.heap.size ≤ gb347) ∧ (b 9 = true → gb338 ≠ gb347) ∧ (b 9 = true → gb347 ≠ gb338) ∧ (b 9 = true → gb341 ≠ gb347) ∧ (b 9 = true → gb347 ≠ gb341) ∧ (b 10 = true → w'.heap[gb346]? = some (.cells #[.int .u64 t342, .int .u64 t343] 50 (0, 0))) ∧ (b 11 = true → w'.heap[gb347]? = some (.cells #[.int .u64 t344, .int .u64 t345] 50 (0, 0))) ∧ (b 8 = true → (m8_ : Value) = .pointer (some ⟨gb346, 0, none⟩)) ∧ (b 9 = true → (m9_ : Value) = .pointer (some ⟨gb347, 0, none⟩))) HT_.out HW_.out (by kernel_rfl) (by kernel_rfl) ?_ ?_ ?_
    ·exact ⟨0, 0, .bool false, .bool false, by simp only [putSel, Bool.false_eq_true, if_false], BK338.out, BK341.out, HB.out, fun h_ => absurd h_ (by decide), fun h_ => absurd h_ (by decide), fun h_ => absurd h_ (by decide), fun h_ => absurd h_ (by decide), fun h_ => absurd h_ (by decide), fun h_ => absurd h_ (by decide), fun h_ => absurd h_ (by decide), fun h_ => absurd h_ (by decide), fun h_ => absurd h_ (by decide), fun h_ => absurd h_ (by decide), fun h_ => absurd h_ (by decide), fun h_ => absurd h_ (by decide), fun h_ => absurd h_ (by decide), fun h_ => absurd h_ (by decide), fun h_ => absurd h_ (by decide), fun h_ => absurd h_ (by decide), fun h_ => absurd h_ (by decide), fun h_ => absurd h_ (by decide), fun h_ => absurd h_ (by decide), fun h_ => absurd h_ (by decide)⟩
    ·skip
     clear BK338 BK341 HB
     refine steps_cons ?_ ?_
     ·rintro b a w' ⟨gb346, gb347, m8_, m9_, ha, Q_BK338, Q_BK341, Q_HB, Q_NB347_346, Q_NB346_347, Q_BK346, Q_GW346, Q_GE346, Q_NB338_346, Q_NB346_338, Q_NB341_346, Q_NB346_341, Q_BK347, Q_GW347, Q_GE347, Q_NB338_347, Q_NB347_338, Q_NB341_347, Q_NB347_341, Q_BK346_e10, Q_BK347_e11, Q_X8_, Q_X9_⟩ hb_ hon hoff
      refine ⟨_, rfl, fun K hK => ?_⟩
      have e17 : a.tmps[17]? = some (.pointer (some ⟨gb341, 1, none⟩)) := by rw [ha]; exact (putSel_off rfl).trans rfl
      replace ha := Aside0.mk ha
      have BK338 := Aside0.mk Q_BK338
      have BK341 := Aside0.mk Q_BK341
      have HB := Aside0.mk Q_HB
      have hc0_ : w'.cell? ⟨gb341, 0, none⟩ = some (.int .u64 t339) := (blk_cell BK341.out 0).trans rfl
      have hc1_ : w'.cell? ⟨gb341, 1, none⟩ = some (.int .u64 t340) := (blk_cell BK341.out 1).trans rfl
      refine value_ (w1 := w') (v := .int .u64 t340) (by rfl) rfl ?_ ?_
      ·go_simp
       (try simp only [i64_w])
       try rfl
      refine hK.out _ _ ⟨gb346, gb347, m8_, m9_, (by rw [ha.out]; exact putSel_upk 0 hb_ rfl rfl rfl), Q_BK338, Q_BK341, Q_HB, Q_NB347_346, Q_NB346_347, Q_BK346, Q_GW346, Q_GE346, Q_NB338_346, Q_NB346_338, Q_NB341_346, Q_NB346_341, Q_BK347, Q_GW347, Q_GE347, Q_NB338_347, Q_NB347_338, Q_NB341_347, Q_NB347_341, fun h0_ => absurd ((hoff 10 (by kernel_rfl)).symm.trans h0_) (by decide), fun h0_ => absurd ((hoff 11 (by kernel_rfl)).symm.trans h0_) (by decide), Q_X8_, Q_X9_⟩
     refine steps_cons ?_ ?_
     ·rintro b a w' ⟨gb346, gb347, m8_, m9_, ha, Q_BK338, Q_BK341, Q_HB, Q_NB347_346, Q_NB346_347, Q_BK346, Q_GW346, Q_GE346, Q_NB338_346, Q_NB346_338, Q_NB341_346, Q_NB346_341, Q_BK347, Q_GW347, Q_GE347, Q_NB338_347, Q_NB347_338, Q_NB341_347, Q_NB347_341, Q_BK346_e10, Q_BK347_e11, Q_X8_, Q_X9_⟩ hb_ hon hoff
      refine ⟨_, rfl, fun K hK => ?_⟩
      have e18 : a.tmps[18]? = some (.int .u64 t340) := by rw [ha]; exact putSel_on (e := (1, 18, .int .u64 t340)) 0 rfl rfl (hon 1 (by kernel_rfl)) rfl
      have e19 : a.tmps[19]? = some (.int .u64 a1) := by rw [ha]; exact (putSel_off rfl).trans rfl
      replace ha := Aside0.mk ha
      have BK338 := Aside0.mk Q_BK338
      have BK341 := Aside0.mk Q_BK341
      have HB := Aside0.mk Q_HB
      refine goes_ Try.func30 (by kernel_rfl) rfl #[.int .u64 t340, .int .u64 a1] (by rfl) rfl rfl (by first | (simp only [List.map_toArray, List.map_cons, List.map_nil, Act.eval, Array.getD_eq_getD_getElem?, Option.getD_some, e18, e19]; done) | (simp only [List.map_toArray, List.map_cons, List.map_nil, Act.eval, Array.getD_eq_getD_getElem?, Option.getD_some, e18, e19]; rfl)) ?_
      with_reducible refine (overfallref01_Mul.calls k t340 a1 t342 t343 _ A6.out).mono ?_
      rintro e w81 ⟨rfl, hb⟩
      refine ⟨_, rfl, ?_⟩
      have n0_ := bb_ BK338 hb
      have n1_ := bb_ BK341 hb
      have n2_ := st_ (by repeat (with_reducible first | exact HB.out | apply bs_ GE338 | apply bs_ GE341)) hb
      have z_BK346 := fun (h0_ : b 8 = true) (h1_ : b 10 = false) => (show w81.heap[gb346]? = some (.cells #[.int .u64 0, .int .u64 0] 50 (0, 0)) from by first | exact (blk_below (g := gb346) (o := .cells #[.int .u64 0, .int .u64 0] 50 (0, 0)) (by exact (Q_BK346 h0_ h1_)) hb))
      have z_BK347 := fun (h0_ : b 9 = true) (h1_ : b 11 = false) => (show w81.heap[gb347]? = some (.cells #[.int .u64 0, .int .u64 0] 50 (0, 0)) from by first | exact (blk_below (g := gb347) (o := .cells #[.int .u64 0, .int .u64 0] 50 (0, 0)) (by exact (Q_BK347 h0_ h1_)) hb))
      clear BK338
      clear BK341
      clear HB
      have BK338 := n0_
      have BK341 := n1_
      have HB := n2_
      clear n0_ n1_ n2_
      (try clear hb)
      (try clear hb2)
      (try clear hk)
      (try clear hi)
      refine hK.out _ _ ⟨gb346, gb347, m8_, m9_, (by rw [ha.out]; exact putSel_upk 1 hb_ rfl rfl rfl), (by exact BK338.out), (by exact BK341.out), (by repeat (with_reducible first | exact HB.out | apply bs_ GE338 | apply bs_ GE341)), Q_NB347_346, Q_NB346_347, z_BK346, Q_GW346, Q_GE346, Q_NB338_346, Q_NB346_338, Q_NB341_346, Q_NB346_341, z_BK347, Q_GW347, Q_GE347, Q_NB338_347, Q_NB347_338, Q_NB341_347, Q_NB347_341, fun h0_ => absurd ((hoff 10 (by kernel_rfl)).symm.trans h0_) (by decide), fun h0_ => absurd ((hoff 11 (by kernel_rfl)).symm.trans h0_) (by decide), Q_X8_, Q_X9_⟩
     refine steps_cons ?_ ?_
     ·rintro b a w' ⟨gb346, gb347, m8_, m9_, ha, Q_BK338, Q_BK341, Q_HB, Q_NB347_346, Q_NB346_347, Q_BK346, Q_GW346, Q_GE346, Q_NB338_346, Q_NB346_338, Q_NB341_346, Q_NB346_341, Q_BK347, Q_GW347, Q_GE347, Q_NB338_347, Q_NB347_338, Q_NB341_347, Q_NB347_341, Q_BK346_e10, Q_BK347_e11, Q_X8_, Q_X9_⟩ hb_ hon hoff
      refine ⟨_, rfl, fun K hK => ?_⟩
      have e21 : a.tmps[21]? = some (.pointer (some ⟨gb341, 0, none⟩)) := by rw [ha]; exact (putSel_off rfl).trans rfl
      replace ha := Aside0.mk ha
      have BK338 := Aside0.mk Q_BK338
      have BK341 := Aside0.mk Q_BK341
      have HB := Aside0.mk Q_HB
      have hc0_ : w'.cell? ⟨gb341, 0, none⟩ = some (.int .u64 t339) := (blk_cell BK341.out 0).trans rfl
      have hc1_ : w'.cell? ⟨gb341, 1, none⟩ = some (.int .u64 t340) := (blk_cell BK341.out 1).trans rfl
      refine value_ (w1 := w') (v := .int .u64 t339) (by rfl) rfl ?_ ?_
      ·go_simp
       (try simp only [i64_w])
       try rfl
      refine hK.out _ _ ⟨gb346, gb347, m8_, m9_, (by rw [ha.out]; exact putSel_upk 2 hb_ rfl rfl rfl), Q_BK338, Q_BK341, Q_HB, Q_NB347_346, Q_NB346_347, Q_BK346, Q_GW346, Q_GE346, Q_NB338_346, Q_NB346_338, Q_NB341_346, Q_NB346_341, Q_BK347, Q_GW347, Q_GE347, Q_NB338_347, Q_NB347_338, Q_NB341_347, Q_NB347_341, fun h0_ => absurd ((hoff 10 (by kernel_rfl)).symm.trans h0_) (by decide), fun h0_ => absurd ((hoff 11 (by kernel_rfl)).symm.trans h0_) (by decide), Q_X8_, Q_X9_⟩
     refine steps_cons ?_ ?_
     ·rintro b a w' ⟨gb346, gb347, m8_, m9_, ha, Q_BK338, Q_BK341, Q_HB, Q_NB347_346, Q_NB346_347, Q_BK346, Q_GW346, Q_GE346, Q_NB338_346, Q_NB346_338, Q_NB341_346, Q_NB346_341, Q_BK347, Q_GW347, Q_GE347, Q_NB338_347, Q_NB347_338, Q_NB341_347, Q_NB347_341, Q_BK346_e10, Q_BK347_e11, Q_X8_, Q_X9_⟩ hb_ hon hoff
      refine ⟨_, rfl, fun K hK => ?_⟩
      have e22 : a.tmps[22]? = some (.int .u64 t339) := by rw [ha]; exact putSel_on (e := (5, 22, .int .u64 t339)) 2 rfl rfl (hon 5 (by kernel_rfl)) rfl
      have e23 : a.tmps[23]? = some (.int .u64 a1) := by rw [ha]; exact (putSel_off rfl).trans rfl
      replace ha := Aside0.mk ha
      have BK338 := Aside0.mk Q_BK338
      have BK341 := Aside0.mk Q_BK341
      have HB := Aside0.mk Q_HB
      refine goes_ Try.func30 (by kernel_rfl) rfl #[.int .u64 t339, .int .u64 a1] (by rfl) rfl rfl (by first | (simp only [List.map_toArray, List.map_cons, List.map_nil, Act.eval, Array.getD_eq_getD_getElem?, Option.getD_some, e22, e23]; done) | (simp only [List.map_toArray, List.map_cons, List.map_nil, Act.eval, Array.getD_eq_getD_getElem?, Option.getD_some, e22, e23]; rfl)) ?_
      with_reducible refine (overfallref01_Mul.calls k t339 a1 t344 t345 _ A7.out).mono ?_
      rintro e w83 ⟨rfl, hb⟩
      refine ⟨_, rfl, ?_⟩
      have n0_ := bb_ BK338 hb
      have n1_ := bb_ BK341 hb
      have n2_ := st_ (by repeat (with_reducible first | exact HB.out | apply bs_ GE338 | apply bs_ GE341)) hb
      have z_BK346 := fun (h0_ : b 8 = true) (h1_ : b 10 = false) => (show w83.heap[gb346]? = some (.cells #[.int .u64 0, .int .u64 0] 50 (0, 0)) from by first | exact (blk_below (g := gb346) (o := .cells #[.int .u64 0, .int .u64 0] 50 (0, 0)) (by exact (Q_BK346 h0_ h1_)) hb))
      have z_BK347 := fun (h0_ : b 9 = true) (h1_ : b 11 = false) => (show w83.heap[gb347]? = some (.cells #[.int .u64 0, .int .u64 0] 50 (0, 0)) from by first | exact (blk_below (g := gb347) (o := .cells #[.int .u64 0, .int .u64 0] 50 (0, 0)) (by exact (Q_BK347 h0_ h1_)) hb))
      clear BK338
      clear BK341
      clear HB
      have BK338 := n0_
      have BK341 := n1_
      have HB := n2_
      clear n0_ n1_ n2_
      (try clear hb)
      (try clear hb2)
      (try clear hk)
      (try clear hi)
      refine hK.out _ _ ⟨gb346, gb347, m8_, m9_, (by rw [ha.out]; exact putSel_upk 3 hb_ rfl rfl rfl), (by exact BK338.out), (by exact BK341.out), (by repeat (with_reducible first | exact HB.out | apply bs_ GE338 | apply bs_ GE341)), Q_NB347_346, Q_NB346_347, z_BK346, Q_GW346, Q_GE346, Q_NB338_346, Q_NB346_338, Q_NB341_346, Q_NB346_341, z_BK347, Q_GW347, Q_GE347, Q_NB338_347, Q_NB347_338, Q_NB341_347, Q_NB347_341, fun h0_ => absurd ((hoff 10 (by kernel_rfl)).symm.trans h0_) (by decide), fun h0_ => absurd ((hoff 11 (by kernel_rfl)).symm.trans h0_) (by decide), Q_X8_, Q_X9_⟩
     refine steps_cons ?_ ?_
     ·rintro b a w' ⟨gb346, gb347, m8_, m9_, ha, Q_BK338, Q_BK341, Q_HB, Q_NB347_346, Q_NB346_347, Q_BK346, Q_GW346, Q_GE346, Q_NB338_346, Q_NB346_338, Q_NB341_346, Q_NB346_341, Q_BK347, Q_GW347, Q_GE347, Q_NB338_347, Q_NB347_338, Q_NB341_347, Q_NB347_341, Q_BK346_e10, Q_BK347_e11, Q_X8_, Q_X9_⟩ hb_ hon hoff
      refine ⟨_, rfl, fun K hK => ?_⟩
      replace ha := Aside0.mk ha
      have BK338 := Aside0.mk Q_BK338
      have BK341 := Aside0.mk Q_BK341
      have HB := Aside0.mk Q_HB
      refine box_step ?hg (N := 8) ?hd (cs := #[.int .u64 0, .int .u64 0]) (t := 50) ?hr ?_; (case hd => rfl); (case hg => rfl); (case hr => first | (go_simp; done) | (go_simp; rfl))
      intro gb346 hg w81 hbox hb
      have n0_ := bb_ BK338 hb
      have n1_ := bb_ BK341 hb
      have n2_ := st_ (by repeat (with_reducible first | exact HB.out | apply bs_ GE338 | apply bs_ GE341)) hb
      have n3_ := m_ (hbox)
      have n4_ := ge_ (by repeat (with_reducible first | exact HB.out | apply bs_ GE338 | apply bs_ GE341)) hg
      have n5_ := ge_ (by repeat (with_reducible first | exact HB.out | apply bs_ GE338 | apply bs_ GE341)) hg
      have n6_ := nl_ BK338 hg
      have n7_ := ng_ BK338 hg
      have n8_ := nl_ BK341 hg
      have n9_ := ng_ BK341 hg
      have z_NB347_346 := fun (h0_ : up b 8 8 = true) (h1_ : up b 8 9 = true) => (show gb347 ≠ gb346 from ((by rw [hg]; exact Nat.ne_of_lt (blk_lt (by exact (Q_BK347 h1_ (hoff 11 (by kernel_rfl))))) : gb347 ≠ gb346)))
      have z_NB346_347 := fun (h0_ : up b 8 8 = true) (h1_ : up b 8 9 = true) => (show gb346 ≠ gb347 from ((by rw [hg]; exact Nat.ne_of_gt (blk_lt (by exact (Q_BK347 h1_ (hoff 11 (by kernel_rfl))))) : gb346 ≠ gb347)))
      have z_BK347 := fun (h0_ : b 9 = true) (h1_ : b 11 = false) => (show w81.heap[gb347]? = some (.cells #[.int .u64 0, .int .u64 0] 50 (0, 0)) from by first | exact (blk_below (g := gb347) (o := .cells #[.int .u64 0, .int .u64 0] 50 (0, 0)) (by exact (Q_BK347 h0_ h1_)) hb))
      clear BK338
      clear BK341
      clear HB
      have BK338 := n0_
      have BK341 := n1_
      have HB := n2_
      have BK346 := n3_
      have GW346 := n4_
      have GE346 := n5_
      have NB338_346 := n6_
      have NB346_338 := n7_
      have NB341_346 := n8_
      have NB346_341 := n9_
      clear n0_ n1_ n2_ n3_ n4_ n5_ n6_ n7_ n8_ n9_
      clear hb hbox hg
      refine hK.out _ _ ⟨gb346, gb347, (.pointer (some ⟨gb346, 0, none⟩)), m9_, (by rw [ha.out]; exact putSel_upk 4 hb_ rfl rfl rfl), (by exact BK338.out), (by exact BK341.out), (by repeat (with_reducible first | exact HB.out | apply bs_ GE338 | apply bs_ GE341 | apply bs_ GE346)), @z_NB347_346, @z_NB346_347, fun _ _ => (by exact BK346.out), fun _ => GW346.out, fun _ => GE346.out, fun _ => NB338_346.out, fun _ => NB346_338.out, fun _ => NB341_346.out, fun _ => NB346_341.out, z_BK347, Q_GW347, Q_GE347, Q_NB338_347, Q_NB347_338, Q_NB341_347, Q_NB347_341, fun h0_ => absurd ((hoff 10 (by kernel_rfl)).symm.trans h0_) (by decide), fun h0_ => absurd ((hoff 11 (by kernel_rfl)).symm.trans h0_) (by decide), fun _ => rfl, Q_X9_⟩
     refine steps_cons ?_ ?_
     ·rintro b a w' ⟨gb346, gb347, m8_, m9_, ha, Q_BK338, Q_BK341, Q_HB, Q_NB347_346, Q_NB346_347, Q_BK346, Q_GW346, Q_GE346, Q_NB338_346, Q_NB346_338, Q_NB341_346, Q_NB346_341, Q_BK347, Q_GW347, Q_GE347, Q_NB338_347, Q_NB347_338, Q_NB341_347, Q_NB347_341, Q_BK346_e10, Q_BK347_e11, Q_X8_, Q_X9_⟩ hb_ hon hoff
      refine ⟨_, rfl, fun K hK => ?_⟩
      replace ha := Aside0.mk ha
      have BK338 := Aside0.mk Q_BK338
      have BK341 := Aside0.mk Q_BK341
      have HB := Aside0.mk Q_HB
      refine box_step ?hg (N := 9) ?hd (cs := #[.int .u64 0, .int .u64 0]) (t := 50) ?hr ?_; (case hd => rfl); (case hg => rfl); (case hr => first | (go_simp; done) | (go_simp; rfl))
      intro gb347 hg w81 hbox hb
      have n0_ := bb_ BK338 hb
      have n1_ := bb_ BK341 hb
      have n2_ := st_ (by repeat (with_reducible first | exact HB.out | apply bs_ GE338 | apply bs_ GE341)) hb
      have n3_ := m_ (hbox)
      have n4_ := ge_ (by repeat (with_reducible first | exact HB.out | apply bs_ GE338 | apply bs_ GE341)) hg
      have n5_ := ge_ (by repeat (with_reducible first | exact HB.out | apply bs_ GE338 | apply bs_ GE341)) hg
      have n6_ := nl_ BK338 hg
      have n7_ := ng_ BK338 hg
      have n8_ := nl_ BK341 hg
      have n9_ := ng_ BK341 hg
      have z_NB347_346 := fun (h0_ : up b 9 8 = true) (h1_ : up b 9 9 = true) => (show gb347 ≠ gb346 from ((by rw [hg]; exact Nat.ne_of_gt (blk_lt (by exact (Q_BK346 h0_ (hoff 10 (by kernel_rfl))))) : gb347 ≠ gb346)))
      have z_NB346_347 := fun (h0_ : up b 9 8 = true) (h1_ : up b 9 9 = true) => (show gb346 ≠ gb347 from ((by rw [hg]; exact Nat.ne_of_lt (blk_lt (by exact (Q_BK346 h0_ (hoff 10 (by kernel_rfl))))) : gb346 ≠ gb347)))
      have z_BK346 := fun (h0_ : b 8 = true) (h1_ : b 10 = false) => (show w81.heap[gb346]? = some (.cells #[.int .u64 0, .int .u64 0] 50 (0, 0)) from by first | exact (blk_below (g := gb346) (o := .cells #[.int .u64 0, .int .u64 0] 50 (0, 0)) (by exact (Q_BK346 h0_ h1_)) hb))
      clear BK338
      clear BK341
      clear HB
      have BK338 := n0_
      have BK341 := n1_
      have HB := n2_
      have BK347 := n3_
      have GW347 := n4_
      have GE347 := n5_
      have NB338_347 := n6_
      have NB347_338 := n7_
      have NB341_347 := n8_
      have NB347_341 := n9_
      clear n0_ n1_ n2_ n3_ n4_ n5_ n6_ n7_ n8_ n9_
      clear hb hbox hg
      refine hK.out _ _ ⟨gb346, gb347, m8_, (.pointer (some ⟨gb347, 0, none⟩)), (by rw [ha.out]; exact putSel_upk 5 hb_ rfl rfl rfl), (by exact BK338.out), (by exact BK341.out), (by repeat (with_reducible first | exact HB.out | apply bs_ GE338 | apply bs_ GE341 | apply bs_ GE347)), @z_NB347_346, @z_NB346_347, z_BK346, Q_GW346, Q_GE346, Q_NB338_346, Q_NB346_338, Q_NB341_346, Q_NB346_341, fun _ _ => (by exact BK347.out), fun _ => GW347.out, fun _ => GE347.out, fun _ => NB338_347.out, fun _ => NB347_338.out, fun _ => NB341_347.out, fun _ => NB347_341.out, fun h0_ => absurd ((hoff 10 (by kernel_rfl)).symm.trans h0_) (by decide), fun h0_ => absurd ((hoff 11 (by kernel_rfl)).symm.trans h0_) (by decide), Q_X8_, fun _ => rfl⟩
     refine steps_cons ?_ ?_
     ·rintro b a w' ⟨gb346, gb347, m8_, m9_, ha, Q_BK338, Q_BK341, Q_HB, Q_NB347_346, Q_NB346_347, Q_BK346, Q_GW346, Q_GE346, Q_NB338_346, Q_NB346_338, Q_NB341_346, Q_NB346_341, Q_BK347, Q_GW347, Q_GE347, Q_NB338_347, Q_NB347_338, Q_NB341_347, Q_NB347_341, Q_BK346_e10, Q_BK347_e11, Q_X8_, Q_X9_⟩ hb_ hon hoff
      refine ⟨_, rfl, fun K hK => ?_⟩
      have e8 : a.tmps[8]? = some (m8_) := by rw [ha]; exact putSel_on (e := (8, 8, m8_)) 4 rfl rfl (hon 8 (by kernel_rfl)) rfl
      rw [Q_X8_ (hon 8 (by kernel_rfl))] at e8
      have e20 : a.tmps[20]? = some (.agg #[.int .u64 t342, .int .u64 t343]) := by rw [ha]; exact putSel_on (e := (3, 20, .agg #[.int .u64 t342, .int .u64 t343])) 1 rfl rfl (hon 3 (by kernel_rfl)) rfl
      replace ha := Aside0.mk ha
      have BK338 := Aside0.mk Q_BK338
      have BK341 := Aside0.mk Q_BK341
      have HB := Aside0.mk Q_HB
      have NB347_346 := m_ (Q_NB347_346 (hon 8 (by kernel_rfl)) (hon 9 (by kernel_rfl)))
      have NB346_347 := m_ (Q_NB346_347 (hon 8 (by kernel_rfl)) (hon 9 (by kernel_rfl)))
      have BK346 := m_ (Q_BK346 (hon 8 (by kernel_rfl)) hb_)
      have GW346 := m_ (Q_GW346 (hon 8 (by kernel_rfl)))
      have GE346 := m_ (Q_GE346 (hon 8 (by kernel_rfl)))
      have NB338_346 := m_ (Q_NB338_346 (hon 8 (by kernel_rfl)))
      have NB346_338 := m_ (Q_NB346_338 (hon 8 (by kernel_rfl)))
      have NB341_346 := m_ (Q_NB341_346 (hon 8 (by kernel_rfl)))
      have NB346_341 := m_ (Q_NB346_341 (hon 8 (by kernel_rfl)))
      have BK347 := m_ (Q_BK347 (hon 9 (by kernel_rfl)) (hoff 11 (by kernel_rfl)))
      have GW347 := m_ (Q_GW347 (hon 9 (by kernel_rfl)))
      have GE347 := m_ (Q_GE347 (hon 9 (by kernel_rfl)))
      have NB338_347 := m_ (Q_NB338_347 (hon 9 (by kernel_rfl)))
      have NB347_338 := m_ (Q_NB347_338 (hon 9 (by kernel_rfl)))
      have NB341_347 := m_ (Q_NB341_347 (hon 9 (by kernel_rfl)))
      have NB347_341 := m_ (Q_NB347_341 (hon 9 (by kernel_rfl)))
      have hs86 : w'.cell? ⟨gb346, 0, none⟩ = some (.int .u64 0) := (blk_cell BK346.out 0).trans rfl
      have hfs86 := blk_frozen BK346.out 0
      have hns86_0 := NB338_346.out
      have hns86_1 := NB341_346.out
      have hns86_3 := NB347_346.out
      have hms86_0 := NB346_338.out
      have hms86_1 := NB346_341.out
      have hms86_3 := NB346_347.out
      have hs87 : w'.cell? ⟨gb346, 1, none⟩ = some (.int .u64 0) := (blk_cell BK346.out 1).trans rfl
      have hfs87 := blk_frozen BK346.out 1
      have hns87_0 := NB338_346.out
      have hns87_1 := NB341_346.out
      have hns87_3 := NB347_346.out
      have hms87_0 := NB346_338.out
      have hms87_1 := NB346_341.out
      have hms87_3 := NB346_347.out
      refine skip_ (w1 := ?_) (by rfl) rfl ?_ ?_
      rotate_left
      ·go_simp
       rfl
      refine hK.out _ _ ⟨gb346, gb347, m8_, m9_, (by rw [ha.out]; exact putSel_none (v := undef) rfl), (by refine far2_ NB338_346 ?_; exact BK338.out), (by refine far2_ NB341_346 ?_; exact BK341.out), (by repeat (with_reducible first | exact HB.out | apply bs_ GE338 | apply bs_ GE341 | apply bs_ GE346 | apply bs_ GE347)), fun _ _ => NB347_346.out, fun _ _ => NB346_347.out, fun _ h1_ => absurd ((up_self b 10).symm.trans h1_) (by decide), fun _ => GW346.out, fun _ => GE346.out, fun _ => NB338_346.out, fun _ => NB346_338.out, fun _ => NB341_346.out, fun _ => NB346_341.out, fun _ _ => (by refine far2_ NB347_346 ?_; exact BK347.out), fun _ => GW347.out, fun _ => GE347.out, fun _ => NB338_347.out, fun _ => NB347_338.out, fun _ => NB341_347.out, fun _ => NB347_341.out, fun _ => (by apply put2_; exact BK346.out), fun h0_ => absurd ((hoff 11 (by kernel_rfl)).symm.trans h0_) (by decide), Q_X8_, Q_X9_⟩
     refine steps_cons ?_ ?_
     ·rintro b a w' ⟨gb346, gb347, m8_, m9_, ha, Q_BK338, Q_BK341, Q_HB, Q_NB347_346, Q_NB346_347, Q_BK346, Q_GW346, Q_GE346, Q_NB338_346, Q_NB346_338, Q_NB341_346, Q_NB346_341, Q_BK347, Q_GW347, Q_GE347, Q_NB338_347, Q_NB347_338, Q_NB341_347, Q_NB347_341, Q_BK346_e10, Q_BK347_e11, Q_X8_, Q_X9_⟩ hb_ hon hoff
      refine ⟨_, rfl, fun K hK => ?_⟩
      have e9 : a.tmps[9]? = some (m9_) := by rw [ha]; exact putSel_on (e := (9, 9, m9_)) 5 rfl rfl (hon 9 (by kernel_rfl)) rfl
      rw [Q_X9_ (hon 9 (by kernel_rfl))] at e9
      have e24 : a.tmps[24]? = some (.agg #[.int .u64 t344, .int .u64 t345]) := by rw [ha]; exact putSel_on (e := (7, 24, .agg #[.int .u64 t344, .int .u64 t345])) 3 rfl rfl (hon 7 (by kernel_rfl)) rfl
      replace ha := Aside0.mk ha
      have BK338 := Aside0.mk Q_BK338
      have BK341 := Aside0.mk Q_BK341
      have HB := Aside0.mk Q_HB
      have NB347_346 := m_ (Q_NB347_346 (hon 8 (by kernel_rfl)) (hon 9 (by kernel_rfl)))
      have NB346_347 := m_ (Q_NB346_347 (hon 8 (by kernel_rfl)) (hon 9 (by kernel_rfl)))
      have GW346 := m_ (Q_GW346 (hon 8 (by kernel_rfl)))
      have GE346 := m_ (Q_GE346 (hon 8 (by kernel_rfl)))
      have NB338_346 := m_ (Q_NB338_346 (hon 8 (by kernel_rfl)))
      have NB346_338 := m_ (Q_NB346_338 (hon 8 (by kernel_rfl)))
      have NB341_346 := m_ (Q_NB341_346 (hon 8 (by kernel_rfl)))
      have NB346_341 := m_ (Q_NB346_341 (hon 8 (by kernel_rfl)))
      have BK347 := m_ (Q_BK347 (hon 9 (by kernel_rfl)) hb_)
      have GW347 := m_ (Q_GW347 (hon 9 (by kernel_rfl)))
      have GE347 := m_ (Q_GE347 (hon 9 (by kernel_rfl)))
      have NB338_347 := m_ (Q_NB338_347 (hon 9 (by kernel_rfl)))
      have NB347_338 := m_ (Q_NB347_338 (hon 9 (by kernel_rfl)))
      have NB341_347 := m_ (Q_NB341_347 (hon 9 (by kernel_rfl)))
      have NB347_341 := m_ (Q_NB347_341 (hon 9 (by kernel_rfl)))
      have BK346 := m_ (Q_BK346_e10 (hon 10 (by kernel_rfl)))
      have hs88 : w'.cell? ⟨gb347, 0, none⟩ = some (.int .u64 0) := (blk_cell BK347.out 0).trans rfl
      have hfs88 := blk_frozen BK347.out 0
      have hns88_0 := NB338_347.out
      have hns88_1 := NB341_347.out
      have hns88_2 := NB346_347.out
      have hms88_0 := NB347_338.out
      have hms88_1 := NB347_341.out
      have hms88_2 := NB347_346.out
      have hs89 : w'.cell? ⟨gb347, 1, none⟩ = some (.int .u64 0) := (blk_cell BK347.out 1).trans rfl
      have hfs89 := blk_frozen BK347.out 1
      have hns89_0 := NB338_347.out
      have hns89_1 := NB341_347.out
      have hns89_2 := NB346_347.out
      have hms89_0 := NB347_338.out
      have hms89_1 := NB347_341.out
      have hms89_2 := NB347_346.out
      refine skip_ (w1 := ?_) (by rfl) rfl ?_ ?_
      rotate_left
      ·go_simp
       rfl
      refine hK.out _ _ ⟨gb346, gb347, m8_, m9_, (by rw [ha.out]; exact putSel_none (v := undef) rfl), (by refine far2_ NB338_347 ?_; exact BK338.out), (by refine far2_ NB341_347 ?_; exact BK341.out), (by repeat (with_reducible first | exact HB.out | apply bs_ GE338 | apply bs_ GE341 | apply bs_ GE346 | apply bs_ GE347)), fun _ _ => NB347_346.out, fun _ _ => NB346_347.out, fun _ h1_ => absurd ((hon 10 (by kernel_rfl)).symm.trans h1_) (by decide), fun _ => GW346.out, fun _ => GE346.out, fun _ => NB338_346.out, fun _ => NB346_338.out, fun _ => NB341_346.out, fun _ => NB346_341.out, fun _ h1_ => absurd ((up_self b 11).symm.trans h1_) (by decide), fun _ => GW347.out, fun _ => GE347.out, fun _ => NB338_347.out, fun _ => NB347_338.out, fun _ => NB341_347.out, fun _ => NB347_341.out, fun _ => (by refine far2_ NB346_347 ?_; exact BK346.out), fun _ => (by apply put2_; exact BK347.out), Q_X8_, Q_X9_⟩
     exact steps_nil
    rintro b a w89 hall ⟨gb346, gb347, m8_, m9_, ha, Q_BK338, Q_BK341, Q_HB, Q_NB347_346, Q_NB346_347, Q_BK346, Q_GW346, Q_GE346, Q_NB338_346, Q_NB346_338, Q_NB341_346, Q_NB346_341, Q_BK347, Q_GW347, Q_GE347, Q_NB338_347, Q_NB347_338, Q_NB341_347, Q_NB347_341, Q_BK346_e10, Q_BK347_e11, Q_X8_, Q_X9_⟩
    clear BK338 BK341 HB
    have hb1_ := hall 1 (by kernel_rfl)
    have hb3_ := hall 3 (by kernel_rfl)
    have hb5_ := hall 5 (by kernel_rfl)
    have hb7_ := hall 7 (by kernel_rfl)
    have hb8_ := hall 8 (by kernel_rfl)
    have hb9_ := hall 9 (by kernel_rfl)
    have hb10_ := hall 10 (by kernel_rfl)
    have hb11_ := hall 11 (by kernel_rfl)
    subst ha
    obtain rfl := Q_X8_ hb8_
    obtain rfl := Q_X9_ hb9_
    simp only [putSel, hb1_, hb3_, hb5_, hb7_, hb8_, hb9_, hb10_, hb11_, if_true, Act.put, sa_, s0_, ss_]
    have BK338 := Aside0.mk Q_BK338
    clear Q_BK338
    have BK341 := Aside0.mk Q_BK341
    clear Q_BK341
    have HB := Aside0.mk Q_HB
    clear Q_HB
    have NB347_346 := m_ (Q_NB347_346 hb8_ hb9_)
    clear Q_NB347_346
    have NB346_347 := m_ (Q_NB346_347 hb8_ hb9_)
    clear Q_NB346_347
    clear Q_BK346
    have GW346 := m_ (Q_GW346 hb8_)
    clear Q_GW346
    have GE346 := m_ (Q_GE346 hb8_)
    clear Q_GE346
    have NB338_346 := m_ (Q_NB338_346 hb8_)
    clear Q_NB338_346
    have NB346_338 := m_ (Q_NB346_338 hb8_)
    clear Q_NB346_338
    have NB341_346 := m_ (Q_NB341_346 hb8_)
    clear Q_NB341_346
    have NB346_341 := m_ (Q_NB346_341 hb8_)
    clear Q_NB346_341
    clear Q_BK347
    have GW347 := m_ (Q_GW347 hb9_)
    clear Q_GW347
    have GE347 := m_ (Q_GE347 hb9_)
    clear Q_GE347
    have NB338_347 := m_ (Q_NB338_347 hb9_)
    clear Q_NB338_347
    have NB347_338 := m_ (Q_NB347_338 hb9_)
    clear Q_NB347_338
    have NB341_347 := m_ (Q_NB341_347 hb9_)
    clear Q_NB341_347
    have NB347_341 := m_ (Q_NB347_341 hb9_)
    clear Q_NB347_341
    have BK346 := m_ (Q_BK346_e10 hb10_)
    clear Q_BK346_e10
    have BK347 := m_ (Q_BK347_e11 hb11_)
    clear Q_BK347_e11
    clear hall hb1_ hb3_ hb5_ hb7_ hb8_ hb9_ hb10_ hb11_
    have hnb90 := NB346_338.out
    have hnc90 := NB338_346.out
    have hnb91 := NB346_341.out
    have hnc91 := NB341_346.out
    have hnb92 := NB346_347.out
    have hnc92 := NB347_346.out
    obtain ⟨hcz93_0, hcz93_1, hfz93_0, hfz93_1⟩ := cf2 BK346
    have hnb94 := NB347_338.out
    have hnc94 := NB338_347.out
    have hnb95 := NB347_341.out
    have hnc95 := NB341_347.out
    obtain ⟨hcz96_0, hcz96_1, hfz96_0, hfz96_1⟩ := cf2 BK347
    try go_wp2_with (first | ((with_reducible refine gate_callee (f := 23) rfl ?_); refine goesL_ (some 30) rfl rfl Try.func23 (by kernel_rfl) rfl #[.agg #[.int .u64 t342, .int .u64 t343], .agg #[.int .u64 t345, .int .u64 0]] rfl (by first | rfl | (simp only [List.map_toArray, List.map_cons, List.map_nil]; first | done | rfl)) ?_; (with_reducible refine (overfallref01_Add.calls k t342 t343 t345 0 t348 t349 false _ A8.out).mono ?_); rintro e w97 ⟨rfl, hb⟩; refine ⟨_, rfl, ?_⟩; replace BK338 := bb_ BK338 hb; replace BK341 := bb_ BK341 hb; replace BK346 := bb_ BK346 hb; replace BK347 := bb_ BK347 hb; replace HB := st_ (by repeat (with_reducible first | exact HB.out | apply bs_ GE338 | apply bs_ GE341 | apply bs_ GE346 | apply bs_ GE347)) hb; (try clear hb)) | ((with_reducible refine gate_dst (N := 10) rfl ?_); refine box_event ?hg (N := 10) ?hd (cs := #[.int .u64 0, .int .u64 0]) (t := 50) ?hr ?_; (case hd => rfl); (case hg => rfl); (case hr => first | (go_simp; done) | (go_simp; rfl)); intro gb351 hg w98 hbox hb; have BK351 := m_ (hbox); have GW351 := ge_ (by repeat (with_reducible first | exact HB.out | apply bs_ GE338 | apply bs_ GE341 | apply bs_ GE346 | apply bs_ GE347)) hg; have GE351 := GW351; have NB338_351 := nl_ BK338 hg; have NB351_338 := ng_ BK338 hg; have NB341_351 := nl_ BK341 hg; have NB351_341 := ng_ BK341 hg; have NB346_351 := nl_ BK346 hg; have NB351_346 := ng_ BK346 hg; have NB347_351 := nl_ BK347 hg; have NB351_347 := ng_ BK347 hg; replace BK338 := bb_ BK338 hb; replace BK341 := bb_ BK341 hb; replace BK346 := bb_ BK346 hb; replace BK347 := bb_ BK347 hb; replace HB := st_ (by repeat (with_reducible first | exact HB.out | apply bs_ GE338 | apply bs_ GE341 | apply bs_ GE346 | apply bs_ GE347)) hb; clear hb hbox hg; have hnb99 := NB351_338.out; have hnc99 := NB338_351.out; have hnb100 := NB351_341.out; have hnc100 := NB341_351.out; have hnb101 := NB351_346.out; have hnc101 := NB346_351.out; have hnb102 := NB351_347.out; have hnc102 := NB347_351.out; obtain ⟨hcz103_0, hcz103_1, hfz103_0, hfz103_1⟩ := cf2 BK351; obtain ⟨hcz104_0, hcz104_1, hfz104_0, hfz104_1⟩ := cf2 BK347; obtain ⟨hcz105_0, hcz105_1, hfz105_0, hfz105_1⟩ := cf2 BK341; obtain ⟨hcz106_0, hcz106_1, hfz106_0, hfz106_1⟩ := cf2 BK338) | ((with_reducible refine gate_callee (f := 25) rfl ?_); refine goesL_ (some 42) rfl rfl Try.func25 (by kernel_rfl) rfl #[.agg #[.int .u64 a2_0, .int .u64 a2_1], .agg #[.int .u64 t348, .int .u64 t349]] rfl (by first | rfl | (simp only [List.map_toArray, List.map_cons, List.map_nil]; first | done | rfl)) ?_; (with_reducible refine (overfallref01_Less.calls a2_0 a2_1 t348 t349 t352 _ A73.out).mono ?_); rintro e w107 ⟨rfl, hb⟩; refine ⟨_, rfl, ?_⟩; replace BK338 := m_ (blk_below (g := gb338) (o := .cells #[.int .u64 a2_0, .int .u64 a2_1] 50 (0, 0)) (by refine far2_ NB338_341 ?_; refine far2_ NB338_351 ?_; exact BK338.out) hb); replace BK341 := m_ (blk_below (g := gb341) (o := .cells #[.int .u64 t348, .int .u64 t349] 50 (0, 0)) (by apply put2_; refine far2_ NB341_351 ?_; exact BK341.out) hb); replace BK346 := m_ (blk_below (g := gb346) (o := .cells #[.int .u64 t342, .int .u64 t343] 50 (0, 0)) (by refine far2_ NB346_341 ?_; refine far2_ NB346_351 ?_; exact BK346.out) hb); replace BK347 := m_ (blk_below (g := gb347) (o := .cells #[.int .u64 t344, .int .u64 t345] 50 (0, 0)) (by refine far2_ NB347_341 ?_; refine far2_ NB347_351 ?_; exact BK347.out) hb); replace BK351 := m_ (blk_below (g := gb351) (o := .cells #[.int .u64 t348, .int .u64 t349] 50 (0, 0)) (by refine far2_ NB351_341 ?_; apply put2_; exact BK351.out) hb); replace HB := st_ (by repeat (with_reducible first | exact HB.out | apply bs_ GE338 | apply bs_ GE341 | apply bs_ GE346 | apply bs_ GE347 | apply bs_ GE351)) hb; (try clear hb)))
    go_ret
    exact ⟨by first | rfl | (simp [errW_none, errW_some] <;> rfl) | (simp [*, errW_none, errW_some] <;> rfl), by repeat (with_reducible first | exact HB.out | apply bs_ GE338 | apply bs_ GE341 | apply bs_ GE346 | apply bs_ GE347 | apply bs_ GE351)⟩
 ·rw [if_neg c5] at H
  have c5b0 : decide (1 < a1) = false := decide_eq_false c5
  clear c5
  replace H := Option.bind_eq_some_iff.mp H
  obtain ⟨t353, A1080, H⟩ := H
  replace H : (some (!t353)) = some r := H
  have A108 := Aside0.mk A1080
  clear A1080
  obtain rfl := Option.some.inj H
  go_enter Try.func39, Try.ntmps39
  go_wp2_with (first | ((with_reducible refine gate_dst (N := 5) rfl ?_); refine box_event ?hg (N := 5) ?hd (cs := #[.int .u64 a2_0, .int .u64 a2_1]) (t := 50) ?hr ?_; (case hd => rfl); (case hg => rfl); (case hr => first | (go_simp; done) | (go_simp; rfl)); intro gb338 hg w109 hbox hb; have BK338 := m_ (hbox); have GW338 := ge_ (by repeat (with_reducible first | exact HB.out)) hg; have GE338 := GW338; replace HB := st_ (by repeat (with_reducible first | exact HB.out)) hb; clear hb hbox hg) | ((with_reducible refine gate_callee (f := 30) rfl ?_); refine goesL_ (some 14) rfl rfl Try.func30 (by kernel_rfl) rfl #[.int .u64 a0, .int .u64 a0] rfl (by first | rfl | (simp only [List.map_toArray, List.map_cons, List.map_nil]; first | done | rfl)) ?_; (with_reducible refine (overfallref01_Mul.calls k a0 a0 t339 t340 _ A4.out).mono ?_); rintro e w110 ⟨rfl, hb⟩; refine ⟨_, rfl, ?_⟩; replace BK338 := bb_ BK338 hb; replace HB := st_ (by repeat (with_reducible first | exact HB.out | apply bs_ GE338)) hb; (try clear hb)) | ((with_reducible refine gate_dst (N := 7) rfl ?_); refine box_event ?hg (N := 7) ?hd (cs := #[.int .u64 0, .int .u64 0]) (t := 50) ?hr ?_; (case hd => rfl); (case hg => rfl); (case hr => first | (go_simp; done) | (go_simp; rfl)); intro gb341 hg w111 hbox hb; have BK341 := m_ (hbox); have GW341 := ge_ (by repeat (with_reducible first | exact HB.out | apply bs_ GE338)) hg; have GE341 := GW341; have NB338_341 := nl_ BK338 hg; have NB341_338 := ng_ BK338 hg; replace BK338 := bb_ BK338 hb; replace HB := st_ (by repeat (with_reducible first | exact HB.out | apply bs_ GE338)) hb; clear hb hbox hg; have hnb112 := NB341_338.out; have hnc112 := NB338_341.out; obtain ⟨hcz113_0, hcz113_1, hfz113_0, hfz113_1⟩ := cf2 BK341; obtain ⟨hcz114_0, hcz114_1, hfz114_0, hfz114_1⟩ := cf2 BK338) | ((with_reducible refine gate_callee (f := 25) rfl ?_); refine goesL_ (some 42) rfl rfl Try.func25 (by kernel_rfl) rfl #[.agg #[.int .u64 a2_0, .int .u64 a2_1], .agg #[.int .u64 t339, .int .u64 t340]] rfl (by first | rfl | (simp only [List.map_toArray, List.map_cons, List.map_nil]; first | done | rfl)) ?_; (with_reducible refine (overfallref01_Less.calls a2_0 a2_1 t339 t340 t353 _ A108.out).mono ?_); rintro e w115 ⟨rfl, hb⟩; refine ⟨_, rfl, ?_⟩; replace BK338 := m_ (blk_below (g := gb338) (o := .cells #[.int .u64 a2_0, .int .u64 a2_1] 50 (0, 0)) (by refine far2_ NB338_341 ?_; exact BK338.out) hb); replace BK341 := m_ (blk_below (g := gb341) (o := .cells #[.int .u64 t339, .int .u64 t340] 50 (0, 0)) (by apply put2_; exact BK341.out) hb); replace HB := st_ (by repeat (with_reducible first | exact HB.out | apply bs_ GE338 | apply bs_ GE341)) hb; (try clear hb)))
  go_ret
  exact ⟨by first | rfl | (simp [errW_none, errW_some] <;> rfl) | (simp [*, errW_none, errW_some] <;> rfl), by repeat (with_reducible first | exact HB.out | apply bs_ GE338 | apply bs_ GE341)⟩

end Go.Proofs.Ytiiffgmbkajkhaa.L

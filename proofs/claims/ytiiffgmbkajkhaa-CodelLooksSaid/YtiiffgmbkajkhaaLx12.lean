-- Laid by a program of this claim's session (wip/tools/myprint.py) over the kit's printer.
import Derived.Test.YtiiffgmbkajkhaaLx0
import Derived.Test.YtiiffgmbkajkhaaLx9
import Derived.Test.YtiiffgmbkajkhaaLx10
import Derived.Test.YtiiffgmbkajkhaaLx11
namespace Go.Proofs.Ytiiffgmbkajkhaa.L
open Go.RowKit Go.Proofs.YtiiffgmbkajkhaaW.PrintWords Go.Proofs.YtiiffgmbkajkhaaW.PrintLast Go.Proofs.YtiiffgmbkajkhaaW.PrintMore
attribute [local go_sem] max2_int min2_int max_two min_two max_three min_three max_four min_four   -- for this text's walks alone
set_option linter.unusedVariables false
set_option linter.unusedSimpArgs false

/-! ### overfallref03_Most: function 31 -/
def overfallref03_Most.l0 : Nat → Int → Int → Int → Int → Int → Option (Int)
 | 0, _, _, _, _, _ => none
 | k + 1, x0, x5, x6, x355000, x355001 => if x5 < x6 then ((overfallref03_Fits.f k (IntKind.u64.wrap ((IntKind.u64.wrap (x5 + (IntKind.u64.wrap (Int.tdiv (IntKind.u64.wrap (x6 - x5)) 2)))) + (Int.tmod (IntKind.u64.wrap (x6 - x5)) 2))) x0 x355000 x355001).bind fun t355 => (if t355 = true then (overfallref03_Most.l0 k x0 (IntKind.u64.wrap ((IntKind.u64.wrap (x5 + (IntKind.u64.wrap (Int.tdiv (IntKind.u64.wrap (x6 - x5)) 2)))) + (Int.tmod (IntKind.u64.wrap (x6 - x5)) 2))) x6 x355000 x355001) else (overfallref03_Most.l0 k x0 x5 (IntKind.u64.wrap ((IntKind.u64.wrap ((IntKind.u64.wrap (x5 + (IntKind.u64.wrap (Int.tdiv (IntKind.u64.wrap (x6 - x5)) 2)))) + (Int.tmod (IntKind.u64.wrap (x6 - x5)) 2))) - 1)) x355000 x355001))) else (some x5)
def overfallref03_Most.f (k : Nat) (a0 : Int) (a1_0 : Int) (a1_1 : Int) : Option (Int) := overfallref03_Most.l0 k a0 0 18446744073709551615 a1_0 a1_1
theorem overfallref03_Most.mono_l : ∀ k, (∀ y0 y1 y2 y3 y4, LeO (overfallref03_Most.l0 k y0 y1 y2 y3 y4) (overfallref03_Most.l0 (k + 1) y0 y1 y2 y3 y4))
 | 0 => fun _ _ _ _ _ r h => by simp [overfallref03_Most.l0] at h
 | k + 1 => by
  have ih0 := overfallref03_Most.mono_l k
  ·intro y0 y1 y2 y3 y4
   unfold overfallref03_Most.l0
   repeat' first
   | (with_reducible exact ih0 _ _ _ _ _)
   | (with_reducible exact overfallref03_Fits.mono _ _ _ _ _)
   | (with_reducible exact LeO.refl _)
   | (with_reducible exact LeO.none _)
   | (with_reducible refine LeO.ite ?_ ?_)
   | (with_reducible refine LeO.bind ?_ (fun _ => ?_))
   | exact ih0 _ _ _ _ _
   | exact overfallref03_Fits.mono _ _ _ _ _
   | exact LeO.none _
   | refine LeO.ite ?_ ?_
   | refine LeO.bind ?_ (fun _ => ?_)
theorem overfallref03_Most.mono : ∀ a0 a1 a2 k, LeO (overfallref03_Most.f k a0 a1 a2) (overfallref03_Most.f (k + 1) a0 a1 a2) := by
 intro a0 a1 a2 k
 have ih0 := overfallref03_Most.mono_l k
 unfold overfallref03_Most.f
 repeat' first
   | (with_reducible exact ih0 _ _ _ _ _)
   | (with_reducible exact overfallref03_Fits.mono _ _ _ _ _)
   | (with_reducible exact LeO.refl _)
   | (with_reducible exact LeO.none _)
   | (with_reducible refine LeO.ite ?_ ?_)
   | (with_reducible refine LeO.bind ?_ (fun _ => ?_))
   | exact ih0 _ _ _ _ _
   | exact overfallref03_Fits.mono _ _ _ _ _
   | exact LeO.none _
   | refine LeO.ite ?_ ?_
   | refine LeO.bind ?_ (fun _ => ?_)
set_option maxHeartbeats 8000000 in
set_option maxRecDepth 100000 in
theorem overfallref03_Most.calls (k : Nat) (a0 : Int) (a1_0 : Int) (a1_1 : Int) (r : Int) (w : World) (h : overfallref03_Most.f k a0 a1_0 a1_1 = some r) :
  Calls Try.prog 31 #[.int .u64 a0, .agg #[.int .u64 a1_0, .int .u64 a1_1]] w fun e w' => e = .returned (.int .u64 r) ∧ Below w.heap.size w w' := by
 have hu50 := Try.underlying50
 have HB := m_ (Below.refl w.heap.size w)
 have H : (overfallref03_Most.l0 k a0 0 18446744073709551615 a1_0 a1_1) = some r := h
 clear h
 have H' := Aside0.mk H
 clear H
 go_enter Try.func31, Try.ntmps31
 go_wp2_with (first | ((with_reducible refine gate_dst (N := 3) rfl ?_); refine box_event ?hg (N := 3) ?hd (cs := #[.int .u64 a1_0, .int .u64 a1_1]) (t := 50) ?hr ?_; (case hd => rfl); (case hg => rfl); (case hr => first | (go_simp; done) | (go_simp; rfl)); intro gb354 hg w3 hbox hb; have BK354 := m_ (hbox); have GW354 := ge_ (by repeat (with_reducible first | exact HB.out)) hg; have GE354 := GW354; replace HB := st_ (by repeat (with_reducible first | exact HB.out)) hb; clear hb hbox hg))
 go_loopg [5, 6] k (fun kq v5 v6 w' => ∃ (x5_1 : Int) (x6_1 : Int), v5 = .int .u64 x5_1 ∧ v6 = .int .u64 x6_1 ∧ Aside0 (overfallref03_Most.l0 kq a0 x5_1 x6_1 a1_0 a1_1 = some r) ∧ Aside0 (kq ≤ k) ∧ Aside0 (w'.heap[gb354]? = some (.cells #[.int .u64 a1_0, .int .u64 a1_1] 50 (0, 0))) ∧ Aside0 (Below w.heap.size w w'))
 case atStart => exact ⟨(0), (18446744073709551615), (by first | rfl | (simp; done) | (simp [*]; done)), (by first | rfl | (simp; done) | (simp [*]; done)), H', ⟨Nat.le_refl _⟩, ⟨by exact BK354.out⟩, ⟨by repeat (with_reducible first | exact HB.out | apply bs_ GE354)⟩⟩
 case round =>
  clear H'
  try clear p2
  try clear c3
  obtain ⟨x5_1, x6_1, rfl, rfl, HA, HK1, BK354, HB⟩ := hrel
  cases gk with
  | zero => exact absurd HA.out (by simp [overfallref03_Most.l0])
  | succ k1 =>
   have H := HA.out
   clear HA
   simp only [overfallref03_Most.l0] at H
   by_cases c4 : x5_1 < x6_1
   ·rw [if_pos c4] at H
    have c4b0 : decide (x5_1 < x6_1) = true := decide_eq_true c4
    clear c4
    replace H := Option.bind_eq_some_iff.mp H
    obtain ⟨t355, A50, H⟩ := H
    replace H : (if t355 = true then (overfallref03_Most.l0 k1 a0 (IntKind.u64.wrap ((IntKind.u64.wrap (x5_1 + (IntKind.u64.wrap (Int.tdiv (IntKind.u64.wrap (x6_1 - x5_1)) 2)))) + (Int.tmod (IntKind.u64.wrap (x6_1 - x5_1)) 2))) x6_1 a1_0 a1_1) else (overfallref03_Most.l0 k1 a0 x5_1 (IntKind.u64.wrap ((IntKind.u64.wrap ((IntKind.u64.wrap (x5_1 + (IntKind.u64.wrap (Int.tdiv (IntKind.u64.wrap (x6_1 - x5_1)) 2)))) + (Int.tmod (IntKind.u64.wrap (x6_1 - x5_1)) 2))) - 1)) a1_0 a1_1)) = some r := H
    have A5 := Aside0.mk A50
    clear A50
    by_cases c6 : t355 = true
    ·subst c6
     have H1 : (overfallref03_Most.l0 k1 a0 (IntKind.u64.wrap ((IntKind.u64.wrap (x5_1 + (IntKind.u64.wrap (Int.tdiv (IntKind.u64.wrap (x6_1 - x5_1)) 2)))) + (Int.tmod (IntKind.u64.wrap (x6_1 - x5_1)) 2))) x6_1 a1_0 a1_1) = some r := by rw [if_pos rfl] at H; exact H
     clear H
     have H := H1
     clear H1
     have H' := Aside0.mk H
     clear H
     obtain ⟨hcz7_0, hcz7_1, hfz7_0, hfz7_1⟩ := cf2 BK354
     go_wp2_with (first | ((with_reducible refine gate_callee (f := 39) rfl ?_); refine goesL_ (some 25) rfl rfl Try.func39 (by kernel_rfl) rfl #[.int .u64 (IntKind.u64.wrap ((IntKind.u64.wrap (x5_1 + (IntKind.u64.wrap (Int.tdiv (IntKind.u64.wrap (x6_1 - x5_1)) 2)))) + (Int.tmod (IntKind.u64.wrap (x6_1 - x5_1)) 2))), .int .u64 a0, .agg #[.int .u64 a1_0, .int .u64 a1_1]] rfl (by first | rfl | (simp only [List.map_toArray, List.map_cons, List.map_nil]; first | done | rfl)) ?_; (with_reducible refine (overfallref03_Fits.calls k1 (IntKind.u64.wrap ((IntKind.u64.wrap (x5_1 + (IntKind.u64.wrap (Int.tdiv (IntKind.u64.wrap (x6_1 - x5_1)) 2)))) + (Int.tmod (IntKind.u64.wrap (x6_1 - x5_1)) 2))) a0 a1_0 a1_1 true _ A5.out).mono ?_); rintro e w8 ⟨rfl, hb⟩; refine ⟨_, rfl, ?_⟩; replace BK354 := bb_ BK354 hb; replace HB := st_ (by repeat (with_reducible first | exact HB.out | apply bs_ GE354)) hb; (try clear hb)))
     go_roundg k1
     case measure => have := HK1.out; omega
     case rel => exact ⟨(IntKind.u64.wrap ((IntKind.u64.wrap (x5_1 + (IntKind.u64.wrap (Int.tdiv (IntKind.u64.wrap (x6_1 - x5_1)) 2)))) + (Int.tmod (IntKind.u64.wrap (x6_1 - x5_1)) 2))), (x6_1), (by first | rfl | (simp; done) | (simp [*]; done)), (by first | rfl | (simp; done) | (simp [*]; done)), H', ⟨by have := HK1.out; omega⟩, ⟨by exact BK354.out⟩, ⟨by repeat (with_reducible first | exact HB.out | apply bs_ GE354)⟩⟩
    ·replace c6 := Bool.eq_false_iff.mpr c6
     subst c6
     have H1 : (overfallref03_Most.l0 k1 a0 x5_1 (IntKind.u64.wrap ((IntKind.u64.wrap ((IntKind.u64.wrap (x5_1 + (IntKind.u64.wrap (Int.tdiv (IntKind.u64.wrap (x6_1 - x5_1)) 2)))) + (Int.tmod (IntKind.u64.wrap (x6_1 - x5_1)) 2))) - 1)) a1_0 a1_1) = some r := by rw [if_neg (show ¬ (false = true) by decide)] at H; exact H
     clear H
     have H := H1
     clear H1
     have H' := Aside0.mk H
     clear H
     obtain ⟨hcz9_0, hcz9_1, hfz9_0, hfz9_1⟩ := cf2 BK354
     go_wp2_with (first | ((with_reducible refine gate_callee (f := 39) rfl ?_); refine goesL_ (some 25) rfl rfl Try.func39 (by kernel_rfl) rfl #[.int .u64 (IntKind.u64.wrap ((IntKind.u64.wrap (x5_1 + (IntKind.u64.wrap (Int.tdiv (IntKind.u64.wrap (x6_1 - x5_1)) 2)))) + (Int.tmod (IntKind.u64.wrap (x6_1 - x5_1)) 2))), .int .u64 a0, .agg #[.int .u64 a1_0, .int .u64 a1_1]] rfl (by first | rfl | (simp only [List.map_toArray, List.map_cons, List.map_nil]; first | done | rfl)) ?_; (with_reducible refine (overfallref03_Fits.calls k1 (IntKind.u64.wrap ((IntKind.u64.wrap (x5_1 + (IntKind.u64.wrap (Int.tdiv (IntKind.u64.wrap (x6_1 - x5_1)) 2)))) + (Int.tmod (IntKind.u64.wrap (x6_1 - x5_1)) 2))) a0 a1_0 a1_1 false _ A5.out).mono ?_); rintro e w10 ⟨rfl, hb⟩; refine ⟨_, rfl, ?_⟩; replace BK354 := bb_ BK354 hb; replace HB := st_ (by repeat (with_reducible first | exact HB.out | apply bs_ GE354)) hb; (try clear hb)))
     go_roundg k1
     case measure => have := HK1.out; omega
     case rel => exact ⟨(x5_1), (IntKind.u64.wrap ((IntKind.u64.wrap ((IntKind.u64.wrap (x5_1 + (IntKind.u64.wrap (Int.tdiv (IntKind.u64.wrap (x6_1 - x5_1)) 2)))) + (Int.tmod (IntKind.u64.wrap (x6_1 - x5_1)) 2))) - 1)), (by first | rfl | (simp; done) | (simp [*]; done)), (by first | rfl | (simp; done) | (simp [*]; done)), H', ⟨by have := HK1.out; omega⟩, ⟨by exact BK354.out⟩, ⟨by repeat (with_reducible first | exact HB.out | apply bs_ GE354)⟩⟩
   ·rw [if_neg c4] at H
    have c4b0 : decide (x5_1 < x6_1) = false := decide_eq_false c4
    clear c4
    obtain rfl := Option.some.inj H
    go_wp2
    go_ret
    exact ⟨by first | rfl | (simp [errW_none, errW_some] <;> rfl) | (simp [*, errW_none, errW_some] <;> rfl), by repeat (with_reducible first | exact HB.out | apply bs_ GE354)⟩

/-! ### overfallref03_Law: function 14 -/
def overfallref03_Law.f (k : Nat) (a0 : Int) (a1 : Int) : Option (Int) := if a0 ≤ 0 then (some 0) else ((overfallref01_Mul.f k (IntKind.u64.wrap (a0)) (IntKind.u64.wrap (a0))).bind fun bt356 => ((overfallref03_Most.f k a1 bt356.1 bt356.2).bind fun t358 => (some (wrap64 (t358)))))
theorem overfallref03_Law.mono : ∀ a0 a1 k, LeO (overfallref03_Law.f k a0 a1) (overfallref03_Law.f (k + 1) a0 a1) := by
 intro a0 a1 k
 unfold overfallref03_Law.f
 repeat' first
   | (with_reducible exact overfallref01_Mul.mono _ _ _)
   | (with_reducible exact overfallref03_Most.mono _ _ _ _)
   | (with_reducible exact LeO.refl _)
   | (with_reducible exact LeO.none _)
   | (with_reducible refine LeO.ite ?_ ?_)
   | (with_reducible refine LeO.bind ?_ (fun _ => ?_))
   | exact overfallref01_Mul.mono _ _ _
   | exact overfallref03_Most.mono _ _ _ _
   | exact LeO.none _
   | refine LeO.ite ?_ ?_
   | refine LeO.bind ?_ (fun _ => ?_)
set_option maxHeartbeats 8000000 in
set_option maxRecDepth 100000 in
theorem overfallref03_Law.calls (k : Nat) (a0 : Int) (a1 : Int) (r : Int) (w : World) (h : overfallref03_Law.f k a0 a1 = some r) :
  Calls Try.prog 14 #[.int .i64 a0, .int .u64 a1] w fun e w' => e = .returned (.int .i64 r) ∧ Below w.heap.size w w' := by
 have HB := m_ (Below.refl w.heap.size w)
 have H : (if a0 ≤ 0 then (some 0) else ((overfallref01_Mul.f k (IntKind.u64.wrap (a0)) (IntKind.u64.wrap (a0))).bind fun bt356 => ((overfallref03_Most.f k a1 bt356.1 bt356.2).bind fun t358 => (some (wrap64 (t358)))))) = some r := h
 clear h
 by_cases c3 : a0 ≤ 0
 ·rw [if_pos c3] at H
  have c3b0 : decide (a0 ≤ 0) = true := decide_eq_true c3
  clear c3
  obtain rfl := Option.some.inj H
  go_enter Try.func14, Try.ntmps14
  go_wp2
  go_ret
  exact ⟨by first | rfl | (simp [errW_none, errW_some] <;> rfl) | (simp [*, errW_none, errW_some] <;> rfl), by repeat (with_reducible first | exact HB.out)⟩
 ·rw [if_neg c3] at H
  have c3b0 : decide (a0 ≤ 0) = false := decide_eq_false c3
  clear c3
  replace H := Option.bind_eq_some_iff.mp H
  obtain ⟨⟨t356, t357⟩, A40, H⟩ := H
  replace H : ((overfallref03_Most.f k a1 t356 t357).bind fun t358 => (some (wrap64 (t358)))) = some r := H
  have A4 := Aside0.mk A40
  clear A40
  replace H := Option.bind_eq_some_iff.mp H
  obtain ⟨t358, A50, H⟩ := H
  replace H : (some (wrap64 (t358))) = some r := H
  have A5 := Aside0.mk A50
  clear A50
  obtain rfl := Option.some.inj H
  go_enter Try.func14, Try.ntmps14
  go_wp2_with (first | ((with_reducible refine gate_callee (f := 30) rfl ?_); refine goesL_ (some 12) rfl rfl Try.func30 (by kernel_rfl) rfl #[.int .u64 (IntKind.u64.wrap (a0)), .int .u64 (IntKind.u64.wrap (a0))] rfl (by first | rfl | (simp only [List.map_toArray, List.map_cons, List.map_nil]; first | done | rfl)) ?_; (with_reducible refine (overfallref01_Mul.calls k (IntKind.u64.wrap (a0)) (IntKind.u64.wrap (a0)) t356 t357 _ A4.out).mono ?_); rintro e w6 ⟨rfl, hb⟩; refine ⟨_, rfl, ?_⟩; replace HB := st_ (by repeat (with_reducible first | exact HB.out)) hb; (try clear hb)) | ((with_reducible refine gate_callee (f := 31) rfl ?_); refine goesL_ (some 13) rfl rfl Try.func31 (by kernel_rfl) rfl #[.int .u64 a1, .agg #[.int .u64 t356, .int .u64 t357]] rfl (by first | rfl | (simp only [List.map_toArray, List.map_cons, List.map_nil]; first | done | rfl)) ?_; (with_reducible refine (overfallref03_Most.calls k a1 t356 t357 t358 _ A5.out).mono ?_); rintro e w7 ⟨rfl, hb⟩; refine ⟨_, rfl, ?_⟩; replace HB := st_ (by repeat (with_reducible first | exact HB.out)) hb; (try clear hb)))
  go_ret
  exact ⟨by first | rfl | (simp [errW_none, errW_some] <;> rfl) | (simp [*, errW_none, errW_some] <;> rfl), by repeat (with_reducible first | exact HB.out)⟩

/-! ### overfallref08_Note: function 20 -/
def overfallref08_Note.j0 : Nat → Int → Int → Bool → Bool → Int → Bool → Int → Int → Int → Option (Bool × Int × Bool × Int × Int × Int × Bool)
 | 0, _, _, _, _, _, _, _, _, _ => none
 | k + 1, x2, x3, x20, x360000, x360001, x360002, x360003, x360004, x360005 => if x20 = true then (some (false, 0, x360002, x360003, x360004, x360005, false)) else (if x360000 = true then (some (x360000, x360001, x360002, x360003, x360004, x360005, decide (x3 ≥ x360001))) else ((overfallref02_Add.f k x3 x2).bind fun t361 => (some (true, t361, x360002, x360003, x360004, x360005, false))))
def overfallref08_Note.f (k : Nat) (a0_0 : Bool) (a0_1 : Int) (a0_2 : Bool) (a0_3 : Int) (a0_4 : Int) (a0_5 : Int) (a1 : Int) (a2 : Int) (a3 : Int) (a4 : Int) (a5 : Int) : Option (Bool × Int × Bool × Int × Int × Int × Bool) := if a4 < a1 then (overfallref08_Note.j0 k a2 a3 true a0_0 a0_1 a0_2 a0_3 a0_4 a0_5) else (overfallref08_Note.j0 k a2 a3 (decide (a5 ≤ 1)) a0_0 a0_1 a0_2 a0_3 a0_4 a0_5)
theorem overfallref08_Note.mono_l : ∀ k, (∀ y0 y1 y2 y3 y4 y5 y6 y7 y8, LeO (overfallref08_Note.j0 k y0 y1 y2 y3 y4 y5 y6 y7 y8) (overfallref08_Note.j0 (k + 1) y0 y1 y2 y3 y4 y5 y6 y7 y8))
 | 0 => fun _ _ _ _ _ _ _ _ _ r h => by simp [overfallref08_Note.j0] at h
 | k + 1 => by
  have ih0 := overfallref08_Note.mono_l k
  ·intro y0 y1 y2 y3 y4 y5 y6 y7 y8
   unfold overfallref08_Note.j0
   repeat' first
   | (with_reducible exact ih0 _ _ _ _ _ _ _ _ _)
   | (with_reducible exact overfallref02_Add.mono _ _ _)
   | (with_reducible exact LeO.refl _)
   | (with_reducible exact LeO.none _)
   | (with_reducible refine LeO.ite ?_ ?_)
   | (with_reducible refine LeO.bind ?_ (fun _ => ?_))
   | exact ih0 _ _ _ _ _ _ _ _ _
   | exact overfallref02_Add.mono _ _ _
   | exact LeO.none _
   | refine LeO.ite ?_ ?_
   | refine LeO.bind ?_ (fun _ => ?_)
theorem overfallref08_Note.mono : ∀ a0 a1 a2 a3 a4 a5 a6 a7 a8 a9 a10 k, LeO (overfallref08_Note.f k a0 a1 a2 a3 a4 a5 a6 a7 a8 a9 a10) (overfallref08_Note.f (k + 1) a0 a1 a2 a3 a4 a5 a6 a7 a8 a9 a10) := by
 intro a0 a1 a2 a3 a4 a5 a6 a7 a8 a9 a10 k
 have ih0 := overfallref08_Note.mono_l k
 unfold overfallref08_Note.f
 repeat' first
   | (with_reducible exact ih0 _ _ _ _ _ _ _ _ _)
   | (with_reducible exact overfallref02_Add.mono _ _ _)
   | (with_reducible exact LeO.refl _)
   | (with_reducible exact LeO.none _)
   | (with_reducible refine LeO.ite ?_ ?_)
   | (with_reducible refine LeO.bind ?_ (fun _ => ?_))
   | exact ih0 _ _ _ _ _ _ _ _ _
   | exact overfallref02_Add.mono _ _ _
   | exact LeO.none _
   | refine LeO.ite ?_ ?_
   | refine LeO.bind ?_ (fun _ => ?_)
set_option maxHeartbeats 8000000 in
set_option maxRecDepth 100000 in
theorem overfallref08_Note.calls (k : Nat) (a0_0 : Bool) (a0_1 : Int) (a0_2 : Bool) (a0_3 : Int) (a0_4 : Int) (a0_5 : Int) (a1 : Int) (a2 : Int) (a3 : Int) (a4 : Int) (a5 : Int) (r1 : Bool) (r2 : Int) (r3 : Bool) (r4 : Int) (r5 : Int) (r6 : Int) (r7 : Bool) (w : World) (h : overfallref08_Note.f k a0_0 a0_1 a0_2 a0_3 a0_4 a0_5 a1 a2 a3 a4 a5 = some (r1, r2, r3, r4, r5, r6, r7)) :
  Calls Try.prog 20 #[.agg #[.bool a0_0, .int .i64 a0_1, .bool a0_2, .int .i64 a0_3, .int .u64 a0_4, .int .u64 a0_5], .int .i64 a1, .int .i64 a2, .int .i64 a3, .int .i64 a4, .int .i64 a5] w fun e w' => e = .returned (.tuple #[.agg #[.bool r1, .int .i64 r2, .bool r3, .int .i64 r4, .int .u64 r5, .int .u64 r6], .bool r7]) ∧ Below w.heap.size w w' := by
 have hu41 := Try.underlying41
 have HB := m_ (Below.refl w.heap.size w)
 have H : (if a4 < a1 then (overfallref08_Note.j0 k a2 a3 true a0_0 a0_1 a0_2 a0_3 a0_4 a0_5) else (overfallref08_Note.j0 k a2 a3 (decide (a5 ≤ 1)) a0_0 a0_1 a0_2 a0_3 a0_4 a0_5)) = some (r1, r2, r3, r4, r5, r6, r7) := h
 clear h
 have HC7 := Aside0.mk H
 clear H
 go_enter Try.func20, Try.ntmps20
 go_upto_region 1 with (first | ((with_reducible refine gate_dst (N := 6) rfl ?_); refine box_event ?hg (N := 6) ?hd (cs := #[.bool a0_0, .int .i64 a0_1, .bool a0_2, .int .i64 a0_3, .int .u64 a0_4, .int .u64 a0_5]) (t := 41) ?hr ?_; (case hd => rfl); (case hg => rfl); (case hr => first | (go_simp; done) | (go_simp; rfl)); intro gb359 hg w8 hbox hb; have BK359 := m_ (hbox); have GW359 := ge_ (by repeat (with_reducible first | exact HB.out | apply below_drew1 | apply pw_below_drewN)) hg; have GE359 := GW359; replace HB := st_ (by repeat (with_reducible first | exact HB.out | apply below_drew1 | apply pw_below_drewN)) hb; clear hb hbox hg) | ((with_reducible refine gate_dst (N := 12) rfl ?_); refine box_event ?hg (N := 12) ?hd (cs := #[.bool false, .int .i64 0, .bool false, .int .i64 0, .int .u64 0, .int .u64 0]) (t := 41) ?hr ?_; (case hd => rfl); (case hg => rfl); (case hr => first | (go_simp; done) | (go_simp; rfl)); intro gb360 hg w9 hbox hb; have BK360 := m_ (hbox); have GW360 := ge_ (by repeat (with_reducible first | exact HB.out | apply bs_ GE359 | apply below_drew1 | apply pw_below_drewN)) hg; have GE360 := GW360; have NB359_360 := nl_ BK359 hg; have NB360_359 := ng_ BK359 hg; replace BK359 := bb_ BK359 hb; replace HB := st_ (by repeat (with_reducible first | exact HB.out | apply bs_ GE359 | apply below_drew1 | apply pw_below_drewN)) hb; clear hb hbox hg))
 (try simp only [Act.put, sa_, s0_, ss_])
 go_cut [20] (fun v20 wc => ∃ (kq : Nat) (x20_6 : Bool), v20 = .bool x20_6 ∧ Aside0 (overfallref08_Note.j0 kq a2 a3 x20_6 a0_0 a0_1 a0_2 a0_3 a0_4 a0_5 = some (r1, r2, r3, r4, r5, r6, r7)) ∧ Aside0 (kq ≤ k) ∧ Aside0 (wc.heap[gb359]? = some (.cells #[.bool a0_0, .int .i64 a0_1, .bool a0_2, .int .i64 a0_3, .int .u64 a0_4, .int .u64 a0_5] 41 (0, 0))) ∧ Aside0 (wc.heap[gb360]? = some (.cells #[.bool false, .int .i64 0, .bool false, .int .i64 0, .int .u64 0, .int .u64 0] 41 (0, 0))) ∧ Aside0 (Below w.heap.size w wc))
 case first =>
  have H := HC7.out
  clear HC7
  by_cases c10 : a4 < a1
  ·rw [if_pos c10] at H
   have c10b0 : decide (a4 < a1) = true := decide_eq_true c10
   clear c10
   (first | rw [c10b0] | (simp only [i64_w, i32_w]; rw [c10b0]) | skip)
   have H' := Aside0.mk H
   clear H
   go_wp2
   go_meet
   case rel => exact ⟨_, (true), (by first | rfl | (simp; done) | (simp [*]; done)), H', ⟨by first | omega | exact Nat.le_refl _⟩, ⟨by exact BK359.out⟩, ⟨by exact BK360.out⟩, ⟨by repeat (with_reducible first | exact HB.out | apply bs_ GE359 | apply bs_ GE360 | apply below_drew1 | apply pw_below_drewN)⟩⟩
  ·rw [if_neg c10] at H
   have c10b0 : decide (a4 < a1) = false := decide_eq_false c10
   clear c10
   (first | rw [c10b0] | (simp only [i64_w, i32_w]; rw [c10b0]) | skip)
   have H' := Aside0.mk H
   clear H
   go_wp2
   go_meet
   case rel => exact ⟨_, (decide (a5 ≤ 1)), (by first | rfl | (simp; done) | (simp [*]; done)), H', ⟨by first | omega | exact Nat.le_refl _⟩, ⟨by exact BK359.out⟩, ⟨by exact BK360.out⟩, ⟨by repeat (with_reducible first | exact HB.out | apply bs_ GE359 | apply bs_ GE360 | apply below_drew1 | apply pw_below_drewN)⟩⟩
 case rest =>
  clear HC7
  try clear c1
  try clear c2
  try clear p2
  try clear c10
  try clear c10b0
  (try clear BK359); (try clear BK360); (try clear HB)
  obtain ⟨kq, x20_6, rfl, HA, HJ6, BK359, BK360, HB⟩ := hcut
  cases kq with
  | zero => exact absurd HA.out (by simp [overfallref08_Note.j0])
  | succ kj6 =>
   have H := HA.out
   clear HA
   simp only [overfallref08_Note.j0] at H
   by_cases c11 : x20_6 = true
   ·subst c11
    have H1 : (some (false, 0, a0_2, a0_3, a0_4, a0_5, false)) = some (r1, r2, r3, r4, r5, r6, r7) := by rw [if_pos rfl] at H; exact H
    clear H
    have H := H1
    clear H1
    simp only [Option.some.injEq, Prod.mk.injEq] at H
    obtain ⟨rfl, rfl, rfl, rfl, rfl, rfl, rfl⟩ := H
    have hnb12 := NB359_360.out
    have hnc12 := NB360_359.out
    obtain ⟨hcz13_0, hcz13_1, hcz13_2, hcz13_3, hcz13_4, hcz13_5, hfz13_0, hfz13_1, hfz13_2, hfz13_3, hfz13_4, hfz13_5⟩ := cf6 BK359
    obtain ⟨hcz14_0, hcz14_1, hcz14_2, hcz14_3, hcz14_4, hcz14_5, hfz14_0, hfz14_1, hfz14_2, hfz14_3, hfz14_4, hfz14_5⟩ := cf6 BK360
    go_wp2
    refine bodyPost_ret (results_ct rfl _ _ gb360 41 #[.bool false, .int .i64 0, .bool a0_2, .int .i64 a0_3, .int .u64 a0_4, .int .u64 a0_5] (0, 0) _ rfl (by apply put6_; refine far2_ NB360_359 ?_; exact BK360.out) Try.underlying41 rfl (by kernel_rfl)) rfl ?_
    exact ⟨by first | rfl | (simp [errW_none, errW_some] <;> rfl) | (simp [*, errW_none, errW_some] <;> rfl), by repeat (with_reducible first | exact HB.out | apply bs_ GE359 | apply bs_ GE360 | apply below_drew1 | apply pw_below_drewN)⟩
   ·replace c11 := Bool.eq_false_iff.mpr c11
    subst c11
    have H1 : (if a0_0 = true then (some (a0_0, a0_1, a0_2, a0_3, a0_4, a0_5, decide (a3 ≥ a0_1))) else ((overfallref02_Add.f kj6 a3 a2).bind fun t361 => (some (true, t361, a0_2, a0_3, a0_4, a0_5, false)))) = some (r1, r2, r3, r4, r5, r6, r7) := by rw [if_neg (show ¬ (false = true) by decide)] at H; exact H
    clear H
    have H := H1
    clear H1
    by_cases c15 : a0_0 = true
    ·subst c15
     have H1 : (some (true, a0_1, a0_2, a0_3, a0_4, a0_5, decide (a3 ≥ a0_1))) = some (r1, r2, r3, r4, r5, r6, r7) := by rw [if_pos rfl] at H; exact H
     clear H
     have H := H1
     clear H1
     simp only [Option.some.injEq, Prod.mk.injEq] at H
     obtain ⟨rfl, rfl, rfl, rfl, rfl, rfl, rfl⟩ := H
     have hnb16 := NB359_360.out
     have hnc16 := NB360_359.out
     obtain ⟨hcz17_0, hcz17_1, hcz17_2, hcz17_3, hcz17_4, hcz17_5, hfz17_0, hfz17_1, hfz17_2, hfz17_3, hfz17_4, hfz17_5⟩ := cf6 BK359
     try go_wp2
     replace BK359 := m_ (blk_drew BK359.out)
     replace BK360 := m_ (blk_drew BK360.out)
     replace HB := m_ (below_drew1 HB.out)
     refine start_ (n := 7) (S := fun w' => w'.cell? ⟨gb359, 0, none⟩ = some (.bool true) ∧ w'.cell? ⟨gb359, 1, none⟩ = some (.int .i64 a0_1) ∧ w'.cell? ⟨gb359, 2, none⟩ = some (.bool a0_2) ∧ w'.cell? ⟨gb359, 3, none⟩ = some (.int .i64 a0_3) ∧ w'.cell? ⟨gb359, 4, none⟩ = some (.int .u64 a0_4) ∧ w'.cell? ⟨gb359, 5, none⟩ = some (.int .u64 a0_5)) (ds := []) #[false, false, false, false, false, false, false] (by kernel_rfl) rfl rfl ⟨(blk_cell BK359.out 0).trans rfl, (blk_cell BK359.out 1).trans rfl, (blk_cell BK359.out 2).trans rfl, (blk_cell BK359.out 3).trans rfl, (blk_cell BK359.out 4).trans rfl, (blk_cell BK359.out 5).trans rfl⟩ (fun hHeld => ?_)
     generalize wc.drew = w18 at BK359 BK360 HB hHeld ⊢
     refine pure_ (i := 1) (N := some 34) (v := ?_) (a' := ?_) #[false, true, false, false, false, false, false] rfl rfl (by kernel_rfl) (fun _ _ _ h => h) (Or.inl ⟨by rfl, ?_⟩) ?_ ?_
     rotate_left
     ·intro w'
      go_simp
      with_reducible rfl
     rotate_left
     ·simp only [Act.put, sa_, s0_, ss_, i64_w, i32_w]
      rfl
     refine pure_ (i := 2) (N := some 35) (v := ?_) (a' := ?_) #[false, true, true, false, false, false, false] rfl rfl (by kernel_rfl) (fun _ _ _ h => h) (Or.inl ⟨by rfl, ?_⟩) ?_ ?_
     rotate_left
     ·intro w'
      go_simp
      with_reducible rfl
     rotate_left
     ·simp only [Act.put, sa_, s0_, ss_, i64_w, i32_w]
      rfl
     refine take_ (i := 0) (N := some 33) (v := ?_) (a' := ?_) #[true, true, true, false, false, false, false] rfl rfl (by kernel_rfl) (fun _ _ _ h => h) (Or.inl ⟨by rfl, ?_⟩) hHeld ?_ ?_
     rotate_left
     ·rintro w' ⟨s0, s1, s2, s3, s4, s5⟩
      go_simp
      with_reducible rfl
     rotate_left
     ·simp only [Act.put, sa_, s0_, ss_, i64_w, i32_w]
      rfl
     refine take_ (i := 3) (N := some 36) (v := ?_) (a' := ?_) #[true, true, true, true, false, false, false] rfl rfl (by kernel_rfl) (fun _ _ _ h => h) (Or.inl ⟨by rfl, ?_⟩) hHeld ?_ ?_
     rotate_left
     ·rintro w' ⟨s0, s1, s2, s3, s4, s5⟩
      go_simp
      with_reducible rfl
     rotate_left
     ·simp only [Act.put, sa_, s0_, ss_, i64_w, i32_w]
      rfl
     refine pure_ (i := 4) (N := some 37) (v := ?_) (a' := ?_) #[true, true, true, true, true, false, false] rfl rfl (by kernel_rfl) (fun _ _ _ h => h) (Or.inl ⟨by rfl, ?_⟩) ?_ ?_
     rotate_left
     ·intro w'
      go_simp
      with_reducible rfl
     rotate_left
     ·simp only [Act.put, sa_, s0_, ss_, i64_w, i32_w]
      rfl
     refine one_ (i := 5) (N := none) #[true, true, true, true, true, true, false] rfl rfl (by kernel_rfl) (by decide) (fun K hK => ?_)
     have hs19 : w18.cell? ⟨gb360, 0, none⟩ = some (.bool false) := (blk_cell BK360.out 0).trans rfl
     have hfs19 := blk_frozen BK360.out 0
     have hns19_0 := NB359_360.out
     have hms19_0 := NB360_359.out
     have hs20 : w18.cell? ⟨gb360, 1, none⟩ = some (.int .i64 0) := (blk_cell BK360.out 1).trans rfl
     have hfs20 := blk_frozen BK360.out 1
     have hns20_0 := NB359_360.out
     have hms20_0 := NB360_359.out
     have hs21 : w18.cell? ⟨gb360, 2, none⟩ = some (.bool false) := (blk_cell BK360.out 2).trans rfl
     have hfs21 := blk_frozen BK360.out 2
     have hns21_0 := NB359_360.out
     have hms21_0 := NB360_359.out
     have hs22 : w18.cell? ⟨gb360, 3, none⟩ = some (.int .i64 0) := (blk_cell BK360.out 3).trans rfl
     have hfs22 := blk_frozen BK360.out 3
     have hns22_0 := NB359_360.out
     have hms22_0 := NB360_359.out
     have hs23 : w18.cell? ⟨gb360, 4, none⟩ = some (.int .u64 0) := (blk_cell BK360.out 4).trans rfl
     have hfs23 := blk_frozen BK360.out 4
     have hns23_0 := NB359_360.out
     have hms23_0 := NB360_359.out
     have hs24 : w18.cell? ⟨gb360, 5, none⟩ = some (.int .u64 0) := (blk_cell BK360.out 5).trans rfl
     have hfs24 := blk_frozen BK360.out 5
     have hns24_0 := NB359_360.out
     have hms24_0 := NB360_359.out
     refine skip_ (w1 := ?_) (by rfl) rfl ?_ ?_
     rotate_left
     ·go_simp
      rfl
     refine hK.out _ _ ⟨(cfar6_ NB359_360 (hHeld.1)), (cfar6_ NB359_360 (hHeld.2.1)), (cfar6_ NB359_360 (hHeld.2.2.1)), (cfar6_ NB359_360 (hHeld.2.2.2.1)), (cfar6_ NB359_360 (hHeld.2.2.2.2.1)), (cfar6_ NB359_360 (hHeld.2.2.2.2.2))⟩ (fun hHeld => ?_)
     clear hK K
     refine pure_ (i := 6) (N := some 13) (v := ?_) (a' := ?_) #[true, true, true, true, true, true, true] rfl rfl (by kernel_rfl) (fun _ _ _ h => h) (Or.inl ⟨by rfl, ?_⟩) ?_ ?_
     rotate_left
     ·intro w'
      go_simp
      with_reducible rfl
     rotate_left
     ·simp only [Act.put, sa_, s0_, ss_, i64_w, i32_w]
      rfl
     refine done_ (by kernel_rfl) ?_
     try go_wp2
     refine bodyPost_ret (results_ct rfl _ _ gb360 41 #[.bool true, .int .i64 a0_1, .bool a0_2, .int .i64 a0_3, .int .u64 a0_4, .int .u64 a0_5] (0, 0) _ rfl (by apply put6_; exact BK360.out) Try.underlying41 rfl (by kernel_rfl)) rfl ?_
     exact ⟨by first | rfl | (simp [errW_none, errW_some] <;> rfl) | (simp [*, errW_none, errW_some] <;> rfl), by repeat (with_reducible first | exact HB.out | apply bs_ GE359 | apply bs_ GE360 | apply below_drew1 | apply pw_below_drewN)⟩
    ·replace c15 := Bool.eq_false_iff.mpr c15
     subst c15
     have H1 : ((overfallref02_Add.f kj6 a3 a2).bind fun t361 => (some (true, t361, a0_2, a0_3, a0_4, a0_5, false))) = some (r1, r2, r3, r4, r5, r6, r7) := by rw [if_neg (show ¬ (false = true) by decide)] at H; exact H
     clear H
     have H := H1
     clear H1
     replace H := Option.bind_eq_some_iff.mp H
     obtain ⟨t361, A250, H⟩ := H
     replace H : (some (true, t361, a0_2, a0_3, a0_4, a0_5, false)) = some (r1, r2, r3, r4, r5, r6, r7) := H
     have A25 := Aside0.mk A250
     clear A250
     simp only [Option.some.injEq, Prod.mk.injEq] at H
     obtain ⟨rfl, rfl, rfl, rfl, rfl, rfl, rfl⟩ := H
     have hnb26 := NB359_360.out
     have hnc26 := NB360_359.out
     obtain ⟨hcz27_0, hcz27_1, hcz27_2, hcz27_3, hcz27_4, hcz27_5, hfz27_0, hfz27_1, hfz27_2, hfz27_3, hfz27_4, hfz27_5⟩ := cf6 BK359
     go_wp2_with (first | ((with_reducible refine gate_callee (f := 10) rfl ?_); refine goesL_ (some 29) rfl rfl Try.func10 (by kernel_rfl) rfl #[.int .i64 a3, .int .i64 a2] rfl (by first | rfl | (simp only [List.map_toArray, List.map_cons, List.map_nil]; first | done | rfl)) ?_; (with_reducible refine (overfallref02_Add.calls kj6 a3 a2 t361 _ A25.out).mono ?_); rintro e w28 ⟨rfl, hb⟩; refine ⟨_, rfl, ?_⟩; replace BK359 := bb_ BK359 hb; replace BK360 := bb_ BK360 hb; replace HB := st_ (by repeat (with_reducible first | exact HB.out | apply bs_ GE359 | apply bs_ GE360 | apply below_drew1 | apply pw_below_drewN)) hb; (try clear hb); obtain ⟨hcz29_0, hcz29_1, hcz29_2, hcz29_3, hcz29_4, hcz29_5, hfz29_0, hfz29_1, hfz29_2, hfz29_3, hfz29_4, hfz29_5⟩ := cf6 BK359; obtain ⟨hcz30_0, hcz30_1, hcz30_2, hcz30_3, hcz30_4, hcz30_5, hfz30_0, hfz30_1, hfz30_2, hfz30_3, hfz30_4, hfz30_5⟩ := cf6 BK360))
     refine bodyPost_ret (results_ct rfl _ _ gb360 41 #[.bool true, .int .i64 t361, .bool a0_2, .int .i64 a0_3, .int .u64 a0_4, .int .u64 a0_5] (0, 0) _ rfl (by apply put6_; refine far2_ NB360_359 ?_; exact BK360.out) Try.underlying41 rfl (by kernel_rfl)) rfl ?_
     exact ⟨by first | rfl | (simp [errW_none, errW_some] <;> rfl) | (simp [*, errW_none, errW_some] <;> rfl), by repeat (with_reducible first | exact HB.out | apply bs_ GE359 | apply bs_ GE360 | apply below_drew1 | apply pw_below_drewN)⟩

/-! ### overfallref08_more: function 33 -/
def overfallref08_more.f (a0 : Int) : Option (Int) := if a0 = 18446744073709551615 then (some a0) else (some (IntKind.u64.wrap (a0 + 1)))
set_option maxHeartbeats 8000000 in
set_option maxRecDepth 100000 in
theorem overfallref08_more.calls (a0 : Int) (r : Int) (w : World) (h : overfallref08_more.f a0 = some r) :
  Calls Try.prog 33 #[.int .u64 a0] w fun e w' => e = .returned (.int .u64 r) ∧ Drawn0 w w' := by
 have H : (if a0 = 18446744073709551615 then (some a0) else (some (IntKind.u64.wrap (a0 + 1)))) = some r := h
 clear h
 by_cases c2 : a0 = 18446744073709551615
 ·rw [if_pos c2] at H
  have c2b0 : (a0 == 18446744073709551615) = true := beq_iff_eq.mpr c2
  have c2b1 : (a0 != 18446744073709551615) = false := bne_eq_false_iff_eq.mpr c2
  clear c2
  obtain rfl := Option.some.inj H
  go_enter Try.func33, Try.ntmps33
  go_wp2
  go_ret
  exact ⟨by first | rfl | (simp; done) | (simp [*]; done), by repeat (first | exact Drawn0.refl _ | apply Drawn0.step)⟩
 ·rw [if_neg c2] at H
  have c2b0 : (a0 == 18446744073709551615) = false := beq_eq_false_iff_ne.mpr c2
  have c2b1 : (a0 != 18446744073709551615) = true := bne_iff_ne.mpr c2
  obtain rfl := Option.some.inj H
  go_enter Try.func33, Try.ntmps33
  go_wp2
  go_ret
  exact ⟨by first | rfl | (simp; done) | (simp [*]; done), by repeat (first | exact Drawn0.refl _ | apply Drawn0.step)⟩

/-! ### overfallref08_Look: function 17 -/
def overfallref08_Look.j0 : Nat → Int → Int → Int → Bool → Bool → Int → Bool → Int → Int → Int → Option (Bool × Int × Bool × Int × Int × Int × Int)
 | 0, _, _, _, _, _, _, _, _, _, _ => none
 | k + 1, x2, x3, x15, x66, x363000, x363001, x363002, x363003, x363004, x363005 => if x66 = true then ((overfallref03_Law.f k x2 x15).bind fun t374 => ((overfallref02_Add.f k x3 t374).bind fun t375 => (some (x363000, x363001, x363002, t375, x15, x15, 2)))) else ((overfallref03_Law.f k x2 x363004).bind fun t376 => ((overfallref02_Add.f k x3 t376).bind fun t377 => (some (x363000, x363001, x363002, t377, x363004, x363004, 2))))
def overfallref08_Look.f (k : Nat) (a0_0 : Bool) (a0_1 : Int) (a0_2 : Bool) (a0_3 : Int) (a0_4 : Int) (a0_5 : Int) (a1 : Int) (a2 : Int) (a3 : Int) (a4 : Int) (a5 : Int) : Option (Bool × Int × Bool × Int × Int × Int × Int) := (overfallref08_Note.f k a0_0 a0_1 a0_2 a0_3 a0_4 a0_5 a1 a2 a3 a4 a5).bind fun bt364 => (if bt364.2.2.1 = true then (if bt364.2.2.2.2.2.2 = true then (if a3 ≥ bt364.2.2.2.1 then ((overfallref08_more.f bt364.2.2.2.2.1).bind fun t371 => (some (bt364.1, bt364.2.1, bt364.2.2.1, bt364.2.2.2.1, t371, bt364.2.2.2.2.2.1, 1))) else (some (bt364.1, bt364.2.1, bt364.2.2.1, bt364.2.2.2.1, bt364.2.2.2.2.1, bt364.2.2.2.2.2.1, 0))) else (some (bt364.1, bt364.2.1, false, bt364.2.2.2.1, bt364.2.2.2.2.1, bt364.2.2.2.2.2.1, 0))) else (if bt364.2.2.2.2.2.2 = true then (if (IntKind.u64.wrap (bt364.2.2.2.2.1 - bt364.2.2.2.2.2.1)) ≥ 2 then (if (IntKind.u64.wrap (bt364.2.2.2.2.1 - bt364.2.2.2.2.2.1)) ≤ 9223372036854775808 then ((overfallref02_Sub.f k a3 bt364.2.2.2.1).bind fun t372 => ((overfallref02_Mul.f k 16 a2).bind fun t373 => (overfallref08_Look.j0 k a2 a3 (IntKind.u64.wrap (bt364.2.2.2.2.1 - bt364.2.2.2.2.2.1)) (decide (t372 < t373)) bt364.1 bt364.2.1 true bt364.2.2.2.1 1 bt364.2.2.2.2.2.1))) else (overfallref08_Look.j0 k a2 a3 (IntKind.u64.wrap (bt364.2.2.2.2.1 - bt364.2.2.2.2.2.1)) false bt364.1 bt364.2.1 true bt364.2.2.2.1 1 bt364.2.2.2.2.2.1)) else (overfallref08_Look.j0 k a2 a3 (IntKind.u64.wrap (bt364.2.2.2.2.1 - bt364.2.2.2.2.2.1)) false bt364.1 bt364.2.1 true bt364.2.2.2.1 1 bt364.2.2.2.2.2.1)) else (some (bt364.1, bt364.2.1, bt364.2.2.1, bt364.2.2.2.1, bt364.2.2.2.2.1, bt364.2.2.2.2.2.1, 0))))
theorem overfallref08_Look.mono_l : ∀ k, (∀ y0 y1 y2 y3 y4 y5 y6 y7 y8 y9, LeO (overfallref08_Look.j0 k y0 y1 y2 y3 y4 y5 y6 y7 y8 y9) (overfallref08_Look.j0 (k + 1) y0 y1 y2 y3 y4 y5 y6 y7 y8 y9))
 | 0 => fun _ _ _ _ _ _ _ _ _ _ r h => by simp [overfallref08_Look.j0] at h
 | k + 1 => by
  have ih0 := overfallref08_Look.mono_l k
  ·intro y0 y1 y2 y3 y4 y5 y6 y7 y8 y9
   unfold overfallref08_Look.j0
   repeat' first
   | (with_reducible exact ih0 _ _ _ _ _ _ _ _ _ _)
   | (with_reducible exact overfallref02_Add.mono _ _ _)
   | (with_reducible exact overfallref02_Mul.mono _ _ _)
   | (with_reducible exact overfallref02_Sub.mono _ _ _)
   | (with_reducible exact overfallref03_Law.mono _ _ _)
   | (with_reducible exact overfallref08_Note.mono _ _ _ _ _ _ _ _ _ _ _ _)
   | (with_reducible exact LeO.refl _)
   | (with_reducible exact LeO.none _)
   | (with_reducible refine LeO.ite ?_ ?_)
   | (with_reducible refine LeO.bind ?_ (fun _ => ?_))
   | exact ih0 _ _ _ _ _ _ _ _ _ _
   | exact overfallref02_Add.mono _ _ _
   | exact overfallref02_Mul.mono _ _ _
   | exact overfallref02_Sub.mono _ _ _
   | exact overfallref03_Law.mono _ _ _
   | exact overfallref08_Note.mono _ _ _ _ _ _ _ _ _ _ _ _
   | exact LeO.none _
   | refine LeO.ite ?_ ?_
   | refine LeO.bind ?_ (fun _ => ?_)
theorem overfallref08_Look.mono : ∀ a0 a1 a2 a3 a4 a5 a6 a7 a8 a9 a10 k, LeO (overfallref08_Look.f k a0 a1 a2 a3 a4 a5 a6 a7 a8 a9 a10) (overfallref08_Look.f (k + 1) a0 a1 a2 a3 a4 a5 a6 a7 a8 a9 a10) := by
 intro a0 a1 a2 a3 a4 a5 a6 a7 a8 a9 a10 k
 have ih0 := overfallref08_Look.mono_l k
 unfold overfallref08_Look.f
 repeat' first
   | (with_reducible exact ih0 _ _ _ _ _ _ _ _ _ _)
   | (with_reducible exact overfallref02_Add.mono _ _ _)
   | (with_reducible exact overfallref02_Mul.mono _ _ _)
   | (with_reducible exact overfallref02_Sub.mono _ _ _)
   | (with_reducible exact overfallref03_Law.mono _ _ _)
   | (with_reducible exact overfallref08_Note.mono _ _ _ _ _ _ _ _ _ _ _ _)
   | (with_reducible exact LeO.refl _)
   | (with_reducible exact LeO.none _)
   | (with_reducible refine LeO.ite ?_ ?_)
   | (with_reducible refine LeO.bind ?_ (fun _ => ?_))
   | exact ih0 _ _ _ _ _ _ _ _ _ _
   | exact overfallref02_Add.mono _ _ _
   | exact overfallref02_Mul.mono _ _ _
   | exact overfallref02_Sub.mono _ _ _
   | exact overfallref03_Law.mono _ _ _
   | exact overfallref08_Note.mono _ _ _ _ _ _ _ _ _ _ _ _
   | exact LeO.none _
   | refine LeO.ite ?_ ?_
   | refine LeO.bind ?_ (fun _ => ?_)
set_option maxHeartbeats 8000000 in
set_option maxRecDepth 100000 in
theorem overfallref08_Look.calls (k : Nat) (a0_0 : Bool) (a0_1 : Int) (a0_2 : Bool) (a0_3 : Int) (a0_4 : Int) (a0_5 : Int) (a1 : Int) (a2 : Int) (a3 : Int) (a4 : Int) (a5 : Int) (r1 : Bool) (r2 : Int) (r3 : Bool) (r4 : Int) (r5 : Int) (r6 : Int) (r7 : Int) (w : World) (h : overfallref08_Look.f k a0_0 a0_1 a0_2 a0_3 a0_4 a0_5 a1 a2 a3 a4 a5 = some (r1, r2, r3, r4, r5, r6, r7)) :
  Calls Try.prog 17 #[.agg #[.bool a0_0, .int .i64 a0_1, .bool a0_2, .int .i64 a0_3, .int .u64 a0_4, .int .u64 a0_5], .int .i64 a1, .int .i64 a2, .int .i64 a3, .int .i64 a4, .int .i64 a5] w fun e w' => e = .returned (.tuple #[.agg #[.bool r1, .int .i64 r2, .bool r3, .int .i64 r4, .int .u64 r5, .int .u64 r6], .int .i64 r7]) ∧ Below w.heap.size w w' := by
 have hu41 := Try.underlying41
 have HB := m_ (Below.refl w.heap.size w)
 have H : ((overfallref08_Note.f k a0_0 a0_1 a0_2 a0_3 a0_4 a0_5 a1 a2 a3 a4 a5).bind fun bt364 => (if bt364.2.2.1 = true then (if bt364.2.2.2.2.2.2 = true then (if a3 ≥ bt364.2.2.2.1 then ((overfallref08_more.f bt364.2.2.2.2.1).bind fun t371 => (some (bt364.1, bt364.2.1, bt364.2.2.1, bt364.2.2.2.1, t371, bt364.2.2.2.2.2.1, 1))) else (some (bt364.1, bt364.2.1, bt364.2.2.1, bt364.2.2.2.1, bt364.2.2.2.2.1, bt364.2.2.2.2.2.1, 0))) else (some (bt364.1, bt364.2.1, false, bt364.2.2.2.1, bt364.2.2.2.2.1, bt364.2.2.2.2.2.1, 0))) else (if bt364.2.2.2.2.2.2 = true then (if (IntKind.u64.wrap (bt364.2.2.2.2.1 - bt364.2.2.2.2.2.1)) ≥ 2 then (if (IntKind.u64.wrap (bt364.2.2.2.2.1 - bt364.2.2.2.2.2.1)) ≤ 9223372036854775808 then ((overfallref02_Sub.f k a3 bt364.2.2.2.1).bind fun t372 => ((overfallref02_Mul.f k 16 a2).bind fun t373 => (overfallref08_Look.j0 k a2 a3 (IntKind.u64.wrap (bt364.2.2.2.2.1 - bt364.2.2.2.2.2.1)) (decide (t372 < t373)) bt364.1 bt364.2.1 true bt364.2.2.2.1 1 bt364.2.2.2.2.2.1))) else (overfallref08_Look.j0 k a2 a3 (IntKind.u64.wrap (bt364.2.2.2.2.1 - bt364.2.2.2.2.2.1)) false bt364.1 bt364.2.1 true bt364.2.2.2.1 1 bt364.2.2.2.2.2.1)) else (overfallref08_Look.j0 k a2 a3 (IntKind.u64.wrap (bt364.2.2.2.2.1 - bt364.2.2.2.2.2.1)) false bt364.1 bt364.2.1 true bt364.2.2.2.1 1 bt364.2.2.2.2.2.1)) else (some (bt364.1, bt364.2.1, bt364.2.2.1, bt364.2.2.2.1, bt364.2.2.2.2.1, bt364.2.2.2.2.2.1, 0))))) = some (r1, r2, r3, r4, r5, r6, r7) := h
 clear h
 replace H := Option.bind_eq_some_iff.mp H
 obtain ⟨⟨t364, t365, t366, t367, t368, t369, t370⟩, A70, H⟩ := H
 replace H : (if t366 = true then (if t370 = true then (if a3 ≥ t367 then ((overfallref08_more.f t368).bind fun t371 => (some (t364, t365, t366, t367, t371, t369, 1))) else (some (t364, t365, t366, t367, t368, t369, 0))) else (some (t364, t365, false, t367, t368, t369, 0))) else (if t370 = true then (if (IntKind.u64.wrap (t368 - t369)) ≥ 2 then (if (IntKind.u64.wrap (t368 - t369)) ≤ 9223372036854775808 then ((overfallref02_Sub.f k a3 t367).bind fun t372 => ((overfallref02_Mul.f k 16 a2).bind fun t373 => (overfallref08_Look.j0 k a2 a3 (IntKind.u64.wrap (t368 - t369)) (decide (t372 < t373)) t364 t365 true t367 1 t369))) else (overfallref08_Look.j0 k a2 a3 (IntKind.u64.wrap (t368 - t369)) false t364 t365 true t367 1 t369)) else (overfallref08_Look.j0 k a2 a3 (IntKind.u64.wrap (t368 - t369)) false t364 t365 true t367 1 t369)) else (some (t364, t365, t366, t367, t368, t369, 0)))) = some (r1, r2, r3, r4, r5, r6, r7) := H
 have A7 := Aside0.mk A70
 clear A70
 by_cases c8 : t366 = true
 ·subst c8
  have H1 : (if t370 = true then (if a3 ≥ t367 then ((overfallref08_more.f t368).bind fun t371 => (some (t364, t365, true, t367, t371, t369, 1))) else (some (t364, t365, true, t367, t368, t369, 0))) else (some (t364, t365, false, t367, t368, t369, 0))) = some (r1, r2, r3, r4, r5, r6, r7) := by rw [if_pos rfl] at H; exact H
  clear H
  have H := H1
  clear H1
  by_cases c9 : t370 = true
  ·subst c9
   have H1 : (if a3 ≥ t367 then ((overfallref08_more.f t368).bind fun t371 => (some (t364, t365, true, t367, t371, t369, 1))) else (some (t364, t365, true, t367, t368, t369, 0))) = some (r1, r2, r3, r4, r5, r6, r7) := by rw [if_pos rfl] at H; exact H
   clear H
   have H := H1
   clear H1
   by_cases c10 : a3 ≥ t367
   ·rw [if_pos c10] at H
    have c10b0 : decide (t367 ≤ a3) = true := decide_eq_true c10
    clear c10
    replace H := Option.bind_eq_some_iff.mp H
    obtain ⟨t371, A110, H⟩ := H
    replace H : (some (t364, t365, true, t367, t371, t369, 1)) = some (r1, r2, r3, r4, r5, r6, r7) := H
    have A11 := Aside0.mk A110
    clear A110
    simp only [Option.some.injEq, Prod.mk.injEq] at H
    obtain ⟨rfl, rfl, rfl, rfl, rfl, rfl, rfl⟩ := H
    go_enter Try.func17, Try.ntmps17
    have mk_ : True := trivial
    go_wp2_with (first | ((first | (with_reducible refine gate_dst (N := 26) rfl ?_) | (with_reducible refine gate_dst (N := 30) rfl ?_) | (with_reducible refine gate_dst (N := 31) rfl ?_) | (with_reducible refine gate_dst (N := 33) rfl ?_) | (with_reducible refine gate_dst (N := 45) rfl ?_) | (with_reducible refine gate_dst (N := 46) rfl ?_)); clear mk_; generalize hq_ : World.setCell (World.setCell (World.setCell (World.setCell (World.setCell (World.setCell (w16) _ _) _ _) _ _) _ _) _ _) _ _ = wq; have n0_ : Aside0 (wq.heap[gb362]? = some (.cells #[.bool t364, .int .i64 t365, .bool true, .int .i64 t367, .int .u64 t368, .int .u64 t369] 41 (0, 0))) := ⟨by rw [← hq_]; apply put6_; exact BK362.out⟩; have n1_ : Aside0 (wq.heap[gb363]? = some (.cells #[.bool false, .int .i64 0, .bool false, .int .i64 0, .int .u64 0, .int .u64 0] 41 (0, 0))) := ⟨by rw [← hq_]; refine far6_ NB363_362 ?_; exact BK363.out⟩; have n2_ : Aside0 (Below w.heap.size w wq) := ⟨by rw [← hq_]; repeat (first | (with_reducible first | exact HB.out | refine below_set ?_ GE362.out | refine below_set ?_ GE363.out) | exact HB.out)⟩; clear BK362 BK363 HB hq_; have BK362 := n0_; have BK363 := n1_; have HB := n2_; clear n0_ n1_ n2_; have hcq362_0 : wq.cell? ⟨gb362, 0, none⟩ = some (.bool t364) := (blk_cell BK362.out 0).trans rfl; have hfq362_0 := blk_frozen BK362.out 0; have hcq362_1 : wq.cell? ⟨gb362, 1, none⟩ = some (.int .i64 t365) := (blk_cell BK362.out 1).trans rfl; have hfq362_1 := blk_frozen BK362.out 1; have hcq362_2 : wq.cell? ⟨gb362, 2, none⟩ = some (.bool true) := (blk_cell BK362.out 2).trans rfl; have hfq362_2 := blk_frozen BK362.out 2; have hcq362_3 : wq.cell? ⟨gb362, 3, none⟩ = some (.int .i64 t367) := (blk_cell BK362.out 3).trans rfl; have hfq362_3 := blk_frozen BK362.out 3; have hcq362_4 : wq.cell? ⟨gb362, 4, none⟩ = some (.int .u64 t368) := (blk_cell BK362.out 4).trans rfl; have hfq362_4 := blk_frozen BK362.out 4; have hcq362_5 : wq.cell? ⟨gb362, 5, none⟩ = some (.int .u64 t369) := (blk_cell BK362.out 5).trans rfl; have hfq362_5 := blk_frozen BK362.out 5; have hcq363_0 : wq.cell? ⟨gb363, 0, none⟩ = some (.bool false) := (blk_cell BK363.out 0).trans rfl; have hfq363_0 := blk_frozen BK363.out 0; have hcq363_1 : wq.cell? ⟨gb363, 1, none⟩ = some (.int .i64 0) := (blk_cell BK363.out 1).trans rfl; have hfq363_1 := blk_frozen BK363.out 1; have hcq363_2 : wq.cell? ⟨gb363, 2, none⟩ = some (.bool false) := (blk_cell BK363.out 2).trans rfl; have hfq363_2 := blk_frozen BK363.out 2; have hcq363_3 : wq.cell? ⟨gb363, 3, none⟩ = some (.int .i64 0) := (blk_cell BK363.out 3).trans rfl; have hfq363_3 := blk_frozen BK363.out 3; have hcq363_4 : wq.cell? ⟨gb363, 4, none⟩ = some (.int .u64 0) := (blk_cell BK363.out 4).trans rfl; have hfq363_4 := blk_frozen BK363.out 4; have hcq363_5 : wq.cell? ⟨gb363, 5, none⟩ = some (.int .u64 0) := (blk_cell BK363.out 5).trans rfl; have hfq363_5 := blk_frozen BK363.out 5) | ((with_reducible refine gate_dst (N := 6) rfl ?_); refine box_event ?hg (N := 6) ?hd (cs := #[.bool a0_0, .int .i64 a0_1, .bool a0_2, .int .i64 a0_3, .int .u64 a0_4, .int .u64 a0_5]) (t := 41) ?hr ?_; (case hd => rfl); (case hg => rfl); (case hr => first | (go_simp; done) | (go_simp; rfl)); intro gb362 hg w12 hbox hb; have BK362 := m_ (hbox); have GW362 := ge_ (by repeat (with_reducible first | exact HB.out | apply below_drew1 | apply pw_below_drewN)) hg; have GE362 := GW362; replace HB := st_ (by repeat (with_reducible first | exact HB.out | apply below_drew1 | apply pw_below_drewN)) hb; clear hb hbox hg) | ((with_reducible refine gate_dst (N := 12) rfl ?_); refine box_event ?hg (N := 12) ?hd (cs := #[.bool false, .int .i64 0, .bool false, .int .i64 0, .int .u64 0, .int .u64 0]) (t := 41) ?hr ?_; (case hd => rfl); (case hg => rfl); (case hr => first | (go_simp; done) | (go_simp; rfl)); intro gb363 hg w13 hbox hb; have BK363 := m_ (hbox); have GW363 := ge_ (by repeat (with_reducible first | exact HB.out | apply bs_ GE362 | apply below_drew1 | apply pw_below_drewN)) hg; have GE363 := GW363; have NB362_363 := nl_ BK362 hg; have NB363_362 := ng_ BK362 hg; replace BK362 := bb_ BK362 hb; replace HB := st_ (by repeat (with_reducible first | exact HB.out | apply bs_ GE362 | apply below_drew1 | apply pw_below_drewN)) hb; clear hb hbox hg; have hnb14 := NB362_363.out; have hnc14 := NB363_362.out; obtain ⟨hcz15_0, hcz15_1, hcz15_2, hcz15_3, hcz15_4, hcz15_5, hfz15_0, hfz15_1, hfz15_2, hfz15_3, hfz15_4, hfz15_5⟩ := cf6 BK362) | ((with_reducible refine gate_callee (f := 20) rfl ?_); refine goesL_ (some 23) rfl rfl Try.func20 (by kernel_rfl) rfl #[.agg #[.bool a0_0, .int .i64 a0_1, .bool a0_2, .int .i64 a0_3, .int .u64 a0_4, .int .u64 a0_5], .int .i64 a1, .int .i64 a2, .int .i64 a3, .int .i64 a4, .int .i64 a5] rfl (by first | rfl | (simp only [List.map_toArray, List.map_cons, List.map_nil]; first | done | rfl)) ?_; (with_reducible refine (overfallref08_Note.calls k a0_0 a0_1 a0_2 a0_3 a0_4 a0_5 a1 a2 a3 a4 a5 t364 t365 true t367 t368 t369 true _ A7.out).mono ?_); rintro e w16 ⟨rfl, hb⟩; refine ⟨_, rfl, ?_⟩; replace BK362 := bb_ BK362 hb; replace BK363 := bb_ BK363 hb; replace HB := st_ (by repeat (with_reducible first | exact HB.out | apply bs_ GE362 | apply bs_ GE363 | apply below_drew1 | apply pw_below_drewN)) hb; (try clear hb); obtain ⟨hcz17_0, hcz17_1, hcz17_2, hcz17_3, hcz17_4, hcz17_5, hfz17_0, hfz17_1, hfz17_2, hfz17_3, hfz17_4, hfz17_5⟩ := cf6 BK362) | ((with_reducible refine gate_callee (f := 33) rfl ?_); refine goesL_ (some 38) rfl rfl Try.func33 (by kernel_rfl) rfl #[.int .u64 t368] rfl (by first | rfl | (simp only [List.map_toArray, List.map_cons, List.map_nil]; first | done | rfl)) ?_; (with_reducible refine (overfallref08_more.calls t368 t371 _ A11.out).mono ?_); rintro e w' ⟨rfl, ⟨nd, rfl⟩⟩; refine ⟨_, rfl, ?_⟩; obtain ⟨hcz18_0, hcz18_1, hcz18_2, hcz18_3, hcz18_4, hcz18_5, hfz18_0, hfz18_1, hfz18_2, hfz18_3, hfz18_4, hfz18_5⟩ := cf6 BK363))
    refine bodyPost_ret (results_ct rfl _ _ gb363 41 #[.bool t364, .int .i64 t365, .bool true, .int .i64 t367, .int .u64 t371, .int .u64 t369] (0, 0) _ rfl (by apply put6_; refine blk_far ?_ NB363_362.out _; exact BK363.out) Try.underlying41 rfl (by kernel_rfl)) rfl ?_
    exact ⟨by first | rfl | (simp [errW_none, errW_some] <;> rfl) | (simp [*, errW_none, errW_some] <;> rfl), by repeat (with_reducible first | exact HB.out | apply bs_ GE362 | apply bs_ GE363 | apply below_drew1 | apply pw_below_drewN)⟩
   ·rw [if_neg c10] at H
    have c10b0 : decide (t367 ≤ a3) = false := decide_eq_false c10
    clear c10
    simp only [Option.some.injEq, Prod.mk.injEq] at H
    obtain ⟨rfl, rfl, rfl, rfl, rfl, rfl, rfl⟩ := H
    go_enter Try.func17, Try.ntmps17
    have mk_ : True := trivial
    go_wp2_with (first | ((first | (with_reducible refine gate_dst (N := 26) rfl ?_) | (with_reducible refine gate_dst (N := 30) rfl ?_) | (with_reducible refine gate_dst (N := 31) rfl ?_) | (with_reducible refine gate_dst (N := 33) rfl ?_) | (with_reducible refine gate_dst (N := 45) rfl ?_) | (with_reducible refine gate_dst (N := 46) rfl ?_)); clear mk_; generalize hq_ : World.setCell (World.setCell (World.setCell (World.setCell (World.setCell (World.setCell (w23) _ _) _ _) _ _) _ _) _ _) _ _ = wq; have n0_ : Aside0 (wq.heap[gb362]? = some (.cells #[.bool t364, .int .i64 t365, .bool true, .int .i64 t367, .int .u64 t368, .int .u64 t369] 41 (0, 0))) := ⟨by rw [← hq_]; apply put6_; exact BK362.out⟩; have n1_ : Aside0 (wq.heap[gb363]? = some (.cells #[.bool false, .int .i64 0, .bool false, .int .i64 0, .int .u64 0, .int .u64 0] 41 (0, 0))) := ⟨by rw [← hq_]; refine far6_ NB363_362 ?_; exact BK363.out⟩; have n2_ : Aside0 (Below w.heap.size w wq) := ⟨by rw [← hq_]; repeat (first | (with_reducible first | exact HB.out | refine below_set ?_ GE362.out | refine below_set ?_ GE363.out) | exact HB.out)⟩; clear BK362 BK363 HB hq_; have BK362 := n0_; have BK363 := n1_; have HB := n2_; clear n0_ n1_ n2_; have hcq362_0 : wq.cell? ⟨gb362, 0, none⟩ = some (.bool t364) := (blk_cell BK362.out 0).trans rfl; have hfq362_0 := blk_frozen BK362.out 0; have hcq362_1 : wq.cell? ⟨gb362, 1, none⟩ = some (.int .i64 t365) := (blk_cell BK362.out 1).trans rfl; have hfq362_1 := blk_frozen BK362.out 1; have hcq362_2 : wq.cell? ⟨gb362, 2, none⟩ = some (.bool true) := (blk_cell BK362.out 2).trans rfl; have hfq362_2 := blk_frozen BK362.out 2; have hcq362_3 : wq.cell? ⟨gb362, 3, none⟩ = some (.int .i64 t367) := (blk_cell BK362.out 3).trans rfl; have hfq362_3 := blk_frozen BK362.out 3; have hcq362_4 : wq.cell? ⟨gb362, 4, none⟩ = some (.int .u64 t368) := (blk_cell BK362.out 4).trans rfl; have hfq362_4 := blk_frozen BK362.out 4; have hcq362_5 : wq.cell? ⟨gb362, 5, none⟩ = some (.int .u64 t369) := (blk_cell BK362.out 5).trans rfl; have hfq362_5 := blk_frozen BK362.out 5; have hcq363_0 : wq.cell? ⟨gb363, 0, none⟩ = some (.bool false) := (blk_cell BK363.out 0).trans rfl; have hfq363_0 := blk_frozen BK363.out 0; have hcq363_1 : wq.cell? ⟨gb363, 1, none⟩ = some (.int .i64 0) := (blk_cell BK363.out 1).trans rfl; have hfq363_1 := blk_frozen BK363.out 1; have hcq363_2 : wq.cell? ⟨gb363, 2, none⟩ = some (.bool false) := (blk_cell BK363.out 2).trans rfl; have hfq363_2 := blk_frozen BK363.out 2; have hcq363_3 : wq.cell? ⟨gb363, 3, none⟩ = some (.int .i64 0) := (blk_cell BK363.out 3).trans rfl; have hfq363_3 := blk_frozen BK363.out 3; have hcq363_4 : wq.cell? ⟨gb363, 4, none⟩ = some (.int .u64 0) := (blk_cell BK363.out 4).trans rfl; have hfq363_4 := blk_frozen BK363.out 4; have hcq363_5 : wq.cell? ⟨gb363, 5, none⟩ = some (.int .u64 0) := (blk_cell BK363.out 5).trans rfl; have hfq363_5 := blk_frozen BK363.out 5) | ((with_reducible refine gate_dst (N := 6) rfl ?_); refine box_event ?hg (N := 6) ?hd (cs := #[.bool a0_0, .int .i64 a0_1, .bool a0_2, .int .i64 a0_3, .int .u64 a0_4, .int .u64 a0_5]) (t := 41) ?hr ?_; (case hd => rfl); (case hg => rfl); (case hr => first | (go_simp; done) | (go_simp; rfl)); intro gb362 hg w19 hbox hb; have BK362 := m_ (hbox); have GW362 := ge_ (by repeat (with_reducible first | exact HB.out | apply below_drew1 | apply pw_below_drewN)) hg; have GE362 := GW362; replace HB := st_ (by repeat (with_reducible first | exact HB.out | apply below_drew1 | apply pw_below_drewN)) hb; clear hb hbox hg) | ((with_reducible refine gate_dst (N := 12) rfl ?_); refine box_event ?hg (N := 12) ?hd (cs := #[.bool false, .int .i64 0, .bool false, .int .i64 0, .int .u64 0, .int .u64 0]) (t := 41) ?hr ?_; (case hd => rfl); (case hg => rfl); (case hr => first | (go_simp; done) | (go_simp; rfl)); intro gb363 hg w20 hbox hb; have BK363 := m_ (hbox); have GW363 := ge_ (by repeat (with_reducible first | exact HB.out | apply bs_ GE362 | apply below_drew1 | apply pw_below_drewN)) hg; have GE363 := GW363; have NB362_363 := nl_ BK362 hg; have NB363_362 := ng_ BK362 hg; replace BK362 := bb_ BK362 hb; replace HB := st_ (by repeat (with_reducible first | exact HB.out | apply bs_ GE362 | apply below_drew1 | apply pw_below_drewN)) hb; clear hb hbox hg; have hnb21 := NB362_363.out; have hnc21 := NB363_362.out; obtain ⟨hcz22_0, hcz22_1, hcz22_2, hcz22_3, hcz22_4, hcz22_5, hfz22_0, hfz22_1, hfz22_2, hfz22_3, hfz22_4, hfz22_5⟩ := cf6 BK362) | ((with_reducible refine gate_callee (f := 20) rfl ?_); refine goesL_ (some 23) rfl rfl Try.func20 (by kernel_rfl) rfl #[.agg #[.bool a0_0, .int .i64 a0_1, .bool a0_2, .int .i64 a0_3, .int .u64 a0_4, .int .u64 a0_5], .int .i64 a1, .int .i64 a2, .int .i64 a3, .int .i64 a4, .int .i64 a5] rfl (by first | rfl | (simp only [List.map_toArray, List.map_cons, List.map_nil]; first | done | rfl)) ?_; (with_reducible refine (overfallref08_Note.calls k a0_0 a0_1 a0_2 a0_3 a0_4 a0_5 a1 a2 a3 a4 a5 t364 t365 true t367 t368 t369 true _ A7.out).mono ?_); rintro e w23 ⟨rfl, hb⟩; refine ⟨_, rfl, ?_⟩; replace BK362 := bb_ BK362 hb; replace BK363 := bb_ BK363 hb; replace HB := st_ (by repeat (with_reducible first | exact HB.out | apply bs_ GE362 | apply bs_ GE363 | apply below_drew1 | apply pw_below_drewN)) hb; (try clear hb); obtain ⟨hcz24_0, hcz24_1, hcz24_2, hcz24_3, hcz24_4, hcz24_5, hfz24_0, hfz24_1, hfz24_2, hfz24_3, hfz24_4, hfz24_5⟩ := cf6 BK362; obtain ⟨hcz25_0, hcz25_1, hcz25_2, hcz25_3, hcz25_4, hcz25_5, hfz25_0, hfz25_1, hfz25_2, hfz25_3, hfz25_4, hfz25_5⟩ := cf6 BK363))
    refine bodyPost_ret (results_ct rfl _ _ gb363 41 #[.bool t364, .int .i64 t365, .bool true, .int .i64 t367, .int .u64 t368, .int .u64 t369] (0, 0) _ rfl (by apply put6_; exact BK363.out) Try.underlying41 rfl (by kernel_rfl)) rfl ?_
    exact ⟨by first | rfl | (simp [errW_none, errW_some] <;> rfl) | (simp [*, errW_none, errW_some] <;> rfl), by repeat (with_reducible first | exact HB.out | apply bs_ GE362 | apply bs_ GE363 | apply below_drew1 | apply pw_below_drewN)⟩
  ·replace c9 := Bool.eq_false_iff.mpr c9
   subst c9
   have H1 : (some (t364, t365, false, t367, t368, t369, 0)) = some (r1, r2, r3, r4, r5, r6, r7) := by rw [if_neg (show ¬ (false = true) by decide)] at H; exact H
   clear H
   have H := H1
   clear H1
   simp only [Option.some.injEq, Prod.mk.injEq] at H
   obtain ⟨rfl, rfl, rfl, rfl, rfl, rfl, rfl⟩ := H
   go_enter Try.func17, Try.ntmps17
   have mk_ : True := trivial
   go_wp2_with (first | ((first | (with_reducible refine gate_dst (N := 26) rfl ?_) | (with_reducible refine gate_dst (N := 30) rfl ?_) | (with_reducible refine gate_dst (N := 31) rfl ?_) | (with_reducible refine gate_dst (N := 33) rfl ?_) | (with_reducible refine gate_dst (N := 45) rfl ?_) | (with_reducible refine gate_dst (N := 46) rfl ?_)); clear mk_; generalize hq_ : World.setCell (World.setCell (World.setCell (World.setCell (World.setCell (World.setCell (w30) _ _) _ _) _ _) _ _) _ _) _ _ = wq; have n0_ : Aside0 (wq.heap[gb362]? = some (.cells #[.bool t364, .int .i64 t365, .bool true, .int .i64 t367, .int .u64 t368, .int .u64 t369] 41 (0, 0))) := ⟨by rw [← hq_]; apply put6_; exact BK362.out⟩; have n1_ : Aside0 (wq.heap[gb363]? = some (.cells #[.bool false, .int .i64 0, .bool false, .int .i64 0, .int .u64 0, .int .u64 0] 41 (0, 0))) := ⟨by rw [← hq_]; refine far6_ NB363_362 ?_; exact BK363.out⟩; have n2_ : Aside0 (Below w.heap.size w wq) := ⟨by rw [← hq_]; repeat (first | (with_reducible first | exact HB.out | refine below_set ?_ GE362.out | refine below_set ?_ GE363.out) | exact HB.out)⟩; clear BK362 BK363 HB hq_; have BK362 := n0_; have BK363 := n1_; have HB := n2_; clear n0_ n1_ n2_; have hcq362_0 : wq.cell? ⟨gb362, 0, none⟩ = some (.bool t364) := (blk_cell BK362.out 0).trans rfl; have hfq362_0 := blk_frozen BK362.out 0; have hcq362_1 : wq.cell? ⟨gb362, 1, none⟩ = some (.int .i64 t365) := (blk_cell BK362.out 1).trans rfl; have hfq362_1 := blk_frozen BK362.out 1; have hcq362_2 : wq.cell? ⟨gb362, 2, none⟩ = some (.bool true) := (blk_cell BK362.out 2).trans rfl; have hfq362_2 := blk_frozen BK362.out 2; have hcq362_3 : wq.cell? ⟨gb362, 3, none⟩ = some (.int .i64 t367) := (blk_cell BK362.out 3).trans rfl; have hfq362_3 := blk_frozen BK362.out 3; have hcq362_4 : wq.cell? ⟨gb362, 4, none⟩ = some (.int .u64 t368) := (blk_cell BK362.out 4).trans rfl; have hfq362_4 := blk_frozen BK362.out 4; have hcq362_5 : wq.cell? ⟨gb362, 5, none⟩ = some (.int .u64 t369) := (blk_cell BK362.out 5).trans rfl; have hfq362_5 := blk_frozen BK362.out 5; have hcq363_0 : wq.cell? ⟨gb363, 0, none⟩ = some (.bool false) := (blk_cell BK363.out 0).trans rfl; have hfq363_0 := blk_frozen BK363.out 0; have hcq363_1 : wq.cell? ⟨gb363, 1, none⟩ = some (.int .i64 0) := (blk_cell BK363.out 1).trans rfl; have hfq363_1 := blk_frozen BK363.out 1; have hcq363_2 : wq.cell? ⟨gb363, 2, none⟩ = some (.bool false) := (blk_cell BK363.out 2).trans rfl; have hfq363_2 := blk_frozen BK363.out 2; have hcq363_3 : wq.cell? ⟨gb363, 3, none⟩ = some (.int .i64 0) := (blk_cell BK363.out 3).trans rfl; have hfq363_3 := blk_frozen BK363.out 3; have hcq363_4 : wq.cell? ⟨gb363, 4, none⟩ = some (.int .u64 0) := (blk_cell BK363.out 4).trans rfl; have hfq363_4 := blk_frozen BK363.out 4; have hcq363_5 : wq.cell? ⟨gb363, 5, none⟩ = some (.int .u64 0) := (blk_cell BK363.out 5).trans rfl; have hfq363_5 := blk_frozen BK363.out 5) | ((with_reducible refine gate_dst (N := 6) rfl ?_); refine box_event ?hg (N := 6) ?hd (cs := #[.bool a0_0, .int .i64 a0_1, .bool a0_2, .int .i64 a0_3, .int .u64 a0_4, .int .u64 a0_5]) (t := 41) ?hr ?_; (case hd => rfl); (case hg => rfl); (case hr => first | (go_simp; done) | (go_simp; rfl)); intro gb362 hg w26 hbox hb; have BK362 := m_ (hbox); have GW362 := ge_ (by repeat (with_reducible first | exact HB.out | apply below_drew1 | apply pw_below_drewN)) hg; have GE362 := GW362; replace HB := st_ (by repeat (with_reducible first | exact HB.out | apply below_drew1 | apply pw_below_drewN)) hb; clear hb hbox hg) | ((with_reducible refine gate_dst (N := 12) rfl ?_); refine box_event ?hg (N := 12) ?hd (cs := #[.bool false, .int .i64 0, .bool false, .int .i64 0, .int .u64 0, .int .u64 0]) (t := 41) ?hr ?_; (case hd => rfl); (case hg => rfl); (case hr => first | (go_simp; done) | (go_simp; rfl)); intro gb363 hg w27 hbox hb; have BK363 := m_ (hbox); have GW363 := ge_ (by repeat (with_reducible first | exact HB.out | apply bs_ GE362 | apply below_drew1 | apply pw_below_drewN)) hg; have GE363 := GW363; have NB362_363 := nl_ BK362 hg; have NB363_362 := ng_ BK362 hg; replace BK362 := bb_ BK362 hb; replace HB := st_ (by repeat (with_reducible first | exact HB.out | apply bs_ GE362 | apply below_drew1 | apply pw_below_drewN)) hb; clear hb hbox hg; have hnb28 := NB362_363.out; have hnc28 := NB363_362.out; obtain ⟨hcz29_0, hcz29_1, hcz29_2, hcz29_3, hcz29_4, hcz29_5, hfz29_0, hfz29_1, hfz29_2, hfz29_3, hfz29_4, hfz29_5⟩ := cf6 BK362) | ((with_reducible refine gate_callee (f := 20) rfl ?_); refine goesL_ (some 23) rfl rfl Try.func20 (by kernel_rfl) rfl #[.agg #[.bool a0_0, .int .i64 a0_1, .bool a0_2, .int .i64 a0_3, .int .u64 a0_4, .int .u64 a0_5], .int .i64 a1, .int .i64 a2, .int .i64 a3, .int .i64 a4, .int .i64 a5] rfl (by first | rfl | (simp only [List.map_toArray, List.map_cons, List.map_nil]; first | done | rfl)) ?_; (with_reducible refine (overfallref08_Note.calls k a0_0 a0_1 a0_2 a0_3 a0_4 a0_5 a1 a2 a3 a4 a5 t364 t365 true t367 t368 t369 false _ A7.out).mono ?_); rintro e w30 ⟨rfl, hb⟩; refine ⟨_, rfl, ?_⟩; replace BK362 := bb_ BK362 hb; replace BK363 := bb_ BK363 hb; replace HB := st_ (by repeat (with_reducible first | exact HB.out | apply bs_ GE362 | apply bs_ GE363 | apply below_drew1 | apply pw_below_drewN)) hb; (try clear hb); obtain ⟨hcz31_0, hcz31_1, hcz31_2, hcz31_3, hcz31_4, hcz31_5, hfz31_0, hfz31_1, hfz31_2, hfz31_3, hfz31_4, hfz31_5⟩ := cf6 BK362; obtain ⟨hcz32_0, hcz32_1, hcz32_2, hcz32_3, hcz32_4, hcz32_5, hfz32_0, hfz32_1, hfz32_2, hfz32_3, hfz32_4, hfz32_5⟩ := cf6 BK363))
   refine bodyPost_ret (results_ct rfl _ _ gb363 41 #[.bool t364, .int .i64 t365, .bool false, .int .i64 t367, .int .u64 t368, .int .u64 t369] (0, 0) _ rfl (by apply put6_; refine blk_far ?_ NB363_362.out _; exact BK363.out) Try.underlying41 rfl (by kernel_rfl)) rfl ?_
   exact ⟨by first | rfl | (simp [errW_none, errW_some] <;> rfl) | (simp [*, errW_none, errW_some] <;> rfl), by repeat (with_reducible first | exact HB.out | apply bs_ GE362 | apply bs_ GE363 | apply below_drew1 | apply pw_below_drewN)⟩
 ·replace c8 := Bool.eq_false_iff.mpr c8
  subst c8
  have H1 : (if t370 = true then (if (IntKind.u64.wrap (t368 - t369)) ≥ 2 then (if (IntKind.u64.wrap (t368 - t369)) ≤ 9223372036854775808 then ((overfallref02_Sub.f k a3 t367).bind fun t372 => ((overfallref02_Mul.f k 16 a2).bind fun t373 => (overfallref08_Look.j0 k a2 a3 (IntKind.u64.wrap (t368 - t369)) (decide (t372 < t373)) t364 t365 true t367 1 t369))) else (overfallref08_Look.j0 k a2 a3 (IntKind.u64.wrap (t368 - t369)) false t364 t365 true t367 1 t369)) else (overfallref08_Look.j0 k a2 a3 (IntKind.u64.wrap (t368 - t369)) false t364 t365 true t367 1 t369)) else (some (t364, t365, false, t367, t368, t369, 0))) = some (r1, r2, r3, r4, r5, r6, r7) := by rw [if_neg (show ¬ (false = true) by decide)] at H; exact H
  clear H
  have H := H1
  clear H1
  by_cases c33 : t370 = true
  ·subst c33
   have H1 : (if (IntKind.u64.wrap (t368 - t369)) ≥ 2 then (if (IntKind.u64.wrap (t368 - t369)) ≤ 9223372036854775808 then ((overfallref02_Sub.f k a3 t367).bind fun t372 => ((overfallref02_Mul.f k 16 a2).bind fun t373 => (overfallref08_Look.j0 k a2 a3 (IntKind.u64.wrap (t368 - t369)) (decide (t372 < t373)) t364 t365 true t367 1 t369))) else (overfallref08_Look.j0 k a2 a3 (IntKind.u64.wrap (t368 - t369)) false t364 t365 true t367 1 t369)) else (overfallref08_Look.j0 k a2 a3 (IntKind.u64.wrap (t368 - t369)) false t364 t365 true t367 1 t369)) = some (r1, r2, r3, r4, r5, r6, r7) := by rw [if_pos rfl] at H; exact H
   clear H
   have H := H1
   clear H1
   have HC34 := Aside0.mk H
   clear H
   go_enter Try.func17, Try.ntmps17
   go_upto_region 15 with (first | ((with_reducible refine gate_dst (N := 6) rfl ?_); refine box_event ?hg (N := 6) ?hd (cs := #[.bool a0_0, .int .i64 a0_1, .bool a0_2, .int .i64 a0_3, .int .u64 a0_4, .int .u64 a0_5]) (t := 41) ?hr ?_; (case hd => rfl); (case hg => rfl); (case hr => first | (go_simp; done) | (go_simp; rfl)); intro gb362 hg w35 hbox hb; have BK362 := m_ (hbox); have GW362 := ge_ (by repeat (with_reducible first | exact HB.out | apply below_drew1 | apply pw_below_drewN)) hg; have GE362 := GW362; replace HB := st_ (by repeat (with_reducible first | exact HB.out | apply below_drew1 | apply pw_below_drewN)) hb; clear hb hbox hg) | ((with_reducible refine gate_dst (N := 12) rfl ?_); refine box_event ?hg (N := 12) ?hd (cs := #[.bool false, .int .i64 0, .bool false, .int .i64 0, .int .u64 0, .int .u64 0]) (t := 41) ?hr ?_; (case hd => rfl); (case hg => rfl); (case hr => first | (go_simp; done) | (go_simp; rfl)); intro gb363 hg w36 hbox hb; have BK363 := m_ (hbox); have GW363 := ge_ (by repeat (with_reducible first | exact HB.out | apply bs_ GE362 | apply below_drew1 | apply pw_below_drewN)) hg; have GE363 := GW363; have NB362_363 := nl_ BK362 hg; have NB363_362 := ng_ BK362 hg; replace BK362 := bb_ BK362 hb; replace HB := st_ (by repeat (with_reducible first | exact HB.out | apply bs_ GE362 | apply below_drew1 | apply pw_below_drewN)) hb; clear hb hbox hg; have hnb37 := NB362_363.out; have hnc37 := NB363_362.out; obtain ⟨hcz38_0, hcz38_1, hcz38_2, hcz38_3, hcz38_4, hcz38_5, hfz38_0, hfz38_1, hfz38_2, hfz38_3, hfz38_4, hfz38_5⟩ := cf6 BK362) | ((with_reducible refine gate_callee (f := 20) rfl ?_); refine goesL_ (some 23) rfl rfl Try.func20 (by kernel_rfl) rfl #[.agg #[.bool a0_0, .int .i64 a0_1, .bool a0_2, .int .i64 a0_3, .int .u64 a0_4, .int .u64 a0_5], .int .i64 a1, .int .i64 a2, .int .i64 a3, .int .i64 a4, .int .i64 a5] rfl (by first | rfl | (simp only [List.map_toArray, List.map_cons, List.map_nil]; first | done | rfl)) ?_; (with_reducible refine (overfallref08_Note.calls k a0_0 a0_1 a0_2 a0_3 a0_4 a0_5 a1 a2 a3 a4 a5 t364 t365 false t367 t368 t369 true _ A7.out).mono ?_); rintro e w39 ⟨rfl, hb⟩; refine ⟨_, rfl, ?_⟩; replace BK362 := bb_ BK362 hb; replace BK363 := bb_ BK363 hb; replace HB := st_ (by repeat (with_reducible first | exact HB.out | apply bs_ GE362 | apply bs_ GE363 | apply below_drew1 | apply pw_below_drewN)) hb; (try clear hb); obtain ⟨hcz40_0, hcz40_1, hcz40_2, hcz40_3, hcz40_4, hcz40_5, hfz40_0, hfz40_1, hfz40_2, hfz40_3, hfz40_4, hfz40_5⟩ := cf6 BK362))
   (try simp only [Act.put, sa_, s0_, ss_])
   go_cut [66] (fun v66 wc => ∃ (kq : Nat) (x66_33 : Bool), v66 = .bool x66_33 ∧ Aside0 (overfallref08_Look.j0 kq a2 a3 (IntKind.u64.wrap (t368 - t369)) x66_33 t364 t365 true t367 1 t369 = some (r1, r2, r3, r4, r5, r6, r7)) ∧ Aside0 (kq ≤ k) ∧ Aside0 (wc.heap[gb362]? = some (.cells #[.bool t364, .int .i64 t365, .bool true, .int .i64 t367, .int .u64 1, .int .u64 t369] 41 (0, 0))) ∧ Aside0 (wc.heap[gb363]? = some (.cells #[.bool false, .int .i64 0, .bool false, .int .i64 0, .int .u64 0, .int .u64 0] 41 (0, 0))) ∧ Aside0 (Below w.heap.size w wc))
   case first =>
    have H := HC34.out
    clear HC34
    by_cases c41 : (IntKind.u64.wrap (t368 - t369)) ≥ 2
    ·rw [if_pos c41] at H
     have c41b0 : decide (2 ≤ (IntKind.u64.wrap (t368 - t369))) = true := decide_eq_true c41
     clear c41
     (first | rw [c41b0] | (simp only [i64_w, i32_w]; rw [c41b0]) | skip)
     by_cases c42 : (IntKind.u64.wrap (t368 - t369)) ≤ 9223372036854775808
     ·rw [if_pos c42] at H
      have c42b0 : decide ((IntKind.u64.wrap (t368 - t369)) ≤ 9223372036854775808) = true := decide_eq_true c42
      clear c42
      replace H := Option.bind_eq_some_iff.mp H
      obtain ⟨t372, A430, H⟩ := H
      replace H : ((overfallref02_Mul.f k 16 a2).bind fun t373 => (overfallref08_Look.j0 k a2 a3 (IntKind.u64.wrap (t368 - t369)) (decide (t372 < t373)) t364 t365 true t367 1 t369)) = some (r1, r2, r3, r4, r5, r6, r7) := H
      have A43 := Aside0.mk A430
      clear A430
      replace H := Option.bind_eq_some_iff.mp H
      obtain ⟨t373, A440, H⟩ := H
      replace H : (overfallref08_Look.j0 k a2 a3 (IntKind.u64.wrap (t368 - t369)) (decide (t372 < t373)) t364 t365 true t367 1 t369) = some (r1, r2, r3, r4, r5, r6, r7) := H
      have A44 := Aside0.mk A440
      clear A440
      have H' := Aside0.mk H
      clear H
      have hnb45 := NB362_363.out
      have hnc45 := NB363_362.out
      obtain ⟨hcz46_0, hcz46_1, hcz46_2, hcz46_3, hcz46_4, hcz46_5, hfz46_0, hfz46_1, hfz46_2, hfz46_3, hfz46_4, hfz46_5⟩ := cf6 BK362
      go_wp2_with (first | (go_at_call 12; (with_reducible refine (overfallref02_Sub.calls k a3 t367 t372 _ A43.out).mono ?_); rintro e w47 ⟨rfl, hb⟩; replace BK362 := m_ (blk_below (g := gb362) (o := .cells #[.bool t364, .int .i64 t365, .bool true, .int .i64 t367, .int .u64 1, .int .u64 t369] 41 (0, 0)) (by refine blk_put (cs := #[.bool t364, .int .i64 t365, .bool true, .int .i64 t367, .int .u64 t368, .int .u64 t369]) ?_ 4 _ rfl; refine blk_put (cs := #[.bool t364, .int .i64 t365, .bool false, .int .i64 t367, .int .u64 t368, .int .u64 t369]) ?_ 2 _ rfl; apply put6_; exact BK362.out) hb); replace BK363 := m_ (blk_below (g := gb363) (o := .cells #[.bool false, .int .i64 0, .bool false, .int .i64 0, .int .u64 0, .int .u64 0] 41 (0, 0)) (by refine far6_ NB363_362 ?_; refine far2_ NB363_362 ?_; exact BK363.out) hb); replace HB := st_ (by repeat (with_reducible first | exact HB.out | apply bs_ GE362 | apply bs_ GE363 | apply below_drew1 | apply pw_below_drewN)) hb; (try clear hb)) | (go_at_call 13; (with_reducible refine (overfallref02_Mul.calls k 16 a2 t373 _ A44.out).mono ?_); rintro e w48 ⟨rfl, hb⟩; replace BK362 := bb_ BK362 hb; replace BK363 := bb_ BK363 hb; replace HB := st_ (by repeat (with_reducible first | exact HB.out | apply bs_ GE362 | apply bs_ GE363 | apply below_drew1 | apply pw_below_drewN)) hb; (try clear hb)))
      go_meet
      case rel => exact ⟨_, (decide (t372 < t373)), (by first | rfl | (simp; done) | (simp [*]; done)), H', ⟨by first | omega | exact Nat.le_refl _⟩, ⟨by exact BK362.out⟩, ⟨by exact BK363.out⟩, ⟨by repeat (with_reducible first | exact HB.out | apply bs_ GE362 | apply bs_ GE363 | apply below_drew1 | apply pw_below_drewN)⟩⟩
     ·rw [if_neg c42] at H
      have c42b0 : decide ((IntKind.u64.wrap (t368 - t369)) ≤ 9223372036854775808) = false := decide_eq_false c42
      clear c42
      have H' := Aside0.mk H
      clear H
      go_wp2
      go_meet
      case rel => exact ⟨_, (false), (by first | rfl | (simp; done) | (simp [*]; done)), H', ⟨by first | omega | exact Nat.le_refl _⟩, ⟨by refine blk_put (cs := #[.bool t364, .int .i64 t365, .bool true, .int .i64 t367, .int .u64 t368, .int .u64 t369]) ?_ 4 _ rfl; refine blk_put (cs := #[.bool t364, .int .i64 t365, .bool false, .int .i64 t367, .int .u64 t368, .int .u64 t369]) ?_ 2 _ rfl; apply put6_; exact BK362.out⟩, ⟨by refine far6_ NB363_362 ?_; refine far2_ NB363_362 ?_; exact BK363.out⟩, ⟨by repeat (with_reducible first | exact HB.out | apply bs_ GE362 | apply bs_ GE363 | apply below_drew1 | apply pw_below_drewN)⟩⟩
    ·rw [if_neg c41] at H
     have c41b0 : decide (2 ≤ (IntKind.u64.wrap (t368 - t369))) = false := decide_eq_false c41
     clear c41
     (first | rw [c41b0] | (simp only [i64_w, i32_w]; rw [c41b0]) | skip)
     have H' := Aside0.mk H
     clear H
     go_wp2
     go_meet
     case rel => exact ⟨_, (false), (by first | rfl | (simp; done) | (simp [*]; done)), H', ⟨by first | omega | exact Nat.le_refl _⟩, ⟨by refine blk_put (cs := #[.bool t364, .int .i64 t365, .bool true, .int .i64 t367, .int .u64 t368, .int .u64 t369]) ?_ 4 _ rfl; refine blk_put (cs := #[.bool t364, .int .i64 t365, .bool false, .int .i64 t367, .int .u64 t368, .int .u64 t369]) ?_ 2 _ rfl; apply put6_; exact BK362.out⟩, ⟨by refine far6_ NB363_362 ?_; refine far2_ NB363_362 ?_; exact BK363.out⟩, ⟨by repeat (with_reducible first | exact HB.out | apply bs_ GE362 | apply bs_ GE363 | apply below_drew1 | apply pw_below_drewN)⟩⟩
   case rest =>
    clear HC34
    try clear c1
    try clear c2
    try clear p2
    try clear c3
    try clear c4
    try clear c8
    try clear c9
    try clear c10
    try clear c10b0
    try clear c14
    try clear c17
    try clear c20
    try clear c21
    try clear c28
    try clear c33
    try clear c37
    try clear c41
    try clear c41b0
    try clear c42
    try clear c42b0
    try clear c45
    try clear hcz15_0
    try clear hcz15_1
    try clear hcz15_2
    try clear hcz15_3
    try clear hcz15_4
    try clear hcz15_5
    try clear hcz17_0
    try clear hcz17_1
    try clear hcz17_2
    try clear hcz17_3
    try clear hcz17_4
    try clear hcz17_5
    try clear hcz18_0
    try clear hcz18_1
    try clear hcz18_2
    try clear hcz18_3
    try clear hcz18_4
    try clear hcz18_5
    try clear hcz22_0
    try clear hcz22_1
    try clear hcz22_2
    try clear hcz22_3
    try clear hcz22_4
    try clear hcz22_5
    try clear hcz24_0
    try clear hcz24_1
    try clear hcz24_2
    try clear hcz24_3
    try clear hcz24_4
    try clear hcz24_5
    try clear hcz25_0
    try clear hcz25_1
    try clear hcz25_2
    try clear hcz25_3
    try clear hcz25_4
    try clear hcz25_5
    try clear hcz29_0
    try clear hcz29_1
    try clear hcz29_2
    try clear hcz29_3
    try clear hcz29_4
    try clear hcz29_5
    try clear hcz31_0
    try clear hcz31_1
    try clear hcz31_2
    try clear hcz31_3
    try clear hcz31_4
    try clear hcz31_5
    try clear hcz32_0
    try clear hcz32_1
    try clear hcz32_2
    try clear hcz32_3
    try clear hcz32_4
    try clear hcz32_5
    try clear hcz38_0
    try clear hcz38_1
    try clear hcz38_2
    try clear hcz38_3
    try clear hcz38_4
    try clear hcz38_5
    try clear hcz40_0
    try clear hcz40_1
    try clear hcz40_2
    try clear hcz40_3
    try clear hcz40_4
    try clear hcz40_5
    try clear hcz46_0
    try clear hcz46_1
    try clear hcz46_2
    try clear hcz46_3
    try clear hcz46_4
    try clear hcz46_5
    try clear hfz15_0
    try clear hfz15_1
    try clear hfz15_2
    try clear hfz15_3
    try clear hfz15_4
    try clear hfz15_5
    try clear hfz17_0
    try clear hfz17_1
    try clear hfz17_2
    try clear hfz17_3
    try clear hfz17_4
    try clear hfz17_5
    try clear hfz18_0
    try clear hfz18_1
    try clear hfz18_2
    try clear hfz18_3
    try clear hfz18_4
    try clear hfz18_5
    try clear hfz22_0
    try clear hfz22_1
    try clear hfz22_2
    try clear hfz22_3
    try clear hfz22_4
    try clear hfz22_5
    try clear hfz24_0
    try clear hfz24_1
    try clear hfz24_2
    try clear hfz24_3
    try clear hfz24_4
    try clear hfz24_5
    try clear hfz25_0
    try clear hfz25_1
    try clear hfz25_2
    try clear hfz25_3
    try clear hfz25_4
    try clear hfz25_5
    try clear hfz29_0
    try clear hfz29_1
    try clear hfz29_2
    try clear hfz29_3
    try clear hfz29_4
    try clear hfz29_5
    try clear hfz31_0
    try clear hfz31_1
    try clear hfz31_2
    try clear hfz31_3
    try clear hfz31_4
    try clear hfz31_5
    try clear hfz32_0
    try clear hfz32_1
    try clear hfz32_2
    try clear hfz32_3
    try clear hfz32_4
    try clear hfz32_5
    try clear hfz38_0
    try clear hfz38_1
    try clear hfz38_2
    try clear hfz38_3
    try clear hfz38_4
    try clear hfz38_5
    try clear hfz40_0
    try clear hfz40_1
    try clear hfz40_2
    try clear hfz40_3
    try clear hfz40_4
    try clear hfz40_5
    try clear hfz46_0
    try clear hfz46_1
    try clear hfz46_2
    try clear hfz46_3
    try clear hfz46_4
    try clear hfz46_5
    (try clear BK362); (try clear BK363); (try clear HB)
    obtain ⟨kq, x66_33, rfl, HA, HJ33, BK362, BK363, HB⟩ := hcut
    cases kq with
    | zero => exact absurd HA.out (by simp [overfallref08_Look.j0])
    | succ kj33 =>
     have H := HA.out
     clear HA
     simp only [overfallref08_Look.j0] at H
     by_cases c49 : x66_33 = true
     ·subst c49
      have H1 : ((overfallref03_Law.f kj33 a2 (IntKind.u64.wrap (t368 - t369))).bind fun t374 => ((overfallref02_Add.f kj33 a3 t374).bind fun t375 => (some (t364, t365, true, t375, (IntKind.u64.wrap (t368 - t369)), (IntKind.u64.wrap (t368 - t369)), 2)))) = some (r1, r2, r3, r4, r5, r6, r7) := by rw [if_pos rfl] at H; exact H
      clear H
      have H := H1
      clear H1
      replace H := Option.bind_eq_some_iff.mp H
      obtain ⟨t374, A500, H⟩ := H
      replace H : ((overfallref02_Add.f kj33 a3 t374).bind fun t375 => (some (t364, t365, true, t375, (IntKind.u64.wrap (t368 - t369)), (IntKind.u64.wrap (t368 - t369)), 2))) = some (r1, r2, r3, r4, r5, r6, r7) := H
      have A50 := Aside0.mk A500
      clear A500
      replace H := Option.bind_eq_some_iff.mp H
      obtain ⟨t375, A510, H⟩ := H
      replace H : (some (t364, t365, true, t375, (IntKind.u64.wrap (t368 - t369)), (IntKind.u64.wrap (t368 - t369)), 2)) = some (r1, r2, r3, r4, r5, r6, r7) := H
      have A51 := Aside0.mk A510
      clear A510
      simp only [Option.some.injEq, Prod.mk.injEq] at H
      obtain ⟨rfl, rfl, rfl, rfl, rfl, rfl, rfl⟩ := H
      have hnb52 := NB362_363.out
      have hnc52 := NB363_362.out
      obtain ⟨hcz53_0, hcz53_1, hcz53_2, hcz53_3, hcz53_4, hcz53_5, hfz53_0, hfz53_1, hfz53_2, hfz53_3, hfz53_4, hfz53_5⟩ := cf6 BK362
      go_wp2_with (first | ((with_reducible refine gate_callee (f := 14) rfl ?_); refine goesL_ (some 73) rfl rfl Try.func14 (by kernel_rfl) rfl #[.int .i64 a2, .int .u64 (IntKind.u64.wrap (t368 - t369))] rfl (by first | rfl | (simp only [List.map_toArray, List.map_cons, List.map_nil]; first | done | rfl)) ?_; (with_reducible refine (overfallref03_Law.calls kj33 a2 (IntKind.u64.wrap (t368 - t369)) t374 _ A50.out).mono ?_); rintro e w54 ⟨rfl, hb⟩; refine ⟨_, rfl, ?_⟩; replace BK362 := m_ (blk_below (g := gb362) (o := .cells #[.bool t364, .int .i64 t365, .bool true, .int .i64 t367, .int .u64 (IntKind.u64.wrap (t368 - t369)), .int .u64 t369] 41 (0, 0)) (by refine blk_put (cs := #[.bool t364, .int .i64 t365, .bool true, .int .i64 t367, .int .u64 1, .int .u64 t369]) ?_ 4 _ rfl; exact BK362.out) hb); replace BK363 := m_ (blk_below (g := gb363) (o := .cells #[.bool false, .int .i64 0, .bool false, .int .i64 0, .int .u64 0, .int .u64 0] 41 (0, 0)) (by refine blk_far ?_ NB363_362.out _; exact BK363.out) hb); replace HB := st_ (by repeat (with_reducible first | exact HB.out | apply bs_ GE362 | apply bs_ GE363 | apply below_drew1 | apply pw_below_drewN)) hb; (try clear hb)) | ((with_reducible refine gate_callee (f := 10) rfl ?_); refine goesL_ (some 74) rfl rfl Try.func10 (by kernel_rfl) rfl #[.int .i64 a3, .int .i64 t374] rfl (by first | rfl | (simp only [List.map_toArray, List.map_cons, List.map_nil]; first | done | rfl)) ?_; (with_reducible refine (overfallref02_Add.calls kj33 a3 t374 t375 _ A51.out).mono ?_); rintro e w55 ⟨rfl, hb⟩; refine ⟨_, rfl, ?_⟩; replace BK362 := bb_ BK362 hb; replace BK363 := bb_ BK363 hb; replace HB := st_ (by repeat (with_reducible first | exact HB.out | apply bs_ GE362 | apply bs_ GE363 | apply below_drew1 | apply pw_below_drewN)) hb; (try clear hb); obtain ⟨hcz56_0, hcz56_1, hcz56_2, hcz56_3, hcz56_4, hcz56_5, hfz56_0, hfz56_1, hfz56_2, hfz56_3, hfz56_4, hfz56_5⟩ := cf6 BK362; obtain ⟨hcz57_0, hcz57_1, hcz57_2, hcz57_3, hcz57_4, hcz57_5, hfz57_0, hfz57_1, hfz57_2, hfz57_3, hfz57_4, hfz57_5⟩ := cf6 BK363))
      refine bodyPost_ret (results_ct rfl _ _ gb363 41 #[.bool t364, .int .i64 t365, .bool true, .int .i64 t375, .int .u64 (IntKind.u64.wrap (t368 - t369)), .int .u64 (IntKind.u64.wrap (t368 - t369))] (0, 0) _ rfl (by apply put6_; refine far2_ NB363_362 ?_; exact BK363.out) Try.underlying41 rfl (by kernel_rfl)) rfl ?_
      exact ⟨by first | rfl | (simp [errW_none, errW_some] <;> rfl) | (simp [*, errW_none, errW_some] <;> rfl), by repeat (with_reducible first | exact HB.out | apply bs_ GE362 | apply bs_ GE363 | apply below_drew1 | apply pw_below_drewN)⟩
     ·replace c49 := Bool.eq_false_iff.mpr c49
      subst c49
      have H1 : ((overfallref03_Law.f kj33 a2 1).bind fun t376 => ((overfallref02_Add.f kj33 a3 t376).bind fun t377 => (some (t364, t365, true, t377, 1, 1, 2)))) = some (r1, r2, r3, r4, r5, r6, r7) := by rw [if_neg (show ¬ (false = true) by decide)] at H; exact H
      clear H
      have H := H1
      clear H1
      replace H := Option.bind_eq_some_iff.mp H
      obtain ⟨t376, A580, H⟩ := H
      replace H : ((overfallref02_Add.f kj33 a3 t376).bind fun t377 => (some (t364, t365, true, t377, 1, 1, 2))) = some (r1, r2, r3, r4, r5, r6, r7) := H
      have A58 := Aside0.mk A580
      clear A580
      replace H := Option.bind_eq_some_iff.mp H
      obtain ⟨t377, A590, H⟩ := H
      replace H : (some (t364, t365, true, t377, 1, 1, 2)) = some (r1, r2, r3, r4, r5, r6, r7) := H
      have A59 := Aside0.mk A590
      clear A590
      simp only [Option.some.injEq, Prod.mk.injEq] at H
      obtain ⟨rfl, rfl, rfl, rfl, rfl, rfl, rfl⟩ := H
      have hnb60 := NB362_363.out
      have hnc60 := NB363_362.out
      obtain ⟨hcz61_0, hcz61_1, hcz61_2, hcz61_3, hcz61_4, hcz61_5, hfz61_0, hfz61_1, hfz61_2, hfz61_3, hfz61_4, hfz61_5⟩ := cf6 BK362
      go_wp2_with (first | ((with_reducible refine gate_callee (f := 14) rfl ?_); refine goesL_ (some 73) rfl rfl Try.func14 (by kernel_rfl) rfl #[.int .i64 a2, .int .u64 1] rfl (by first | rfl | (simp only [List.map_toArray, List.map_cons, List.map_nil]; first | done | rfl)) ?_; (with_reducible refine (overfallref03_Law.calls kj33 a2 1 t376 _ A58.out).mono ?_); rintro e w62 ⟨rfl, hb⟩; refine ⟨_, rfl, ?_⟩; replace BK362 := bb_ BK362 hb; replace BK363 := bb_ BK363 hb; replace HB := st_ (by repeat (with_reducible first | exact HB.out | apply bs_ GE362 | apply bs_ GE363 | apply below_drew1 | apply pw_below_drewN)) hb; (try clear hb)) | ((with_reducible refine gate_callee (f := 10) rfl ?_); refine goesL_ (some 74) rfl rfl Try.func10 (by kernel_rfl) rfl #[.int .i64 a3, .int .i64 t376] rfl (by first | rfl | (simp only [List.map_toArray, List.map_cons, List.map_nil]; first | done | rfl)) ?_; (with_reducible refine (overfallref02_Add.calls kj33 a3 t376 t377 _ A59.out).mono ?_); rintro e w63 ⟨rfl, hb⟩; refine ⟨_, rfl, ?_⟩; replace BK362 := bb_ BK362 hb; replace BK363 := bb_ BK363 hb; replace HB := st_ (by repeat (with_reducible first | exact HB.out | apply bs_ GE362 | apply bs_ GE363 | apply below_drew1 | apply pw_below_drewN)) hb; (try clear hb); obtain ⟨hcz64_0, hcz64_1, hcz64_2, hcz64_3, hcz64_4, hcz64_5, hfz64_0, hfz64_1, hfz64_2, hfz64_3, hfz64_4, hfz64_5⟩ := cf6 BK362; obtain ⟨hcz65_0, hcz65_1, hcz65_2, hcz65_3, hcz65_4, hcz65_5, hfz65_0, hfz65_1, hfz65_2, hfz65_3, hfz65_4, hfz65_5⟩ := cf6 BK363))
      refine bodyPost_ret (results_ct rfl _ _ gb363 41 #[.bool t364, .int .i64 t365, .bool true, .int .i64 t377, .int .u64 1, .int .u64 1] (0, 0) _ rfl (by apply put6_; refine far2_ NB363_362 ?_; exact BK363.out) Try.underlying41 rfl (by kernel_rfl)) rfl ?_
      exact ⟨by first | rfl | (simp [errW_none, errW_some] <;> rfl) | (simp [*, errW_none, errW_some] <;> rfl), by repeat (with_reducible first | exact HB.out | apply bs_ GE362 | apply bs_ GE363 | apply below_drew1 | apply pw_below_drewN)⟩
  ·replace c33 := Bool.eq_false_iff.mpr c33
   subst c33
   have H1 : (some (t364, t365, false, t367, t368, t369, 0)) = some (r1, r2, r3, r4, r5, r6, r7) := by rw [if_neg (show ¬ (false = true) by decide)] at H; exact H
   clear H
   have H := H1
   clear H1
   simp only [Option.some.injEq, Prod.mk.injEq] at H
   obtain ⟨rfl, rfl, rfl, rfl, rfl, rfl, rfl⟩ := H
   go_enter Try.func17, Try.ntmps17
   have mk_ : True := trivial
   go_wp2_with (first | ((first | (with_reducible refine gate_dst (N := 26) rfl ?_) | (with_reducible refine gate_dst (N := 30) rfl ?_) | (with_reducible refine gate_dst (N := 31) rfl ?_) | (with_reducible refine gate_dst (N := 33) rfl ?_) | (with_reducible refine gate_dst (N := 45) rfl ?_) | (with_reducible refine gate_dst (N := 46) rfl ?_)); clear mk_; generalize hq_ : World.setCell (World.setCell (World.setCell (World.setCell (World.setCell (World.setCell (w70) _ _) _ _) _ _) _ _) _ _) _ _ = wq; have n0_ : Aside0 (wq.heap[gb362]? = some (.cells #[.bool t364, .int .i64 t365, .bool false, .int .i64 t367, .int .u64 t368, .int .u64 t369] 41 (0, 0))) := ⟨by rw [← hq_]; apply put6_; exact BK362.out⟩; have n1_ : Aside0 (wq.heap[gb363]? = some (.cells #[.bool false, .int .i64 0, .bool false, .int .i64 0, .int .u64 0, .int .u64 0] 41 (0, 0))) := ⟨by rw [← hq_]; refine far6_ NB363_362 ?_; exact BK363.out⟩; have n2_ : Aside0 (Below w.heap.size w wq) := ⟨by rw [← hq_]; repeat (first | (with_reducible first | exact HB.out | refine below_set ?_ GE362.out | refine below_set ?_ GE363.out) | exact HB.out)⟩; clear BK362 BK363 HB hq_; have BK362 := n0_; have BK363 := n1_; have HB := n2_; clear n0_ n1_ n2_; have hcq362_0 : wq.cell? ⟨gb362, 0, none⟩ = some (.bool t364) := (blk_cell BK362.out 0).trans rfl; have hfq362_0 := blk_frozen BK362.out 0; have hcq362_1 : wq.cell? ⟨gb362, 1, none⟩ = some (.int .i64 t365) := (blk_cell BK362.out 1).trans rfl; have hfq362_1 := blk_frozen BK362.out 1; have hcq362_2 : wq.cell? ⟨gb362, 2, none⟩ = some (.bool false) := (blk_cell BK362.out 2).trans rfl; have hfq362_2 := blk_frozen BK362.out 2; have hcq362_3 : wq.cell? ⟨gb362, 3, none⟩ = some (.int .i64 t367) := (blk_cell BK362.out 3).trans rfl; have hfq362_3 := blk_frozen BK362.out 3; have hcq362_4 : wq.cell? ⟨gb362, 4, none⟩ = some (.int .u64 t368) := (blk_cell BK362.out 4).trans rfl; have hfq362_4 := blk_frozen BK362.out 4; have hcq362_5 : wq.cell? ⟨gb362, 5, none⟩ = some (.int .u64 t369) := (blk_cell BK362.out 5).trans rfl; have hfq362_5 := blk_frozen BK362.out 5; have hcq363_0 : wq.cell? ⟨gb363, 0, none⟩ = some (.bool false) := (blk_cell BK363.out 0).trans rfl; have hfq363_0 := blk_frozen BK363.out 0; have hcq363_1 : wq.cell? ⟨gb363, 1, none⟩ = some (.int .i64 0) := (blk_cell BK363.out 1).trans rfl; have hfq363_1 := blk_frozen BK363.out 1; have hcq363_2 : wq.cell? ⟨gb363, 2, none⟩ = some (.bool false) := (blk_cell BK363.out 2).trans rfl; have hfq363_2 := blk_frozen BK363.out 2; have hcq363_3 : wq.cell? ⟨gb363, 3, none⟩ = some (.int .i64 0) := (blk_cell BK363.out 3).trans rfl; have hfq363_3 := blk_frozen BK363.out 3; have hcq363_4 : wq.cell? ⟨gb363, 4, none⟩ = some (.int .u64 0) := (blk_cell BK363.out 4).trans rfl; have hfq363_4 := blk_frozen BK363.out 4; have hcq363_5 : wq.cell? ⟨gb363, 5, none⟩ = some (.int .u64 0) := (blk_cell BK363.out 5).trans rfl; have hfq363_5 := blk_frozen BK363.out 5) | ((with_reducible refine gate_dst (N := 6) rfl ?_); refine box_event ?hg (N := 6) ?hd (cs := #[.bool a0_0, .int .i64 a0_1, .bool a0_2, .int .i64 a0_3, .int .u64 a0_4, .int .u64 a0_5]) (t := 41) ?hr ?_; (case hd => rfl); (case hg => rfl); (case hr => first | (go_simp; done) | (go_simp; rfl)); intro gb362 hg w66 hbox hb; have BK362 := m_ (hbox); have GW362 := ge_ (by repeat (with_reducible first | exact HB.out | apply below_drew1 | apply pw_below_drewN)) hg; have GE362 := GW362; replace HB := st_ (by repeat (with_reducible first | exact HB.out | apply below_drew1 | apply pw_below_drewN)) hb; clear hb hbox hg) | ((with_reducible refine gate_dst (N := 12) rfl ?_); refine box_event ?hg (N := 12) ?hd (cs := #[.bool false, .int .i64 0, .bool false, .int .i64 0, .int .u64 0, .int .u64 0]) (t := 41) ?hr ?_; (case hd => rfl); (case hg => rfl); (case hr => first | (go_simp; done) | (go_simp; rfl)); intro gb363 hg w67 hbox hb; have BK363 := m_ (hbox); have GW363 := ge_ (by repeat (with_reducible first | exact HB.out | apply bs_ GE362 | apply below_drew1 | apply pw_below_drewN)) hg; have GE363 := GW363; have NB362_363 := nl_ BK362 hg; have NB363_362 := ng_ BK362 hg; replace BK362 := bb_ BK362 hb; replace HB := st_ (by repeat (with_reducible first | exact HB.out | apply bs_ GE362 | apply below_drew1 | apply pw_below_drewN)) hb; clear hb hbox hg; have hnb68 := NB362_363.out; have hnc68 := NB363_362.out; obtain ⟨hcz69_0, hcz69_1, hcz69_2, hcz69_3, hcz69_4, hcz69_5, hfz69_0, hfz69_1, hfz69_2, hfz69_3, hfz69_4, hfz69_5⟩ := cf6 BK362) | ((with_reducible refine gate_callee (f := 20) rfl ?_); refine goesL_ (some 23) rfl rfl Try.func20 (by kernel_rfl) rfl #[.agg #[.bool a0_0, .int .i64 a0_1, .bool a0_2, .int .i64 a0_3, .int .u64 a0_4, .int .u64 a0_5], .int .i64 a1, .int .i64 a2, .int .i64 a3, .int .i64 a4, .int .i64 a5] rfl (by first | rfl | (simp only [List.map_toArray, List.map_cons, List.map_nil]; first | done | rfl)) ?_; (with_reducible refine (overfallref08_Note.calls k a0_0 a0_1 a0_2 a0_3 a0_4 a0_5 a1 a2 a3 a4 a5 t364 t365 false t367 t368 t369 false _ A7.out).mono ?_); rintro e w70 ⟨rfl, hb⟩; refine ⟨_, rfl, ?_⟩; replace BK362 := bb_ BK362 hb; replace BK363 := bb_ BK363 hb; replace HB := st_ (by repeat (with_reducible first | exact HB.out | apply bs_ GE362 | apply bs_ GE363 | apply below_drew1 | apply pw_below_drewN)) hb; (try clear hb); obtain ⟨hcz71_0, hcz71_1, hcz71_2, hcz71_3, hcz71_4, hcz71_5, hfz71_0, hfz71_1, hfz71_2, hfz71_3, hfz71_4, hfz71_5⟩ := cf6 BK362; obtain ⟨hcz72_0, hcz72_1, hcz72_2, hcz72_3, hcz72_4, hcz72_5, hfz72_0, hfz72_1, hfz72_2, hfz72_3, hfz72_4, hfz72_5⟩ := cf6 BK363))
   refine bodyPost_ret (results_ct rfl _ _ gb363 41 #[.bool t364, .int .i64 t365, .bool false, .int .i64 t367, .int .u64 t368, .int .u64 t369] (0, 0) _ rfl (by apply put6_; exact BK363.out) Try.underlying41 rfl (by kernel_rfl)) rfl ?_
   exact ⟨by first | rfl | (simp [errW_none, errW_some] <;> rfl) | (simp [*, errW_none, errW_some] <;> rfl), by repeat (with_reducible first | exact HB.out | apply bs_ GE362 | apply bs_ GE363 | apply below_drew1 | apply pw_below_drewN)⟩

/-! ### overfalllaw08_own: function 18 -/
def overfalllaw08_own.f (a0_0 : Bool) (a0_1 : Int) (a0_2 : Bool) (a0_3 : Int) (a0_4 : Int) (a0_5 : Int) : Option (Bool × Int × Bool × Int × Int × Int) := some (a0_0, a0_1, a0_2, a0_3, a0_4, a0_5)
set_option maxHeartbeats 8000000 in
set_option maxRecDepth 100000 in
theorem overfalllaw08_own.calls (a0_0 : Bool) (a0_1 : Int) (a0_2 : Bool) (a0_3 : Int) (a0_4 : Int) (a0_5 : Int) (r1 : Bool) (r2 : Int) (r3 : Bool) (r4 : Int) (r5 : Int) (r6 : Int) (w : World) (h : overfalllaw08_own.f a0_0 a0_1 a0_2 a0_3 a0_4 a0_5 = some (r1, r2, r3, r4, r5, r6)) :
  Calls Try.prog 18 #[.agg #[.bool a0_0, .int .i64 a0_1, .bool a0_2, .int .i64 a0_3, .int .u64 a0_4, .int .u64 a0_5]] w fun e w' => e = .returned (.agg #[.bool r1, .int .i64 r2, .bool r3, .int .i64 r4, .int .u64 r5, .int .u64 r6]) ∧ Below w.heap.size w w' := by
 have hu24 := Try.underlying24
 have hu41 := Try.underlying41
 have HB := m_ (Below.refl w.heap.size w)
 have H : (some (a0_0, a0_1, a0_2, a0_3, a0_4, a0_5)) = some (r1, r2, r3, r4, r5, r6) := h
 clear h
 simp only [Option.some.injEq, Prod.mk.injEq] at H
 obtain ⟨rfl, rfl, rfl, rfl, rfl, rfl⟩ := H
 go_enter Try.func18, Try.ntmps18
 go_wp2_with (first | ((with_reducible refine gate_dst (N := 1) rfl ?_); refine box_event ?hg (N := 1) ?hd (cs := #[.bool a0_0, .int .i64 a0_1, .bool a0_2, .int .i64 a0_3, .int .u64 a0_4, .int .u64 a0_5]) (t := 24) ?hr ?_; (case hd => rfl); (case hg => rfl); (case hr => first | (go_simp; done) | (go_simp; rfl)); intro gb378 hg w2 hbox hb; have BK378 := m_ (hbox); have GW378 := ge_ (by repeat (with_reducible first | exact HB.out)) hg; have GE378 := GW378; replace HB := st_ (by repeat (with_reducible first | exact HB.out)) hb; clear hb hbox hg) | ((with_reducible refine gate_dst (N := 2) rfl ?_); refine box_event ?hg (N := 2) ?hd (cs := #[.bool false, .int .i64 0, .bool false, .int .i64 0, .int .u64 0, .int .u64 0]) (t := 41) ?hr ?_; (case hd => rfl); (case hg => rfl); (case hr => first | (go_simp; done) | (go_simp; rfl)); intro gb379 hg w3 hbox hb; have BK379 := m_ (hbox); have GW379 := ge_ (by repeat (with_reducible first | exact HB.out | apply bs_ GE378)) hg; have GE379 := GW379; have NB378_379 := nl_ BK378 hg; have NB379_378 := ng_ BK378 hg; replace BK378 := bb_ BK378 hb; replace HB := st_ (by repeat (with_reducible first | exact HB.out | apply bs_ GE378)) hb; clear hb hbox hg; have hnb4 := NB378_379.out; have hnc4 := NB379_378.out; obtain ⟨hcz5_0, hcz5_1, hcz5_2, hcz5_3, hcz5_4, hcz5_5, hfz5_0, hfz5_1, hfz5_2, hfz5_3, hfz5_4, hfz5_5⟩ := cf6 BK378; obtain ⟨hcz6_0, hcz6_1, hcz6_2, hcz6_3, hcz6_4, hcz6_5, hfz6_0, hfz6_1, hfz6_2, hfz6_3, hfz6_4, hfz6_5⟩ := cf6 BK379))
 refine bodyPost_ret (results_cell_row rfl _ _ gb379 41 #[.bool a0_0, .int .i64 a0_1, .bool a0_2, .int .i64 a0_3, .int .u64 a0_4, .int .u64 a0_5] (0, 0) _ rfl (by apply put6_; exact BK379.out) Try.underlying41 rfl (by kernel_rfl)) rfl ?_
 exact ⟨by first | rfl | (simp [errW_none, errW_some] <;> rfl) | (simp [*, errW_none, errW_some] <;> rfl), by repeat (with_reducible first | exact HB.out | apply bs_ GE378 | apply bs_ GE379)⟩

end Go.Proofs.Ytiiffgmbkajkhaa.L

-- Laid by a program of this claim's session (wip/tools/myprint.py) over the kit's printer.
import Derived.Test.YtiiffgmbkajkhaaEx0
import Derived.Test.YtiiffgmbkajkhaaEx5
import Derived.Test.YtiiffgmbkajkhaaEx6
import Derived.Test.YtiiffgmbkajkhaaEx8
import Derived.Test.YtiiffgmbkajkhaaEx11
namespace Go.Proofs.Ytiiffgmbkajkhaa.E
open Go.RowKit Go.Proofs.YtiiffgmbkajkhaaW.PrintWords Go.Proofs.YtiiffgmbkajkhaaW.PrintLast Go.Proofs.YtiiffgmbkajkhaaW.PrintMore
attribute [local go_sem] max2_int min2_int max_two min_two max_three min_three max_four min_four   -- for this text's walks alone
set_option linter.unusedVariables false
set_option linter.unusedSimpArgs false

/-! ### overfalllaw08_CodelSpares: function 6 -/
def overfalllaw08_CodelSpares.f (k : Nat) (a0_0 : Bool) (a0_1 : Int) (a0_2 : Bool) (a0_3 : Int) (a0_4 : Int) (a0_5 : Int) (a1_0 : Int) (a1_1 : Int) (a2 : Int) (a3 : Int) (a4 : Int) (a5 : Int) : Option (Bool) := (overfalllaw08_awake.f k).bind fun t331 => (if t331 = true then ((codel_State_Look.f k a0_0 a0_1 a0_2 a0_3 a0_4 a0_5 a1_0 ((mx a1_1 1) % 1099511627776) (Int.tmod a2 1099511627776) a3 a4).bind fun bt332 => (if bt332.2.2.2.2.2.2 = 2 then ((overfallref03_Law.f k ((mx a1_1 1) % 1099511627776) bt332.2.2.2.2.1).bind fun t340 => ((overfallref02_Add.f k (Int.tmod a2 1099511627776) t340).bind fun t341 => (if bt332.2.2.2.1 = t341 then (if (wrap64 ((Int.tmod a2 1099511627776) + ((mx a5 0) % 1099511627776))) < t341 then ((codel_State_Look.f k bt332.1 bt332.2.1 bt332.2.2.1 bt332.2.2.2.1 bt332.2.2.2.2.1 bt332.2.2.2.2.2.1 a1_0 ((mx a1_1 1) % 1099511627776) (wrap64 ((Int.tmod a2 1099511627776) + ((mx a5 0) % 1099511627776))) a3 a4).bind fun bt342 => (if bt342.2.2.2.2.2.2 = 0 then ((codel_State_Empty.f bt332.1 bt332.2.1 bt332.2.2.1 bt332.2.2.2.1 bt332.2.2.2.2.1 bt332.2.2.2.2.2.1).bind fun bt350 => ((codel_State_Look.f k bt350.1 bt350.2.1 bt350.2.2.1 bt350.2.2.2.1 bt350.2.2.2.2.1 bt350.2.2.2.2.2 a1_0 ((mx a1_1 1) % 1099511627776) (Int.tmod a2 1099511627776) a3 a4).bind fun bt356 => (some (bt356.2.2.2.2.2.2 == 0)))) else (none))) else ((codel_State_Empty.f bt332.1 bt332.2.1 bt332.2.2.1 bt332.2.2.2.1 bt332.2.2.2.2.1 bt332.2.2.2.2.2.1).bind fun bt364 => ((codel_State_Look.f k bt364.1 bt364.2.1 bt364.2.2.1 bt364.2.2.2.1 bt364.2.2.2.2.1 bt364.2.2.2.2.2 a1_0 ((mx a1_1 1) % 1099511627776) (Int.tmod a2 1099511627776) a3 a4).bind fun bt370 => (some (bt370.2.2.2.2.2.2 == 0))))) else (none)))) else ((codel_State_Empty.f bt332.1 bt332.2.1 bt332.2.2.1 bt332.2.2.2.1 bt332.2.2.2.2.1 bt332.2.2.2.2.2.1).bind fun bt378 => ((codel_State_Look.f k bt378.1 bt378.2.1 bt378.2.2.1 bt378.2.2.2.1 bt378.2.2.2.2.1 bt378.2.2.2.2.2 a1_0 ((mx a1_1 1) % 1099511627776) (Int.tmod a2 1099511627776) a3 a4).bind fun bt384 => (some (bt384.2.2.2.2.2.2 == 0)))))) else (none))
theorem overfalllaw08_CodelSpares.mono : ∀ a0 a1 a2 a3 a4 a5 a6 a7 a8 a9 a10 a11 k, LeO (overfalllaw08_CodelSpares.f k a0 a1 a2 a3 a4 a5 a6 a7 a8 a9 a10 a11) (overfalllaw08_CodelSpares.f (k + 1) a0 a1 a2 a3 a4 a5 a6 a7 a8 a9 a10 a11) := by
 intro a0 a1 a2 a3 a4 a5 a6 a7 a8 a9 a10 a11 k
 unfold overfalllaw08_CodelSpares.f
 repeat' first
   | (with_reducible exact codel_State_Look.mono _ _ _ _ _ _ _ _ _ _ _ _)
   | (with_reducible exact overfalllaw08_awake.mono _)
   | (with_reducible exact overfallref02_Add.mono _ _ _)
   | (with_reducible exact overfallref03_Law.mono _ _ _)
   | (with_reducible exact LeO.refl _)
   | (with_reducible exact LeO.none _)
   | (with_reducible refine LeO.ite ?_ ?_)
   | (with_reducible refine LeO.bind ?_ (fun _ => ?_))
   | exact codel_State_Look.mono _ _ _ _ _ _ _ _ _ _ _ _
   | exact overfalllaw08_awake.mono _
   | exact overfallref02_Add.mono _ _ _
   | exact overfallref03_Law.mono _ _ _
   | exact LeO.none _
   | refine LeO.ite ?_ ?_
   | refine LeO.bind ?_ (fun _ => ?_)
def overfalllaw08_CodelSpares.T16 : Bool × List (List Nat × List Nat) := (true, [([], []), ([0], [0]), ([], []), ([], []), ([], []), ([], []), ([1, 2, 3, 4, 5, 1], [1, 2, 3, 4, 5]), ([6], [6]), ([7], [7]), ([7], [7]), ([], []), ([10, 8, 6, 0, 1, 2, 3, 4, 5, 6, 7, 8, 10], [8, 10]), ([9, 11, 0, 1, 2, 3, 4, 5, 6, 7, 8, 9, 10, 11], [9])])
def overfalllaw08_CodelSpares.B16 : List Nat := [0, 1, 0, 0, 0, 0, 63, 127, 255, 255, 0, 1535, 4095]
theorem overfalllaw08_CodelSpares.tab16 : rtab .any (opsOf Try.f6 16) = overfalllaw08_CodelSpares.T16 := by kernel_rfl
theorem overfalllaw08_CodelSpares.bits16 : waitsOk overfalllaw08_CodelSpares.T16.2 overfalllaw08_CodelSpares.B16 = true := by kernel_rfl
set_option maxHeartbeats 8000000 in
set_option maxRecDepth 100000 in
theorem overfalllaw08_CodelSpares.calls (k : Nat) (a0_0 : Bool) (a0_1 : Int) (a0_2 : Bool) (a0_3 : Int) (a0_4 : Int) (a0_5 : Int) (a1_0 : Int) (a1_1 : Int) (a2 : Int) (a3 : Int) (a4 : Int) (a5 : Int) (r : Bool) (w : World) (h : overfalllaw08_CodelSpares.f k a0_0 a0_1 a0_2 a0_3 a0_4 a0_5 a1_0 a1_1 a2 a3 a4 a5 = some r) :
  Calls Try.prog 6 #[.agg #[.bool a0_0, .int .i64 a0_1, .bool a0_2, .int .i64 a0_3, .int .u64 a0_4, .int .u64 a0_5], .agg #[.int .i64 a1_0, .int .i64 a1_1], .int .i64 a2, .int .i64 a3, .int .i64 a4, .int .i64 a5] w fun e w' => e = .returned (.bool r) ∧ Below w.heap.size w w' := by
 have hu24 := Try.underlying24
 have hu26 := Try.underlying26
 have HB := Aside0.mk (Below.refl w.heap.size w)
 have H : ((overfalllaw08_awake.f k).bind fun t331 => (if t331 = true then ((codel_State_Look.f k a0_0 a0_1 a0_2 a0_3 a0_4 a0_5 a1_0 ((mx a1_1 1) % 1099511627776) (Int.tmod a2 1099511627776) a3 a4).bind fun bt332 => (if bt332.2.2.2.2.2.2 = 2 then ((overfallref03_Law.f k ((mx a1_1 1) % 1099511627776) bt332.2.2.2.2.1).bind fun t340 => ((overfallref02_Add.f k (Int.tmod a2 1099511627776) t340).bind fun t341 => (if bt332.2.2.2.1 = t341 then (if (wrap64 ((Int.tmod a2 1099511627776) + ((mx a5 0) % 1099511627776))) < t341 then ((codel_State_Look.f k bt332.1 bt332.2.1 bt332.2.2.1 bt332.2.2.2.1 bt332.2.2.2.2.1 bt332.2.2.2.2.2.1 a1_0 ((mx a1_1 1) % 1099511627776) (wrap64 ((Int.tmod a2 1099511627776) + ((mx a5 0) % 1099511627776))) a3 a4).bind fun bt342 => (if bt342.2.2.2.2.2.2 = 0 then ((codel_State_Empty.f bt332.1 bt332.2.1 bt332.2.2.1 bt332.2.2.2.1 bt332.2.2.2.2.1 bt332.2.2.2.2.2.1).bind fun bt350 => ((codel_State_Look.f k bt350.1 bt350.2.1 bt350.2.2.1 bt350.2.2.2.1 bt350.2.2.2.2.1 bt350.2.2.2.2.2 a1_0 ((mx a1_1 1) % 1099511627776) (Int.tmod a2 1099511627776) a3 a4).bind fun bt356 => (some (bt356.2.2.2.2.2.2 == 0)))) else (none))) else ((codel_State_Empty.f bt332.1 bt332.2.1 bt332.2.2.1 bt332.2.2.2.1 bt332.2.2.2.2.1 bt332.2.2.2.2.2.1).bind fun bt364 => ((codel_State_Look.f k bt364.1 bt364.2.1 bt364.2.2.1 bt364.2.2.2.1 bt364.2.2.2.2.1 bt364.2.2.2.2.2 a1_0 ((mx a1_1 1) % 1099511627776) (Int.tmod a2 1099511627776) a3 a4).bind fun bt370 => (some (bt370.2.2.2.2.2.2 == 0))))) else (none)))) else ((codel_State_Empty.f bt332.1 bt332.2.1 bt332.2.2.1 bt332.2.2.2.1 bt332.2.2.2.2.1 bt332.2.2.2.2.2.1).bind fun bt378 => ((codel_State_Look.f k bt378.1 bt378.2.1 bt378.2.2.1 bt378.2.2.2.1 bt378.2.2.2.2.1 bt378.2.2.2.2.2 a1_0 ((mx a1_1 1) % 1099511627776) (Int.tmod a2 1099511627776) a3 a4).bind fun bt384 => (some (bt384.2.2.2.2.2.2 == 0)))))) else (none))) = some r := h
 clear h
 replace H := Option.bind_eq_some_iff.mp H
 obtain ⟨t331, A70, H⟩ := H
 replace H : (if t331 = true then ((codel_State_Look.f k a0_0 a0_1 a0_2 a0_3 a0_4 a0_5 a1_0 ((mx a1_1 1) % 1099511627776) (Int.tmod a2 1099511627776) a3 a4).bind fun bt332 => (if bt332.2.2.2.2.2.2 = 2 then ((overfallref03_Law.f k ((mx a1_1 1) % 1099511627776) bt332.2.2.2.2.1).bind fun t340 => ((overfallref02_Add.f k (Int.tmod a2 1099511627776) t340).bind fun t341 => (if bt332.2.2.2.1 = t341 then (if (wrap64 ((Int.tmod a2 1099511627776) + ((mx a5 0) % 1099511627776))) < t341 then ((codel_State_Look.f k bt332.1 bt332.2.1 bt332.2.2.1 bt332.2.2.2.1 bt332.2.2.2.2.1 bt332.2.2.2.2.2.1 a1_0 ((mx a1_1 1) % 1099511627776) (wrap64 ((Int.tmod a2 1099511627776) + ((mx a5 0) % 1099511627776))) a3 a4).bind fun bt342 => (if bt342.2.2.2.2.2.2 = 0 then ((codel_State_Empty.f bt332.1 bt332.2.1 bt332.2.2.1 bt332.2.2.2.1 bt332.2.2.2.2.1 bt332.2.2.2.2.2.1).bind fun bt350 => ((codel_State_Look.f k bt350.1 bt350.2.1 bt350.2.2.1 bt350.2.2.2.1 bt350.2.2.2.2.1 bt350.2.2.2.2.2 a1_0 ((mx a1_1 1) % 1099511627776) (Int.tmod a2 1099511627776) a3 a4).bind fun bt356 => (some (bt356.2.2.2.2.2.2 == 0)))) else (none))) else ((codel_State_Empty.f bt332.1 bt332.2.1 bt332.2.2.1 bt332.2.2.2.1 bt332.2.2.2.2.1 bt332.2.2.2.2.2.1).bind fun bt364 => ((codel_State_Look.f k bt364.1 bt364.2.1 bt364.2.2.1 bt364.2.2.2.1 bt364.2.2.2.2.1 bt364.2.2.2.2.2 a1_0 ((mx a1_1 1) % 1099511627776) (Int.tmod a2 1099511627776) a3 a4).bind fun bt370 => (some (bt370.2.2.2.2.2.2 == 0))))) else (none)))) else ((codel_State_Empty.f bt332.1 bt332.2.1 bt332.2.2.1 bt332.2.2.2.1 bt332.2.2.2.2.1 bt332.2.2.2.2.2.1).bind fun bt378 => ((codel_State_Look.f k bt378.1 bt378.2.1 bt378.2.2.1 bt378.2.2.2.1 bt378.2.2.2.2.1 bt378.2.2.2.2.2 a1_0 ((mx a1_1 1) % 1099511627776) (Int.tmod a2 1099511627776) a3 a4).bind fun bt384 => (some (bt384.2.2.2.2.2.2 == 0)))))) else (none)) = some r := H
 have A7 := Aside0.mk A70
 clear A70
 by_cases c8 : t331 = true
 ·subst c8
  have H1 : ((codel_State_Look.f k a0_0 a0_1 a0_2 a0_3 a0_4 a0_5 a1_0 ((mx a1_1 1) % 1099511627776) (Int.tmod a2 1099511627776) a3 a4).bind fun bt332 => (if bt332.2.2.2.2.2.2 = 2 then ((overfallref03_Law.f k ((mx a1_1 1) % 1099511627776) bt332.2.2.2.2.1).bind fun t340 => ((overfallref02_Add.f k (Int.tmod a2 1099511627776) t340).bind fun t341 => (if bt332.2.2.2.1 = t341 then (if (wrap64 ((Int.tmod a2 1099511627776) + ((mx a5 0) % 1099511627776))) < t341 then ((codel_State_Look.f k bt332.1 bt332.2.1 bt332.2.2.1 bt332.2.2.2.1 bt332.2.2.2.2.1 bt332.2.2.2.2.2.1 a1_0 ((mx a1_1 1) % 1099511627776) (wrap64 ((Int.tmod a2 1099511627776) + ((mx a5 0) % 1099511627776))) a3 a4).bind fun bt342 => (if bt342.2.2.2.2.2.2 = 0 then ((codel_State_Empty.f bt332.1 bt332.2.1 bt332.2.2.1 bt332.2.2.2.1 bt332.2.2.2.2.1 bt332.2.2.2.2.2.1).bind fun bt350 => ((codel_State_Look.f k bt350.1 bt350.2.1 bt350.2.2.1 bt350.2.2.2.1 bt350.2.2.2.2.1 bt350.2.2.2.2.2 a1_0 ((mx a1_1 1) % 1099511627776) (Int.tmod a2 1099511627776) a3 a4).bind fun bt356 => (some (bt356.2.2.2.2.2.2 == 0)))) else (none))) else ((codel_State_Empty.f bt332.1 bt332.2.1 bt332.2.2.1 bt332.2.2.2.1 bt332.2.2.2.2.1 bt332.2.2.2.2.2.1).bind fun bt364 => ((codel_State_Look.f k bt364.1 bt364.2.1 bt364.2.2.1 bt364.2.2.2.1 bt364.2.2.2.2.1 bt364.2.2.2.2.2 a1_0 ((mx a1_1 1) % 1099511627776) (Int.tmod a2 1099511627776) a3 a4).bind fun bt370 => (some (bt370.2.2.2.2.2.2 == 0))))) else (none)))) else ((codel_State_Empty.f bt332.1 bt332.2.1 bt332.2.2.1 bt332.2.2.2.1 bt332.2.2.2.2.1 bt332.2.2.2.2.2.1).bind fun bt378 => ((codel_State_Look.f k bt378.1 bt378.2.1 bt378.2.2.1 bt378.2.2.2.1 bt378.2.2.2.2.1 bt378.2.2.2.2.2 a1_0 ((mx a1_1 1) % 1099511627776) (Int.tmod a2 1099511627776) a3 a4).bind fun bt384 => (some (bt384.2.2.2.2.2.2 == 0)))))) = some r := by rw [if_pos rfl] at H; exact H
  clear H
  have H := H1
  clear H1
  obtain ⟨ji9, hji9⟩ : ∃ j_ : Int, (mx a1_1 1) = j_ := ⟨_, rfl⟩
  replace H : ((codel_State_Look.f k a0_0 a0_1 a0_2 a0_3 a0_4 a0_5 a1_0 ((ji9) % 1099511627776) (Int.tmod a2 1099511627776) a3 a4).bind fun bt332 => (if bt332.2.2.2.2.2.2 = 2 then ((overfallref03_Law.f k ((ji9) % 1099511627776) bt332.2.2.2.2.1).bind fun t340 => ((overfallref02_Add.f k (Int.tmod a2 1099511627776) t340).bind fun t341 => (if bt332.2.2.2.1 = t341 then (if (wrap64 ((Int.tmod a2 1099511627776) + ((mx a5 0) % 1099511627776))) < t341 then ((codel_State_Look.f k bt332.1 bt332.2.1 bt332.2.2.1 bt332.2.2.2.1 bt332.2.2.2.2.1 bt332.2.2.2.2.2.1 a1_0 ((ji9) % 1099511627776) (wrap64 ((Int.tmod a2 1099511627776) + ((mx a5 0) % 1099511627776))) a3 a4).bind fun bt342 => (if bt342.2.2.2.2.2.2 = 0 then ((codel_State_Empty.f bt332.1 bt332.2.1 bt332.2.2.1 bt332.2.2.2.1 bt332.2.2.2.2.1 bt332.2.2.2.2.2.1).bind fun bt350 => ((codel_State_Look.f k bt350.1 bt350.2.1 bt350.2.2.1 bt350.2.2.2.1 bt350.2.2.2.2.1 bt350.2.2.2.2.2 a1_0 ((ji9) % 1099511627776) (Int.tmod a2 1099511627776) a3 a4).bind fun bt356 => (some (bt356.2.2.2.2.2.2 == 0)))) else (none))) else ((codel_State_Empty.f bt332.1 bt332.2.1 bt332.2.2.1 bt332.2.2.2.1 bt332.2.2.2.2.1 bt332.2.2.2.2.2.1).bind fun bt364 => ((codel_State_Look.f k bt364.1 bt364.2.1 bt364.2.2.1 bt364.2.2.2.1 bt364.2.2.2.2.1 bt364.2.2.2.2.2 a1_0 ((ji9) % 1099511627776) (Int.tmod a2 1099511627776) a3 a4).bind fun bt370 => (some (bt370.2.2.2.2.2.2 == 0))))) else (none)))) else ((codel_State_Empty.f bt332.1 bt332.2.1 bt332.2.2.1 bt332.2.2.2.1 bt332.2.2.2.2.1 bt332.2.2.2.2.2.1).bind fun bt378 => ((codel_State_Look.f k bt378.1 bt378.2.1 bt378.2.2.1 bt378.2.2.2.1 bt378.2.2.2.2.1 bt378.2.2.2.2.2 a1_0 ((ji9) % 1099511627776) (Int.tmod a2 1099511627776) a3 a4).bind fun bt384 => (some (bt384.2.2.2.2.2.2 == 0)))))) = some r := by first | (rw [hji9] at H; exact H) | (simp only [hji9] at H ⊢; exact H)
  (try rw [hji9] at A7)
  (try (have hji9l : 1 ≤ ji9 := by (rw [← hji9]; unfold mx; (repeat' split) <;> omega)))
  (try (have hji9m : 0 ≤ ji9 := by omega))
  have hji9_ : (if a1_1 < 1 then 1 else a1_1) = ji9 := hji9
  replace H := Option.bind_eq_some_iff.mp H
  obtain ⟨⟨t332, t333, t334, t335, t336, t337, t338⟩, A100, H⟩ := H
  replace H : (if t338 = 2 then ((overfallref03_Law.f k ((ji9) % 1099511627776) t336).bind fun t340 => ((overfallref02_Add.f k (Int.tmod a2 1099511627776) t340).bind fun t341 => (if t335 = t341 then (if (wrap64 ((Int.tmod a2 1099511627776) + ((mx a5 0) % 1099511627776))) < t341 then ((codel_State_Look.f k t332 t333 t334 t335 t336 t337 a1_0 ((ji9) % 1099511627776) (wrap64 ((Int.tmod a2 1099511627776) + ((mx a5 0) % 1099511627776))) a3 a4).bind fun bt342 => (if bt342.2.2.2.2.2.2 = 0 then ((codel_State_Empty.f t332 t333 t334 t335 t336 t337).bind fun bt350 => ((codel_State_Look.f k bt350.1 bt350.2.1 bt350.2.2.1 bt350.2.2.2.1 bt350.2.2.2.2.1 bt350.2.2.2.2.2 a1_0 ((ji9) % 1099511627776) (Int.tmod a2 1099511627776) a3 a4).bind fun bt356 => (some (bt356.2.2.2.2.2.2 == 0)))) else (none))) else ((codel_State_Empty.f t332 t333 t334 t335 t336 t337).bind fun bt364 => ((codel_State_Look.f k bt364.1 bt364.2.1 bt364.2.2.1 bt364.2.2.2.1 bt364.2.2.2.2.1 bt364.2.2.2.2.2 a1_0 ((ji9) % 1099511627776) (Int.tmod a2 1099511627776) a3 a4).bind fun bt370 => (some (bt370.2.2.2.2.2.2 == 0))))) else (none)))) else ((codel_State_Empty.f t332 t333 t334 t335 t336 t337).bind fun bt378 => ((codel_State_Look.f k bt378.1 bt378.2.1 bt378.2.2.1 bt378.2.2.2.1 bt378.2.2.2.2.1 bt378.2.2.2.2.2 a1_0 ((ji9) % 1099511627776) (Int.tmod a2 1099511627776) a3 a4).bind fun bt384 => (some (bt384.2.2.2.2.2.2 == 0))))) = some r := H
  have A10 := Aside0.mk A100
  clear A100
  by_cases c11 : t338 = 2
  ·rw [if_pos c11] at H
   have c11b0 : (t338 == 2) = true := beq_iff_eq.mpr c11
   have c11b1 : (t338 != 2) = false := bne_eq_false_iff_eq.mpr c11
   clear c11
   replace H := Option.bind_eq_some_iff.mp H
   obtain ⟨t340, A120, H⟩ := H
   replace H : ((overfallref02_Add.f k (Int.tmod a2 1099511627776) t340).bind fun t341 => (if t335 = t341 then (if (wrap64 ((Int.tmod a2 1099511627776) + ((mx a5 0) % 1099511627776))) < t341 then ((codel_State_Look.f k t332 t333 t334 t335 t336 t337 a1_0 ((ji9) % 1099511627776) (wrap64 ((Int.tmod a2 1099511627776) + ((mx a5 0) % 1099511627776))) a3 a4).bind fun bt342 => (if bt342.2.2.2.2.2.2 = 0 then ((codel_State_Empty.f t332 t333 t334 t335 t336 t337).bind fun bt350 => ((codel_State_Look.f k bt350.1 bt350.2.1 bt350.2.2.1 bt350.2.2.2.1 bt350.2.2.2.2.1 bt350.2.2.2.2.2 a1_0 ((ji9) % 1099511627776) (Int.tmod a2 1099511627776) a3 a4).bind fun bt356 => (some (bt356.2.2.2.2.2.2 == 0)))) else (none))) else ((codel_State_Empty.f t332 t333 t334 t335 t336 t337).bind fun bt364 => ((codel_State_Look.f k bt364.1 bt364.2.1 bt364.2.2.1 bt364.2.2.2.1 bt364.2.2.2.2.1 bt364.2.2.2.2.2 a1_0 ((ji9) % 1099511627776) (Int.tmod a2 1099511627776) a3 a4).bind fun bt370 => (some (bt370.2.2.2.2.2.2 == 0))))) else (none))) = some r := H
   have A12 := Aside0.mk A120
   clear A120
   replace H := Option.bind_eq_some_iff.mp H
   obtain ⟨t341, A130, H⟩ := H
   replace H : (if t335 = t341 then (if (wrap64 ((Int.tmod a2 1099511627776) + ((mx a5 0) % 1099511627776))) < t341 then ((codel_State_Look.f k t332 t333 t334 t335 t336 t337 a1_0 ((ji9) % 1099511627776) (wrap64 ((Int.tmod a2 1099511627776) + ((mx a5 0) % 1099511627776))) a3 a4).bind fun bt342 => (if bt342.2.2.2.2.2.2 = 0 then ((codel_State_Empty.f t332 t333 t334 t335 t336 t337).bind fun bt350 => ((codel_State_Look.f k bt350.1 bt350.2.1 bt350.2.2.1 bt350.2.2.2.1 bt350.2.2.2.2.1 bt350.2.2.2.2.2 a1_0 ((ji9) % 1099511627776) (Int.tmod a2 1099511627776) a3 a4).bind fun bt356 => (some (bt356.2.2.2.2.2.2 == 0)))) else (none))) else ((codel_State_Empty.f t332 t333 t334 t335 t336 t337).bind fun bt364 => ((codel_State_Look.f k bt364.1 bt364.2.1 bt364.2.2.1 bt364.2.2.2.1 bt364.2.2.2.2.1 bt364.2.2.2.2.2 a1_0 ((ji9) % 1099511627776) (Int.tmod a2 1099511627776) a3 a4).bind fun bt370 => (some (bt370.2.2.2.2.2.2 == 0))))) else (none)) = some r := H
   have A13 := Aside0.mk A130
   clear A130
   by_cases c14 : t335 = t341
   ·rw [if_pos c14] at H
    have c14b0 : (t335 == t341) = true := beq_iff_eq.mpr c14
    have c14b1 : (t335 != t341) = false := bne_eq_false_iff_eq.mpr c14
    clear c14
    obtain ⟨ji15, hji15⟩ : ∃ j_ : Int, (mx a5 0) = j_ := ⟨_, rfl⟩
    replace H : (if (wrap64 ((Int.tmod a2 1099511627776) + ((ji15) % 1099511627776))) < t341 then ((codel_State_Look.f k t332 t333 t334 t335 t336 t337 a1_0 ((ji9) % 1099511627776) (wrap64 ((Int.tmod a2 1099511627776) + ((ji15) % 1099511627776))) a3 a4).bind fun bt342 => (if bt342.2.2.2.2.2.2 = 0 then ((codel_State_Empty.f t332 t333 t334 t335 t336 t337).bind fun bt350 => ((codel_State_Look.f k bt350.1 bt350.2.1 bt350.2.2.1 bt350.2.2.2.1 bt350.2.2.2.2.1 bt350.2.2.2.2.2 a1_0 ((ji9) % 1099511627776) (Int.tmod a2 1099511627776) a3 a4).bind fun bt356 => (some (bt356.2.2.2.2.2.2 == 0)))) else (none))) else ((codel_State_Empty.f t332 t333 t334 t335 t336 t337).bind fun bt364 => ((codel_State_Look.f k bt364.1 bt364.2.1 bt364.2.2.1 bt364.2.2.2.1 bt364.2.2.2.2.1 bt364.2.2.2.2.2 a1_0 ((ji9) % 1099511627776) (Int.tmod a2 1099511627776) a3 a4).bind fun bt370 => (some (bt370.2.2.2.2.2.2 == 0))))) = some r := by first | (rw [hji15] at H; exact H) | (simp only [hji15] at H ⊢; exact H)
    (try rw [hji15] at A7)
    (try rw [hji15] at A10)
    (try rw [hji15] at A12)
    (try rw [hji15] at A13)
    (try (have hji15l : 0 ≤ ji15 := by (rw [← hji15]; unfold mx; (repeat' split) <;> omega)))
    (try (have hji15m : 0 ≤ ji15 := by omega))
    have hji15_ : (if a5 < 0 then 0 else a5) = ji15 := hji15
    by_cases c16 : (wrap64 ((Int.tmod a2 1099511627776) + ((ji15) % 1099511627776))) < t341
    ·rw [if_pos c16] at H
     have c16b0 : decide ((wrap64 ((Int.tmod a2 1099511627776) + ((ji15) % 1099511627776))) < t341) = true := decide_eq_true c16
     clear c16
     replace H := Option.bind_eq_some_iff.mp H
     obtain ⟨⟨t342, t343, t344, t345, t346, t347, t348⟩, A170, H⟩ := H
     replace H : (if t348 = 0 then ((codel_State_Empty.f t332 t333 t334 t335 t336 t337).bind fun bt350 => ((codel_State_Look.f k bt350.1 bt350.2.1 bt350.2.2.1 bt350.2.2.2.1 bt350.2.2.2.2.1 bt350.2.2.2.2.2 a1_0 ((ji9) % 1099511627776) (Int.tmod a2 1099511627776) a3 a4).bind fun bt356 => (some (bt356.2.2.2.2.2.2 == 0)))) else (none)) = some r := H
     have A17 := Aside0.mk A170
     clear A170
     by_cases c18 : t348 = 0
     ·rw [if_pos c18] at H
      have c18b0 : (t348 == 0) = true := beq_iff_eq.mpr c18
      have c18b1 : (t348 != 0) = false := bne_eq_false_iff_eq.mpr c18
      clear c18
      replace H := Option.bind_eq_some_iff.mp H
      obtain ⟨⟨t350, t351, t352, t353, t354, t355⟩, A190, H⟩ := H
      replace H : ((codel_State_Look.f k t350 t351 t352 t353 t354 t355 a1_0 ((ji9) % 1099511627776) (Int.tmod a2 1099511627776) a3 a4).bind fun bt356 => (some (bt356.2.2.2.2.2.2 == 0))) = some r := H
      have A19 := Aside0.mk A190
      clear A190
      replace H := Option.bind_eq_some_iff.mp H
      obtain ⟨⟨t356, t357, t358, t359, t360, t361, t362⟩, A200, H⟩ := H
      replace H : (some (t362 == 0)) = some r := H
      have A20 := Aside0.mk A200
      clear A200
      obtain rfl := Option.some.inj H
      go_enter Try.func6, Try.ntmps6
      try go_wp2_with (first | ((with_reducible refine gate_dst (N := 6) rfl ?_); refine box_event ?hg (N := 6) ?hd (cs := #[.bool a0_0, .int .i64 a0_1, .bool a0_2, .int .i64 a0_3, .int .u64 a0_4, .int .u64 a0_5]) (t := 24) ?hr ?_; (case hd => rfl); (case hg => rfl); (case hr => first | (go_simp; done) | (go_simp; rfl)); intro gb329 hg w21 hbox hb; have n0_ := Aside0.mk (below_step (by repeat (first | (with_reducible first | exact HB.out | apply below_alloc | apply pw_below_drewN | apply below_drew1) | exact HB.out)) hb); have n1_ := Aside0.mk (hbox); have n2_ := Aside0.mk ((by rw [hg]; exact (below_size (by repeat (first | (with_reducible first | exact HB.out | apply below_alloc | apply pw_below_drewN | apply below_drew1) | exact HB.out))) : w.heap.size ≤ gb329)); have n3_ := Aside0.mk ((by rw [hg]; exact (below_size (by repeat (first | (with_reducible first | exact HB.out | apply below_alloc | apply pw_below_drewN | apply below_drew1) | exact HB.out))) : w.heap.size ≤ gb329)); clear HB; have HB := n0_; have BK329 := n1_; have GW329 := n2_; have GE329 := n3_; clear n0_ n1_ n2_ n3_; clear hb hbox hg) | ((with_reducible refine gate_dst (N := 7) rfl ?_); refine box_event ?hg (N := 7) ?hd (cs := #[.int .i64 a1_0, .int .i64 a1_1]) (t := 26) ?hr ?_; (case hd => rfl); (case hg => rfl); (case hr => first | (go_simp; done) | (go_simp; rfl)); intro gb330 hg w22 hbox hb; have n0_ := Aside0.mk (blk_below (by exact BK329.out) hb); have n1_ := Aside0.mk (below_step (by repeat (first | (with_reducible first | exact HB.out | apply below_alloc | apply pw_below_drewN | apply below_drew1 | refine below_set ?_ GE329.out) | exact HB.out)) hb); have n2_ := Aside0.mk (hbox); have n3_ := Aside0.mk ((by rw [hg]; exact (below_size (by repeat (first | (with_reducible first | exact HB.out | apply below_alloc | apply pw_below_drewN | apply below_drew1 | refine below_set ?_ GE329.out) | exact HB.out))) : w.heap.size ≤ gb330)); have n4_ := Aside0.mk ((by rw [hg]; exact (below_size (by repeat (first | (with_reducible first | exact HB.out | apply below_alloc | apply pw_below_drewN | apply below_drew1 | refine below_set ?_ GE329.out) | exact HB.out))) : w.heap.size ≤ gb330)); have n5_ := Aside0.mk ((by rw [hg]; exact Nat.ne_of_lt (blk_lt (by exact BK329.out)) : gb329 ≠ gb330)); have n6_ := Aside0.mk ((by rw [hg]; exact Nat.ne_of_gt (blk_lt (by exact BK329.out)) : gb330 ≠ gb329)); clear BK329; clear HB; have BK329 := n0_; have HB := n1_; have BK330 := n2_; have GW330 := n3_; have GE330 := n4_; have NB329_330 := n5_; have NB330_329 := n6_; clear n0_ n1_ n2_ n3_ n4_ n5_ n6_; clear hb hbox hg) | ((with_reducible refine gate_callee (f := 9) rfl ?_); refine goesL_ (some 21) rfl rfl Try.func9 (by kernel_rfl) rfl #[] rfl (by (try simp only [List.map_toArray, List.map_cons, List.map_nil]); first | done | rfl | (simp only [List.length_drop, List.length_take]; rfl)) ?_; (with_reducible refine (overfalllaw08_awake.calls k  true _ A7.out).mono ?_); rintro e w23 ⟨rfl, hb⟩; refine ⟨_, rfl, ?_⟩; have n0_ := Aside0.mk (blk_below (by exact BK329.out) hb); have n1_ := Aside0.mk (blk_below (by exact BK330.out) hb); have n2_ := Aside0.mk (below_step (by repeat (first | (with_reducible first | exact HB.out | apply below_alloc | apply pw_below_drewN | apply below_drew1 | refine below_set ?_ GE329.out | refine below_set ?_ GE330.out) | exact HB.out)) hb); clear BK329; clear BK330; clear HB; have BK329 := n0_; have BK330 := n1_; have HB := n2_; clear n0_ n1_ n2_; (try clear hb); (try clear hb2); (try clear hk); (try clear hi); have hnb24 := NB330_329.out; have hnc24 := NB329_330.out; have hcz25_0 : w23.cell? ⟨gb330, 0, none⟩ = some (.int .i64 a1_0) := (blk_cell BK330.out 0).trans rfl; have hcz25_1 : w23.cell? ⟨gb330, 1, none⟩ = some (.int .i64 a1_1) := (blk_cell BK330.out 1).trans rfl; have hfz25_0 := blk_frozen BK330.out 0; have hfz25_1 := blk_frozen BK330.out 1; have hcz26_0 : w23.cell? ⟨gb329, 0, none⟩ = some (.bool a0_0) := (blk_cell BK329.out 0).trans rfl; have hcz26_1 : w23.cell? ⟨gb329, 1, none⟩ = some (.int .i64 a0_1) := (blk_cell BK329.out 1).trans rfl; have hcz26_2 : w23.cell? ⟨gb329, 2, none⟩ = some (.bool a0_2) := (blk_cell BK329.out 2).trans rfl; have hcz26_3 : w23.cell? ⟨gb329, 3, none⟩ = some (.int .i64 a0_3) := (blk_cell BK329.out 3).trans rfl; have hcz26_4 : w23.cell? ⟨gb329, 4, none⟩ = some (.int .u64 a0_4) := (blk_cell BK329.out 4).trans rfl; have hcz26_5 : w23.cell? ⟨gb329, 5, none⟩ = some (.int .u64 a0_5) := (blk_cell BK329.out 5).trans rfl; have hfz26_0 := blk_frozen BK329.out 0; have hfz26_1 := blk_frozen BK329.out 1; have hfz26_2 := blk_frozen BK329.out 2; have hfz26_3 := blk_frozen BK329.out 3; have hfz26_4 := blk_frozen BK329.out 4; have hfz26_5 := blk_frozen BK329.out 5) | ((with_reducible refine gate_callee (f := 11) rfl ?_); refine goesL_ (some 39) rfl rfl Try.func11 (by kernel_rfl) rfl #[.agg #[.bool a0_0, .int .i64 a0_1, .bool a0_2, .int .i64 a0_3, .int .u64 a0_4, .int .u64 a0_5], .agg #[.int .i64 a1_0, .int .i64 ((ji9) % 1099511627776)], .int .i64 (Int.tmod a2 1099511627776), .int .i64 a3, .int .i64 a4] rfl (by (try simp only [List.map_toArray, List.map_cons, List.map_nil]); first | done | (simp only [hji9]; rfl) | rfl | (simp only [List.length_drop, List.length_take]; rfl)) ?_; (with_reducible refine (codel_State_Look.calls k a0_0 a0_1 a0_2 a0_3 a0_4 a0_5 a1_0 ((ji9) % 1099511627776) (Int.tmod a2 1099511627776) a3 a4 t332 t333 t334 t335 t336 t337 t338 _ A10.out).mono ?_); rintro e w27 ⟨rfl, hb⟩; refine ⟨_, rfl, ?_⟩; have n0_ := Aside0.mk (blk_below (g := gb329) (o := .cells #[.bool a0_0, .int .i64 a0_1, .bool a0_2, .int .i64 a0_3, .int .u64 a0_4, .int .u64 a0_5] 24 (0, 0)) (by refine blk_far ?_ NB329_330.out _; refine blk_far ?_ NB329_330.out _; exact BK329.out) hb); have n1_ := Aside0.mk (blk_below (g := gb330) (o := .cells #[.int .i64 a1_0, .int .i64 ((ji9) % 1099511627776)] 26 (0, 0)) (by refine blk_put (cs := #[.int .i64 a1_0, .int .i64 ji9]) ?_ 1 _ rfl; refine blk_put (cs := #[.int .i64 a1_0, .int .i64 a1_1]) ?_ 1 _ rfl; exact BK330.out) hb); have n2_ := Aside0.mk (below_step (by repeat (first | (with_reducible first | exact HB.out | apply below_alloc | apply pw_below_drewN | apply below_drew1 | refine below_set ?_ GE329.out | refine below_set ?_ GE330.out) | exact HB.out)) hb); clear BK329; clear BK330; clear HB; have BK329 := n0_; have BK330 := n1_; have HB := n2_; clear n0_ n1_ n2_; (try clear hb); (try clear hb2); (try clear hk); (try clear hi)) | ((with_reducible refine gate_dst (N := 13) rfl ?_); refine box_event ?hg (N := 13) ?hd (cs := #[.bool false, .int .i64 0, .bool false, .int .i64 0, .int .u64 0, .int .u64 0]) (t := 24) ?hr ?_; (case hd => rfl); (case hg => rfl); (case hr => first | (go_simp; done) | (go_simp; rfl)); intro gb339 hg w28 hbox hb; have n0_ := Aside0.mk (blk_below (by exact BK329.out) hb); have n1_ := Aside0.mk (blk_below (by exact BK330.out) hb); have n2_ := Aside0.mk (below_step (by repeat (first | (with_reducible first | exact HB.out | apply below_alloc | apply pw_below_drewN | apply below_drew1 | refine below_set ?_ GE329.out | refine below_set ?_ GE330.out) | exact HB.out)) hb); have n3_ := Aside0.mk (hbox); have n4_ := Aside0.mk ((by rw [hg]; exact (below_size (by repeat (first | (with_reducible first | exact HB.out | apply below_alloc | apply pw_below_drewN | apply below_drew1 | refine below_set ?_ GE329.out | refine below_set ?_ GE330.out) | exact HB.out))) : w.heap.size ≤ gb339)); have n5_ := Aside0.mk ((by rw [hg]; exact (below_size (by repeat (first | (with_reducible first | exact HB.out | apply below_alloc | apply pw_below_drewN | apply below_drew1 | refine below_set ?_ GE329.out | refine below_set ?_ GE330.out) | exact HB.out))) : w.heap.size ≤ gb339)); have n6_ := Aside0.mk ((by rw [hg]; exact Nat.ne_of_lt (blk_lt (by exact BK329.out)) : gb329 ≠ gb339)); have n7_ := Aside0.mk ((by rw [hg]; exact Nat.ne_of_gt (blk_lt (by exact BK329.out)) : gb339 ≠ gb329)); have n8_ := Aside0.mk ((by rw [hg]; exact Nat.ne_of_lt (blk_lt (by exact BK330.out)) : gb330 ≠ gb339)); have n9_ := Aside0.mk ((by rw [hg]; exact Nat.ne_of_gt (blk_lt (by exact BK330.out)) : gb339 ≠ gb330)); clear BK329; clear BK330; clear HB; have BK329 := n0_; have BK330 := n1_; have HB := n2_; have BK339 := n3_; have GW339 := n4_; have GE339 := n5_; have NB329_339 := n6_; have NB339_329 := n7_; have NB330_339 := n8_; have NB339_330 := n9_; clear n0_ n1_ n2_ n3_ n4_ n5_ n6_ n7_ n8_ n9_; clear hb hbox hg; have hnb29 := NB339_329.out; have hnc29 := NB329_339.out; have hnb30 := NB339_330.out; have hnc30 := NB330_339.out; have hcz31_0 : w28.cell? ⟨gb339, 0, none⟩ = some (.bool false) := (blk_cell BK339.out 0).trans rfl; have hcz31_1 : w28.cell? ⟨gb339, 1, none⟩ = some (.int .i64 0) := (blk_cell BK339.out 1).trans rfl; have hcz31_2 : w28.cell? ⟨gb339, 2, none⟩ = some (.bool false) := (blk_cell BK339.out 2).trans rfl; have hcz31_3 : w28.cell? ⟨gb339, 3, none⟩ = some (.int .i64 0) := (blk_cell BK339.out 3).trans rfl; have hcz31_4 : w28.cell? ⟨gb339, 4, none⟩ = some (.int .u64 0) := (blk_cell BK339.out 4).trans rfl; have hcz31_5 : w28.cell? ⟨gb339, 5, none⟩ = some (.int .u64 0) := (blk_cell BK339.out 5).trans rfl; have hfz31_0 := blk_frozen BK339.out 0; have hfz31_1 := blk_frozen BK339.out 1; have hfz31_2 := blk_frozen BK339.out 2; have hfz31_3 := blk_frozen BK339.out 3; have hfz31_4 := blk_frozen BK339.out 4; have hfz31_5 := blk_frozen BK339.out 5; have hcz32_0 : w28.cell? ⟨gb330, 0, none⟩ = some (.int .i64 a1_0) := (blk_cell BK330.out 0).trans rfl; have hcz32_1 : w28.cell? ⟨gb330, 1, none⟩ = some (.int .i64 ((ji9) % 1099511627776)) := (blk_cell BK330.out 1).trans rfl; have hfz32_0 := blk_frozen BK330.out 0; have hfz32_1 := blk_frozen BK330.out 1) | ((with_reducible refine gate_callee (f := 14) rfl ?_); refine goesL_ (some 49) rfl rfl Try.func14 (by kernel_rfl) rfl #[.int .i64 ((ji9) % 1099511627776), .int .u64 t336] rfl (by (try simp only [List.map_toArray, List.map_cons, List.map_nil]); first | done | (simp only [hji9]; rfl) | rfl | (simp only [List.length_drop, List.length_take]; rfl)) ?_; (with_reducible refine (overfallref03_Law.calls k ((ji9) % 1099511627776) t336 t340 _ A12.out).mono ?_); rintro e w33 ⟨rfl, hb⟩; refine ⟨_, rfl, ?_⟩; have n0_ := Aside0.mk (blk_below (g := gb329) (o := .cells #[.bool a0_0, .int .i64 a0_1, .bool a0_2, .int .i64 a0_3, .int .u64 a0_4, .int .u64 a0_5] 24 (0, 0)) (by refine blk_far ?_ NB329_339.out _; refine blk_far ?_ NB329_339.out _; refine blk_far ?_ NB329_339.out _; refine blk_far ?_ NB329_339.out _; refine blk_far ?_ NB329_339.out _; refine blk_far ?_ NB329_339.out _; exact BK329.out) hb); have n1_ := Aside0.mk (blk_below (g := gb330) (o := .cells #[.int .i64 a1_0, .int .i64 ((ji9) % 1099511627776)] 26 (0, 0)) (by refine blk_far ?_ NB330_339.out _; refine blk_far ?_ NB330_339.out _; refine blk_far ?_ NB330_339.out _; refine blk_far ?_ NB330_339.out _; refine blk_far ?_ NB330_339.out _; refine blk_far ?_ NB330_339.out _; exact BK330.out) hb); have n2_ := Aside0.mk (blk_below (g := gb339) (o := .cells #[.bool t332, .int .i64 t333, .bool t334, .int .i64 t335, .int .u64 t336, .int .u64 t337] 24 (0, 0)) (by refine blk_put (cs := #[.bool t332, .int .i64 t333, .bool t334, .int .i64 t335, .int .u64 t336, .int .u64 0]) ?_ 5 _ rfl; refine blk_put (cs := #[.bool t332, .int .i64 t333, .bool t334, .int .i64 t335, .int .u64 0, .int .u64 0]) ?_ 4 _ rfl; refine blk_put (cs := #[.bool t332, .int .i64 t333, .bool t334, .int .i64 0, .int .u64 0, .int .u64 0]) ?_ 3 _ rfl; refine blk_put (cs := #[.bool t332, .int .i64 t333, .bool false, .int .i64 0, .int .u64 0, .int .u64 0]) ?_ 2 _ rfl; refine blk_put (cs := #[.bool t332, .int .i64 0, .bool false, .int .i64 0, .int .u64 0, .int .u64 0]) ?_ 1 _ rfl; refine blk_put (cs := #[.bool false, .int .i64 0, .bool false, .int .i64 0, .int .u64 0, .int .u64 0]) ?_ 0 _ rfl; exact BK339.out) hb); have n3_ := Aside0.mk (below_step (by repeat (first | (with_reducible first | exact HB.out | apply below_alloc | apply pw_below_drewN | apply below_drew1 | refine below_set ?_ GE329.out | refine below_set ?_ GE330.out | refine below_set ?_ GE339.out) | exact HB.out)) hb); clear BK329; clear BK330; clear BK339; clear HB; have BK329 := n0_; have BK330 := n1_; have BK339 := n2_; have HB := n3_; clear n0_ n1_ n2_ n3_; (try clear hb); (try clear hb2); (try clear hk); (try clear hi)) | ((with_reducible refine gate_callee (f := 10) rfl ?_); refine goesL_ (some 50) rfl rfl Try.func10 (by kernel_rfl) rfl #[.int .i64 (Int.tmod a2 1099511627776), .int .i64 t340] rfl (by (try simp only [List.map_toArray, List.map_cons, List.map_nil]); first | done | rfl | (simp only [List.length_drop, List.length_take]; rfl)) ?_; (with_reducible refine (overfallref02_Add.calls k (Int.tmod a2 1099511627776) t340 t341 _ A13.out).mono ?_); rintro e w34 ⟨rfl, hb⟩; refine ⟨_, rfl, ?_⟩; have n0_ := Aside0.mk (blk_below (by exact BK329.out) hb); have n1_ := Aside0.mk (blk_below (by exact BK330.out) hb); have n2_ := Aside0.mk (blk_below (by exact BK339.out) hb); have n3_ := Aside0.mk (below_step (by repeat (first | (with_reducible first | exact HB.out | apply below_alloc | apply pw_below_drewN | apply below_drew1 | refine below_set ?_ GE329.out | refine below_set ?_ GE330.out | refine below_set ?_ GE339.out) | exact HB.out)) hb); clear BK329; clear BK330; clear BK339; clear HB; have BK329 := n0_; have BK330 := n1_; have BK339 := n2_; have HB := n3_; clear n0_ n1_ n2_ n3_; (try clear hb); (try clear hb2); (try clear hk); (try clear hi); have hcz35_0 : w34.cell? ⟨gb339, 0, none⟩ = some (.bool t332) := (blk_cell BK339.out 0).trans rfl; have hcz35_1 : w34.cell? ⟨gb339, 1, none⟩ = some (.int .i64 t333) := (blk_cell BK339.out 1).trans rfl; have hcz35_2 : w34.cell? ⟨gb339, 2, none⟩ = some (.bool t334) := (blk_cell BK339.out 2).trans rfl; have hcz35_3 : w34.cell? ⟨gb339, 3, none⟩ = some (.int .i64 t335) := (blk_cell BK339.out 3).trans rfl; have hcz35_4 : w34.cell? ⟨gb339, 4, none⟩ = some (.int .u64 t336) := (blk_cell BK339.out 4).trans rfl; have hcz35_5 : w34.cell? ⟨gb339, 5, none⟩ = some (.int .u64 t337) := (blk_cell BK339.out 5).trans rfl; have hfz35_0 := blk_frozen BK339.out 0; have hfz35_1 := blk_frozen BK339.out 1; have hfz35_2 := blk_frozen BK339.out 2; have hfz35_3 := blk_frozen BK339.out 3; have hfz35_4 := blk_frozen BK339.out 4; have hfz35_5 := blk_frozen BK339.out 5; have hcz36_0 : w34.cell? ⟨gb330, 0, none⟩ = some (.int .i64 a1_0) := (blk_cell BK330.out 0).trans rfl; have hcz36_1 : w34.cell? ⟨gb330, 1, none⟩ = some (.int .i64 ((ji9) % 1099511627776)) := (blk_cell BK330.out 1).trans rfl; have hfz36_0 := blk_frozen BK330.out 0; have hfz36_1 := blk_frozen BK330.out 1) | ((with_reducible refine gate_callee (f := 11) rfl ?_); refine goesL_ (some 69) rfl rfl Try.func11 (by kernel_rfl) rfl #[.agg #[.bool t332, .int .i64 t333, .bool t334, .int .i64 t335, .int .u64 t336, .int .u64 t337], .agg #[.int .i64 a1_0, .int .i64 ((ji9) % 1099511627776)], .int .i64 (wrap64 ((Int.tmod a2 1099511627776) + ((ji15) % 1099511627776))), .int .i64 a3, .int .i64 a4] rfl (by (try simp only [List.map_toArray, List.map_cons, List.map_nil]); first | done | (simp only [hji15, hji9]; rfl) | rfl | (simp only [List.length_drop, List.length_take]; rfl)) ?_; (with_reducible refine (codel_State_Look.calls k t332 t333 t334 t335 t336 t337 a1_0 ((ji9) % 1099511627776) (wrap64 ((Int.tmod a2 1099511627776) + ((ji15) % 1099511627776))) a3 a4 t342 t343 t344 t345 t346 t347 t348 _ A17.out).mono ?_); rintro e w37 ⟨rfl, hb⟩; refine ⟨_, rfl, ?_⟩; have n0_ := Aside0.mk (blk_below (by exact BK329.out) hb); have n1_ := Aside0.mk (blk_below (by exact BK330.out) hb); have n2_ := Aside0.mk (blk_below (by exact BK339.out) hb); have n3_ := Aside0.mk (below_step (by repeat (first | (with_reducible first | exact HB.out | apply below_alloc | apply pw_below_drewN | apply below_drew1 | refine below_set ?_ GE329.out | refine below_set ?_ GE330.out | refine below_set ?_ GE339.out) | exact HB.out)) hb); clear BK329; clear BK330; clear BK339; clear HB; have BK329 := n0_; have BK330 := n1_; have BK339 := n2_; have HB := n3_; clear n0_ n1_ n2_ n3_; (try clear hb); (try clear hb2); (try clear hk); (try clear hi)) | ((with_reducible refine gate_dst (N := 17) rfl ?_); refine box_event ?hg (N := 17) ?hd (cs := #[.bool false, .int .i64 0, .bool false, .int .i64 0, .int .u64 0, .int .u64 0]) (t := 24) ?hr ?_; (case hd => rfl); (case hg => rfl); (case hr => first | (go_simp; done) | (go_simp; rfl)); intro gb349 hg w38 hbox hb; have n0_ := Aside0.mk (blk_below (by exact BK329.out) hb); have n1_ := Aside0.mk (blk_below (by exact BK330.out) hb); have n2_ := Aside0.mk (blk_below (by exact BK339.out) hb); have n3_ := Aside0.mk (below_step (by repeat (first | (with_reducible first | exact HB.out | apply below_alloc | apply pw_below_drewN | apply below_drew1 | refine below_set ?_ GE329.out | refine below_set ?_ GE330.out | refine below_set ?_ GE339.out) | exact HB.out)) hb); have n4_ := Aside0.mk (hbox); have n5_ := Aside0.mk ((by rw [hg]; exact (below_size (by repeat (first | (with_reducible first | exact HB.out | apply below_alloc | apply pw_below_drewN | apply below_drew1 | refine below_set ?_ GE329.out | refine below_set ?_ GE330.out | refine below_set ?_ GE339.out) | exact HB.out))) : w.heap.size ≤ gb349)); have n6_ := Aside0.mk ((by rw [hg]; exact (below_size (by repeat (first | (with_reducible first | exact HB.out | apply below_alloc | apply pw_below_drewN | apply below_drew1 | refine below_set ?_ GE329.out | refine below_set ?_ GE330.out | refine below_set ?_ GE339.out) | exact HB.out))) : w.heap.size ≤ gb349)); have n7_ := Aside0.mk ((by rw [hg]; exact Nat.ne_of_lt (blk_lt (by exact BK329.out)) : gb329 ≠ gb349)); have n8_ := Aside0.mk ((by rw [hg]; exact Nat.ne_of_gt (blk_lt (by exact BK329.out)) : gb349 ≠ gb329)); have n9_ := Aside0.mk ((by rw [hg]; exact Nat.ne_of_lt (blk_lt (by exact BK330.out)) : gb330 ≠ gb349)); have n10_ := Aside0.mk ((by rw [hg]; exact Nat.ne_of_gt (blk_lt (by exact BK330.out)) : gb349 ≠ gb330)); have n11_ := Aside0.mk ((by rw [hg]; exact Nat.ne_of_lt (blk_lt (by exact BK339.out)) : gb339 ≠ gb349)); have n12_ := Aside0.mk ((by rw [hg]; exact Nat.ne_of_gt (blk_lt (by exact BK339.out)) : gb349 ≠ gb339)); clear BK329; clear BK330; clear BK339; clear HB; have BK329 := n0_; have BK330 := n1_; have BK339 := n2_; have HB := n3_; have BK349 := n4_; have GW349 := n5_; have GE349 := n6_; have NB329_349 := n7_; have NB349_329 := n8_; have NB330_349 := n9_; have NB349_330 := n10_; have NB339_349 := n11_; have NB349_339 := n12_; clear n0_ n1_ n2_ n3_ n4_ n5_ n6_ n7_ n8_ n9_ n10_ n11_ n12_; clear hb hbox hg; have hnb39 := NB349_329.out; have hnc39 := NB329_349.out; have hnb40 := NB349_330.out; have hnc40 := NB330_349.out; have hnb41 := NB349_339.out; have hnc41 := NB339_349.out; have hcz42_0 : w38.cell? ⟨gb349, 0, none⟩ = some (.bool false) := (blk_cell BK349.out 0).trans rfl; have hcz42_1 : w38.cell? ⟨gb349, 1, none⟩ = some (.int .i64 0) := (blk_cell BK349.out 1).trans rfl; have hcz42_2 : w38.cell? ⟨gb349, 2, none⟩ = some (.bool false) := (blk_cell BK349.out 2).trans rfl; have hcz42_3 : w38.cell? ⟨gb349, 3, none⟩ = some (.int .i64 0) := (blk_cell BK349.out 3).trans rfl; have hcz42_4 : w38.cell? ⟨gb349, 4, none⟩ = some (.int .u64 0) := (blk_cell BK349.out 4).trans rfl; have hcz42_5 : w38.cell? ⟨gb349, 5, none⟩ = some (.int .u64 0) := (blk_cell BK349.out 5).trans rfl; have hfz42_0 := blk_frozen BK349.out 0; have hfz42_1 := blk_frozen BK349.out 1; have hfz42_2 := blk_frozen BK349.out 2; have hfz42_3 := blk_frozen BK349.out 3; have hfz42_4 := blk_frozen BK349.out 4; have hfz42_5 := blk_frozen BK349.out 5))
      have n0_ : Aside0 (((((((w38.setCell ⟨gb349, 0, none⟩ (.bool t342)).setCell ⟨gb349, 1, none⟩ (.int .i64 t343)).setCell ⟨gb349, 2, none⟩ (.bool t344)).setCell ⟨gb349, 3, none⟩ (.int .i64 t345)).setCell ⟨gb349, 4, none⟩ (.int .u64 t346)).setCell ⟨gb349, 5, none⟩ (.int .u64 t347)).heap[gb329]? = some (.cells #[.bool a0_0, .int .i64 a0_1, .bool a0_2, .int .i64 a0_3, .int .u64 a0_4, .int .u64 a0_5] 24 (0, 0))) := ⟨by refine blk_far ?_ NB329_349.out _; refine blk_far ?_ NB329_349.out _; refine blk_far ?_ NB329_349.out _; refine blk_far ?_ NB329_349.out _; refine blk_far ?_ NB329_349.out _; refine blk_far ?_ NB329_349.out _; exact BK329.out⟩
      have n1_ : Aside0 (((((((w38.setCell ⟨gb349, 0, none⟩ (.bool t342)).setCell ⟨gb349, 1, none⟩ (.int .i64 t343)).setCell ⟨gb349, 2, none⟩ (.bool t344)).setCell ⟨gb349, 3, none⟩ (.int .i64 t345)).setCell ⟨gb349, 4, none⟩ (.int .u64 t346)).setCell ⟨gb349, 5, none⟩ (.int .u64 t347)).heap[gb330]? = some (.cells #[.int .i64 a1_0, .int .i64 ((ji9) % 1099511627776)] 26 (0, 0))) := ⟨by refine blk_far ?_ NB330_349.out _; refine blk_far ?_ NB330_349.out _; refine blk_far ?_ NB330_349.out _; refine blk_far ?_ NB330_349.out _; refine blk_far ?_ NB330_349.out _; refine blk_far ?_ NB330_349.out _; exact BK330.out⟩
      have n2_ : Aside0 (((((((w38.setCell ⟨gb349, 0, none⟩ (.bool t342)).setCell ⟨gb349, 1, none⟩ (.int .i64 t343)).setCell ⟨gb349, 2, none⟩ (.bool t344)).setCell ⟨gb349, 3, none⟩ (.int .i64 t345)).setCell ⟨gb349, 4, none⟩ (.int .u64 t346)).setCell ⟨gb349, 5, none⟩ (.int .u64 t347)).heap[gb339]? = some (.cells #[.bool t332, .int .i64 t333, .bool t334, .int .i64 t335, .int .u64 t336, .int .u64 t337] 24 (0, 0))) := ⟨by refine blk_far ?_ NB339_349.out _; refine blk_far ?_ NB339_349.out _; refine blk_far ?_ NB339_349.out _; refine blk_far ?_ NB339_349.out _; refine blk_far ?_ NB339_349.out _; refine blk_far ?_ NB339_349.out _; exact BK339.out⟩
      have n3_ : Aside0 (((((((w38.setCell ⟨gb349, 0, none⟩ (.bool t342)).setCell ⟨gb349, 1, none⟩ (.int .i64 t343)).setCell ⟨gb349, 2, none⟩ (.bool t344)).setCell ⟨gb349, 3, none⟩ (.int .i64 t345)).setCell ⟨gb349, 4, none⟩ (.int .u64 t346)).setCell ⟨gb349, 5, none⟩ (.int .u64 t347)).heap[gb349]? = some (.cells #[.bool t342, .int .i64 t343, .bool t344, .int .i64 t345, .int .u64 t346, .int .u64 t347] 24 (0, 0))) := ⟨by refine blk_put (cs := #[.bool t342, .int .i64 t343, .bool t344, .int .i64 t345, .int .u64 t346, .int .u64 0]) ?_ 5 _ rfl; refine blk_put (cs := #[.bool t342, .int .i64 t343, .bool t344, .int .i64 t345, .int .u64 0, .int .u64 0]) ?_ 4 _ rfl; refine blk_put (cs := #[.bool t342, .int .i64 t343, .bool t344, .int .i64 0, .int .u64 0, .int .u64 0]) ?_ 3 _ rfl; refine blk_put (cs := #[.bool t342, .int .i64 t343, .bool false, .int .i64 0, .int .u64 0, .int .u64 0]) ?_ 2 _ rfl; refine blk_put (cs := #[.bool t342, .int .i64 0, .bool false, .int .i64 0, .int .u64 0, .int .u64 0]) ?_ 1 _ rfl; refine blk_put (cs := #[.bool false, .int .i64 0, .bool false, .int .i64 0, .int .u64 0, .int .u64 0]) ?_ 0 _ rfl; exact BK349.out⟩
      have n4_ : Aside0 (Below w.heap.size w ((((((w38.setCell ⟨gb349, 0, none⟩ (.bool t342)).setCell ⟨gb349, 1, none⟩ (.int .i64 t343)).setCell ⟨gb349, 2, none⟩ (.bool t344)).setCell ⟨gb349, 3, none⟩ (.int .i64 t345)).setCell ⟨gb349, 4, none⟩ (.int .u64 t346)).setCell ⟨gb349, 5, none⟩ (.int .u64 t347))) := ⟨by repeat (first | (with_reducible first | exact HB.out | apply below_alloc | apply pw_below_drewN | apply below_drew1 | refine below_set ?_ GE329.out | refine below_set ?_ GE330.out | refine below_set ?_ GE339.out | refine below_set ?_ GE349.out) | exact HB.out)⟩
      (try clear BK329)
      (try clear BK330)
      (try clear BK339)
      (try clear BK349)
      (try clear HB)
      generalize ((((((w38.setCell ⟨gb349, 0, none⟩ (.bool t342)).setCell ⟨gb349, 1, none⟩ (.int .i64 t343)).setCell ⟨gb349, 2, none⟩ (.bool t344)).setCell ⟨gb349, 3, none⟩ (.int .i64 t345)).setCell ⟨gb349, 4, none⟩ (.int .u64 t346)).setCell ⟨gb349, 5, none⟩ (.int .u64 t347)) = w43 at n0_ n1_ n2_ n3_ n4_ ⊢
      have BK329 := n0_
      have BK330 := n1_
      have BK339 := n2_
      have BK349 := n3_
      have HB := n4_
      clear n0_ n1_ n2_ n3_ n4_
      have n0_ := Aside0.mk (blk_drew BK329.out)
      have n1_ := Aside0.mk (blk_drew BK330.out)
      have n2_ := Aside0.mk (blk_drew BK339.out)
      have n3_ := Aside0.mk (blk_drew BK349.out)
      have n4_ := Aside0.mk (below_drew1 HB.out)
      clear BK329
      clear BK330
      clear BK339
      clear BK349
      clear HB
      have BK329 := n0_
      have BK330 := n1_
      have BK339 := n2_
      have BK349 := n3_
      have HB := n4_
      clear n0_ n1_ n2_ n3_ n4_
      refine start_ (n := 13) (S := fun w' => w'.cell? ⟨gb339, 0, none⟩ = some (.bool t332) ∧ w'.cell? ⟨gb339, 1, none⟩ = some (.int .i64 t333) ∧ w'.cell? ⟨gb339, 2, none⟩ = some (.bool t334) ∧ w'.cell? ⟨gb339, 3, none⟩ = some (.int .i64 t335) ∧ w'.cell? ⟨gb339, 4, none⟩ = some (.int .u64 t336) ∧ w'.cell? ⟨gb339, 5, none⟩ = some (.int .u64 t337) ∧ w'.cell? ⟨gb330, 0, none⟩ = some (.int .i64 a1_0) ∧ w'.cell? ⟨gb330, 1, none⟩ = some (.int .i64 ((ji9) % 1099511627776))) (ds := []) #[false, false, false, false, false, false, false, false, false, false, false, false, false] (by kernel_rfl) rfl rfl ⟨(blk_cell BK339.out 0).trans rfl, (blk_cell BK339.out 1).trans rfl, (blk_cell BK339.out 2).trans rfl, (blk_cell BK339.out 3).trans rfl, (blk_cell BK339.out 4).trans rfl, (blk_cell BK339.out 5).trans rfl, (blk_cell BK330.out 0).trans rfl, (blk_cell BK330.out 1).trans rfl⟩ (fun hHeld => ?_); refine with_tabW overfalllaw08_CodelSpares.tab16 overfalllaw08_CodelSpares.bits16 (fun HT_ HW_ => ?_)
      generalize w43.drew = w44 at BK329 BK330 BK339 BK349 HB hHeld ⊢
      refine pure_ (i := 3) (N := some 78) (v := ?_) (a' := ?_) #[false, false, false, true, false, false, false, false, false, false, false, false, false] rfl rfl (any_of HT_.out (by kernel_rfl)) (fun _ _ _ h => h) (Or.inl ⟨by rfl, ?_⟩) ?_ ?_
      rotate_left
      ·intro w'
       go_simp
       with_reducible rfl
      rotate_left
      ·simp only [Act.put, List.setIfInBounds_toArray, List.set_cons_zero, List.set_cons_succ, i64_w, i32_w]
       rfl
      refine pure_ (i := 4) (N := some 79) (v := ?_) (a' := ?_) #[false, false, false, true, true, false, false, false, false, false, false, false, false] rfl rfl (any_of HT_.out (by kernel_rfl)) (fun _ _ _ h => h) (Or.inl ⟨by rfl, ?_⟩) ?_ ?_
      rotate_left
      ·intro w'
       go_simp
       with_reducible rfl
      rotate_left
      ·simp only [Act.put, List.setIfInBounds_toArray, List.set_cons_zero, List.set_cons_succ, i64_w, i32_w]
       rfl
      refine pure_ (i := 5) (N := some 80) (v := ?_) (a' := ?_) #[false, false, false, true, true, true, false, false, false, false, false, false, false] rfl rfl (any_of HT_.out (by kernel_rfl)) (fun _ _ _ h => h) (Or.inl ⟨by rfl, ?_⟩) ?_ ?_
      rotate_left
      ·intro w'
       go_simp
       with_reducible rfl
      rotate_left
      ·simp only [Act.put, List.setIfInBounds_toArray, List.set_cons_zero, List.set_cons_succ, i64_w, i32_w]
       rfl
      refine take_ (i := 0) (N := some 75) (v := ?_) (a' := ?_) #[true, false, false, true, true, true, false, false, false, false, false, false, false] rfl rfl (take_ofW HT_.out HW_.out (by kernel_rfl)) (fun _ _ _ h => h) (Or.inl ⟨by rfl, ?_⟩) hHeld ?_ ?_
      rotate_left
      ·rintro w' ⟨s0, s1, s2, s3, s4, s5, s6, s7⟩
       go_simp
       with_reducible rfl
      rotate_left
      ·simp only [Act.put, List.setIfInBounds_toArray, List.set_cons_zero, List.set_cons_succ, i64_w, i32_w]
       rfl
      refine take_ (i := 2) (N := some 77) (v := ?_) (a' := ?_) #[true, false, true, true, true, true, false, false, false, false, false, false, false] rfl rfl (take_ofW HT_.out HW_.out (by kernel_rfl)) (fun _ _ _ h => h) (Or.inl ⟨by rfl, ?_⟩) hHeld ?_ ?_
      rotate_left
      ·rintro w' ⟨s0, s1, s2, s3, s4, s5, s6, s7⟩
       go_simp
       with_reducible rfl
      rotate_left
      ·simp only [Act.put, List.setIfInBounds_toArray, List.set_cons_zero, List.set_cons_succ, i64_w, i32_w]
       rfl
      refine join_ (σ := Nat) 2 #[true, true, true, true, true, true, true, true, true, true, true, false, false] (fun s_ => [(76, .agg #[.bool t350, .int .i64 t351, .bool t352, .int .i64 t353, .int .u64 t354, .int .u64 t355]), (81, .tuple #[.agg #[.bool t356, .int .i64 t357, .bool t358, .int .i64 t359, .int .u64 t360, .int .u64 t361], .int .i64 t362]), (19, .pointer (some ⟨s_, 0, none⟩)), (74, .tuple #[.agg #[.bool t356, .int .i64 t357, .bool t358, .int .i64 t359, .int .u64 t360, .int .u64 t361], .int .i64 t362]), (82, .agg #[.bool t356, .int .i64 t357, .bool t358, .int .i64 t359, .int .u64 t360, .int .u64 t361]), (83, .int .i64 t362)]) (fun s_ w' => (w'.cell? ⟨gb339, 0, none⟩ = some (.bool t332) ∧ w'.cell? ⟨gb339, 1, none⟩ = some (.int .i64 t333) ∧ w'.cell? ⟨gb339, 2, none⟩ = some (.bool t334) ∧ w'.cell? ⟨gb339, 3, none⟩ = some (.int .i64 t335) ∧ w'.cell? ⟨gb339, 4, none⟩ = some (.int .u64 t336) ∧ w'.cell? ⟨gb339, 5, none⟩ = some (.int .u64 t337) ∧ w'.cell? ⟨gb330, 0, none⟩ = some (.int .i64 a1_0) ∧ w'.cell? ⟨gb330, 1, none⟩ = some (.int .i64 ((ji9) % 1099511627776))) ∧ (w'.heap[gb329]? = some (.cells #[.bool a0_0, .int .i64 a0_1, .bool a0_2, .int .i64 a0_3, .int .u64 a0_4, .int .u64 a0_5] 24 (0, 0))) ∧ (w'.heap[gb330]? = some (.cells #[.int .i64 a1_0, .int .i64 ((ji9) % 1099511627776)] 26 (0, 0))) ∧ (w'.heap[gb339]? = some (.cells #[.bool t332, .int .i64 t333, .bool t334, .int .i64 t335, .int .u64 t336, .int .u64 t337] 24 (0, 0))) ∧ (w'.heap[gb349]? = some (.cells #[.bool t342, .int .i64 t343, .bool t344, .int .i64 t345, .int .u64 t346, .int .u64 t347] 24 (0, 0))) ∧ (w'.heap[s_]? = some (.cells #[.bool false, .int .i64 0, .bool false, .int .i64 0, .int .u64 0, .int .u64 0] 24 (0, 0))) ∧ (w.heap.size ≤ s_) ∧ (w.heap.size ≤ s_) ∧ (gb329 ≠ s_) ∧ (s_ ≠ gb329) ∧ (gb330 ≠ s_) ∧ (s_ ≠ gb330) ∧ (gb339 ≠ s_) ∧ (s_ ≠ gb339) ∧ (gb349 ≠ s_) ∧ (s_ ≠ gb349) ∧ (Below w.heap.size w w')) ?_ ?_
      rotate_left
      ·intro hCont
       refine two_ (i := 1) (j := 10) (Ni := some 76) (Nj := some 19) #[true, true, true, true, true, true, false, false, false, false, false, false, false] #[true, false, true, true, true, true, false, false, false, false, true, false, false] rfl rfl rfl rfl (two_of HT_.out (by kernel_rfl)) (by decide) (by decide) (fun K hK => ?_) (fun K hK => ?_)
       ·skip
        refine goes_ Try.func15 (by kernel_rfl) rfl #[.agg #[.bool t332, .int .i64 t333, .bool t334, .int .i64 t335, .int .u64 t336, .int .u64 t337]] (by rfl) rfl rfl (by (try simp only [List.map_toArray, List.map_cons, List.map_nil]); first | done | rfl | (simp only [List.length_drop, List.length_take]; rfl)) ?_
        with_reducible refine (codel_State_Empty.calls t332 t333 t334 t335 t336 t337 t350 t351 t352 t353 t354 t355 _ A19.out).mono ?_
        rintro e w45 ⟨rfl, hb⟩
        refine ⟨_, rfl, ?_⟩
        have n0_ := Aside0.mk (blk_below (by exact BK329.out) hb)
        have n1_ := Aside0.mk (blk_below (by exact BK330.out) hb)
        have n2_ := Aside0.mk (blk_below (by exact BK339.out) hb)
        have n3_ := Aside0.mk (blk_below (by exact BK349.out) hb)
        have n4_ := Aside0.mk (below_step (by repeat (first | (with_reducible first | exact HB.out | apply below_alloc | apply pw_below_drewN | apply below_drew1 | refine below_set ?_ GE329.out | refine below_set ?_ GE330.out | refine below_set ?_ GE339.out | refine below_set ?_ GE349.out) | exact HB.out)) hb)
        clear BK329
        clear BK330
        clear BK339
        clear BK349
        clear HB
        have BK329 := n0_
        have BK330 := n1_
        have BK339 := n2_
        have BK349 := n3_
        have HB := n4_
        clear n0_ n1_ n2_ n3_ n4_
        (try clear hb)
        (try clear hb2)
        (try clear hk)
        (try clear hi)
        refine hK.out _ _ ⟨(blk_cell BK339.out 0).trans rfl, (blk_cell BK339.out 1).trans rfl, (blk_cell BK339.out 2).trans rfl, (blk_cell BK339.out 3).trans rfl, (blk_cell BK339.out 4).trans rfl, (blk_cell BK339.out 5).trans rfl, (blk_cell BK330.out 0).trans rfl, (blk_cell BK330.out 1).trans rfl⟩ (fun hHeld => ?_)
        clear hK K
        refine norm_ (a' := ?_) ?_ ?_
        rotate_left
        ·show Act.put _ (some 76) _ = _
         simp only [Act.put, List.setIfInBounds_toArray, List.set_cons_zero, List.set_cons_succ, i64_w, i32_w]
         rfl
        refine two_ (i := 6) (j := 10) (Ni := some 81) (Nj := some 19) #[true, true, true, true, true, true, true, false, false, false, false, false, false] #[true, true, true, true, true, true, false, false, false, false, true, false, false] rfl rfl rfl rfl (two_of HT_.out (by kernel_rfl)) (by decide) (by decide) (fun K hK => ?_) (fun K hK => ?_)
        ·skip
         refine goes_ Try.func11 (by kernel_rfl) rfl #[.agg #[.bool t350, .int .i64 t351, .bool t352, .int .i64 t353, .int .u64 t354, .int .u64 t355], .agg #[.int .i64 a1_0, .int .i64 ((ji9) % 1099511627776)], .int .i64 (Int.tmod a2 1099511627776), .int .i64 a3, .int .i64 a4] (by rfl) rfl rfl (by (try simp only [List.map_toArray, List.map_cons, List.map_nil]); first | done | (simp only [hji9]; rfl) | rfl | (simp only [List.length_drop, List.length_take]; rfl)) ?_
         with_reducible refine (codel_State_Look.calls k t350 t351 t352 t353 t354 t355 a1_0 ((ji9) % 1099511627776) (Int.tmod a2 1099511627776) a3 a4 t356 t357 t358 t359 t360 t361 t362 _ A20.out).mono ?_
         rintro e w46 ⟨rfl, hb⟩
         refine ⟨_, rfl, ?_⟩
         have n0_ := Aside0.mk (blk_below (by exact BK329.out) hb)
         have n1_ := Aside0.mk (blk_below (by exact BK330.out) hb)
         have n2_ := Aside0.mk (blk_below (by exact BK339.out) hb)
         have n3_ := Aside0.mk (blk_below (by exact BK349.out) hb)
         have n4_ := Aside0.mk (below_step (by repeat (first | (with_reducible first | exact HB.out | apply below_alloc | apply pw_below_drewN | apply below_drew1 | refine below_set ?_ GE329.out | refine below_set ?_ GE330.out | refine below_set ?_ GE339.out | refine below_set ?_ GE349.out) | exact HB.out)) hb)
         clear BK329
         clear BK330
         clear BK339
         clear BK349
         clear HB
         have BK329 := n0_
         have BK330 := n1_
         have BK339 := n2_
         have BK349 := n3_
         have HB := n4_
         clear n0_ n1_ n2_ n3_ n4_
         (try clear hb)
         (try clear hb2)
         (try clear hk)
         (try clear hi)
         refine hK.out _ _ ⟨(blk_cell BK339.out 0).trans rfl, (blk_cell BK339.out 1).trans rfl, (blk_cell BK339.out 2).trans rfl, (blk_cell BK339.out 3).trans rfl, (blk_cell BK339.out 4).trans rfl, (blk_cell BK339.out 5).trans rfl, (blk_cell BK330.out 0).trans rfl, (blk_cell BK330.out 1).trans rfl⟩ (fun hHeld => ?_)
         clear hK K
         refine norm_ (a' := ?_) ?_ ?_
         rotate_left
         ·show Act.put _ (some 81) _ = _
          simp only [Act.put, List.setIfInBounds_toArray, List.set_cons_zero, List.set_cons_succ, i64_w, i32_w]
          rfl
         refine pure_ (i := 7) (N := some 74) (v := ?_) (a' := ?_) #[true, true, true, true, true, true, true, true, false, false, false, false, false] rfl rfl (any_of HT_.out (by kernel_rfl)) (fun _ _ _ h => h) (Or.inl ⟨by rfl, ?_⟩) ?_ ?_
         rotate_left
         ·intro w'
          go_simp
          with_reducible rfl
         rotate_left
         ·simp only [Act.put, List.setIfInBounds_toArray, List.set_cons_zero, List.set_cons_succ, i64_w, i32_w]
          rfl
         refine pure_ (i := 8) (N := some 82) (v := ?_) (a' := ?_) #[true, true, true, true, true, true, true, true, true, false, false, false, false] rfl rfl (any_of HT_.out (by kernel_rfl)) (fun _ _ _ h => h) (Or.inl ⟨by rfl, ?_⟩) ?_ ?_
         rotate_left
         ·intro w'
          go_simp
          with_reducible rfl
         rotate_left
         ·simp only [Act.put, List.setIfInBounds_toArray, List.set_cons_zero, List.set_cons_succ, i64_w, i32_w]
          rfl
         refine pure_ (i := 9) (N := some 83) (v := ?_) (a' := ?_) #[true, true, true, true, true, true, true, true, true, true, false, false, false] rfl rfl (any_of HT_.out (by kernel_rfl)) (fun _ _ _ h => h) (Or.inl ⟨by rfl, ?_⟩) ?_ ?_
         rotate_left
         ·intro w'
          go_simp
          with_reducible rfl
         rotate_left
         ·simp only [Act.put, List.setIfInBounds_toArray, List.set_cons_zero, List.set_cons_succ, i64_w, i32_w]
          rfl
         refine one_ (i := 10) (N := some 19) #[true, true, true, true, true, true, true, true, true, true, true, false, false] rfl rfl (one_of HT_.out (by kernel_rfl)) (by decide) (fun K hK => ?_)
         refine box_step ?hg (N := 19) ?hd (cs := #[.bool false, .int .i64 0, .bool false, .int .i64 0, .int .u64 0, .int .u64 0]) (t := 24) ?hr ?_; (case hd => rfl); (case hg => rfl); (case hr => first | (go_simp; done) | (go_simp; rfl))
         intro gb363 hg w47 hbox hb
         have n0_ := Aside0.mk (blk_below (by exact BK329.out) hb)
         have n1_ := Aside0.mk (blk_below (by exact BK330.out) hb)
         have n2_ := Aside0.mk (blk_below (by exact BK339.out) hb)
         have n3_ := Aside0.mk (blk_below (by exact BK349.out) hb)
         have n4_ := Aside0.mk (below_step (by repeat (first | (with_reducible first | exact HB.out | apply below_alloc | apply pw_below_drewN | apply below_drew1 | refine below_set ?_ GE329.out | refine below_set ?_ GE330.out | refine below_set ?_ GE339.out | refine below_set ?_ GE349.out) | exact HB.out)) hb)
         have n5_ := Aside0.mk (hbox)
         have n6_ := Aside0.mk ((by rw [hg]; exact (below_size (by repeat (first | (with_reducible first | exact HB.out | apply below_alloc | apply pw_below_drewN | apply below_drew1 | refine below_set ?_ GE329.out | refine below_set ?_ GE330.out | refine below_set ?_ GE339.out | refine below_set ?_ GE349.out) | exact HB.out))) : w.heap.size ≤ gb363))
         have n7_ := Aside0.mk ((by rw [hg]; exact (below_size (by repeat (first | (with_reducible first | exact HB.out | apply below_alloc | apply pw_below_drewN | apply below_drew1 | refine below_set ?_ GE329.out | refine below_set ?_ GE330.out | refine below_set ?_ GE339.out | refine below_set ?_ GE349.out) | exact HB.out))) : w.heap.size ≤ gb363))
         have n8_ := Aside0.mk ((by rw [hg]; exact Nat.ne_of_lt (blk_lt (by exact BK329.out)) : gb329 ≠ gb363))
         have n9_ := Aside0.mk ((by rw [hg]; exact Nat.ne_of_gt (blk_lt (by exact BK329.out)) : gb363 ≠ gb329))
         have n10_ := Aside0.mk ((by rw [hg]; exact Nat.ne_of_lt (blk_lt (by exact BK330.out)) : gb330 ≠ gb363))
         have n11_ := Aside0.mk ((by rw [hg]; exact Nat.ne_of_gt (blk_lt (by exact BK330.out)) : gb363 ≠ gb330))
         have n12_ := Aside0.mk ((by rw [hg]; exact Nat.ne_of_lt (blk_lt (by exact BK339.out)) : gb339 ≠ gb363))
         have n13_ := Aside0.mk ((by rw [hg]; exact Nat.ne_of_gt (blk_lt (by exact BK339.out)) : gb363 ≠ gb339))
         have n14_ := Aside0.mk ((by rw [hg]; exact Nat.ne_of_lt (blk_lt (by exact BK349.out)) : gb349 ≠ gb363))
         have n15_ := Aside0.mk ((by rw [hg]; exact Nat.ne_of_gt (blk_lt (by exact BK349.out)) : gb363 ≠ gb349))
         clear BK329
         clear BK330
         clear BK339
         clear BK349
         clear HB
         have BK329 := n0_
         have BK330 := n1_
         have BK339 := n2_
         have BK349 := n3_
         have HB := n4_
         have BK363 := n5_
         have GW363 := n6_
         have GE363 := n7_
         have NB329_363 := n8_
         have NB363_329 := n9_
         have NB330_363 := n10_
         have NB363_330 := n11_
         have NB339_363 := n12_
         have NB363_339 := n13_
         have NB349_363 := n14_
         have NB363_349 := n15_
         clear n0_ n1_ n2_ n3_ n4_ n5_ n6_ n7_ n8_ n9_ n10_ n11_ n12_ n13_ n14_ n15_
         clear hb hbox hg
         refine hK.out _ _ ⟨(blk_cell BK339.out 0).trans rfl, (blk_cell BK339.out 1).trans rfl, (blk_cell BK339.out 2).trans rfl, (blk_cell BK339.out 3).trans rfl, (blk_cell BK339.out 4).trans rfl, (blk_cell BK339.out 5).trans rfl, (blk_cell BK330.out 0).trans rfl, (blk_cell BK330.out 1).trans rfl⟩ (fun hHeld => ?_)
         clear hK K
         refine norm_ (a' := ?_) ?_ ?_
         rotate_left
         ·show Act.put _ (some 19) _ = _
          simp only [Act.put, List.setIfInBounds_toArray, List.set_cons_zero, List.set_cons_succ, i64_w, i32_w]
          rfl
         exact norm_ (by simp only [putAll, Act.put, List.setIfInBounds_toArray, List.set_cons_zero, List.set_cons_succ]) (hCont (gb363) _ ⟨hHeld, (by exact BK329.out), (by exact BK330.out), (by exact BK339.out), (by exact BK349.out), (by exact BK363.out), GW363.out, GE363.out, NB329_363.out, NB363_329.out, NB330_363.out, NB363_330.out, NB339_363.out, NB363_339.out, NB349_363.out, NB363_349.out, (by repeat (first | (with_reducible first | exact HB.out | apply below_alloc | apply pw_below_drewN | apply below_drew1 | refine below_set ?_ GE329.out | refine below_set ?_ GE330.out | refine below_set ?_ GE339.out | refine below_set ?_ GE349.out | refine below_set ?_ GE363.out) | exact HB.out))⟩)
        ·skip
         refine box_step ?hg (N := 19) ?hd (cs := #[.bool false, .int .i64 0, .bool false, .int .i64 0, .int .u64 0, .int .u64 0]) (t := 24) ?hr ?_; (case hd => rfl); (case hg => rfl); (case hr => first | (go_simp; done) | (go_simp; rfl))
         intro gb363 hg w46 hbox hb
         have n0_ := Aside0.mk (blk_below (by exact BK329.out) hb)
         have n1_ := Aside0.mk (blk_below (by exact BK330.out) hb)
         have n2_ := Aside0.mk (blk_below (by exact BK339.out) hb)
         have n3_ := Aside0.mk (blk_below (by exact BK349.out) hb)
         have n4_ := Aside0.mk (below_step (by repeat (first | (with_reducible first | exact HB.out | apply below_alloc | apply pw_below_drewN | apply below_drew1 | refine below_set ?_ GE329.out | refine below_set ?_ GE330.out | refine below_set ?_ GE339.out | refine below_set ?_ GE349.out) | exact HB.out)) hb)
         have n5_ := Aside0.mk (hbox)
         have n6_ := Aside0.mk ((by rw [hg]; exact (below_size (by repeat (first | (with_reducible first | exact HB.out | apply below_alloc | apply pw_below_drewN | apply below_drew1 | refine below_set ?_ GE329.out | refine below_set ?_ GE330.out | refine below_set ?_ GE339.out | refine below_set ?_ GE349.out) | exact HB.out))) : w.heap.size ≤ gb363))
         have n7_ := Aside0.mk ((by rw [hg]; exact (below_size (by repeat (first | (with_reducible first | exact HB.out | apply below_alloc | apply pw_below_drewN | apply below_drew1 | refine below_set ?_ GE329.out | refine below_set ?_ GE330.out | refine below_set ?_ GE339.out | refine below_set ?_ GE349.out) | exact HB.out))) : w.heap.size ≤ gb363))
         have n8_ := Aside0.mk ((by rw [hg]; exact Nat.ne_of_lt (blk_lt (by exact BK329.out)) : gb329 ≠ gb363))
         have n9_ := Aside0.mk ((by rw [hg]; exact Nat.ne_of_gt (blk_lt (by exact BK329.out)) : gb363 ≠ gb329))
         have n10_ := Aside0.mk ((by rw [hg]; exact Nat.ne_of_lt (blk_lt (by exact BK330.out)) : gb330 ≠ gb363))
         have n11_ := Aside0.mk ((by rw [hg]; exact Nat.ne_of_gt (blk_lt (by exact BK330.out)) : gb363 ≠ gb330))
         have n12_ := Aside0.mk ((by rw [hg]; exact Nat.ne_of_lt (blk_lt (by exact BK339.out)) : gb339 ≠ gb363))
         have n13_ := Aside0.mk ((by rw [hg]; exact Nat.ne_of_gt (blk_lt (by exact BK339.out)) : gb363 ≠ gb339))
         have n14_ := Aside0.mk ((by rw [hg]; exact Nat.ne_of_lt (blk_lt (by exact BK349.out)) : gb349 ≠ gb363))
         have n15_ := Aside0.mk ((by rw [hg]; exact Nat.ne_of_gt (blk_lt (by exact BK349.out)) : gb363 ≠ gb349))
         clear BK329
         clear BK330
         clear BK339
         clear BK349
         clear HB
         have BK329 := n0_
         have BK330 := n1_
         have BK339 := n2_
         have BK349 := n3_
         have HB := n4_
         have BK363 := n5_
         have GW363 := n6_
         have GE363 := n7_
         have NB329_363 := n8_
         have NB363_329 := n9_
         have NB330_363 := n10_
         have NB363_330 := n11_
         have NB339_363 := n12_
         have NB363_339 := n13_
         have NB349_363 := n14_
         have NB363_349 := n15_
         clear n0_ n1_ n2_ n3_ n4_ n5_ n6_ n7_ n8_ n9_ n10_ n11_ n12_ n13_ n14_ n15_
         clear hb hbox hg
         refine hK.out _ _ ⟨(blk_cell BK339.out 0).trans rfl, (blk_cell BK339.out 1).trans rfl, (blk_cell BK339.out 2).trans rfl, (blk_cell BK339.out 3).trans rfl, (blk_cell BK339.out 4).trans rfl, (blk_cell BK339.out 5).trans rfl, (blk_cell BK330.out 0).trans rfl, (blk_cell BK330.out 1).trans rfl⟩ (fun hHeld => ?_)
         clear hK K
         refine norm_ (a' := ?_) ?_ ?_
         rotate_left
         ·show Act.put _ (some 19) _ = _
          simp only [Act.put, List.setIfInBounds_toArray, List.set_cons_zero, List.set_cons_succ, i64_w, i32_w]
          rfl
         refine one_ (i := 6) (N := some 81) #[true, true, true, true, true, true, true, false, false, false, true, false, false] rfl rfl (one_of HT_.out (by kernel_rfl)) (by decide) (fun K hK => ?_)
         refine goes_ Try.func11 (by kernel_rfl) rfl #[.agg #[.bool t350, .int .i64 t351, .bool t352, .int .i64 t353, .int .u64 t354, .int .u64 t355], .agg #[.int .i64 a1_0, .int .i64 ((ji9) % 1099511627776)], .int .i64 (Int.tmod a2 1099511627776), .int .i64 a3, .int .i64 a4] (by rfl) rfl rfl (by (try simp only [List.map_toArray, List.map_cons, List.map_nil]); first | done | (simp only [hji9]; rfl) | rfl | (simp only [List.length_drop, List.length_take]; rfl)) ?_
         with_reducible refine (codel_State_Look.calls k t350 t351 t352 t353 t354 t355 a1_0 ((ji9) % 1099511627776) (Int.tmod a2 1099511627776) a3 a4 t356 t357 t358 t359 t360 t361 t362 _ A20.out).mono ?_
         rintro e w47 ⟨rfl, hb⟩
         refine ⟨_, rfl, ?_⟩
         have n0_ := Aside0.mk (blk_below (by exact BK329.out) hb)
         have n1_ := Aside0.mk (blk_below (by exact BK330.out) hb)
         have n2_ := Aside0.mk (blk_below (by exact BK339.out) hb)
         have n3_ := Aside0.mk (blk_below (by exact BK349.out) hb)
         have n4_ := Aside0.mk (blk_below (by exact BK363.out) hb)
         have n5_ := Aside0.mk (below_step (by repeat (first | (with_reducible first | exact HB.out | apply below_alloc | apply pw_below_drewN | apply below_drew1 | refine below_set ?_ GE329.out | refine below_set ?_ GE330.out | refine below_set ?_ GE339.out | refine below_set ?_ GE349.out | refine below_set ?_ GE363.out) | exact HB.out)) hb)
         clear BK329
         clear BK330
         clear BK339
         clear BK349
         clear BK363
         clear HB
         have BK329 := n0_
         have BK330 := n1_
         have BK339 := n2_
         have BK349 := n3_
         have BK363 := n4_
         have HB := n5_
         clear n0_ n1_ n2_ n3_ n4_ n5_
         (try clear hb)
         (try clear hb2)
         (try clear hk)
         (try clear hi)
         refine hK.out _ _ ⟨(blk_cell BK339.out 0).trans rfl, (blk_cell BK339.out 1).trans rfl, (blk_cell BK339.out 2).trans rfl, (blk_cell BK339.out 3).trans rfl, (blk_cell BK339.out 4).trans rfl, (blk_cell BK339.out 5).trans rfl, (blk_cell BK330.out 0).trans rfl, (blk_cell BK330.out 1).trans rfl⟩ (fun hHeld => ?_)
         clear hK K
         refine norm_ (a' := ?_) ?_ ?_
         rotate_left
         ·show Act.put _ (some 81) _ = _
          simp only [Act.put, List.setIfInBounds_toArray, List.set_cons_zero, List.set_cons_succ, i64_w, i32_w]
          rfl
         refine pure_ (i := 7) (N := some 74) (v := ?_) (a' := ?_) #[true, true, true, true, true, true, true, true, false, false, true, false, false] rfl rfl (any_of HT_.out (by kernel_rfl)) (fun _ _ _ h => h) (Or.inl ⟨by rfl, ?_⟩) ?_ ?_
         rotate_left
         ·intro w'
          go_simp
          with_reducible rfl
         rotate_left
         ·simp only [Act.put, List.setIfInBounds_toArray, List.set_cons_zero, List.set_cons_succ, i64_w, i32_w]
          rfl
         refine pure_ (i := 8) (N := some 82) (v := ?_) (a' := ?_) #[true, true, true, true, true, true, true, true, true, false, true, false, false] rfl rfl (any_of HT_.out (by kernel_rfl)) (fun _ _ _ h => h) (Or.inl ⟨by rfl, ?_⟩) ?_ ?_
         rotate_left
         ·intro w'
          go_simp
          with_reducible rfl
         rotate_left
         ·simp only [Act.put, List.setIfInBounds_toArray, List.set_cons_zero, List.set_cons_succ, i64_w, i32_w]
          rfl
         refine pure_ (i := 9) (N := some 83) (v := ?_) (a' := ?_) #[true, true, true, true, true, true, true, true, true, true, true, false, false] rfl rfl (any_of HT_.out (by kernel_rfl)) (fun _ _ _ h => h) (Or.inl ⟨by rfl, ?_⟩) ?_ ?_
         rotate_left
         ·intro w'
          go_simp
          with_reducible rfl
         rotate_left
         ·simp only [Act.put, List.setIfInBounds_toArray, List.set_cons_zero, List.set_cons_succ, i64_w, i32_w]
          rfl
         exact norm_ (by simp only [putAll, Act.put, List.setIfInBounds_toArray, List.set_cons_zero, List.set_cons_succ]) (hCont (gb363) _ ⟨hHeld, (by exact BK329.out), (by exact BK330.out), (by exact BK339.out), (by exact BK349.out), (by exact BK363.out), GW363.out, GE363.out, NB329_363.out, NB363_329.out, NB330_363.out, NB363_330.out, NB339_363.out, NB363_339.out, NB349_363.out, NB363_349.out, (by repeat (first | (with_reducible first | exact HB.out | apply below_alloc | apply pw_below_drewN | apply below_drew1 | refine below_set ?_ GE329.out | refine below_set ?_ GE330.out | refine below_set ?_ GE339.out | refine below_set ?_ GE349.out | refine below_set ?_ GE363.out) | exact HB.out))⟩)
       ·skip
        refine box_step ?hg (N := 19) ?hd (cs := #[.bool false, .int .i64 0, .bool false, .int .i64 0, .int .u64 0, .int .u64 0]) (t := 24) ?hr ?_; (case hd => rfl); (case hg => rfl); (case hr => first | (go_simp; done) | (go_simp; rfl))
        intro gb363 hg w45 hbox hb
        have n0_ := Aside0.mk (blk_below (by exact BK329.out) hb)
        have n1_ := Aside0.mk (blk_below (by exact BK330.out) hb)
        have n2_ := Aside0.mk (blk_below (by exact BK339.out) hb)
        have n3_ := Aside0.mk (blk_below (by exact BK349.out) hb)
        have n4_ := Aside0.mk (below_step (by repeat (first | (with_reducible first | exact HB.out | apply below_alloc | apply pw_below_drewN | apply below_drew1 | refine below_set ?_ GE329.out | refine below_set ?_ GE330.out | refine below_set ?_ GE339.out | refine below_set ?_ GE349.out) | exact HB.out)) hb)
        have n5_ := Aside0.mk (hbox)
        have n6_ := Aside0.mk ((by rw [hg]; exact (below_size (by repeat (first | (with_reducible first | exact HB.out | apply below_alloc | apply pw_below_drewN | apply below_drew1 | refine below_set ?_ GE329.out | refine below_set ?_ GE330.out | refine below_set ?_ GE339.out | refine below_set ?_ GE349.out) | exact HB.out))) : w.heap.size ≤ gb363))
        have n7_ := Aside0.mk ((by rw [hg]; exact (below_size (by repeat (first | (with_reducible first | exact HB.out | apply below_alloc | apply pw_below_drewN | apply below_drew1 | refine below_set ?_ GE329.out | refine below_set ?_ GE330.out | refine below_set ?_ GE339.out | refine below_set ?_ GE349.out) | exact HB.out))) : w.heap.size ≤ gb363))
        have n8_ := Aside0.mk ((by rw [hg]; exact Nat.ne_of_lt (blk_lt (by exact BK329.out)) : gb329 ≠ gb363))
        have n9_ := Aside0.mk ((by rw [hg]; exact Nat.ne_of_gt (blk_lt (by exact BK329.out)) : gb363 ≠ gb329))
        have n10_ := Aside0.mk ((by rw [hg]; exact Nat.ne_of_lt (blk_lt (by exact BK330.out)) : gb330 ≠ gb363))
        have n11_ := Aside0.mk ((by rw [hg]; exact Nat.ne_of_gt (blk_lt (by exact BK330.out)) : gb363 ≠ gb330))
        have n12_ := Aside0.mk ((by rw [hg]; exact Nat.ne_of_lt (blk_lt (by exact BK339.out)) : gb339 ≠ gb363))
        have n13_ := Aside0.mk ((by rw [hg]; exact Nat.ne_of_gt (blk_lt (by exact BK339.out)) : gb363 ≠ gb339))
        have n14_ := Aside0.mk ((by rw [hg]; exact Nat.ne_of_lt (blk_lt (by exact BK349.out)) : gb349 ≠ gb363))
        have n15_ := Aside0.mk ((by rw [hg]; exact Nat.ne_of_gt (blk_lt (by exact BK349.out)) : gb363 ≠ gb349))
        clear BK329
        clear BK330
        clear BK339
        clear BK349
        clear HB
        have BK329 := n0_
        have BK330 := n1_
        have BK339 := n2_
        have BK349 := n3_
        have HB := n4_
        have BK363 := n5_
        have GW363 := n6_
        have GE363 := n7_
        have NB329_363 := n8_
        have NB363_329 := n9_
        have NB330_363 := n10_
        have NB363_330 := n11_
        have NB339_363 := n12_
        have NB363_339 := n13_
        have NB349_363 := n14_
        have NB363_349 := n15_
        clear n0_ n1_ n2_ n3_ n4_ n5_ n6_ n7_ n8_ n9_ n10_ n11_ n12_ n13_ n14_ n15_
        clear hb hbox hg
        refine hK.out _ _ ⟨(blk_cell BK339.out 0).trans rfl, (blk_cell BK339.out 1).trans rfl, (blk_cell BK339.out 2).trans rfl, (blk_cell BK339.out 3).trans rfl, (blk_cell BK339.out 4).trans rfl, (blk_cell BK339.out 5).trans rfl, (blk_cell BK330.out 0).trans rfl, (blk_cell BK330.out 1).trans rfl⟩ (fun hHeld => ?_)
        clear hK K
        refine norm_ (a' := ?_) ?_ ?_
        rotate_left
        ·show Act.put _ (some 19) _ = _
         simp only [Act.put, List.setIfInBounds_toArray, List.set_cons_zero, List.set_cons_succ, i64_w, i32_w]
         rfl
        refine one_ (i := 1) (N := some 76) #[true, true, true, true, true, true, false, false, false, false, true, false, false] rfl rfl (one_of HT_.out (by kernel_rfl)) (by decide) (fun K hK => ?_)
        refine goes_ Try.func15 (by kernel_rfl) rfl #[.agg #[.bool t332, .int .i64 t333, .bool t334, .int .i64 t335, .int .u64 t336, .int .u64 t337]] (by rfl) rfl rfl (by (try simp only [List.map_toArray, List.map_cons, List.map_nil]); first | done | rfl | (simp only [List.length_drop, List.length_take]; rfl)) ?_
        with_reducible refine (codel_State_Empty.calls t332 t333 t334 t335 t336 t337 t350 t351 t352 t353 t354 t355 _ A19.out).mono ?_
        rintro e w46 ⟨rfl, hb⟩
        refine ⟨_, rfl, ?_⟩
        have n0_ := Aside0.mk (blk_below (by exact BK329.out) hb)
        have n1_ := Aside0.mk (blk_below (by exact BK330.out) hb)
        have n2_ := Aside0.mk (blk_below (by exact BK339.out) hb)
        have n3_ := Aside0.mk (blk_below (by exact BK349.out) hb)
        have n4_ := Aside0.mk (blk_below (by exact BK363.out) hb)
        have n5_ := Aside0.mk (below_step (by repeat (first | (with_reducible first | exact HB.out | apply below_alloc | apply pw_below_drewN | apply below_drew1 | refine below_set ?_ GE329.out | refine below_set ?_ GE330.out | refine below_set ?_ GE339.out | refine below_set ?_ GE349.out | refine below_set ?_ GE363.out) | exact HB.out)) hb)
        clear BK329
        clear BK330
        clear BK339
        clear BK349
        clear BK363
        clear HB
        have BK329 := n0_
        have BK330 := n1_
        have BK339 := n2_
        have BK349 := n3_
        have BK363 := n4_
        have HB := n5_
        clear n0_ n1_ n2_ n3_ n4_ n5_
        (try clear hb)
        (try clear hb2)
        (try clear hk)
        (try clear hi)
        refine hK.out _ _ ⟨(blk_cell BK339.out 0).trans rfl, (blk_cell BK339.out 1).trans rfl, (blk_cell BK339.out 2).trans rfl, (blk_cell BK339.out 3).trans rfl, (blk_cell BK339.out 4).trans rfl, (blk_cell BK339.out 5).trans rfl, (blk_cell BK330.out 0).trans rfl, (blk_cell BK330.out 1).trans rfl⟩ (fun hHeld => ?_)
        clear hK K
        refine norm_ (a' := ?_) ?_ ?_
        rotate_left
        ·show Act.put _ (some 76) _ = _
         simp only [Act.put, List.setIfInBounds_toArray, List.set_cons_zero, List.set_cons_succ, i64_w, i32_w]
         rfl
        refine one_ (i := 6) (N := some 81) #[true, true, true, true, true, true, true, false, false, false, true, false, false] rfl rfl (one_of HT_.out (by kernel_rfl)) (by decide) (fun K hK => ?_)
        refine goes_ Try.func11 (by kernel_rfl) rfl #[.agg #[.bool t350, .int .i64 t351, .bool t352, .int .i64 t353, .int .u64 t354, .int .u64 t355], .agg #[.int .i64 a1_0, .int .i64 ((ji9) % 1099511627776)], .int .i64 (Int.tmod a2 1099511627776), .int .i64 a3, .int .i64 a4] (by rfl) rfl rfl (by (try simp only [List.map_toArray, List.map_cons, List.map_nil]); first | done | (simp only [hji9]; rfl) | rfl | (simp only [List.length_drop, List.length_take]; rfl)) ?_
        with_reducible refine (codel_State_Look.calls k t350 t351 t352 t353 t354 t355 a1_0 ((ji9) % 1099511627776) (Int.tmod a2 1099511627776) a3 a4 t356 t357 t358 t359 t360 t361 t362 _ A20.out).mono ?_
        rintro e w47 ⟨rfl, hb⟩
        refine ⟨_, rfl, ?_⟩
        have n0_ := Aside0.mk (blk_below (by exact BK329.out) hb)
        have n1_ := Aside0.mk (blk_below (by exact BK330.out) hb)
        have n2_ := Aside0.mk (blk_below (by exact BK339.out) hb)
        have n3_ := Aside0.mk (blk_below (by exact BK349.out) hb)
        have n4_ := Aside0.mk (blk_below (by exact BK363.out) hb)
        have n5_ := Aside0.mk (below_step (by repeat (first | (with_reducible first | exact HB.out | apply below_alloc | apply pw_below_drewN | apply below_drew1 | refine below_set ?_ GE329.out | refine below_set ?_ GE330.out | refine below_set ?_ GE339.out | refine below_set ?_ GE349.out | refine below_set ?_ GE363.out) | exact HB.out)) hb)
        clear BK329
        clear BK330
        clear BK339
        clear BK349
        clear BK363
        clear HB
        have BK329 := n0_
        have BK330 := n1_
        have BK339 := n2_
        have BK349 := n3_
        have BK363 := n4_
        have HB := n5_
        clear n0_ n1_ n2_ n3_ n4_ n5_
        (try clear hb)
        (try clear hb2)
        (try clear hk)
        (try clear hi)
        refine hK.out _ _ ⟨(blk_cell BK339.out 0).trans rfl, (blk_cell BK339.out 1).trans rfl, (blk_cell BK339.out 2).trans rfl, (blk_cell BK339.out 3).trans rfl, (blk_cell BK339.out 4).trans rfl, (blk_cell BK339.out 5).trans rfl, (blk_cell BK330.out 0).trans rfl, (blk_cell BK330.out 1).trans rfl⟩ (fun hHeld => ?_)
        clear hK K
        refine norm_ (a' := ?_) ?_ ?_
        rotate_left
        ·show Act.put _ (some 81) _ = _
         simp only [Act.put, List.setIfInBounds_toArray, List.set_cons_zero, List.set_cons_succ, i64_w, i32_w]
         rfl
        refine pure_ (i := 7) (N := some 74) (v := ?_) (a' := ?_) #[true, true, true, true, true, true, true, true, false, false, true, false, false] rfl rfl (any_of HT_.out (by kernel_rfl)) (fun _ _ _ h => h) (Or.inl ⟨by rfl, ?_⟩) ?_ ?_
        rotate_left
        ·intro w'
         go_simp
         with_reducible rfl
        rotate_left
        ·simp only [Act.put, List.setIfInBounds_toArray, List.set_cons_zero, List.set_cons_succ, i64_w, i32_w]
         rfl
        refine pure_ (i := 8) (N := some 82) (v := ?_) (a' := ?_) #[true, true, true, true, true, true, true, true, true, false, true, false, false] rfl rfl (any_of HT_.out (by kernel_rfl)) (fun _ _ _ h => h) (Or.inl ⟨by rfl, ?_⟩) ?_ ?_
        rotate_left
        ·intro w'
         go_simp
         with_reducible rfl
        rotate_left
        ·simp only [Act.put, List.setIfInBounds_toArray, List.set_cons_zero, List.set_cons_succ, i64_w, i32_w]
         rfl
        refine pure_ (i := 9) (N := some 83) (v := ?_) (a' := ?_) #[true, true, true, true, true, true, true, true, true, true, true, false, false] rfl rfl (any_of HT_.out (by kernel_rfl)) (fun _ _ _ h => h) (Or.inl ⟨by rfl, ?_⟩) ?_ ?_
        rotate_left
        ·intro w'
         go_simp
         with_reducible rfl
        rotate_left
        ·simp only [Act.put, List.setIfInBounds_toArray, List.set_cons_zero, List.set_cons_succ, i64_w, i32_w]
         rfl
        exact norm_ (by simp only [putAll, Act.put, List.setIfInBounds_toArray, List.set_cons_zero, List.set_cons_succ]) (hCont (gb363) _ ⟨hHeld, (by exact BK329.out), (by exact BK330.out), (by exact BK339.out), (by exact BK349.out), (by exact BK363.out), GW363.out, GE363.out, NB329_363.out, NB363_329.out, NB330_363.out, NB363_330.out, NB339_363.out, NB363_339.out, NB349_363.out, NB363_349.out, (by repeat (first | (with_reducible first | exact HB.out | apply below_alloc | apply pw_below_drewN | apply below_drew1 | refine below_set ?_ GE329.out | refine below_set ?_ GE330.out | refine below_set ?_ GE339.out | refine below_set ?_ GE349.out | refine below_set ?_ GE363.out) | exact HB.out))⟩)
      rintro gb363 w48 ⟨hS_, h0_, h1_, h2_, h3_, h4_, h5_, h6_, h7_, h8_, h9_, h10_, h11_, h12_, h13_, h14_, h15_⟩
      have n0_ : Aside0 (w48.heap[gb329]? = some (.cells #[.bool a0_0, .int .i64 a0_1, .bool a0_2, .int .i64 a0_3, .int .u64 a0_4, .int .u64 a0_5] 24 (0, 0))) := ⟨h0_⟩
      have n1_ : Aside0 (w48.heap[gb330]? = some (.cells #[.int .i64 a1_0, .int .i64 ((ji9) % 1099511627776)] 26 (0, 0))) := ⟨h1_⟩
      have n2_ : Aside0 (w48.heap[gb339]? = some (.cells #[.bool t332, .int .i64 t333, .bool t334, .int .i64 t335, .int .u64 t336, .int .u64 t337] 24 (0, 0))) := ⟨h2_⟩
      have n3_ : Aside0 (w48.heap[gb349]? = some (.cells #[.bool t342, .int .i64 t343, .bool t344, .int .i64 t345, .int .u64 t346, .int .u64 t347] 24 (0, 0))) := ⟨h3_⟩
      have n4_ : Aside0 (w48.heap[gb363]? = some (.cells #[.bool false, .int .i64 0, .bool false, .int .i64 0, .int .u64 0, .int .u64 0] 24 (0, 0))) := ⟨h4_⟩
      have n5_ : Aside0 (w.heap.size ≤ gb363) := ⟨h5_⟩
      have n6_ : Aside0 (w.heap.size ≤ gb363) := ⟨h6_⟩
      have n7_ : Aside0 (gb329 ≠ gb363) := ⟨h7_⟩
      have n8_ : Aside0 (gb363 ≠ gb329) := ⟨h8_⟩
      have n9_ : Aside0 (gb330 ≠ gb363) := ⟨h9_⟩
      have n10_ : Aside0 (gb363 ≠ gb330) := ⟨h10_⟩
      have n11_ : Aside0 (gb339 ≠ gb363) := ⟨h11_⟩
      have n12_ : Aside0 (gb363 ≠ gb339) := ⟨h12_⟩
      have n13_ : Aside0 (gb349 ≠ gb363) := ⟨h13_⟩
      have n14_ : Aside0 (gb363 ≠ gb349) := ⟨h14_⟩
      have n15_ : Aside0 (Below w.heap.size w w48) := ⟨h15_⟩
      clear BK329
      clear BK330
      clear BK339
      clear BK349
      clear HB
      clear h0_ h1_ h2_ h3_ h4_ h5_ h6_ h7_ h8_ h9_ h10_ h11_ h12_ h13_ h14_ h15_
      have BK329 := n0_
      have BK330 := n1_
      have BK339 := n2_
      have BK349 := n3_
      have BK363 := n4_
      have GW363 := n5_
      have GE363 := n6_
      have NB329_363 := n7_
      have NB363_329 := n8_
      have NB330_363 := n9_
      have NB363_330 := n10_
      have NB339_363 := n11_
      have NB363_339 := n12_
      have NB349_363 := n13_
      have NB363_349 := n14_
      have HB := n15_
      clear n0_ n1_ n2_ n3_ n4_ n5_ n6_ n7_ n8_ n9_ n10_ n11_ n12_ n13_ n14_ n15_
      have hHeld : w48.cell? ⟨gb339, 0, none⟩ = some (.bool t332) ∧ w48.cell? ⟨gb339, 1, none⟩ = some (.int .i64 t333) ∧ w48.cell? ⟨gb339, 2, none⟩ = some (.bool t334) ∧ w48.cell? ⟨gb339, 3, none⟩ = some (.int .i64 t335) ∧ w48.cell? ⟨gb339, 4, none⟩ = some (.int .u64 t336) ∧ w48.cell? ⟨gb339, 5, none⟩ = some (.int .u64 t337) ∧ w48.cell? ⟨gb330, 0, none⟩ = some (.int .i64 a1_0) ∧ w48.cell? ⟨gb330, 1, none⟩ = some (.int .i64 ((ji9) % 1099511627776)) := hS_
      refine norm_ (a' := ?_) ?_ ?_
      rotate_left
      ·simp only [putAll, Act.put, List.setIfInBounds_toArray, List.set_cons_zero, List.set_cons_succ]
       rfl
      refine one_ (i := 11) (N := none) #[true, true, true, true, true, true, true, true, true, true, true, true, false] rfl rfl (one_of HT_.out (by kernel_rfl)) (by decide) (fun K hK => ?_)
      have hs49 : w48.cell? ⟨gb363, 0, none⟩ = some (.bool false) := (blk_cell BK363.out 0).trans rfl
      have hfs49 := blk_frozen BK363.out 0
      have hns49_0 := NB329_363.out
      have hns49_1 := NB330_363.out
      have hns49_2 := NB339_363.out
      have hns49_3 := NB349_363.out
      have hms49_0 := NB363_329.out
      have hms49_1 := NB363_330.out
      have hms49_2 := NB363_339.out
      have hms49_3 := NB363_349.out
      have hs50 : w48.cell? ⟨gb363, 1, none⟩ = some (.int .i64 0) := (blk_cell BK363.out 1).trans rfl
      have hfs50 := blk_frozen BK363.out 1
      have hns50_0 := NB329_363.out
      have hns50_1 := NB330_363.out
      have hns50_2 := NB339_363.out
      have hns50_3 := NB349_363.out
      have hms50_0 := NB363_329.out
      have hms50_1 := NB363_330.out
      have hms50_2 := NB363_339.out
      have hms50_3 := NB363_349.out
      have hs51 : w48.cell? ⟨gb363, 2, none⟩ = some (.bool false) := (blk_cell BK363.out 2).trans rfl
      have hfs51 := blk_frozen BK363.out 2
      have hns51_0 := NB329_363.out
      have hns51_1 := NB330_363.out
      have hns51_2 := NB339_363.out
      have hns51_3 := NB349_363.out
      have hms51_0 := NB363_329.out
      have hms51_1 := NB363_330.out
      have hms51_2 := NB363_339.out
      have hms51_3 := NB363_349.out
      have hs52 : w48.cell? ⟨gb363, 3, none⟩ = some (.int .i64 0) := (blk_cell BK363.out 3).trans rfl
      have hfs52 := blk_frozen BK363.out 3
      have hns52_0 := NB329_363.out
      have hns52_1 := NB330_363.out
      have hns52_2 := NB339_363.out
      have hns52_3 := NB349_363.out
      have hms52_0 := NB363_329.out
      have hms52_1 := NB363_330.out
      have hms52_2 := NB363_339.out
      have hms52_3 := NB363_349.out
      have hs53 : w48.cell? ⟨gb363, 4, none⟩ = some (.int .u64 0) := (blk_cell BK363.out 4).trans rfl
      have hfs53 := blk_frozen BK363.out 4
      have hns53_0 := NB329_363.out
      have hns53_1 := NB330_363.out
      have hns53_2 := NB339_363.out
      have hns53_3 := NB349_363.out
      have hms53_0 := NB363_329.out
      have hms53_1 := NB363_330.out
      have hms53_2 := NB363_339.out
      have hms53_3 := NB363_349.out
      have hs54 : w48.cell? ⟨gb363, 5, none⟩ = some (.int .u64 0) := (blk_cell BK363.out 5).trans rfl
      have hfs54 := blk_frozen BK363.out 5
      have hns54_0 := NB329_363.out
      have hns54_1 := NB330_363.out
      have hns54_2 := NB339_363.out
      have hns54_3 := NB349_363.out
      have hms54_0 := NB363_329.out
      have hms54_1 := NB363_330.out
      have hms54_2 := NB363_339.out
      have hms54_3 := NB363_349.out
      refine skip_ (w1 := ?_) (by rfl) rfl ?_ ?_
      rotate_left
      ·go_simp
       rfl
      refine hK.out _ _ ⟨((cell_far (p := ⟨gb363, _, none⟩) NB339_363.out _).trans (((cell_far (p := ⟨gb363, _, none⟩) NB339_363.out _).trans (((cell_far (p := ⟨gb363, _, none⟩) NB339_363.out _).trans (((cell_far (p := ⟨gb363, _, none⟩) NB339_363.out _).trans (((cell_far (p := ⟨gb363, _, none⟩) NB339_363.out _).trans (((cell_far (p := ⟨gb363, _, none⟩) NB339_363.out _).trans (hHeld.1)))))))))))), ((cell_far (p := ⟨gb363, _, none⟩) NB339_363.out _).trans (((cell_far (p := ⟨gb363, _, none⟩) NB339_363.out _).trans (((cell_far (p := ⟨gb363, _, none⟩) NB339_363.out _).trans (((cell_far (p := ⟨gb363, _, none⟩) NB339_363.out _).trans (((cell_far (p := ⟨gb363, _, none⟩) NB339_363.out _).trans (((cell_far (p := ⟨gb363, _, none⟩) NB339_363.out _).trans (hHeld.2.1)))))))))))), ((cell_far (p := ⟨gb363, _, none⟩) NB339_363.out _).trans (((cell_far (p := ⟨gb363, _, none⟩) NB339_363.out _).trans (((cell_far (p := ⟨gb363, _, none⟩) NB339_363.out _).trans (((cell_far (p := ⟨gb363, _, none⟩) NB339_363.out _).trans (((cell_far (p := ⟨gb363, _, none⟩) NB339_363.out _).trans (((cell_far (p := ⟨gb363, _, none⟩) NB339_363.out _).trans (hHeld.2.2.1)))))))))))), ((cell_far (p := ⟨gb363, _, none⟩) NB339_363.out _).trans (((cell_far (p := ⟨gb363, _, none⟩) NB339_363.out _).trans (((cell_far (p := ⟨gb363, _, none⟩) NB339_363.out _).trans (((cell_far (p := ⟨gb363, _, none⟩) NB339_363.out _).trans (((cell_far (p := ⟨gb363, _, none⟩) NB339_363.out _).trans (((cell_far (p := ⟨gb363, _, none⟩) NB339_363.out _).trans (hHeld.2.2.2.1)))))))))))), ((cell_far (p := ⟨gb363, _, none⟩) NB339_363.out _).trans (((cell_far (p := ⟨gb363, _, none⟩) NB339_363.out _).trans (((cell_far (p := ⟨gb363, _, none⟩) NB339_363.out _).trans (((cell_far (p := ⟨gb363, _, none⟩) NB339_363.out _).trans (((cell_far (p := ⟨gb363, _, none⟩) NB339_363.out _).trans (((cell_far (p := ⟨gb363, _, none⟩) NB339_363.out _).trans (hHeld.2.2.2.2.1)))))))))))), ((cell_far (p := ⟨gb363, _, none⟩) NB339_363.out _).trans (((cell_far (p := ⟨gb363, _, none⟩) NB339_363.out _).trans (((cell_far (p := ⟨gb363, _, none⟩) NB339_363.out _).trans (((cell_far (p := ⟨gb363, _, none⟩) NB339_363.out _).trans (((cell_far (p := ⟨gb363, _, none⟩) NB339_363.out _).trans (((cell_far (p := ⟨gb363, _, none⟩) NB339_363.out _).trans (hHeld.2.2.2.2.2.1)))))))))))), ((cell_far (p := ⟨gb363, _, none⟩) NB330_363.out _).trans (((cell_far (p := ⟨gb363, _, none⟩) NB330_363.out _).trans (((cell_far (p := ⟨gb363, _, none⟩) NB330_363.out _).trans (((cell_far (p := ⟨gb363, _, none⟩) NB330_363.out _).trans (((cell_far (p := ⟨gb363, _, none⟩) NB330_363.out _).trans (((cell_far (p := ⟨gb363, _, none⟩) NB330_363.out _).trans (hHeld.2.2.2.2.2.2.1)))))))))))), ((cell_far (p := ⟨gb363, _, none⟩) NB330_363.out _).trans (((cell_far (p := ⟨gb363, _, none⟩) NB330_363.out _).trans (((cell_far (p := ⟨gb363, _, none⟩) NB330_363.out _).trans (((cell_far (p := ⟨gb363, _, none⟩) NB330_363.out _).trans (((cell_far (p := ⟨gb363, _, none⟩) NB330_363.out _).trans (((cell_far (p := ⟨gb363, _, none⟩) NB330_363.out _).trans (hHeld.2.2.2.2.2.2.2))))))))))))⟩ (fun hHeld => ?_)
      clear hK K
      refine pure_ (i := 12) (N := some 20) (v := ?_) (a' := ?_) #[true, true, true, true, true, true, true, true, true, true, true, true, true] rfl rfl (any_of HT_.out (by kernel_rfl)) (fun _ _ _ h => h) (Or.inl ⟨by rfl, ?_⟩) ?_ ?_
      rotate_left
      ·intro w'
       go_simp
       with_reducible rfl
      rotate_left
      ·simp only [Act.put, List.setIfInBounds_toArray, List.set_cons_zero, List.set_cons_succ, i64_w, i32_w]
       rfl
      refine done_ (done_of HT_.out (by kernel_rfl)) ?_
      try go_wp2
      go_ret
      exact ⟨by first | rfl | (simp [errW_none, errW_some] <;> rfl) | (simp only [← hji9, ← hji15]; first | rfl | (simp [errW_none, errW_some] <;> rfl)) | (simp [*, errW_none, errW_some] <;> rfl), by repeat (first | (with_reducible first | exact HB.out | apply below_alloc | apply pw_below_drewN | apply below_drew1 | refine below_set ?_ GE329.out | refine below_set ?_ GE330.out | refine below_set ?_ GE339.out | refine below_set ?_ GE349.out | refine below_set ?_ GE363.out) | exact HB.out)⟩
     ·rw [if_neg c18] at H
      exact absurd H (by simp)
    ·rw [if_neg c16] at H
     have c16b0 : decide ((wrap64 ((Int.tmod a2 1099511627776) + ((ji15) % 1099511627776))) < t341) = false := decide_eq_false c16
     clear c16
     replace H := Option.bind_eq_some_iff.mp H
     obtain ⟨⟨t364, t365, t366, t367, t368, t369⟩, A550, H⟩ := H
     replace H : ((codel_State_Look.f k t364 t365 t366 t367 t368 t369 a1_0 ((ji9) % 1099511627776) (Int.tmod a2 1099511627776) a3 a4).bind fun bt370 => (some (bt370.2.2.2.2.2.2 == 0))) = some r := H
     have A55 := Aside0.mk A550
     clear A550
     replace H := Option.bind_eq_some_iff.mp H
     obtain ⟨⟨t370, t371, t372, t373, t374, t375, t376⟩, A560, H⟩ := H
     replace H : (some (t376 == 0)) = some r := H
     have A56 := Aside0.mk A560
     clear A560
     obtain rfl := Option.some.inj H
     go_enter Try.func6, Try.ntmps6
     try go_wp2_with (first | ((with_reducible refine gate_dst (N := 6) rfl ?_); refine box_event ?hg (N := 6) ?hd (cs := #[.bool a0_0, .int .i64 a0_1, .bool a0_2, .int .i64 a0_3, .int .u64 a0_4, .int .u64 a0_5]) (t := 24) ?hr ?_; (case hd => rfl); (case hg => rfl); (case hr => first | (go_simp; done) | (go_simp; rfl)); intro gb329 hg w57 hbox hb; have n0_ := Aside0.mk (below_step (by repeat (first | (with_reducible first | exact HB.out | apply below_alloc | apply pw_below_drewN | apply below_drew1) | exact HB.out)) hb); have n1_ := Aside0.mk (hbox); have n2_ := Aside0.mk ((by rw [hg]; exact (below_size (by repeat (first | (with_reducible first | exact HB.out | apply below_alloc | apply pw_below_drewN | apply below_drew1) | exact HB.out))) : w.heap.size ≤ gb329)); have n3_ := Aside0.mk ((by rw [hg]; exact (below_size (by repeat (first | (with_reducible first | exact HB.out | apply below_alloc | apply pw_below_drewN | apply below_drew1) | exact HB.out))) : w.heap.size ≤ gb329)); clear HB; have HB := n0_; have BK329 := n1_; have GW329 := n2_; have GE329 := n3_; clear n0_ n1_ n2_ n3_; clear hb hbox hg) | ((with_reducible refine gate_dst (N := 7) rfl ?_); refine box_event ?hg (N := 7) ?hd (cs := #[.int .i64 a1_0, .int .i64 a1_1]) (t := 26) ?hr ?_; (case hd => rfl); (case hg => rfl); (case hr => first | (go_simp; done) | (go_simp; rfl)); intro gb330 hg w58 hbox hb; have n0_ := Aside0.mk (blk_below (by exact BK329.out) hb); have n1_ := Aside0.mk (below_step (by repeat (first | (with_reducible first | exact HB.out | apply below_alloc | apply pw_below_drewN | apply below_drew1 | refine below_set ?_ GE329.out) | exact HB.out)) hb); have n2_ := Aside0.mk (hbox); have n3_ := Aside0.mk ((by rw [hg]; exact (below_size (by repeat (first | (with_reducible first | exact HB.out | apply below_alloc | apply pw_below_drewN | apply below_drew1 | refine below_set ?_ GE329.out) | exact HB.out))) : w.heap.size ≤ gb330)); have n4_ := Aside0.mk ((by rw [hg]; exact (below_size (by repeat (first | (with_reducible first | exact HB.out | apply below_alloc | apply pw_below_drewN | apply below_drew1 | refine below_set ?_ GE329.out) | exact HB.out))) : w.heap.size ≤ gb330)); have n5_ := Aside0.mk ((by rw [hg]; exact Nat.ne_of_lt (blk_lt (by exact BK329.out)) : gb329 ≠ gb330)); have n6_ := Aside0.mk ((by rw [hg]; exact Nat.ne_of_gt (blk_lt (by exact BK329.out)) : gb330 ≠ gb329)); clear BK329; clear HB; have BK329 := n0_; have HB := n1_; have BK330 := n2_; have GW330 := n3_; have GE330 := n4_; have NB329_330 := n5_; have NB330_329 := n6_; clear n0_ n1_ n2_ n3_ n4_ n5_ n6_; clear hb hbox hg) | ((with_reducible refine gate_callee (f := 9) rfl ?_); refine goesL_ (some 21) rfl rfl Try.func9 (by kernel_rfl) rfl #[] rfl (by (try simp only [List.map_toArray, List.map_cons, List.map_nil]); first | done | rfl | (simp only [List.length_drop, List.length_take]; rfl)) ?_; (with_reducible refine (overfalllaw08_awake.calls k  true _ A7.out).mono ?_); rintro e w59 ⟨rfl, hb⟩; refine ⟨_, rfl, ?_⟩; have n0_ := Aside0.mk (blk_below (by exact BK329.out) hb); have n1_ := Aside0.mk (blk_below (by exact BK330.out) hb); have n2_ := Aside0.mk (below_step (by repeat (first | (with_reducible first | exact HB.out | apply below_alloc | apply pw_below_drewN | apply below_drew1 | refine below_set ?_ GE329.out | refine below_set ?_ GE330.out) | exact HB.out)) hb); clear BK329; clear BK330; clear HB; have BK329 := n0_; have BK330 := n1_; have HB := n2_; clear n0_ n1_ n2_; (try clear hb); (try clear hb2); (try clear hk); (try clear hi); have hnb60 := NB330_329.out; have hnc60 := NB329_330.out; have hcz61_0 : w59.cell? ⟨gb330, 0, none⟩ = some (.int .i64 a1_0) := (blk_cell BK330.out 0).trans rfl; have hcz61_1 : w59.cell? ⟨gb330, 1, none⟩ = some (.int .i64 a1_1) := (blk_cell BK330.out 1).trans rfl; have hfz61_0 := blk_frozen BK330.out 0; have hfz61_1 := blk_frozen BK330.out 1; have hcz62_0 : w59.cell? ⟨gb329, 0, none⟩ = some (.bool a0_0) := (blk_cell BK329.out 0).trans rfl; have hcz62_1 : w59.cell? ⟨gb329, 1, none⟩ = some (.int .i64 a0_1) := (blk_cell BK329.out 1).trans rfl; have hcz62_2 : w59.cell? ⟨gb329, 2, none⟩ = some (.bool a0_2) := (blk_cell BK329.out 2).trans rfl; have hcz62_3 : w59.cell? ⟨gb329, 3, none⟩ = some (.int .i64 a0_3) := (blk_cell BK329.out 3).trans rfl; have hcz62_4 : w59.cell? ⟨gb329, 4, none⟩ = some (.int .u64 a0_4) := (blk_cell BK329.out 4).trans rfl; have hcz62_5 : w59.cell? ⟨gb329, 5, none⟩ = some (.int .u64 a0_5) := (blk_cell BK329.out 5).trans rfl; have hfz62_0 := blk_frozen BK329.out 0; have hfz62_1 := blk_frozen BK329.out 1; have hfz62_2 := blk_frozen BK329.out 2; have hfz62_3 := blk_frozen BK329.out 3; have hfz62_4 := blk_frozen BK329.out 4; have hfz62_5 := blk_frozen BK329.out 5) | ((with_reducible refine gate_callee (f := 11) rfl ?_); refine goesL_ (some 39) rfl rfl Try.func11 (by kernel_rfl) rfl #[.agg #[.bool a0_0, .int .i64 a0_1, .bool a0_2, .int .i64 a0_3, .int .u64 a0_4, .int .u64 a0_5], .agg #[.int .i64 a1_0, .int .i64 ((ji9) % 1099511627776)], .int .i64 (Int.tmod a2 1099511627776), .int .i64 a3, .int .i64 a4] rfl (by (try simp only [List.map_toArray, List.map_cons, List.map_nil]); first | done | (simp only [hji9]; rfl) | rfl | (simp only [List.length_drop, List.length_take]; rfl)) ?_; (with_reducible refine (codel_State_Look.calls k a0_0 a0_1 a0_2 a0_3 a0_4 a0_5 a1_0 ((ji9) % 1099511627776) (Int.tmod a2 1099511627776) a3 a4 t332 t333 t334 t335 t336 t337 t338 _ A10.out).mono ?_); rintro e w63 ⟨rfl, hb⟩; refine ⟨_, rfl, ?_⟩; have n0_ := Aside0.mk (blk_below (g := gb329) (o := .cells #[.bool a0_0, .int .i64 a0_1, .bool a0_2, .int .i64 a0_3, .int .u64 a0_4, .int .u64 a0_5] 24 (0, 0)) (by refine blk_far ?_ NB329_330.out _; refine blk_far ?_ NB329_330.out _; exact BK329.out) hb); have n1_ := Aside0.mk (blk_below (g := gb330) (o := .cells #[.int .i64 a1_0, .int .i64 ((ji9) % 1099511627776)] 26 (0, 0)) (by refine blk_put (cs := #[.int .i64 a1_0, .int .i64 ji9]) ?_ 1 _ rfl; refine blk_put (cs := #[.int .i64 a1_0, .int .i64 a1_1]) ?_ 1 _ rfl; exact BK330.out) hb); have n2_ := Aside0.mk (below_step (by repeat (first | (with_reducible first | exact HB.out | apply below_alloc | apply pw_below_drewN | apply below_drew1 | refine below_set ?_ GE329.out | refine below_set ?_ GE330.out) | exact HB.out)) hb); clear BK329; clear BK330; clear HB; have BK329 := n0_; have BK330 := n1_; have HB := n2_; clear n0_ n1_ n2_; (try clear hb); (try clear hb2); (try clear hk); (try clear hi)) | ((with_reducible refine gate_dst (N := 13) rfl ?_); refine box_event ?hg (N := 13) ?hd (cs := #[.bool false, .int .i64 0, .bool false, .int .i64 0, .int .u64 0, .int .u64 0]) (t := 24) ?hr ?_; (case hd => rfl); (case hg => rfl); (case hr => first | (go_simp; done) | (go_simp; rfl)); intro gb339 hg w64 hbox hb; have n0_ := Aside0.mk (blk_below (by exact BK329.out) hb); have n1_ := Aside0.mk (blk_below (by exact BK330.out) hb); have n2_ := Aside0.mk (below_step (by repeat (first | (with_reducible first | exact HB.out | apply below_alloc | apply pw_below_drewN | apply below_drew1 | refine below_set ?_ GE329.out | refine below_set ?_ GE330.out) | exact HB.out)) hb); have n3_ := Aside0.mk (hbox); have n4_ := Aside0.mk ((by rw [hg]; exact (below_size (by repeat (first | (with_reducible first | exact HB.out | apply below_alloc | apply pw_below_drewN | apply below_drew1 | refine below_set ?_ GE329.out | refine below_set ?_ GE330.out) | exact HB.out))) : w.heap.size ≤ gb339)); have n5_ := Aside0.mk ((by rw [hg]; exact (below_size (by repeat (first | (with_reducible first | exact HB.out | apply below_alloc | apply pw_below_drewN | apply below_drew1 | refine below_set ?_ GE329.out | refine below_set ?_ GE330.out) | exact HB.out))) : w.heap.size ≤ gb339)); have n6_ := Aside0.mk ((by rw [hg]; exact Nat.ne_of_lt (blk_lt (by exact BK329.out)) : gb329 ≠ gb339)); have n7_ := Aside0.mk ((by rw [hg]; exact Nat.ne_of_gt (blk_lt (by exact BK329.out)) : gb339 ≠ gb329)); have n8_ := Aside0.mk ((by rw [hg]; exact Nat.ne_of_lt (blk_lt (by exact BK330.out)) : gb330 ≠ gb339)); have n9_ := Aside0.mk ((by rw [hg]; exact Nat.ne_of_gt (blk_lt (by exact BK330.out)) : gb339 ≠ gb330)); clear BK329; clear BK330; clear HB; have BK329 := n0_; have BK330 := n1_; have HB := n2_; have BK339 := n3_; have GW339 := n4_; have GE339 := n5_; have NB329_339 := n6_; have NB339_329 := n7_; have NB330_339 := n8_; have NB339_330 := n9_; clear n0_ n1_ n2_ n3_ n4_ n5_ n6_ n7_ n8_ n9_; clear hb hbox hg; have hnb65 := NB339_329.out; have hnc65 := NB329_339.out; have hnb66 := NB339_330.out; have hnc66 := NB330_339.out; have hcz67_0 : w64.cell? ⟨gb339, 0, none⟩ = some (.bool false) := (blk_cell BK339.out 0).trans rfl; have hcz67_1 : w64.cell? ⟨gb339, 1, none⟩ = some (.int .i64 0) := (blk_cell BK339.out 1).trans rfl; have hcz67_2 : w64.cell? ⟨gb339, 2, none⟩ = some (.bool false) := (blk_cell BK339.out 2).trans rfl; have hcz67_3 : w64.cell? ⟨gb339, 3, none⟩ = some (.int .i64 0) := (blk_cell BK339.out 3).trans rfl; have hcz67_4 : w64.cell? ⟨gb339, 4, none⟩ = some (.int .u64 0) := (blk_cell BK339.out 4).trans rfl; have hcz67_5 : w64.cell? ⟨gb339, 5, none⟩ = some (.int .u64 0) := (blk_cell BK339.out 5).trans rfl; have hfz67_0 := blk_frozen BK339.out 0; have hfz67_1 := blk_frozen BK339.out 1; have hfz67_2 := blk_frozen BK339.out 2; have hfz67_3 := blk_frozen BK339.out 3; have hfz67_4 := blk_frozen BK339.out 4; have hfz67_5 := blk_frozen BK339.out 5; have hcz68_0 : w64.cell? ⟨gb330, 0, none⟩ = some (.int .i64 a1_0) := (blk_cell BK330.out 0).trans rfl; have hcz68_1 : w64.cell? ⟨gb330, 1, none⟩ = some (.int .i64 ((ji9) % 1099511627776)) := (blk_cell BK330.out 1).trans rfl; have hfz68_0 := blk_frozen BK330.out 0; have hfz68_1 := blk_frozen BK330.out 1) | ((with_reducible refine gate_callee (f := 14) rfl ?_); refine goesL_ (some 49) rfl rfl Try.func14 (by kernel_rfl) rfl #[.int .i64 ((ji9) % 1099511627776), .int .u64 t336] rfl (by (try simp only [List.map_toArray, List.map_cons, List.map_nil]); first | done | (simp only [hji9]; rfl) | rfl | (simp only [List.length_drop, List.length_take]; rfl)) ?_; (with_reducible refine (overfallref03_Law.calls k ((ji9) % 1099511627776) t336 t340 _ A12.out).mono ?_); rintro e w69 ⟨rfl, hb⟩; refine ⟨_, rfl, ?_⟩; have n0_ := Aside0.mk (blk_below (g := gb329) (o := .cells #[.bool a0_0, .int .i64 a0_1, .bool a0_2, .int .i64 a0_3, .int .u64 a0_4, .int .u64 a0_5] 24 (0, 0)) (by refine blk_far ?_ NB329_339.out _; refine blk_far ?_ NB329_339.out _; refine blk_far ?_ NB329_339.out _; refine blk_far ?_ NB329_339.out _; refine blk_far ?_ NB329_339.out _; refine blk_far ?_ NB329_339.out _; exact BK329.out) hb); have n1_ := Aside0.mk (blk_below (g := gb330) (o := .cells #[.int .i64 a1_0, .int .i64 ((ji9) % 1099511627776)] 26 (0, 0)) (by refine blk_far ?_ NB330_339.out _; refine blk_far ?_ NB330_339.out _; refine blk_far ?_ NB330_339.out _; refine blk_far ?_ NB330_339.out _; refine blk_far ?_ NB330_339.out _; refine blk_far ?_ NB330_339.out _; exact BK330.out) hb); have n2_ := Aside0.mk (blk_below (g := gb339) (o := .cells #[.bool t332, .int .i64 t333, .bool t334, .int .i64 t335, .int .u64 t336, .int .u64 t337] 24 (0, 0)) (by refine blk_put (cs := #[.bool t332, .int .i64 t333, .bool t334, .int .i64 t335, .int .u64 t336, .int .u64 0]) ?_ 5 _ rfl; refine blk_put (cs := #[.bool t332, .int .i64 t333, .bool t334, .int .i64 t335, .int .u64 0, .int .u64 0]) ?_ 4 _ rfl; refine blk_put (cs := #[.bool t332, .int .i64 t333, .bool t334, .int .i64 0, .int .u64 0, .int .u64 0]) ?_ 3 _ rfl; refine blk_put (cs := #[.bool t332, .int .i64 t333, .bool false, .int .i64 0, .int .u64 0, .int .u64 0]) ?_ 2 _ rfl; refine blk_put (cs := #[.bool t332, .int .i64 0, .bool false, .int .i64 0, .int .u64 0, .int .u64 0]) ?_ 1 _ rfl; refine blk_put (cs := #[.bool false, .int .i64 0, .bool false, .int .i64 0, .int .u64 0, .int .u64 0]) ?_ 0 _ rfl; exact BK339.out) hb); have n3_ := Aside0.mk (below_step (by repeat (first | (with_reducible first | exact HB.out | apply below_alloc | apply pw_below_drewN | apply below_drew1 | refine below_set ?_ GE329.out | refine below_set ?_ GE330.out | refine below_set ?_ GE339.out) | exact HB.out)) hb); clear BK329; clear BK330; clear BK339; clear HB; have BK329 := n0_; have BK330 := n1_; have BK339 := n2_; have HB := n3_; clear n0_ n1_ n2_ n3_; (try clear hb); (try clear hb2); (try clear hk); (try clear hi)) | ((with_reducible refine gate_callee (f := 10) rfl ?_); refine goesL_ (some 50) rfl rfl Try.func10 (by kernel_rfl) rfl #[.int .i64 (Int.tmod a2 1099511627776), .int .i64 t340] rfl (by (try simp only [List.map_toArray, List.map_cons, List.map_nil]); first | done | rfl | (simp only [List.length_drop, List.length_take]; rfl)) ?_; (with_reducible refine (overfallref02_Add.calls k (Int.tmod a2 1099511627776) t340 t341 _ A13.out).mono ?_); rintro e w70 ⟨rfl, hb⟩; refine ⟨_, rfl, ?_⟩; have n0_ := Aside0.mk (blk_below (by exact BK329.out) hb); have n1_ := Aside0.mk (blk_below (by exact BK330.out) hb); have n2_ := Aside0.mk (blk_below (by exact BK339.out) hb); have n3_ := Aside0.mk (below_step (by repeat (first | (with_reducible first | exact HB.out | apply below_alloc | apply pw_below_drewN | apply below_drew1 | refine below_set ?_ GE329.out | refine below_set ?_ GE330.out | refine below_set ?_ GE339.out) | exact HB.out)) hb); clear BK329; clear BK330; clear BK339; clear HB; have BK329 := n0_; have BK330 := n1_; have BK339 := n2_; have HB := n3_; clear n0_ n1_ n2_ n3_; (try clear hb); (try clear hb2); (try clear hk); (try clear hi); have hcz71_0 : w70.cell? ⟨gb339, 0, none⟩ = some (.bool t332) := (blk_cell BK339.out 0).trans rfl; have hcz71_1 : w70.cell? ⟨gb339, 1, none⟩ = some (.int .i64 t333) := (blk_cell BK339.out 1).trans rfl; have hcz71_2 : w70.cell? ⟨gb339, 2, none⟩ = some (.bool t334) := (blk_cell BK339.out 2).trans rfl; have hcz71_3 : w70.cell? ⟨gb339, 3, none⟩ = some (.int .i64 t335) := (blk_cell BK339.out 3).trans rfl; have hcz71_4 : w70.cell? ⟨gb339, 4, none⟩ = some (.int .u64 t336) := (blk_cell BK339.out 4).trans rfl; have hcz71_5 : w70.cell? ⟨gb339, 5, none⟩ = some (.int .u64 t337) := (blk_cell BK339.out 5).trans rfl; have hfz71_0 := blk_frozen BK339.out 0; have hfz71_1 := blk_frozen BK339.out 1; have hfz71_2 := blk_frozen BK339.out 2; have hfz71_3 := blk_frozen BK339.out 3; have hfz71_4 := blk_frozen BK339.out 4; have hfz71_5 := blk_frozen BK339.out 5))
     have n0_ := Aside0.mk (blk_drew BK329.out)
     have n1_ := Aside0.mk (blk_drew BK330.out)
     have n2_ := Aside0.mk (blk_drew BK339.out)
     have n3_ := Aside0.mk (below_drew1 HB.out)
     clear BK329
     clear BK330
     clear BK339
     clear HB
     have BK329 := n0_
     have BK330 := n1_
     have BK339 := n2_
     have HB := n3_
     clear n0_ n1_ n2_ n3_
     refine start_ (n := 13) (S := fun w' => w'.cell? ⟨gb339, 0, none⟩ = some (.bool t332) ∧ w'.cell? ⟨gb339, 1, none⟩ = some (.int .i64 t333) ∧ w'.cell? ⟨gb339, 2, none⟩ = some (.bool t334) ∧ w'.cell? ⟨gb339, 3, none⟩ = some (.int .i64 t335) ∧ w'.cell? ⟨gb339, 4, none⟩ = some (.int .u64 t336) ∧ w'.cell? ⟨gb339, 5, none⟩ = some (.int .u64 t337) ∧ w'.cell? ⟨gb330, 0, none⟩ = some (.int .i64 a1_0) ∧ w'.cell? ⟨gb330, 1, none⟩ = some (.int .i64 ((ji9) % 1099511627776))) (ds := []) #[false, false, false, false, false, false, false, false, false, false, false, false, false] (by kernel_rfl) rfl rfl ⟨(blk_cell BK339.out 0).trans rfl, (blk_cell BK339.out 1).trans rfl, (blk_cell BK339.out 2).trans rfl, (blk_cell BK339.out 3).trans rfl, (blk_cell BK339.out 4).trans rfl, (blk_cell BK339.out 5).trans rfl, (blk_cell BK330.out 0).trans rfl, (blk_cell BK330.out 1).trans rfl⟩ (fun hHeld => ?_); refine with_tabW overfalllaw08_CodelSpares.tab16 overfalllaw08_CodelSpares.bits16 (fun HT_ HW_ => ?_)
     generalize w70.drew = w72 at BK329 BK330 BK339 HB hHeld ⊢
     refine pure_ (i := 3) (N := some 78) (v := ?_) (a' := ?_) #[false, false, false, true, false, false, false, false, false, false, false, false, false] rfl rfl (any_of HT_.out (by kernel_rfl)) (fun _ _ _ h => h) (Or.inl ⟨by rfl, ?_⟩) ?_ ?_
     rotate_left
     ·intro w'
      go_simp
      with_reducible rfl
     rotate_left
     ·simp only [Act.put, List.setIfInBounds_toArray, List.set_cons_zero, List.set_cons_succ, i64_w, i32_w]
      rfl
     refine pure_ (i := 4) (N := some 79) (v := ?_) (a' := ?_) #[false, false, false, true, true, false, false, false, false, false, false, false, false] rfl rfl (any_of HT_.out (by kernel_rfl)) (fun _ _ _ h => h) (Or.inl ⟨by rfl, ?_⟩) ?_ ?_
     rotate_left
     ·intro w'
      go_simp
      with_reducible rfl
     rotate_left
     ·simp only [Act.put, List.setIfInBounds_toArray, List.set_cons_zero, List.set_cons_succ, i64_w, i32_w]
      rfl
     refine pure_ (i := 5) (N := some 80) (v := ?_) (a' := ?_) #[false, false, false, true, true, true, false, false, false, false, false, false, false] rfl rfl (any_of HT_.out (by kernel_rfl)) (fun _ _ _ h => h) (Or.inl ⟨by rfl, ?_⟩) ?_ ?_
     rotate_left
     ·intro w'
      go_simp
      with_reducible rfl
     rotate_left
     ·simp only [Act.put, List.setIfInBounds_toArray, List.set_cons_zero, List.set_cons_succ, i64_w, i32_w]
      rfl
     refine take_ (i := 0) (N := some 75) (v := ?_) (a' := ?_) #[true, false, false, true, true, true, false, false, false, false, false, false, false] rfl rfl (take_ofW HT_.out HW_.out (by kernel_rfl)) (fun _ _ _ h => h) (Or.inl ⟨by rfl, ?_⟩) hHeld ?_ ?_
     rotate_left
     ·rintro w' ⟨s0, s1, s2, s3, s4, s5, s6, s7⟩
      go_simp
      with_reducible rfl
     rotate_left
     ·simp only [Act.put, List.setIfInBounds_toArray, List.set_cons_zero, List.set_cons_succ, i64_w, i32_w]
      rfl
     refine take_ (i := 2) (N := some 77) (v := ?_) (a' := ?_) #[true, false, true, true, true, true, false, false, false, false, false, false, false] rfl rfl (take_ofW HT_.out HW_.out (by kernel_rfl)) (fun _ _ _ h => h) (Or.inl ⟨by rfl, ?_⟩) hHeld ?_ ?_
     rotate_left
     ·rintro w' ⟨s0, s1, s2, s3, s4, s5, s6, s7⟩
      go_simp
      with_reducible rfl
     rotate_left
     ·simp only [Act.put, List.setIfInBounds_toArray, List.set_cons_zero, List.set_cons_succ, i64_w, i32_w]
      rfl
     refine join_ (σ := Nat) 2 #[true, true, true, true, true, true, true, true, true, true, true, false, false] (fun s_ => [(76, .agg #[.bool t364, .int .i64 t365, .bool t366, .int .i64 t367, .int .u64 t368, .int .u64 t369]), (81, .tuple #[.agg #[.bool t370, .int .i64 t371, .bool t372, .int .i64 t373, .int .u64 t374, .int .u64 t375], .int .i64 t376]), (19, .pointer (some ⟨s_, 0, none⟩)), (74, .tuple #[.agg #[.bool t370, .int .i64 t371, .bool t372, .int .i64 t373, .int .u64 t374, .int .u64 t375], .int .i64 t376]), (82, .agg #[.bool t370, .int .i64 t371, .bool t372, .int .i64 t373, .int .u64 t374, .int .u64 t375]), (83, .int .i64 t376)]) (fun s_ w' => (w'.cell? ⟨gb339, 0, none⟩ = some (.bool t332) ∧ w'.cell? ⟨gb339, 1, none⟩ = some (.int .i64 t333) ∧ w'.cell? ⟨gb339, 2, none⟩ = some (.bool t334) ∧ w'.cell? ⟨gb339, 3, none⟩ = some (.int .i64 t335) ∧ w'.cell? ⟨gb339, 4, none⟩ = some (.int .u64 t336) ∧ w'.cell? ⟨gb339, 5, none⟩ = some (.int .u64 t337) ∧ w'.cell? ⟨gb330, 0, none⟩ = some (.int .i64 a1_0) ∧ w'.cell? ⟨gb330, 1, none⟩ = some (.int .i64 ((ji9) % 1099511627776))) ∧ (w'.heap[gb329]? = some (.cells #[.bool a0_0, .int .i64 a0_1, .bool a0_2, .int .i64 a0_3, .int .u64 a0_4, .int .u64 a0_5] 24 (0, 0))) ∧ (w'.heap[gb330]? = some (.cells #[.int .i64 a1_0, .int .i64 ((ji9) % 1099511627776)] 26 (0, 0))) ∧ (w'.heap[gb339]? = some (.cells #[.bool t332, .int .i64 t333, .bool t334, .int .i64 t335, .int .u64 t336, .int .u64 t337] 24 (0, 0))) ∧ (w'.heap[s_]? = some (.cells #[.bool false, .int .i64 0, .bool false, .int .i64 0, .int .u64 0, .int .u64 0] 24 (0, 0))) ∧ (w.heap.size ≤ s_) ∧ (w.heap.size ≤ s_) ∧ (gb329 ≠ s_) ∧ (s_ ≠ gb329) ∧ (gb330 ≠ s_) ∧ (s_ ≠ gb330) ∧ (gb339 ≠ s_) ∧ (s_ ≠ gb339) ∧ (Below w.heap.size w w')) ?_ ?_
     rotate_left
     ·intro hCont
      refine two_ (i := 1) (j := 10) (Ni := some 76) (Nj := some 19) #[true, true, true, true, true, true, false, false, false, false, false, false, false] #[true, false, true, true, true, true, false, false, false, false, true, false, false] rfl rfl rfl rfl (two_of HT_.out (by kernel_rfl)) (by decide) (by decide) (fun K hK => ?_) (fun K hK => ?_)
      ·skip
       refine goes_ Try.func15 (by kernel_rfl) rfl #[.agg #[.bool t332, .int .i64 t333, .bool t334, .int .i64 t335, .int .u64 t336, .int .u64 t337]] (by rfl) rfl rfl (by (try simp only [List.map_toArray, List.map_cons, List.map_nil]); first | done | rfl | (simp only [List.length_drop, List.length_take]; rfl)) ?_
       with_reducible refine (codel_State_Empty.calls t332 t333 t334 t335 t336 t337 t364 t365 t366 t367 t368 t369 _ A55.out).mono ?_
       rintro e w73 ⟨rfl, hb⟩
       refine ⟨_, rfl, ?_⟩
       have n0_ := Aside0.mk (blk_below (by exact BK329.out) hb)
       have n1_ := Aside0.mk (blk_below (by exact BK330.out) hb)
       have n2_ := Aside0.mk (blk_below (by exact BK339.out) hb)
       have n3_ := Aside0.mk (below_step (by repeat (first | (with_reducible first | exact HB.out | apply below_alloc | apply pw_below_drewN | apply below_drew1 | refine below_set ?_ GE329.out | refine below_set ?_ GE330.out | refine below_set ?_ GE339.out) | exact HB.out)) hb)
       clear BK329
       clear BK330
       clear BK339
       clear HB
       have BK329 := n0_
       have BK330 := n1_
       have BK339 := n2_
       have HB := n3_
       clear n0_ n1_ n2_ n3_
       (try clear hb)
       (try clear hb2)
       (try clear hk)
       (try clear hi)
       refine hK.out _ _ ⟨(blk_cell BK339.out 0).trans rfl, (blk_cell BK339.out 1).trans rfl, (blk_cell BK339.out 2).trans rfl, (blk_cell BK339.out 3).trans rfl, (blk_cell BK339.out 4).trans rfl, (blk_cell BK339.out 5).trans rfl, (blk_cell BK330.out 0).trans rfl, (blk_cell BK330.out 1).trans rfl⟩ (fun hHeld => ?_)
       clear hK K
       refine norm_ (a' := ?_) ?_ ?_
       rotate_left
       ·show Act.put _ (some 76) _ = _
        simp only [Act.put, List.setIfInBounds_toArray, List.set_cons_zero, List.set_cons_succ, i64_w, i32_w]
        rfl
       refine two_ (i := 6) (j := 10) (Ni := some 81) (Nj := some 19) #[true, true, true, true, true, true, true, false, false, false, false, false, false] #[true, true, true, true, true, true, false, false, false, false, true, false, false] rfl rfl rfl rfl (two_of HT_.out (by kernel_rfl)) (by decide) (by decide) (fun K hK => ?_) (fun K hK => ?_)
       ·skip
        refine goes_ Try.func11 (by kernel_rfl) rfl #[.agg #[.bool t364, .int .i64 t365, .bool t366, .int .i64 t367, .int .u64 t368, .int .u64 t369], .agg #[.int .i64 a1_0, .int .i64 ((ji9) % 1099511627776)], .int .i64 (Int.tmod a2 1099511627776), .int .i64 a3, .int .i64 a4] (by rfl) rfl rfl (by (try simp only [List.map_toArray, List.map_cons, List.map_nil]); first | done | (simp only [hji9]; rfl) | rfl | (simp only [List.length_drop, List.length_take]; rfl)) ?_
        with_reducible refine (codel_State_Look.calls k t364 t365 t366 t367 t368 t369 a1_0 ((ji9) % 1099511627776) (Int.tmod a2 1099511627776) a3 a4 t370 t371 t372 t373 t374 t375 t376 _ A56.out).mono ?_
        rintro e w74 ⟨rfl, hb⟩
        refine ⟨_, rfl, ?_⟩
        have n0_ := Aside0.mk (blk_below (by exact BK329.out) hb)
        have n1_ := Aside0.mk (blk_below (by exact BK330.out) hb)
        have n2_ := Aside0.mk (blk_below (by exact BK339.out) hb)
        have n3_ := Aside0.mk (below_step (by repeat (first | (with_reducible first | exact HB.out | apply below_alloc | apply pw_below_drewN | apply below_drew1 | refine below_set ?_ GE329.out | refine below_set ?_ GE330.out | refine below_set ?_ GE339.out) | exact HB.out)) hb)
        clear BK329
        clear BK330
        clear BK339
        clear HB
        have BK329 := n0_
        have BK330 := n1_
        have BK339 := n2_
        have HB := n3_
        clear n0_ n1_ n2_ n3_
        (try clear hb)
        (try clear hb2)
        (try clear hk)
        (try clear hi)
        refine hK.out _ _ ⟨(blk_cell BK339.out 0).trans rfl, (blk_cell BK339.out 1).trans rfl, (blk_cell BK339.out 2).trans rfl, (blk_cell BK339.out 3).trans rfl, (blk_cell BK339.out 4).trans rfl, (blk_cell BK339.out 5).trans rfl, (blk_cell BK330.out 0).trans rfl, (blk_cell BK330.out 1).trans rfl⟩ (fun hHeld => ?_)
        clear hK K
        refine norm_ (a' := ?_) ?_ ?_
        rotate_left
        ·show Act.put _ (some 81) _ = _
         simp only [Act.put, List.setIfInBounds_toArray, List.set_cons_zero, List.set_cons_succ, i64_w, i32_w]
         rfl
        refine pure_ (i := 7) (N := some 74) (v := ?_) (a' := ?_) #[true, true, true, true, true, true, true, true, false, false, false, false, false] rfl rfl (any_of HT_.out (by kernel_rfl)) (fun _ _ _ h => h) (Or.inl ⟨by rfl, ?_⟩) ?_ ?_
        rotate_left
        ·intro w'
         go_simp
         with_reducible rfl
        rotate_left
        ·simp only [Act.put, List.setIfInBounds_toArray, List.set_cons_zero, List.set_cons_succ, i64_w, i32_w]
         rfl
        refine pure_ (i := 8) (N := some 82) (v := ?_) (a' := ?_) #[true, true, true, true, true, true, true, true, true, false, false, false, false] rfl rfl (any_of HT_.out (by kernel_rfl)) (fun _ _ _ h => h) (Or.inl ⟨by rfl, ?_⟩) ?_ ?_
        rotate_left
        ·intro w'
         go_simp
         with_reducible rfl
        rotate_left
        ·simp only [Act.put, List.setIfInBounds_toArray, List.set_cons_zero, List.set_cons_succ, i64_w, i32_w]
         rfl
        refine pure_ (i := 9) (N := some 83) (v := ?_) (a' := ?_) #[true, true, true, true, true, true, true, true, true, true, false, false, false] rfl rfl (any_of HT_.out (by kernel_rfl)) (fun _ _ _ h => h) (Or.inl ⟨by rfl, ?_⟩) ?_ ?_
        rotate_left
        ·intro w'
         go_simp
         with_reducible rfl
        rotate_left
        ·simp only [Act.put, List.setIfInBounds_toArray, List.set_cons_zero, List.set_cons_succ, i64_w, i32_w]
         rfl
        refine one_ (i := 10) (N := some 19) #[true, true, true, true, true, true, true, true, true, true, true, false, false] rfl rfl (one_of HT_.out (by kernel_rfl)) (by decide) (fun K hK => ?_)
        refine box_step ?hg (N := 19) ?hd (cs := #[.bool false, .int .i64 0, .bool false, .int .i64 0, .int .u64 0, .int .u64 0]) (t := 24) ?hr ?_; (case hd => rfl); (case hg => rfl); (case hr => first | (go_simp; done) | (go_simp; rfl))
        intro gb377 hg w75 hbox hb
        have n0_ := Aside0.mk (blk_below (by exact BK329.out) hb)
        have n1_ := Aside0.mk (blk_below (by exact BK330.out) hb)
        have n2_ := Aside0.mk (blk_below (by exact BK339.out) hb)
        have n3_ := Aside0.mk (below_step (by repeat (first | (with_reducible first | exact HB.out | apply below_alloc | apply pw_below_drewN | apply below_drew1 | refine below_set ?_ GE329.out | refine below_set ?_ GE330.out | refine below_set ?_ GE339.out) | exact HB.out)) hb)
        have n4_ := Aside0.mk (hbox)
        have n5_ := Aside0.mk ((by rw [hg]; exact (below_size (by repeat (first | (with_reducible first | exact HB.out | apply below_alloc | apply pw_below_drewN | apply below_drew1 | refine below_set ?_ GE329.out | refine below_set ?_ GE330.out | refine below_set ?_ GE339.out) | exact HB.out))) : w.heap.size ≤ gb377))
        have n6_ := Aside0.mk ((by rw [hg]; exact (below_size (by repeat (first | (with_reducible first | exact HB.out | apply below_alloc | apply pw_below_drewN | apply below_drew1 | refine below_set ?_ GE329.out | refine below_set ?_ GE330.out | refine below_set ?_ GE339.out) | exact HB.out))) : w.heap.size ≤ gb377))
        have n7_ := Aside0.mk ((by rw [hg]; exact Nat.ne_of_lt (blk_lt (by exact BK329.out)) : gb329 ≠ gb377))
        have n8_ := Aside0.mk ((by rw [hg]; exact Nat.ne_of_gt (blk_lt (by exact BK329.out)) : gb377 ≠ gb329))
        have n9_ := Aside0.mk ((by rw [hg]; exact Nat.ne_of_lt (blk_lt (by exact BK330.out)) : gb330 ≠ gb377))
        have n10_ := Aside0.mk ((by rw [hg]; exact Nat.ne_of_gt (blk_lt (by exact BK330.out)) : gb377 ≠ gb330))
        have n11_ := Aside0.mk ((by rw [hg]; exact Nat.ne_of_lt (blk_lt (by exact BK339.out)) : gb339 ≠ gb377))
        have n12_ := Aside0.mk ((by rw [hg]; exact Nat.ne_of_gt (blk_lt (by exact BK339.out)) : gb377 ≠ gb339))
        clear BK329
        clear BK330
        clear BK339
        clear HB
        have BK329 := n0_
        have BK330 := n1_
        have BK339 := n2_
        have HB := n3_
        have BK377 := n4_
        have GW377 := n5_
        have GE377 := n6_
        have NB329_377 := n7_
        have NB377_329 := n8_
        have NB330_377 := n9_
        have NB377_330 := n10_
        have NB339_377 := n11_
        have NB377_339 := n12_
        clear n0_ n1_ n2_ n3_ n4_ n5_ n6_ n7_ n8_ n9_ n10_ n11_ n12_
        clear hb hbox hg
        refine hK.out _ _ ⟨(blk_cell BK339.out 0).trans rfl, (blk_cell BK339.out 1).trans rfl, (blk_cell BK339.out 2).trans rfl, (blk_cell BK339.out 3).trans rfl, (blk_cell BK339.out 4).trans rfl, (blk_cell BK339.out 5).trans rfl, (blk_cell BK330.out 0).trans rfl, (blk_cell BK330.out 1).trans rfl⟩ (fun hHeld => ?_)
        clear hK K
        refine norm_ (a' := ?_) ?_ ?_
        rotate_left
        ·show Act.put _ (some 19) _ = _
         simp only [Act.put, List.setIfInBounds_toArray, List.set_cons_zero, List.set_cons_succ, i64_w, i32_w]
         rfl
        exact norm_ (by simp only [putAll, Act.put, List.setIfInBounds_toArray, List.set_cons_zero, List.set_cons_succ]) (hCont (gb377) _ ⟨hHeld, (by exact BK329.out), (by exact BK330.out), (by exact BK339.out), (by exact BK377.out), GW377.out, GE377.out, NB329_377.out, NB377_329.out, NB330_377.out, NB377_330.out, NB339_377.out, NB377_339.out, (by repeat (first | (with_reducible first | exact HB.out | apply below_alloc | apply pw_below_drewN | apply below_drew1 | refine below_set ?_ GE329.out | refine below_set ?_ GE330.out | refine below_set ?_ GE339.out | refine below_set ?_ GE377.out) | exact HB.out))⟩)
       ·skip
        refine box_step ?hg (N := 19) ?hd (cs := #[.bool false, .int .i64 0, .bool false, .int .i64 0, .int .u64 0, .int .u64 0]) (t := 24) ?hr ?_; (case hd => rfl); (case hg => rfl); (case hr => first | (go_simp; done) | (go_simp; rfl))
        intro gb377 hg w74 hbox hb
        have n0_ := Aside0.mk (blk_below (by exact BK329.out) hb)
        have n1_ := Aside0.mk (blk_below (by exact BK330.out) hb)
        have n2_ := Aside0.mk (blk_below (by exact BK339.out) hb)
        have n3_ := Aside0.mk (below_step (by repeat (first | (with_reducible first | exact HB.out | apply below_alloc | apply pw_below_drewN | apply below_drew1 | refine below_set ?_ GE329.out | refine below_set ?_ GE330.out | refine below_set ?_ GE339.out) | exact HB.out)) hb)
        have n4_ := Aside0.mk (hbox)
        have n5_ := Aside0.mk ((by rw [hg]; exact (below_size (by repeat (first | (with_reducible first | exact HB.out | apply below_alloc | apply pw_below_drewN | apply below_drew1 | refine below_set ?_ GE329.out | refine below_set ?_ GE330.out | refine below_set ?_ GE339.out) | exact HB.out))) : w.heap.size ≤ gb377))
        have n6_ := Aside0.mk ((by rw [hg]; exact (below_size (by repeat (first | (with_reducible first | exact HB.out | apply below_alloc | apply pw_below_drewN | apply below_drew1 | refine below_set ?_ GE329.out | refine below_set ?_ GE330.out | refine below_set ?_ GE339.out) | exact HB.out))) : w.heap.size ≤ gb377))
        have n7_ := Aside0.mk ((by rw [hg]; exact Nat.ne_of_lt (blk_lt (by exact BK329.out)) : gb329 ≠ gb377))
        have n8_ := Aside0.mk ((by rw [hg]; exact Nat.ne_of_gt (blk_lt (by exact BK329.out)) : gb377 ≠ gb329))
        have n9_ := Aside0.mk ((by rw [hg]; exact Nat.ne_of_lt (blk_lt (by exact BK330.out)) : gb330 ≠ gb377))
        have n10_ := Aside0.mk ((by rw [hg]; exact Nat.ne_of_gt (blk_lt (by exact BK330.out)) : gb377 ≠ gb330))
        have n11_ := Aside0.mk ((by rw [hg]; exact Nat.ne_of_lt (blk_lt (by exact BK339.out)) : gb339 ≠ gb377))
        have n12_ := Aside0.mk ((by rw [hg]; exact Nat.ne_of_gt (blk_lt (by exact BK339.out)) : gb377 ≠ gb339))
        clear BK329
        clear BK330
        clear BK339
        clear HB
        have BK329 := n0_
        have BK330 := n1_
        have BK339 := n2_
        have HB := n3_
        have BK377 := n4_
        have GW377 := n5_
        have GE377 := n6_
        have NB329_377 := n7_
        have NB377_329 := n8_
        have NB330_377 := n9_
        have NB377_330 := n10_
        have NB339_377 := n11_
        have NB377_339 := n12_
        clear n0_ n1_ n2_ n3_ n4_ n5_ n6_ n7_ n8_ n9_ n10_ n11_ n12_
        clear hb hbox hg
        refine hK.out _ _ ⟨(blk_cell BK339.out 0).trans rfl, (blk_cell BK339.out 1).trans rfl, (blk_cell BK339.out 2).trans rfl, (blk_cell BK339.out 3).trans rfl, (blk_cell BK339.out 4).trans rfl, (blk_cell BK339.out 5).trans rfl, (blk_cell BK330.out 0).trans rfl, (blk_cell BK330.out 1).trans rfl⟩ (fun hHeld => ?_)
        clear hK K
        refine norm_ (a' := ?_) ?_ ?_
        rotate_left
        ·show Act.put _ (some 19) _ = _
         simp only [Act.put, List.setIfInBounds_toArray, List.set_cons_zero, List.set_cons_succ, i64_w, i32_w]
         rfl
        refine one_ (i := 6) (N := some 81) #[true, true, true, true, true, true, true, false, false, false, true, false, false] rfl rfl (one_of HT_.out (by kernel_rfl)) (by decide) (fun K hK => ?_)
        refine goes_ Try.func11 (by kernel_rfl) rfl #[.agg #[.bool t364, .int .i64 t365, .bool t366, .int .i64 t367, .int .u64 t368, .int .u64 t369], .agg #[.int .i64 a1_0, .int .i64 ((ji9) % 1099511627776)], .int .i64 (Int.tmod a2 1099511627776), .int .i64 a3, .int .i64 a4] (by rfl) rfl rfl (by (try simp only [List.map_toArray, List.map_cons, List.map_nil]); first | done | (simp only [hji9]; rfl) | rfl | (simp only [List.length_drop, List.length_take]; rfl)) ?_
        with_reducible refine (codel_State_Look.calls k t364 t365 t366 t367 t368 t369 a1_0 ((ji9) % 1099511627776) (Int.tmod a2 1099511627776) a3 a4 t370 t371 t372 t373 t374 t375 t376 _ A56.out).mono ?_
        rintro e w75 ⟨rfl, hb⟩
        refine ⟨_, rfl, ?_⟩
        have n0_ := Aside0.mk (blk_below (by exact BK329.out) hb)
        have n1_ := Aside0.mk (blk_below (by exact BK330.out) hb)
        have n2_ := Aside0.mk (blk_below (by exact BK339.out) hb)
        have n3_ := Aside0.mk (blk_below (by exact BK377.out) hb)
        have n4_ := Aside0.mk (below_step (by repeat (first | (with_reducible first | exact HB.out | apply below_alloc | apply pw_below_drewN | apply below_drew1 | refine below_set ?_ GE329.out | refine below_set ?_ GE330.out | refine below_set ?_ GE339.out | refine below_set ?_ GE377.out) | exact HB.out)) hb)
        clear BK329
        clear BK330
        clear BK339
        clear BK377
        clear HB
        have BK329 := n0_
        have BK330 := n1_
        have BK339 := n2_
        have BK377 := n3_
        have HB := n4_
        clear n0_ n1_ n2_ n3_ n4_
        (try clear hb)
        (try clear hb2)
        (try clear hk)
        (try clear hi)
        refine hK.out _ _ ⟨(blk_cell BK339.out 0).trans rfl, (blk_cell BK339.out 1).trans rfl, (blk_cell BK339.out 2).trans rfl, (blk_cell BK339.out 3).trans rfl, (blk_cell BK339.out 4).trans rfl, (blk_cell BK339.out 5).trans rfl, (blk_cell BK330.out 0).trans rfl, (blk_cell BK330.out 1).trans rfl⟩ (fun hHeld => ?_)
        clear hK K
        refine norm_ (a' := ?_) ?_ ?_
        rotate_left
        ·show Act.put _ (some 81) _ = _
         simp only [Act.put, List.setIfInBounds_toArray, List.set_cons_zero, List.set_cons_succ, i64_w, i32_w]
         rfl
        refine pure_ (i := 7) (N := some 74) (v := ?_) (a' := ?_) #[true, true, true, true, true, true, true, true, false, false, true, false, false] rfl rfl (any_of HT_.out (by kernel_rfl)) (fun _ _ _ h => h) (Or.inl ⟨by rfl, ?_⟩) ?_ ?_
        rotate_left
        ·intro w'
         go_simp
         with_reducible rfl
        rotate_left
        ·simp only [Act.put, List.setIfInBounds_toArray, List.set_cons_zero, List.set_cons_succ, i64_w, i32_w]
         rfl
        refine pure_ (i := 8) (N := some 82) (v := ?_) (a' := ?_) #[true, true, true, true, true, true, true, true, true, false, true, false, false] rfl rfl (any_of HT_.out (by kernel_rfl)) (fun _ _ _ h => h) (Or.inl ⟨by rfl, ?_⟩) ?_ ?_
        rotate_left
        ·intro w'
         go_simp
         with_reducible rfl
        rotate_left
        ·simp only [Act.put, List.setIfInBounds_toArray, List.set_cons_zero, List.set_cons_succ, i64_w, i32_w]
         rfl
        refine pure_ (i := 9) (N := some 83) (v := ?_) (a' := ?_) #[true, true, true, true, true, true, true, true, true, true, true, false, false] rfl rfl (any_of HT_.out (by kernel_rfl)) (fun _ _ _ h => h) (Or.inl ⟨by rfl, ?_⟩) ?_ ?_
        rotate_left
        ·intro w'
         go_simp
         with_reducible rfl
        rotate_left
        ·simp only [Act.put, List.setIfInBounds_toArray, List.set_cons_zero, List.set_cons_succ, i64_w, i32_w]
         rfl
        exact norm_ (by simp only [putAll, Act.put, List.setIfInBounds_toArray, List.set_cons_zero, List.set_cons_succ]) (hCont (gb377) _ ⟨hHeld, (by exact BK329.out), (by exact BK330.out), (by exact BK339.out), (by exact BK377.out), GW377.out, GE377.out, NB329_377.out, NB377_329.out, NB330_377.out, NB377_330.out, NB339_377.out, NB377_339.out, (by repeat (first | (with_reducible first | exact HB.out | apply below_alloc | apply pw_below_drewN | apply below_drew1 | refine below_set ?_ GE329.out | refine below_set ?_ GE330.out | refine below_set ?_ GE339.out | refine below_set ?_ GE377.out) | exact HB.out))⟩)
      ·skip
       refine box_step ?hg (N := 19) ?hd (cs := #[.bool false, .int .i64 0, .bool false, .int .i64 0, .int .u64 0, .int .u64 0]) (t := 24) ?hr ?_; (case hd => rfl); (case hg => rfl); (case hr => first | (go_simp; done) | (go_simp; rfl))
       intro gb377 hg w73 hbox hb
       have n0_ := Aside0.mk (blk_below (by exact BK329.out) hb)
       have n1_ := Aside0.mk (blk_below (by exact BK330.out) hb)
       have n2_ := Aside0.mk (blk_below (by exact BK339.out) hb)
       have n3_ := Aside0.mk (below_step (by repeat (first | (with_reducible first | exact HB.out | apply below_alloc | apply pw_below_drewN | apply below_drew1 | refine below_set ?_ GE329.out | refine below_set ?_ GE330.out | refine below_set ?_ GE339.out) | exact HB.out)) hb)
       have n4_ := Aside0.mk (hbox)
       have n5_ := Aside0.mk ((by rw [hg]; exact (below_size (by repeat (first | (with_reducible first | exact HB.out | apply below_alloc | apply pw_below_drewN | apply below_drew1 | refine below_set ?_ GE329.out | refine below_set ?_ GE330.out | refine below_set ?_ GE339.out) | exact HB.out))) : w.heap.size ≤ gb377))
       have n6_ := Aside0.mk ((by rw [hg]; exact (below_size (by repeat (first | (with_reducible first | exact HB.out | apply below_alloc | apply pw_below_drewN | apply below_drew1 | refine below_set ?_ GE329.out | refine below_set ?_ GE330.out | refine below_set ?_ GE339.out) | exact HB.out))) : w.heap.size ≤ gb377))
       have n7_ := Aside0.mk ((by rw [hg]; exact Nat.ne_of_lt (blk_lt (by exact BK329.out)) : gb329 ≠ gb377))
       have n8_ := Aside0.mk ((by rw [hg]; exact Nat.ne_of_gt (blk_lt (by exact BK329.out)) : gb377 ≠ gb329))
       have n9_ := Aside0.mk ((by rw [hg]; exact Nat.ne_of_lt (blk_lt (by exact BK330.out)) : gb330 ≠ gb377))
       have n10_ := Aside0.mk ((by rw [hg]; exact Nat.ne_of_gt (blk_lt (by exact BK330.out)) : gb377 ≠ gb330))
       have n11_ := Aside0.mk ((by rw [hg]; exact Nat.ne_of_lt (blk_lt (by exact BK339.out)) : gb339 ≠ gb377))
       have n12_ := Aside0.mk ((by rw [hg]; exact Nat.ne_of_gt (blk_lt (by exact BK339.out)) : gb377 ≠ gb339))
       clear BK329
       clear BK330
       clear BK339
       clear HB
       have BK329 := n0_
       have BK330 := n1_
       have BK339 := n2_
       have HB := n3_
       have BK377 := n4_
       have GW377 := n5_
       have GE377 := n6_
       have NB329_377 := n7_
       have NB377_329 := n8_
       have NB330_377 := n9_
       have NB377_330 := n10_
       have NB339_377 := n11_
       have NB377_339 := n12_
       clear n0_ n1_ n2_ n3_ n4_ n5_ n6_ n7_ n8_ n9_ n10_ n11_ n12_
       clear hb hbox hg
       refine hK.out _ _ ⟨(blk_cell BK339.out 0).trans rfl, (blk_cell BK339.out 1).trans rfl, (blk_cell BK339.out 2).trans rfl, (blk_cell BK339.out 3).trans rfl, (blk_cell BK339.out 4).trans rfl, (blk_cell BK339.out 5).trans rfl, (blk_cell BK330.out 0).trans rfl, (blk_cell BK330.out 1).trans rfl⟩ (fun hHeld => ?_)
       clear hK K
       refine norm_ (a' := ?_) ?_ ?_
       rotate_left
       ·show Act.put _ (some 19) _ = _
        simp only [Act.put, List.setIfInBounds_toArray, List.set_cons_zero, List.set_cons_succ, i64_w, i32_w]
        rfl
       refine one_ (i := 1) (N := some 76) #[true, true, true, true, true, true, false, false, false, false, true, false, false] rfl rfl (one_of HT_.out (by kernel_rfl)) (by decide) (fun K hK => ?_)
       refine goes_ Try.func15 (by kernel_rfl) rfl #[.agg #[.bool t332, .int .i64 t333, .bool t334, .int .i64 t335, .int .u64 t336, .int .u64 t337]] (by rfl) rfl rfl (by (try simp only [List.map_toArray, List.map_cons, List.map_nil]); first | done | rfl | (simp only [List.length_drop, List.length_take]; rfl)) ?_
       with_reducible refine (codel_State_Empty.calls t332 t333 t334 t335 t336 t337 t364 t365 t366 t367 t368 t369 _ A55.out).mono ?_
       rintro e w74 ⟨rfl, hb⟩
       refine ⟨_, rfl, ?_⟩
       have n0_ := Aside0.mk (blk_below (by exact BK329.out) hb)
       have n1_ := Aside0.mk (blk_below (by exact BK330.out) hb)
       have n2_ := Aside0.mk (blk_below (by exact BK339.out) hb)
       have n3_ := Aside0.mk (blk_below (by exact BK377.out) hb)
       have n4_ := Aside0.mk (below_step (by repeat (first | (with_reducible first | exact HB.out | apply below_alloc | apply pw_below_drewN | apply below_drew1 | refine below_set ?_ GE329.out | refine below_set ?_ GE330.out | refine below_set ?_ GE339.out | refine below_set ?_ GE377.out) | exact HB.out)) hb)
       clear BK329
       clear BK330
       clear BK339
       clear BK377
       clear HB
       have BK329 := n0_
       have BK330 := n1_
       have BK339 := n2_
       have BK377 := n3_
       have HB := n4_
       clear n0_ n1_ n2_ n3_ n4_
       (try clear hb)
       (try clear hb2)
       (try clear hk)
       (try clear hi)
       refine hK.out _ _ ⟨(blk_cell BK339.out 0).trans rfl, (blk_cell BK339.out 1).trans rfl, (blk_cell BK339.out 2).trans rfl, (blk_cell BK339.out 3).trans rfl, (blk_cell BK339.out 4).trans rfl, (blk_cell BK339.out 5).trans rfl, (blk_cell BK330.out 0).trans rfl, (blk_cell BK330.out 1).trans rfl⟩ (fun hHeld => ?_)
       clear hK K
       refine norm_ (a' := ?_) ?_ ?_
       rotate_left
       ·show Act.put _ (some 76) _ = _
        simp only [Act.put, List.setIfInBounds_toArray, List.set_cons_zero, List.set_cons_succ, i64_w, i32_w]
        rfl
       refine one_ (i := 6) (N := some 81) #[true, true, true, true, true, true, true, false, false, false, true, false, false] rfl rfl (one_of HT_.out (by kernel_rfl)) (by decide) (fun K hK => ?_)
       refine goes_ Try.func11 (by kernel_rfl) rfl #[.agg #[.bool t364, .int .i64 t365, .bool t366, .int .i64 t367, .int .u64 t368, .int .u64 t369], .agg #[.int .i64 a1_0, .int .i64 ((ji9) % 1099511627776)], .int .i64 (Int.tmod a2 1099511627776), .int .i64 a3, .int .i64 a4] (by rfl) rfl rfl (by (try simp only [List.map_toArray, List.map_cons, List.map_nil]); first | done | (simp only [hji9]; rfl) | rfl | (simp only [List.length_drop, List.length_take]; rfl)) ?_
       with_reducible refine (codel_State_Look.calls k t364 t365 t366 t367 t368 t369 a1_0 ((ji9) % 1099511627776) (Int.tmod a2 1099511627776) a3 a4 t370 t371 t372 t373 t374 t375 t376 _ A56.out).mono ?_
       rintro e w75 ⟨rfl, hb⟩
       refine ⟨_, rfl, ?_⟩
       have n0_ := Aside0.mk (blk_below (by exact BK329.out) hb)
       have n1_ := Aside0.mk (blk_below (by exact BK330.out) hb)
       have n2_ := Aside0.mk (blk_below (by exact BK339.out) hb)
       have n3_ := Aside0.mk (blk_below (by exact BK377.out) hb)
       have n4_ := Aside0.mk (below_step (by repeat (first | (with_reducible first | exact HB.out | apply below_alloc | apply pw_below_drewN | apply below_drew1 | refine below_set ?_ GE329.out | refine below_set ?_ GE330.out | refine below_set ?_ GE339.out | refine below_set ?_ GE377.out) | exact HB.out)) hb)
       clear BK329
       clear BK330
       clear BK339
       clear BK377
       clear HB
       have BK329 := n0_
       have BK330 := n1_
       have BK339 := n2_
       have BK377 := n3_
       have HB := n4_
       clear n0_ n1_ n2_ n3_ n4_
       (try clear hb)
       (try clear hb2)
       (try clear hk)
       (try clear hi)
       refine hK.out _ _ ⟨(blk_cell BK339.out 0).trans rfl, (blk_cell BK339.out 1).trans rfl, (blk_cell BK339.out 2).trans rfl, (blk_cell BK339.out 3).trans rfl, (blk_cell BK339.out 4).trans rfl, (blk_cell BK339.out 5).trans rfl, (blk_cell BK330.out 0).trans rfl, (blk_cell BK330.out 1).trans rfl⟩ (fun hHeld => ?_)
       clear hK K
       refine norm_ (a' := ?_) ?_ ?_
       rotate_left
       ·show Act.put _ (some 81) _ = _
        simp only [Act.put, List.setIfInBounds_toArray, List.set_cons_zero, List.set_cons_succ, i64_w, i32_w]
        rfl
       refine pure_ (i := 7) (N := some 74) (v := ?_) (a' := ?_) #[true, true, true, true, true, true, true, true, false, false, true, false, false] rfl rfl (any_of HT_.out (by kernel_rfl)) (fun _ _ _ h => h) (Or.inl ⟨by rfl, ?_⟩) ?_ ?_
       rotate_left
       ·intro w'
        go_simp
        with_reducible rfl
       rotate_left
       ·simp only [Act.put, List.setIfInBounds_toArray, List.set_cons_zero, List.set_cons_succ, i64_w, i32_w]
        rfl
       refine pure_ (i := 8) (N := some 82) (v := ?_) (a' := ?_) #[true, true, true, true, true, true, true, true, true, false, true, false, false] rfl rfl (any_of HT_.out (by kernel_rfl)) (fun _ _ _ h => h) (Or.inl ⟨by rfl, ?_⟩) ?_ ?_
       rotate_left
       ·intro w'
        go_simp
        with_reducible rfl
       rotate_left
       ·simp only [Act.put, List.setIfInBounds_toArray, List.set_cons_zero, List.set_cons_succ, i64_w, i32_w]
        rfl
       refine pure_ (i := 9) (N := some 83) (v := ?_) (a' := ?_) #[true, true, true, true, true, true, true, true, true, true, true, false, false] rfl rfl (any_of HT_.out (by kernel_rfl)) (fun _ _ _ h => h) (Or.inl ⟨by rfl, ?_⟩) ?_ ?_
       rotate_left
       ·intro w'
        go_simp
        with_reducible rfl
       rotate_left
       ·simp only [Act.put, List.setIfInBounds_toArray, List.set_cons_zero, List.set_cons_succ, i64_w, i32_w]
        rfl
       exact norm_ (by simp only [putAll, Act.put, List.setIfInBounds_toArray, List.set_cons_zero, List.set_cons_succ]) (hCont (gb377) _ ⟨hHeld, (by exact BK329.out), (by exact BK330.out), (by exact BK339.out), (by exact BK377.out), GW377.out, GE377.out, NB329_377.out, NB377_329.out, NB330_377.out, NB377_330.out, NB339_377.out, NB377_339.out, (by repeat (first | (with_reducible first | exact HB.out | apply below_alloc | apply pw_below_drewN | apply below_drew1 | refine below_set ?_ GE329.out | refine below_set ?_ GE330.out | refine below_set ?_ GE339.out | refine below_set ?_ GE377.out) | exact HB.out))⟩)
     rintro gb377 w76 ⟨hS_, h0_, h1_, h2_, h3_, h4_, h5_, h6_, h7_, h8_, h9_, h10_, h11_, h12_⟩
     have n0_ : Aside0 (w76.heap[gb329]? = some (.cells #[.bool a0_0, .int .i64 a0_1, .bool a0_2, .int .i64 a0_3, .int .u64 a0_4, .int .u64 a0_5] 24 (0, 0))) := ⟨h0_⟩
     have n1_ : Aside0 (w76.heap[gb330]? = some (.cells #[.int .i64 a1_0, .int .i64 ((ji9) % 1099511627776)] 26 (0, 0))) := ⟨h1_⟩
     have n2_ : Aside0 (w76.heap[gb339]? = some (.cells #[.bool t332, .int .i64 t333, .bool t334, .int .i64 t335, .int .u64 t336, .int .u64 t337] 24 (0, 0))) := ⟨h2_⟩
     have n3_ : Aside0 (w76.heap[gb377]? = some (.cells #[.bool false, .int .i64 0, .bool false, .int .i64 0, .int .u64 0, .int .u64 0] 24 (0, 0))) := ⟨h3_⟩
     have n4_ : Aside0 (w.heap.size ≤ gb377) := ⟨h4_⟩
     have n5_ : Aside0 (w.heap.size ≤ gb377) := ⟨h5_⟩
     have n6_ : Aside0 (gb329 ≠ gb377) := ⟨h6_⟩
     have n7_ : Aside0 (gb377 ≠ gb329) := ⟨h7_⟩
     have n8_ : Aside0 (gb330 ≠ gb377) := ⟨h8_⟩
     have n9_ : Aside0 (gb377 ≠ gb330) := ⟨h9_⟩
     have n10_ : Aside0 (gb339 ≠ gb377) := ⟨h10_⟩
     have n11_ : Aside0 (gb377 ≠ gb339) := ⟨h11_⟩
     have n12_ : Aside0 (Below w.heap.size w w76) := ⟨h12_⟩
     clear BK329
     clear BK330
     clear BK339
     clear HB
     clear h0_ h1_ h2_ h3_ h4_ h5_ h6_ h7_ h8_ h9_ h10_ h11_ h12_
     have BK329 := n0_
     have BK330 := n1_
     have BK339 := n2_
     have BK377 := n3_
     have GW377 := n4_
     have GE377 := n5_
     have NB329_377 := n6_
     have NB377_329 := n7_
     have NB330_377 := n8_
     have NB377_330 := n9_
     have NB339_377 := n10_
     have NB377_339 := n11_
     have HB := n12_
     clear n0_ n1_ n2_ n3_ n4_ n5_ n6_ n7_ n8_ n9_ n10_ n11_ n12_
     have hHeld : w76.cell? ⟨gb339, 0, none⟩ = some (.bool t332) ∧ w76.cell? ⟨gb339, 1, none⟩ = some (.int .i64 t333) ∧ w76.cell? ⟨gb339, 2, none⟩ = some (.bool t334) ∧ w76.cell? ⟨gb339, 3, none⟩ = some (.int .i64 t335) ∧ w76.cell? ⟨gb339, 4, none⟩ = some (.int .u64 t336) ∧ w76.cell? ⟨gb339, 5, none⟩ = some (.int .u64 t337) ∧ w76.cell? ⟨gb330, 0, none⟩ = some (.int .i64 a1_0) ∧ w76.cell? ⟨gb330, 1, none⟩ = some (.int .i64 ((ji9) % 1099511627776)) := hS_
     refine norm_ (a' := ?_) ?_ ?_
     rotate_left
     ·simp only [putAll, Act.put, List.setIfInBounds_toArray, List.set_cons_zero, List.set_cons_succ]
      rfl
     refine one_ (i := 11) (N := none) #[true, true, true, true, true, true, true, true, true, true, true, true, false] rfl rfl (one_of HT_.out (by kernel_rfl)) (by decide) (fun K hK => ?_)
     have hs77 : w76.cell? ⟨gb377, 0, none⟩ = some (.bool false) := (blk_cell BK377.out 0).trans rfl
     have hfs77 := blk_frozen BK377.out 0
     have hns77_0 := NB329_377.out
     have hns77_1 := NB330_377.out
     have hns77_2 := NB339_377.out
     have hms77_0 := NB377_329.out
     have hms77_1 := NB377_330.out
     have hms77_2 := NB377_339.out
     have hs78 : w76.cell? ⟨gb377, 1, none⟩ = some (.int .i64 0) := (blk_cell BK377.out 1).trans rfl
     have hfs78 := blk_frozen BK377.out 1
     have hns78_0 := NB329_377.out
     have hns78_1 := NB330_377.out
     have hns78_2 := NB339_377.out
     have hms78_0 := NB377_329.out
     have hms78_1 := NB377_330.out
     have hms78_2 := NB377_339.out
     have hs79 : w76.cell? ⟨gb377, 2, none⟩ = some (.bool false) := (blk_cell BK377.out 2).trans rfl
     have hfs79 := blk_frozen BK377.out 2
     have hns79_0 := NB329_377.out
     have hns79_1 := NB330_377.out
     have hns79_2 := NB339_377.out
     have hms79_0 := NB377_329.out
     have hms79_1 := NB377_330.out
     have hms79_2 := NB377_339.out
     have hs80 : w76.cell? ⟨gb377, 3, none⟩ = some (.int .i64 0) := (blk_cell BK377.out 3).trans rfl
     have hfs80 := blk_frozen BK377.out 3
     have hns80_0 := NB329_377.out
     have hns80_1 := NB330_377.out
     have hns80_2 := NB339_377.out
     have hms80_0 := NB377_329.out
     have hms80_1 := NB377_330.out
     have hms80_2 := NB377_339.out
     have hs81 : w76.cell? ⟨gb377, 4, none⟩ = some (.int .u64 0) := (blk_cell BK377.out 4).trans rfl
     have hfs81 := blk_frozen BK377.out 4
     have hns81_0 := NB329_377.out
     have hns81_1 := NB330_377.out
     have hns81_2 := NB339_377.out
     have hms81_0 := NB377_329.out
     have hms81_1 := NB377_330.out
     have hms81_2 := NB377_339.out
     have hs82 : w76.cell? ⟨gb377, 5, none⟩ = some (.int .u64 0) := (blk_cell BK377.out 5).trans rfl
     have hfs82 := blk_frozen BK377.out 5
     have hns82_0 := NB329_377.out
     have hns82_1 := NB330_377.out
     have hns82_2 := NB339_377.out
     have hms82_0 := NB377_329.out
     have hms82_1 := NB377_330.out
     have hms82_2 := NB377_339.out
     refine skip_ (w1 := ?_) (by rfl) rfl ?_ ?_
     rotate_left
     ·go_simp
      rfl
     refine hK.out _ _ ⟨((cell_far (p := ⟨gb377, _, none⟩) NB339_377.out _).trans (((cell_far (p := ⟨gb377, _, none⟩) NB339_377.out _).trans (((cell_far (p := ⟨gb377, _, none⟩) NB339_377.out _).trans (((cell_far (p := ⟨gb377, _, none⟩) NB339_377.out _).trans (((cell_far (p := ⟨gb377, _, none⟩) NB339_377.out _).trans (((cell_far (p := ⟨gb377, _, none⟩) NB339_377.out _).trans (hHeld.1)))))))))))), ((cell_far (p := ⟨gb377, _, none⟩) NB339_377.out _).trans (((cell_far (p := ⟨gb377, _, none⟩) NB339_377.out _).trans (((cell_far (p := ⟨gb377, _, none⟩) NB339_377.out _).trans (((cell_far (p := ⟨gb377, _, none⟩) NB339_377.out _).trans (((cell_far (p := ⟨gb377, _, none⟩) NB339_377.out _).trans (((cell_far (p := ⟨gb377, _, none⟩) NB339_377.out _).trans (hHeld.2.1)))))))))))), ((cell_far (p := ⟨gb377, _, none⟩) NB339_377.out _).trans (((cell_far (p := ⟨gb377, _, none⟩) NB339_377.out _).trans (((cell_far (p := ⟨gb377, _, none⟩) NB339_377.out _).trans (((cell_far (p := ⟨gb377, _, none⟩) NB339_377.out _).trans (((cell_far (p := ⟨gb377, _, none⟩) NB339_377.out _).trans (((cell_far (p := ⟨gb377, _, none⟩) NB339_377.out _).trans (hHeld.2.2.1)))))))))))), ((cell_far (p := ⟨gb377, _, none⟩) NB339_377.out _).trans (((cell_far (p := ⟨gb377, _, none⟩) NB339_377.out _).trans (((cell_far (p := ⟨gb377, _, none⟩) NB339_377.out _).trans (((cell_far (p := ⟨gb377, _, none⟩) NB339_377.out _).trans (((cell_far (p := ⟨gb377, _, none⟩) NB339_377.out _).trans (((cell_far (p := ⟨gb377, _, none⟩) NB339_377.out _).trans (hHeld.2.2.2.1)))))))))))), ((cell_far (p := ⟨gb377, _, none⟩) NB339_377.out _).trans (((cell_far (p := ⟨gb377, _, none⟩) NB339_377.out _).trans (((cell_far (p := ⟨gb377, _, none⟩) NB339_377.out _).trans (((cell_far (p := ⟨gb377, _, none⟩) NB339_377.out _).trans (((cell_far (p := ⟨gb377, _, none⟩) NB339_377.out _).trans (((cell_far (p := ⟨gb377, _, none⟩) NB339_377.out _).trans (hHeld.2.2.2.2.1)))))))))))), ((cell_far (p := ⟨gb377, _, none⟩) NB339_377.out _).trans (((cell_far (p := ⟨gb377, _, none⟩) NB339_377.out _).trans (((cell_far (p := ⟨gb377, _, none⟩) NB339_377.out _).trans (((cell_far (p := ⟨gb377, _, none⟩) NB339_377.out _).trans (((cell_far (p := ⟨gb377, _, none⟩) NB339_377.out _).trans (((cell_far (p := ⟨gb377, _, none⟩) NB339_377.out _).trans (hHeld.2.2.2.2.2.1)))))))))))), ((cell_far (p := ⟨gb377, _, none⟩) NB330_377.out _).trans (((cell_far (p := ⟨gb377, _, none⟩) NB330_377.out _).trans (((cell_far (p := ⟨gb377, _, none⟩) NB330_377.out _).trans (((cell_far (p := ⟨gb377, _, none⟩) NB330_377.out _).trans (((cell_far (p := ⟨gb377, _, none⟩) NB330_377.out _).trans (((cell_far (p := ⟨gb377, _, none⟩) NB330_377.out _).trans (hHeld.2.2.2.2.2.2.1)))))))))))), ((cell_far (p := ⟨gb377, _, none⟩) NB330_377.out _).trans (((cell_far (p := ⟨gb377, _, none⟩) NB330_377.out _).trans (((cell_far (p := ⟨gb377, _, none⟩) NB330_377.out _).trans (((cell_far (p := ⟨gb377, _, none⟩) NB330_377.out _).trans (((cell_far (p := ⟨gb377, _, none⟩) NB330_377.out _).trans (((cell_far (p := ⟨gb377, _, none⟩) NB330_377.out _).trans (hHeld.2.2.2.2.2.2.2))))))))))))⟩ (fun hHeld => ?_)
     clear hK K
     refine pure_ (i := 12) (N := some 20) (v := ?_) (a' := ?_) #[true, true, true, true, true, true, true, true, true, true, true, true, true] rfl rfl (any_of HT_.out (by kernel_rfl)) (fun _ _ _ h => h) (Or.inl ⟨by rfl, ?_⟩) ?_ ?_
     rotate_left
     ·intro w'
      go_simp
      with_reducible rfl
     rotate_left
     ·simp only [Act.put, List.setIfInBounds_toArray, List.set_cons_zero, List.set_cons_succ, i64_w, i32_w]
      rfl
     refine done_ (done_of HT_.out (by kernel_rfl)) ?_
     try go_wp2
     go_ret
     exact ⟨by first | rfl | (simp [errW_none, errW_some] <;> rfl) | (simp only [← hji9, ← hji15]; first | rfl | (simp [errW_none, errW_some] <;> rfl)) | (simp [*, errW_none, errW_some] <;> rfl), by repeat (first | (with_reducible first | exact HB.out | apply below_alloc | apply pw_below_drewN | apply below_drew1 | refine below_set ?_ GE329.out | refine below_set ?_ GE330.out | refine below_set ?_ GE339.out | refine below_set ?_ GE377.out) | exact HB.out)⟩
   ·rw [if_neg c14] at H
    exact absurd H (by simp)
  ·rw [if_neg c11] at H
   have c11b0 : (t338 == 2) = false := beq_eq_false_iff_ne.mpr c11
   have c11b1 : (t338 != 2) = true := bne_iff_ne.mpr c11
   replace H := Option.bind_eq_some_iff.mp H
   obtain ⟨⟨t378, t379, t380, t381, t382, t383⟩, A830, H⟩ := H
   replace H : ((codel_State_Look.f k t378 t379 t380 t381 t382 t383 a1_0 ((ji9) % 1099511627776) (Int.tmod a2 1099511627776) a3 a4).bind fun bt384 => (some (bt384.2.2.2.2.2.2 == 0))) = some r := H
   have A83 := Aside0.mk A830
   clear A830
   replace H := Option.bind_eq_some_iff.mp H
   obtain ⟨⟨t384, t385, t386, t387, t388, t389, t390⟩, A840, H⟩ := H
   replace H : (some (t390 == 0)) = some r := H
   have A84 := Aside0.mk A840
   clear A840
   obtain rfl := Option.some.inj H
   go_enter Try.func6, Try.ntmps6
   try go_wp2_with (first | ((with_reducible refine gate_dst (N := 6) rfl ?_); refine box_event ?hg (N := 6) ?hd (cs := #[.bool a0_0, .int .i64 a0_1, .bool a0_2, .int .i64 a0_3, .int .u64 a0_4, .int .u64 a0_5]) (t := 24) ?hr ?_; (case hd => rfl); (case hg => rfl); (case hr => first | (go_simp; done) | (go_simp; rfl)); intro gb329 hg w85 hbox hb; have n0_ := Aside0.mk (below_step (by repeat (first | (with_reducible first | exact HB.out | apply below_alloc | apply pw_below_drewN | apply below_drew1) | exact HB.out)) hb); have n1_ := Aside0.mk (hbox); have n2_ := Aside0.mk ((by rw [hg]; exact (below_size (by repeat (first | (with_reducible first | exact HB.out | apply below_alloc | apply pw_below_drewN | apply below_drew1) | exact HB.out))) : w.heap.size ≤ gb329)); have n3_ := Aside0.mk ((by rw [hg]; exact (below_size (by repeat (first | (with_reducible first | exact HB.out | apply below_alloc | apply pw_below_drewN | apply below_drew1) | exact HB.out))) : w.heap.size ≤ gb329)); clear HB; have HB := n0_; have BK329 := n1_; have GW329 := n2_; have GE329 := n3_; clear n0_ n1_ n2_ n3_; clear hb hbox hg) | ((with_reducible refine gate_dst (N := 7) rfl ?_); refine box_event ?hg (N := 7) ?hd (cs := #[.int .i64 a1_0, .int .i64 a1_1]) (t := 26) ?hr ?_; (case hd => rfl); (case hg => rfl); (case hr => first | (go_simp; done) | (go_simp; rfl)); intro gb330 hg w86 hbox hb; have n0_ := Aside0.mk (blk_below (by exact BK329.out) hb); have n1_ := Aside0.mk (below_step (by repeat (first | (with_reducible first | exact HB.out | apply below_alloc | apply pw_below_drewN | apply below_drew1 | refine below_set ?_ GE329.out) | exact HB.out)) hb); have n2_ := Aside0.mk (hbox); have n3_ := Aside0.mk ((by rw [hg]; exact (below_size (by repeat (first | (with_reducible first | exact HB.out | apply below_alloc | apply pw_below_drewN | apply below_drew1 | refine below_set ?_ GE329.out) | exact HB.out))) : w.heap.size ≤ gb330)); have n4_ := Aside0.mk ((by rw [hg]; exact (below_size (by repeat (first | (with_reducible first | exact HB.out | apply below_alloc | apply pw_below_drewN | apply below_drew1 | refine below_set ?_ GE329.out) | exact HB.out))) : w.heap.size ≤ gb330)); have n5_ := Aside0.mk ((by rw [hg]; exact Nat.ne_of_lt (blk_lt (by exact BK329.out)) : gb329 ≠ gb330)); have n6_ := Aside0.mk ((by rw [hg]; exact Nat.ne_of_gt (blk_lt (by exact BK329.out)) : gb330 ≠ gb329)); clear BK329; clear HB; have BK329 := n0_; have HB := n1_; have BK330 := n2_; have GW330 := n3_; have GE330 := n4_; have NB329_330 := n5_; have NB330_329 := n6_; clear n0_ n1_ n2_ n3_ n4_ n5_ n6_; clear hb hbox hg) | ((with_reducible refine gate_callee (f := 9) rfl ?_); refine goesL_ (some 21) rfl rfl Try.func9 (by kernel_rfl) rfl #[] rfl (by (try simp only [List.map_toArray, List.map_cons, List.map_nil]); first | done | rfl | (simp only [List.length_drop, List.length_take]; rfl)) ?_; (with_reducible refine (overfalllaw08_awake.calls k  true _ A7.out).mono ?_); rintro e w87 ⟨rfl, hb⟩; refine ⟨_, rfl, ?_⟩; have n0_ := Aside0.mk (blk_below (by exact BK329.out) hb); have n1_ := Aside0.mk (blk_below (by exact BK330.out) hb); have n2_ := Aside0.mk (below_step (by repeat (first | (with_reducible first | exact HB.out | apply below_alloc | apply pw_below_drewN | apply below_drew1 | refine below_set ?_ GE329.out | refine below_set ?_ GE330.out) | exact HB.out)) hb); clear BK329; clear BK330; clear HB; have BK329 := n0_; have BK330 := n1_; have HB := n2_; clear n0_ n1_ n2_; (try clear hb); (try clear hb2); (try clear hk); (try clear hi); have hnb88 := NB330_329.out; have hnc88 := NB329_330.out; have hcz89_0 : w87.cell? ⟨gb330, 0, none⟩ = some (.int .i64 a1_0) := (blk_cell BK330.out 0).trans rfl; have hcz89_1 : w87.cell? ⟨gb330, 1, none⟩ = some (.int .i64 a1_1) := (blk_cell BK330.out 1).trans rfl; have hfz89_0 := blk_frozen BK330.out 0; have hfz89_1 := blk_frozen BK330.out 1; have hcz90_0 : w87.cell? ⟨gb329, 0, none⟩ = some (.bool a0_0) := (blk_cell BK329.out 0).trans rfl; have hcz90_1 : w87.cell? ⟨gb329, 1, none⟩ = some (.int .i64 a0_1) := (blk_cell BK329.out 1).trans rfl; have hcz90_2 : w87.cell? ⟨gb329, 2, none⟩ = some (.bool a0_2) := (blk_cell BK329.out 2).trans rfl; have hcz90_3 : w87.cell? ⟨gb329, 3, none⟩ = some (.int .i64 a0_3) := (blk_cell BK329.out 3).trans rfl; have hcz90_4 : w87.cell? ⟨gb329, 4, none⟩ = some (.int .u64 a0_4) := (blk_cell BK329.out 4).trans rfl; have hcz90_5 : w87.cell? ⟨gb329, 5, none⟩ = some (.int .u64 a0_5) := (blk_cell BK329.out 5).trans rfl; have hfz90_0 := blk_frozen BK329.out 0; have hfz90_1 := blk_frozen BK329.out 1; have hfz90_2 := blk_frozen BK329.out 2; have hfz90_3 := blk_frozen BK329.out 3; have hfz90_4 := blk_frozen BK329.out 4; have hfz90_5 := blk_frozen BK329.out 5) | ((with_reducible refine gate_callee (f := 11) rfl ?_); refine goesL_ (some 39) rfl rfl Try.func11 (by kernel_rfl) rfl #[.agg #[.bool a0_0, .int .i64 a0_1, .bool a0_2, .int .i64 a0_3, .int .u64 a0_4, .int .u64 a0_5], .agg #[.int .i64 a1_0, .int .i64 ((ji9) % 1099511627776)], .int .i64 (Int.tmod a2 1099511627776), .int .i64 a3, .int .i64 a4] rfl (by (try simp only [List.map_toArray, List.map_cons, List.map_nil]); first | done | (simp only [hji9]; rfl) | rfl | (simp only [List.length_drop, List.length_take]; rfl)) ?_; (with_reducible refine (codel_State_Look.calls k a0_0 a0_1 a0_2 a0_3 a0_4 a0_5 a1_0 ((ji9) % 1099511627776) (Int.tmod a2 1099511627776) a3 a4 t332 t333 t334 t335 t336 t337 t338 _ A10.out).mono ?_); rintro e w91 ⟨rfl, hb⟩; refine ⟨_, rfl, ?_⟩; have n0_ := Aside0.mk (blk_below (g := gb329) (o := .cells #[.bool a0_0, .int .i64 a0_1, .bool a0_2, .int .i64 a0_3, .int .u64 a0_4, .int .u64 a0_5] 24 (0, 0)) (by refine blk_far ?_ NB329_330.out _; refine blk_far ?_ NB329_330.out _; exact BK329.out) hb); have n1_ := Aside0.mk (blk_below (g := gb330) (o := .cells #[.int .i64 a1_0, .int .i64 ((ji9) % 1099511627776)] 26 (0, 0)) (by refine blk_put (cs := #[.int .i64 a1_0, .int .i64 ji9]) ?_ 1 _ rfl; refine blk_put (cs := #[.int .i64 a1_0, .int .i64 a1_1]) ?_ 1 _ rfl; exact BK330.out) hb); have n2_ := Aside0.mk (below_step (by repeat (first | (with_reducible first | exact HB.out | apply below_alloc | apply pw_below_drewN | apply below_drew1 | refine below_set ?_ GE329.out | refine below_set ?_ GE330.out) | exact HB.out)) hb); clear BK329; clear BK330; clear HB; have BK329 := n0_; have BK330 := n1_; have HB := n2_; clear n0_ n1_ n2_; (try clear hb); (try clear hb2); (try clear hk); (try clear hi)) | ((with_reducible refine gate_dst (N := 13) rfl ?_); refine box_event ?hg (N := 13) ?hd (cs := #[.bool false, .int .i64 0, .bool false, .int .i64 0, .int .u64 0, .int .u64 0]) (t := 24) ?hr ?_; (case hd => rfl); (case hg => rfl); (case hr => first | (go_simp; done) | (go_simp; rfl)); intro gb339 hg w92 hbox hb; have n0_ := Aside0.mk (blk_below (by exact BK329.out) hb); have n1_ := Aside0.mk (blk_below (by exact BK330.out) hb); have n2_ := Aside0.mk (below_step (by repeat (first | (with_reducible first | exact HB.out | apply below_alloc | apply pw_below_drewN | apply below_drew1 | refine below_set ?_ GE329.out | refine below_set ?_ GE330.out) | exact HB.out)) hb); have n3_ := Aside0.mk (hbox); have n4_ := Aside0.mk ((by rw [hg]; exact (below_size (by repeat (first | (with_reducible first | exact HB.out | apply below_alloc | apply pw_below_drewN | apply below_drew1 | refine below_set ?_ GE329.out | refine below_set ?_ GE330.out) | exact HB.out))) : w.heap.size ≤ gb339)); have n5_ := Aside0.mk ((by rw [hg]; exact (below_size (by repeat (first | (with_reducible first | exact HB.out | apply below_alloc | apply pw_below_drewN | apply below_drew1 | refine below_set ?_ GE329.out | refine below_set ?_ GE330.out) | exact HB.out))) : w.heap.size ≤ gb339)); have n6_ := Aside0.mk ((by rw [hg]; exact Nat.ne_of_lt (blk_lt (by exact BK329.out)) : gb329 ≠ gb339)); have n7_ := Aside0.mk ((by rw [hg]; exact Nat.ne_of_gt (blk_lt (by exact BK329.out)) : gb339 ≠ gb329)); have n8_ := Aside0.mk ((by rw [hg]; exact Nat.ne_of_lt (blk_lt (by exact BK330.out)) : gb330 ≠ gb339)); have n9_ := Aside0.mk ((by rw [hg]; exact Nat.ne_of_gt (blk_lt (by exact BK330.out)) : gb339 ≠ gb330)); clear BK329; clear BK330; clear HB; have BK329 := n0_; have BK330 := n1_; have HB := n2_; have BK339 := n3_; have GW339 := n4_; have GE339 := n5_; have NB329_339 := n6_; have NB339_329 := n7_; have NB330_339 := n8_; have NB339_330 := n9_; clear n0_ n1_ n2_ n3_ n4_ n5_ n6_ n7_ n8_ n9_; clear hb hbox hg; have hnb93 := NB339_329.out; have hnc93 := NB329_339.out; have hnb94 := NB339_330.out; have hnc94 := NB330_339.out; have hcz95_0 : w92.cell? ⟨gb339, 0, none⟩ = some (.bool false) := (blk_cell BK339.out 0).trans rfl; have hcz95_1 : w92.cell? ⟨gb339, 1, none⟩ = some (.int .i64 0) := (blk_cell BK339.out 1).trans rfl; have hcz95_2 : w92.cell? ⟨gb339, 2, none⟩ = some (.bool false) := (blk_cell BK339.out 2).trans rfl; have hcz95_3 : w92.cell? ⟨gb339, 3, none⟩ = some (.int .i64 0) := (blk_cell BK339.out 3).trans rfl; have hcz95_4 : w92.cell? ⟨gb339, 4, none⟩ = some (.int .u64 0) := (blk_cell BK339.out 4).trans rfl; have hcz95_5 : w92.cell? ⟨gb339, 5, none⟩ = some (.int .u64 0) := (blk_cell BK339.out 5).trans rfl; have hfz95_0 := blk_frozen BK339.out 0; have hfz95_1 := blk_frozen BK339.out 1; have hfz95_2 := blk_frozen BK339.out 2; have hfz95_3 := blk_frozen BK339.out 3; have hfz95_4 := blk_frozen BK339.out 4; have hfz95_5 := blk_frozen BK339.out 5))
   have n0_ : Aside0 (((((((w92.setCell ⟨gb339, 0, none⟩ (.bool t332)).setCell ⟨gb339, 1, none⟩ (.int .i64 t333)).setCell ⟨gb339, 2, none⟩ (.bool t334)).setCell ⟨gb339, 3, none⟩ (.int .i64 t335)).setCell ⟨gb339, 4, none⟩ (.int .u64 t336)).setCell ⟨gb339, 5, none⟩ (.int .u64 t337)).heap[gb329]? = some (.cells #[.bool a0_0, .int .i64 a0_1, .bool a0_2, .int .i64 a0_3, .int .u64 a0_4, .int .u64 a0_5] 24 (0, 0))) := ⟨by refine blk_far ?_ NB329_339.out _; refine blk_far ?_ NB329_339.out _; refine blk_far ?_ NB329_339.out _; refine blk_far ?_ NB329_339.out _; refine blk_far ?_ NB329_339.out _; refine blk_far ?_ NB329_339.out _; exact BK329.out⟩
   have n1_ : Aside0 (((((((w92.setCell ⟨gb339, 0, none⟩ (.bool t332)).setCell ⟨gb339, 1, none⟩ (.int .i64 t333)).setCell ⟨gb339, 2, none⟩ (.bool t334)).setCell ⟨gb339, 3, none⟩ (.int .i64 t335)).setCell ⟨gb339, 4, none⟩ (.int .u64 t336)).setCell ⟨gb339, 5, none⟩ (.int .u64 t337)).heap[gb330]? = some (.cells #[.int .i64 a1_0, .int .i64 ((ji9) % 1099511627776)] 26 (0, 0))) := ⟨by refine blk_far ?_ NB330_339.out _; refine blk_far ?_ NB330_339.out _; refine blk_far ?_ NB330_339.out _; refine blk_far ?_ NB330_339.out _; refine blk_far ?_ NB330_339.out _; refine blk_far ?_ NB330_339.out _; exact BK330.out⟩
   have n2_ : Aside0 (((((((w92.setCell ⟨gb339, 0, none⟩ (.bool t332)).setCell ⟨gb339, 1, none⟩ (.int .i64 t333)).setCell ⟨gb339, 2, none⟩ (.bool t334)).setCell ⟨gb339, 3, none⟩ (.int .i64 t335)).setCell ⟨gb339, 4, none⟩ (.int .u64 t336)).setCell ⟨gb339, 5, none⟩ (.int .u64 t337)).heap[gb339]? = some (.cells #[.bool t332, .int .i64 t333, .bool t334, .int .i64 t335, .int .u64 t336, .int .u64 t337] 24 (0, 0))) := ⟨by refine blk_put (cs := #[.bool t332, .int .i64 t333, .bool t334, .int .i64 t335, .int .u64 t336, .int .u64 0]) ?_ 5 _ rfl; refine blk_put (cs := #[.bool t332, .int .i64 t333, .bool t334, .int .i64 t335, .int .u64 0, .int .u64 0]) ?_ 4 _ rfl; refine blk_put (cs := #[.bool t332, .int .i64 t333, .bool t334, .int .i64 0, .int .u64 0, .int .u64 0]) ?_ 3 _ rfl; refine blk_put (cs := #[.bool t332, .int .i64 t333, .bool false, .int .i64 0, .int .u64 0, .int .u64 0]) ?_ 2 _ rfl; refine blk_put (cs := #[.bool t332, .int .i64 0, .bool false, .int .i64 0, .int .u64 0, .int .u64 0]) ?_ 1 _ rfl; refine blk_put (cs := #[.bool false, .int .i64 0, .bool false, .int .i64 0, .int .u64 0, .int .u64 0]) ?_ 0 _ rfl; exact BK339.out⟩
   have n3_ : Aside0 (Below w.heap.size w ((((((w92.setCell ⟨gb339, 0, none⟩ (.bool t332)).setCell ⟨gb339, 1, none⟩ (.int .i64 t333)).setCell ⟨gb339, 2, none⟩ (.bool t334)).setCell ⟨gb339, 3, none⟩ (.int .i64 t335)).setCell ⟨gb339, 4, none⟩ (.int .u64 t336)).setCell ⟨gb339, 5, none⟩ (.int .u64 t337))) := ⟨by repeat (first | (with_reducible first | exact HB.out | apply below_alloc | apply pw_below_drewN | apply below_drew1 | refine below_set ?_ GE329.out | refine below_set ?_ GE330.out | refine below_set ?_ GE339.out) | exact HB.out)⟩
   (try clear BK329)
   (try clear BK330)
   (try clear BK339)
   (try clear HB)
   generalize ((((((w92.setCell ⟨gb339, 0, none⟩ (.bool t332)).setCell ⟨gb339, 1, none⟩ (.int .i64 t333)).setCell ⟨gb339, 2, none⟩ (.bool t334)).setCell ⟨gb339, 3, none⟩ (.int .i64 t335)).setCell ⟨gb339, 4, none⟩ (.int .u64 t336)).setCell ⟨gb339, 5, none⟩ (.int .u64 t337)) = w96 at n0_ n1_ n2_ n3_ ⊢
   have BK329 := n0_
   have BK330 := n1_
   have BK339 := n2_
   have HB := n3_
   clear n0_ n1_ n2_ n3_
   have n0_ := Aside0.mk (blk_drew BK329.out)
   have n1_ := Aside0.mk (blk_drew BK330.out)
   have n2_ := Aside0.mk (blk_drew BK339.out)
   have n3_ := Aside0.mk (below_drew1 HB.out)
   clear BK329
   clear BK330
   clear BK339
   clear HB
   have BK329 := n0_
   have BK330 := n1_
   have BK339 := n2_
   have HB := n3_
   clear n0_ n1_ n2_ n3_
   refine start_ (n := 13) (S := fun w' => w'.cell? ⟨gb339, 0, none⟩ = some (.bool t332) ∧ w'.cell? ⟨gb339, 1, none⟩ = some (.int .i64 t333) ∧ w'.cell? ⟨gb339, 2, none⟩ = some (.bool t334) ∧ w'.cell? ⟨gb339, 3, none⟩ = some (.int .i64 t335) ∧ w'.cell? ⟨gb339, 4, none⟩ = some (.int .u64 t336) ∧ w'.cell? ⟨gb339, 5, none⟩ = some (.int .u64 t337) ∧ w'.cell? ⟨gb330, 0, none⟩ = some (.int .i64 a1_0) ∧ w'.cell? ⟨gb330, 1, none⟩ = some (.int .i64 ((ji9) % 1099511627776))) (ds := []) #[false, false, false, false, false, false, false, false, false, false, false, false, false] (by kernel_rfl) rfl rfl ⟨(blk_cell BK339.out 0).trans rfl, (blk_cell BK339.out 1).trans rfl, (blk_cell BK339.out 2).trans rfl, (blk_cell BK339.out 3).trans rfl, (blk_cell BK339.out 4).trans rfl, (blk_cell BK339.out 5).trans rfl, (blk_cell BK330.out 0).trans rfl, (blk_cell BK330.out 1).trans rfl⟩ (fun hHeld => ?_); refine with_tabW overfalllaw08_CodelSpares.tab16 overfalllaw08_CodelSpares.bits16 (fun HT_ HW_ => ?_)
   generalize w96.drew = w97 at BK329 BK330 BK339 HB hHeld ⊢
   refine pure_ (i := 3) (N := some 78) (v := ?_) (a' := ?_) #[false, false, false, true, false, false, false, false, false, false, false, false, false] rfl rfl (any_of HT_.out (by kernel_rfl)) (fun _ _ _ h => h) (Or.inl ⟨by rfl, ?_⟩) ?_ ?_
   rotate_left
   ·intro w'
    go_simp
    with_reducible rfl
   rotate_left
   ·simp only [Act.put, List.setIfInBounds_toArray, List.set_cons_zero, List.set_cons_succ, i64_w, i32_w]
    rfl
   refine pure_ (i := 4) (N := some 79) (v := ?_) (a' := ?_) #[false, false, false, true, true, false, false, false, false, false, false, false, false] rfl rfl (any_of HT_.out (by kernel_rfl)) (fun _ _ _ h => h) (Or.inl ⟨by rfl, ?_⟩) ?_ ?_
   rotate_left
   ·intro w'
    go_simp
    with_reducible rfl
   rotate_left
   ·simp only [Act.put, List.setIfInBounds_toArray, List.set_cons_zero, List.set_cons_succ, i64_w, i32_w]
    rfl
   refine pure_ (i := 5) (N := some 80) (v := ?_) (a' := ?_) #[false, false, false, true, true, true, false, false, false, false, false, false, false] rfl rfl (any_of HT_.out (by kernel_rfl)) (fun _ _ _ h => h) (Or.inl ⟨by rfl, ?_⟩) ?_ ?_
   rotate_left
   ·intro w'
    go_simp
    with_reducible rfl
   rotate_left
   ·simp only [Act.put, List.setIfInBounds_toArray, List.set_cons_zero, List.set_cons_succ, i64_w, i32_w]
    rfl
   refine take_ (i := 0) (N := some 75) (v := ?_) (a' := ?_) #[true, false, false, true, true, true, false, false, false, false, false, false, false] rfl rfl (take_ofW HT_.out HW_.out (by kernel_rfl)) (fun _ _ _ h => h) (Or.inl ⟨by rfl, ?_⟩) hHeld ?_ ?_
   rotate_left
   ·rintro w' ⟨s0, s1, s2, s3, s4, s5, s6, s7⟩
    go_simp
    with_reducible rfl
   rotate_left
   ·simp only [Act.put, List.setIfInBounds_toArray, List.set_cons_zero, List.set_cons_succ, i64_w, i32_w]
    rfl
   refine take_ (i := 2) (N := some 77) (v := ?_) (a' := ?_) #[true, false, true, true, true, true, false, false, false, false, false, false, false] rfl rfl (take_ofW HT_.out HW_.out (by kernel_rfl)) (fun _ _ _ h => h) (Or.inl ⟨by rfl, ?_⟩) hHeld ?_ ?_
   rotate_left
   ·rintro w' ⟨s0, s1, s2, s3, s4, s5, s6, s7⟩
    go_simp
    with_reducible rfl
   rotate_left
   ·simp only [Act.put, List.setIfInBounds_toArray, List.set_cons_zero, List.set_cons_succ, i64_w, i32_w]
    rfl
   refine join_ (σ := Nat) 2 #[true, true, true, true, true, true, true, true, true, true, true, false, false] (fun s_ => [(76, .agg #[.bool t378, .int .i64 t379, .bool t380, .int .i64 t381, .int .u64 t382, .int .u64 t383]), (81, .tuple #[.agg #[.bool t384, .int .i64 t385, .bool t386, .int .i64 t387, .int .u64 t388, .int .u64 t389], .int .i64 t390]), (19, .pointer (some ⟨s_, 0, none⟩)), (74, .tuple #[.agg #[.bool t384, .int .i64 t385, .bool t386, .int .i64 t387, .int .u64 t388, .int .u64 t389], .int .i64 t390]), (82, .agg #[.bool t384, .int .i64 t385, .bool t386, .int .i64 t387, .int .u64 t388, .int .u64 t389]), (83, .int .i64 t390)]) (fun s_ w' => (w'.cell? ⟨gb339, 0, none⟩ = some (.bool t332) ∧ w'.cell? ⟨gb339, 1, none⟩ = some (.int .i64 t333) ∧ w'.cell? ⟨gb339, 2, none⟩ = some (.bool t334) ∧ w'.cell? ⟨gb339, 3, none⟩ = some (.int .i64 t335) ∧ w'.cell? ⟨gb339, 4, none⟩ = some (.int .u64 t336) ∧ w'.cell? ⟨gb339, 5, none⟩ = some (.int .u64 t337) ∧ w'.cell? ⟨gb330, 0, none⟩ = some (.int .i64 a1_0) ∧ w'.cell? ⟨gb330, 1, none⟩ = some (.int .i64 ((ji9) % 1099511627776))) ∧ (w'.heap[gb329]? = some (.cells #[.bool a0_0, .int .i64 a0_1, .bool a0_2, .int .i64 a0_3, .int .u64 a0_4, .int .u64 a0_5] 24 (0, 0))) ∧ (w'.heap[gb330]? = some (.cells #[.int .i64 a1_0, .int .i64 ((ji9) % 1099511627776)] 26 (0, 0))) ∧ (w'.heap[gb339]? = some (.cells #[.bool t332, .int .i64 t333, .bool t334, .int .i64 t335, .int .u64 t336, .int .u64 t337] 24 (0, 0))) ∧ (w'.heap[s_]? = some (.cells #[.bool false, .int .i64 0, .bool false, .int .i64 0, .int .u64 0, .int .u64 0] 24 (0, 0))) ∧ (w.heap.size ≤ s_) ∧ (w.heap.size ≤ s_) ∧ (gb329 ≠ s_) ∧ (s_ ≠ gb329) ∧ (gb330 ≠ s_) ∧ (s_ ≠ gb330) ∧ (gb339 ≠ s_) ∧ (s_ ≠ gb339) ∧ (Below w.heap.size w w')) ?_ ?_
   rotate_left
   ·intro hCont
    refine two_ (i := 1) (j := 10) (Ni := some 76) (Nj := some 19) #[true, true, true, true, true, true, false, false, false, false, false, false, false] #[true, false, true, true, true, true, false, false, false, false, true, false, false] rfl rfl rfl rfl (two_of HT_.out (by kernel_rfl)) (by decide) (by decide) (fun K hK => ?_) (fun K hK => ?_)
    ·skip
     refine goes_ Try.func15 (by kernel_rfl) rfl #[.agg #[.bool t332, .int .i64 t333, .bool t334, .int .i64 t335, .int .u64 t336, .int .u64 t337]] (by rfl) rfl rfl (by (try simp only [List.map_toArray, List.map_cons, List.map_nil]); first | done | rfl | (simp only [List.length_drop, List.length_take]; rfl)) ?_
     with_reducible refine (codel_State_Empty.calls t332 t333 t334 t335 t336 t337 t378 t379 t380 t381 t382 t383 _ A83.out).mono ?_
     rintro e w98 ⟨rfl, hb⟩
     refine ⟨_, rfl, ?_⟩
     have n0_ := Aside0.mk (blk_below (by exact BK329.out) hb)
     have n1_ := Aside0.mk (blk_below (by exact BK330.out) hb)
     have n2_ := Aside0.mk (blk_below (by exact BK339.out) hb)
     have n3_ := Aside0.mk (below_step (by repeat (first | (with_reducible first | exact HB.out | apply below_alloc | apply pw_below_drewN | apply below_drew1 | refine below_set ?_ GE329.out | refine below_set ?_ GE330.out | refine below_set ?_ GE339.out) | exact HB.out)) hb)
     clear BK329
     clear BK330
     clear BK339
     clear HB
     have BK329 := n0_
     have BK330 := n1_
     have BK339 := n2_
     have HB := n3_
     clear n0_ n1_ n2_ n3_
     (try clear hb)
     (try clear hb2)
     (try clear hk)
     (try clear hi)
     refine hK.out _ _ ⟨(blk_cell BK339.out 0).trans rfl, (blk_cell BK339.out 1).trans rfl, (blk_cell BK339.out 2).trans rfl, (blk_cell BK339.out 3).trans rfl, (blk_cell BK339.out 4).trans rfl, (blk_cell BK339.out 5).trans rfl, (blk_cell BK330.out 0).trans rfl, (blk_cell BK330.out 1).trans rfl⟩ (fun hHeld => ?_)
     clear hK K
     refine norm_ (a' := ?_) ?_ ?_
     rotate_left
     ·show Act.put _ (some 76) _ = _
      simp only [Act.put, List.setIfInBounds_toArray, List.set_cons_zero, List.set_cons_succ, i64_w, i32_w]
      rfl
     refine two_ (i := 6) (j := 10) (Ni := some 81) (Nj := some 19) #[true, true, true, true, true, true, true, false, false, false, false, false, false] #[true, true, true, true, true, true, false, false, false, false, true, false, false] rfl rfl rfl rfl (two_of HT_.out (by kernel_rfl)) (by decide) (by decide) (fun K hK => ?_) (fun K hK => ?_)
     ·skip
      refine goes_ Try.func11 (by kernel_rfl) rfl #[.agg #[.bool t378, .int .i64 t379, .bool t380, .int .i64 t381, .int .u64 t382, .int .u64 t383], .agg #[.int .i64 a1_0, .int .i64 ((ji9) % 1099511627776)], .int .i64 (Int.tmod a2 1099511627776), .int .i64 a3, .int .i64 a4] (by rfl) rfl rfl (by (try simp only [List.map_toArray, List.map_cons, List.map_nil]); first | done | (simp only [hji9]; rfl) | rfl | (simp only [List.length_drop, List.length_take]; rfl)) ?_
      with_reducible refine (codel_State_Look.calls k t378 t379 t380 t381 t382 t383 a1_0 ((ji9) % 1099511627776) (Int.tmod a2 1099511627776) a3 a4 t384 t385 t386 t387 t388 t389 t390 _ A84.out).mono ?_
      rintro e w99 ⟨rfl, hb⟩
      refine ⟨_, rfl, ?_⟩
      have n0_ := Aside0.mk (blk_below (by exact BK329.out) hb)
      have n1_ := Aside0.mk (blk_below (by exact BK330.out) hb)
      have n2_ := Aside0.mk (blk_below (by exact BK339.out) hb)
      have n3_ := Aside0.mk (below_step (by repeat (first | (with_reducible first | exact HB.out | apply below_alloc | apply pw_below_drewN | apply below_drew1 | refine below_set ?_ GE329.out | refine below_set ?_ GE330.out | refine below_set ?_ GE339.out) | exact HB.out)) hb)
      clear BK329
      clear BK330
      clear BK339
      clear HB
      have BK329 := n0_
      have BK330 := n1_
      have BK339 := n2_
      have HB := n3_
      clear n0_ n1_ n2_ n3_
      (try clear hb)
      (try clear hb2)
      (try clear hk)
      (try clear hi)
      refine hK.out _ _ ⟨(blk_cell BK339.out 0).trans rfl, (blk_cell BK339.out 1).trans rfl, (blk_cell BK339.out 2).trans rfl, (blk_cell BK339.out 3).trans rfl, (blk_cell BK339.out 4).trans rfl, (blk_cell BK339.out 5).trans rfl, (blk_cell BK330.out 0).trans rfl, (blk_cell BK330.out 1).trans rfl⟩ (fun hHeld => ?_)
      clear hK K
      refine norm_ (a' := ?_) ?_ ?_
      rotate_left
      ·show Act.put _ (some 81) _ = _
       simp only [Act.put, List.setIfInBounds_toArray, List.set_cons_zero, List.set_cons_succ, i64_w, i32_w]
       rfl
      refine pure_ (i := 7) (N := some 74) (v := ?_) (a' := ?_) #[true, true, true, true, true, true, true, true, false, false, false, false, false] rfl rfl (any_of HT_.out (by kernel_rfl)) (fun _ _ _ h => h) (Or.inl ⟨by rfl, ?_⟩) ?_ ?_
      rotate_left
      ·intro w'
       go_simp
       with_reducible rfl
      rotate_left
      ·simp only [Act.put, List.setIfInBounds_toArray, List.set_cons_zero, List.set_cons_succ, i64_w, i32_w]
       rfl
      refine pure_ (i := 8) (N := some 82) (v := ?_) (a' := ?_) #[true, true, true, true, true, true, true, true, true, false, false, false, false] rfl rfl (any_of HT_.out (by kernel_rfl)) (fun _ _ _ h => h) (Or.inl ⟨by rfl, ?_⟩) ?_ ?_
      rotate_left
      ·intro w'
       go_simp
       with_reducible rfl
      rotate_left
      ·simp only [Act.put, List.setIfInBounds_toArray, List.set_cons_zero, List.set_cons_succ, i64_w, i32_w]
       rfl
      refine pure_ (i := 9) (N := some 83) (v := ?_) (a' := ?_) #[true, true, true, true, true, true, true, true, true, true, false, false, false] rfl rfl (any_of HT_.out (by kernel_rfl)) (fun _ _ _ h => h) (Or.inl ⟨by rfl, ?_⟩) ?_ ?_
      rotate_left
      ·intro w'
       go_simp
       with_reducible rfl
      rotate_left
      ·simp only [Act.put, List.setIfInBounds_toArray, List.set_cons_zero, List.set_cons_succ, i64_w, i32_w]
       rfl
      refine one_ (i := 10) (N := some 19) #[true, true, true, true, true, true, true, true, true, true, true, false, false] rfl rfl (one_of HT_.out (by kernel_rfl)) (by decide) (fun K hK => ?_)
      refine box_step ?hg (N := 19) ?hd (cs := #[.bool false, .int .i64 0, .bool false, .int .i64 0, .int .u64 0, .int .u64 0]) (t := 24) ?hr ?_; (case hd => rfl); (case hg => rfl); (case hr => first | (go_simp; done) | (go_simp; rfl))
      intro gb391 hg w100 hbox hb
      have n0_ := Aside0.mk (blk_below (by exact BK329.out) hb)
      have n1_ := Aside0.mk (blk_below (by exact BK330.out) hb)
      have n2_ := Aside0.mk (blk_below (by exact BK339.out) hb)
      have n3_ := Aside0.mk (below_step (by repeat (first | (with_reducible first | exact HB.out | apply below_alloc | apply pw_below_drewN | apply below_drew1 | refine below_set ?_ GE329.out | refine below_set ?_ GE330.out | refine below_set ?_ GE339.out) | exact HB.out)) hb)
      have n4_ := Aside0.mk (hbox)
      have n5_ := Aside0.mk ((by rw [hg]; exact (below_size (by repeat (first | (with_reducible first | exact HB.out | apply below_alloc | apply pw_below_drewN | apply below_drew1 | refine below_set ?_ GE329.out | refine below_set ?_ GE330.out | refine below_set ?_ GE339.out) | exact HB.out))) : w.heap.size ≤ gb391))
      have n6_ := Aside0.mk ((by rw [hg]; exact (below_size (by repeat (first | (with_reducible first | exact HB.out | apply below_alloc | apply pw_below_drewN | apply below_drew1 | refine below_set ?_ GE329.out | refine below_set ?_ GE330.out | refine below_set ?_ GE339.out) | exact HB.out))) : w.heap.size ≤ gb391))
      have n7_ := Aside0.mk ((by rw [hg]; exact Nat.ne_of_lt (blk_lt (by exact BK329.out)) : gb329 ≠ gb391))
      have n8_ := Aside0.mk ((by rw [hg]; exact Nat.ne_of_gt (blk_lt (by exact BK329.out)) : gb391 ≠ gb329))
      have n9_ := Aside0.mk ((by rw [hg]; exact Nat.ne_of_lt (blk_lt (by exact BK330.out)) : gb330 ≠ gb391))
      have n10_ := Aside0.mk ((by rw [hg]; exact Nat.ne_of_gt (blk_lt (by exact BK330.out)) : gb391 ≠ gb330))
      have n11_ := Aside0.mk ((by rw [hg]; exact Nat.ne_of_lt (blk_lt (by exact BK339.out)) : gb339 ≠ gb391))
      have n12_ := Aside0.mk ((by rw [hg]; exact Nat.ne_of_gt (blk_lt (by exact BK339.out)) : gb391 ≠ gb339))
      clear BK329
      clear BK330
      clear BK339
      clear HB
      have BK329 := n0_
      have BK330 := n1_
      have BK339 := n2_
      have HB := n3_
      have BK391 := n4_
      have GW391 := n5_
      have GE391 := n6_
      have NB329_391 := n7_
      have NB391_329 := n8_
      have NB330_391 := n9_
      have NB391_330 := n10_
      have NB339_391 := n11_
      have NB391_339 := n12_
      clear n0_ n1_ n2_ n3_ n4_ n5_ n6_ n7_ n8_ n9_ n10_ n11_ n12_
      clear hb hbox hg
      refine hK.out _ _ ⟨(blk_cell BK339.out 0).trans rfl, (blk_cell BK339.out 1).trans rfl, (blk_cell BK339.out 2).trans rfl, (blk_cell BK339.out 3).trans rfl, (blk_cell BK339.out 4).trans rfl, (blk_cell BK339.out 5).trans rfl, (blk_cell BK330.out 0).trans rfl, (blk_cell BK330.out 1).trans rfl⟩ (fun hHeld => ?_)
      clear hK K
      refine norm_ (a' := ?_) ?_ ?_
      rotate_left
      ·show Act.put _ (some 19) _ = _
       simp only [Act.put, List.setIfInBounds_toArray, List.set_cons_zero, List.set_cons_succ, i64_w, i32_w]
       rfl
      exact norm_ (by simp only [putAll, Act.put, List.setIfInBounds_toArray, List.set_cons_zero, List.set_cons_succ]) (hCont (gb391) _ ⟨hHeld, (by exact BK329.out), (by exact BK330.out), (by exact BK339.out), (by exact BK391.out), GW391.out, GE391.out, NB329_391.out, NB391_329.out, NB330_391.out, NB391_330.out, NB339_391.out, NB391_339.out, (by repeat (first | (with_reducible first | exact HB.out | apply below_alloc | apply pw_below_drewN | apply below_drew1 | refine below_set ?_ GE329.out | refine below_set ?_ GE330.out | refine below_set ?_ GE339.out | refine below_set ?_ GE391.out) | exact HB.out))⟩)
     ·skip
      refine box_step ?hg (N := 19) ?hd (cs := #[.bool false, .int .i64 0, .bool false, .int .i64 0, .int .u64 0, .int .u64 0]) (t := 24) ?hr ?_; (case hd => rfl); (case hg => rfl); (case hr => first | (go_simp; done) | (go_simp; rfl))
      intro gb391 hg w99 hbox hb
      have n0_ := Aside0.mk (blk_below (by exact BK329.out) hb)
      have n1_ := Aside0.mk (blk_below (by exact BK330.out) hb)
      have n2_ := Aside0.mk (blk_below (by exact BK339.out) hb)
      have n3_ := Aside0.mk (below_step (by repeat (first | (with_reducible first | exact HB.out | apply below_alloc | apply pw_below_drewN | apply below_drew1 | refine below_set ?_ GE329.out | refine below_set ?_ GE330.out | refine below_set ?_ GE339.out) | exact HB.out)) hb)
      have n4_ := Aside0.mk (hbox)
      have n5_ := Aside0.mk ((by rw [hg]; exact (below_size (by repeat (first | (with_reducible first | exact HB.out | apply below_alloc | apply pw_below_drewN | apply below_drew1 | refine below_set ?_ GE329.out | refine below_set ?_ GE330.out | refine below_set ?_ GE339.out) | exact HB.out))) : w.heap.size ≤ gb391))
      have n6_ := Aside0.mk ((by rw [hg]; exact (below_size (by repeat (first | (with_reducible first | exact HB.out | apply below_alloc | apply pw_below_drewN | apply below_drew1 | refine below_set ?_ GE329.out | refine below_set ?_ GE330.out | refine below_set ?_ GE339.out) | exact HB.out))) : w.heap.size ≤ gb391))
      have n7_ := Aside0.mk ((by rw [hg]; exact Nat.ne_of_lt (blk_lt (by exact BK329.out)) : gb329 ≠ gb391))
      have n8_ := Aside0.mk ((by rw [hg]; exact Nat.ne_of_gt (blk_lt (by exact BK329.out)) : gb391 ≠ gb329))
      have n9_ := Aside0.mk ((by rw [hg]; exact Nat.ne_of_lt (blk_lt (by exact BK330.out)) : gb330 ≠ gb391))
      have n10_ := Aside0.mk ((by rw [hg]; exact Nat.ne_of_gt (blk_lt (by exact BK330.out)) : gb391 ≠ gb330))
      have n11_ := Aside0.mk ((by rw [hg]; exact Nat.ne_of_lt (blk_lt (by exact BK339.out)) : gb339 ≠ gb391))
      have n12_ := Aside0.mk ((by rw [hg]; exact Nat.ne_of_gt (blk_lt (by exact BK339.out)) : gb391 ≠ gb339))
      clear BK329
      clear BK330
      clear BK339
      clear HB
      have BK329 := n0_
      have BK330 := n1_
      have BK339 := n2_
      have HB := n3_
      have BK391 := n4_
      have GW391 := n5_
      have GE391 := n6_
      have NB329_391 := n7_
      have NB391_329 := n8_
      have NB330_391 := n9_
      have NB391_330 := n10_
      have NB339_391 := n11_
      have NB391_339 := n12_
      clear n0_ n1_ n2_ n3_ n4_ n5_ n6_ n7_ n8_ n9_ n10_ n11_ n12_
      clear hb hbox hg
      refine hK.out _ _ ⟨(blk_cell BK339.out 0).trans rfl, (blk_cell BK339.out 1).trans rfl, (blk_cell BK339.out 2).trans rfl, (blk_cell BK339.out 3).trans rfl, (blk_cell BK339.out 4).trans rfl, (blk_cell BK339.out 5).trans rfl, (blk_cell BK330.out 0).trans rfl, (blk_cell BK330.out 1).trans rfl⟩ (fun hHeld => ?_)
      clear hK K
      refine norm_ (a' := ?_) ?_ ?_
      rotate_left
      ·show Act.put _ (some 19) _ = _
       simp only [Act.put, List.setIfInBounds_toArray, List.set_cons_zero, List.set_cons_succ, i64_w, i32_w]
       rfl
      refine one_ (i := 6) (N := some 81) #[true, true, true, true, true, true, true, false, false, false, true, false, false] rfl rfl (one_of HT_.out (by kernel_rfl)) (by decide) (fun K hK => ?_)
      refine goes_ Try.func11 (by kernel_rfl) rfl #[.agg #[.bool t378, .int .i64 t379, .bool t380, .int .i64 t381, .int .u64 t382, .int .u64 t383], .agg #[.int .i64 a1_0, .int .i64 ((ji9) % 1099511627776)], .int .i64 (Int.tmod a2 1099511627776), .int .i64 a3, .int .i64 a4] (by rfl) rfl rfl (by (try simp only [List.map_toArray, List.map_cons, List.map_nil]); first | done | (simp only [hji9]; rfl) | rfl | (simp only [List.length_drop, List.length_take]; rfl)) ?_
      with_reducible refine (codel_State_Look.calls k t378 t379 t380 t381 t382 t383 a1_0 ((ji9) % 1099511627776) (Int.tmod a2 1099511627776) a3 a4 t384 t385 t386 t387 t388 t389 t390 _ A84.out).mono ?_
      rintro e w100 ⟨rfl, hb⟩
      refine ⟨_, rfl, ?_⟩
      have n0_ := Aside0.mk (blk_below (by exact BK329.out) hb)
      have n1_ := Aside0.mk (blk_below (by exact BK330.out) hb)
      have n2_ := Aside0.mk (blk_below (by exact BK339.out) hb)
      have n3_ := Aside0.mk (blk_below (by exact BK391.out) hb)
      have n4_ := Aside0.mk (below_step (by repeat (first | (with_reducible first | exact HB.out | apply below_alloc | apply pw_below_drewN | apply below_drew1 | refine below_set ?_ GE329.out | refine below_set ?_ GE330.out | refine below_set ?_ GE339.out | refine below_set ?_ GE391.out) | exact HB.out)) hb)
      clear BK329
      clear BK330
      clear BK339
      clear BK391
      clear HB
      have BK329 := n0_
      have BK330 := n1_
      have BK339 := n2_
      have BK391 := n3_
      have HB := n4_
      clear n0_ n1_ n2_ n3_ n4_
      (try clear hb)
      (try clear hb2)
      (try clear hk)
      (try clear hi)
      refine hK.out _ _ ⟨(blk_cell BK339.out 0).trans rfl, (blk_cell BK339.out 1).trans rfl, (blk_cell BK339.out 2).trans rfl, (blk_cell BK339.out 3).trans rfl, (blk_cell BK339.out 4).trans rfl, (blk_cell BK339.out 5).trans rfl, (blk_cell BK330.out 0).trans rfl, (blk_cell BK330.out 1).trans rfl⟩ (fun hHeld => ?_)
      clear hK K
      refine norm_ (a' := ?_) ?_ ?_
      rotate_left
      ·show Act.put _ (some 81) _ = _
       simp only [Act.put, List.setIfInBounds_toArray, List.set_cons_zero, List.set_cons_succ, i64_w, i32_w]
       rfl
      refine pure_ (i := 7) (N := some 74) (v := ?_) (a' := ?_) #[true, true, true, true, true, true, true, true, false, false, true, false, false] rfl rfl (any_of HT_.out (by kernel_rfl)) (fun _ _ _ h => h) (Or.inl ⟨by rfl, ?_⟩) ?_ ?_
      rotate_left
      ·intro w'
       go_simp
       with_reducible rfl
      rotate_left
      ·simp only [Act.put, List.setIfInBounds_toArray, List.set_cons_zero, List.set_cons_succ, i64_w, i32_w]
       rfl
      refine pure_ (i := 8) (N := some 82) (v := ?_) (a' := ?_) #[true, true, true, true, true, true, true, true, true, false, true, false, false] rfl rfl (any_of HT_.out (by kernel_rfl)) (fun _ _ _ h => h) (Or.inl ⟨by rfl, ?_⟩) ?_ ?_
      rotate_left
      ·intro w'
       go_simp
       with_reducible rfl
      rotate_left
      ·simp only [Act.put, List.setIfInBounds_toArray, List.set_cons_zero, List.set_cons_succ, i64_w, i32_w]
       rfl
      refine pure_ (i := 9) (N := some 83) (v := ?_) (a' := ?_) #[true, true, true, true, true, true, true, true, true, true, true, false, false] rfl rfl (any_of HT_.out (by kernel_rfl)) (fun _ _ _ h => h) (Or.inl ⟨by rfl, ?_⟩) ?_ ?_
      rotate_left
      ·intro w'
       go_simp
       with_reducible rfl
      rotate_left
      ·simp only [Act.put, List.setIfInBounds_toArray, List.set_cons_zero, List.set_cons_succ, i64_w, i32_w]
       rfl
      exact norm_ (by simp only [putAll, Act.put, List.setIfInBounds_toArray, List.set_cons_zero, List.set_cons_succ]) (hCont (gb391) _ ⟨hHeld, (by exact BK329.out), (by exact BK330.out), (by exact BK339.out), (by exact BK391.out), GW391.out, GE391.out, NB329_391.out, NB391_329.out, NB330_391.out, NB391_330.out, NB339_391.out, NB391_339.out, (by repeat (first | (with_reducible first | exact HB.out | apply below_alloc | apply pw_below_drewN | apply below_drew1 | refine below_set ?_ GE329.out | refine below_set ?_ GE330.out | refine below_set ?_ GE339.out | refine below_set ?_ GE391.out) | exact HB.out))⟩)
    ·skip
     refine box_step ?hg (N := 19) ?hd (cs := #[.bool false, .int .i64 0, .bool false, .int .i64 0, .int .u64 0, .int .u64 0]) (t := 24) ?hr ?_; (case hd => rfl); (case hg => rfl); (case hr => first | (go_simp; done) | (go_simp; rfl))
     intro gb391 hg w98 hbox hb
     have n0_ := Aside0.mk (blk_below (by exact BK329.out) hb)
     have n1_ := Aside0.mk (blk_below (by exact BK330.out) hb)
     have n2_ := Aside0.mk (blk_below (by exact BK339.out) hb)
     have n3_ := Aside0.mk (below_step (by repeat (first | (with_reducible first | exact HB.out | apply below_alloc | apply pw_below_drewN | apply below_drew1 | refine below_set ?_ GE329.out | refine below_set ?_ GE330.out | refine below_set ?_ GE339.out) | exact HB.out)) hb)
     have n4_ := Aside0.mk (hbox)
     have n5_ := Aside0.mk ((by rw [hg]; exact (below_size (by repeat (first | (with_reducible first | exact HB.out | apply below_alloc | apply pw_below_drewN | apply below_drew1 | refine below_set ?_ GE329.out | refine below_set ?_ GE330.out | refine below_set ?_ GE339.out) | exact HB.out))) : w.heap.size ≤ gb391))
     have n6_ := Aside0.mk ((by rw [hg]; exact (below_size (by repeat (first | (with_reducible first | exact HB.out | apply below_alloc | apply pw_below_drewN | apply below_drew1 | refine below_set ?_ GE329.out | refine below_set ?_ GE330.out | refine below_set ?_ GE339.out) | exact HB.out))) : w.heap.size ≤ gb391))
     have n7_ := Aside0.mk ((by rw [hg]; exact Nat.ne_of_lt (blk_lt (by exact BK329.out)) : gb329 ≠ gb391))
     have n8_ := Aside0.mk ((by rw [hg]; exact Nat.ne_of_gt (blk_lt (by exact BK329.out)) : gb391 ≠ gb329))
     have n9_ := Aside0.mk ((by rw [hg]; exact Nat.ne_of_lt (blk_lt (by exact BK330.out)) : gb330 ≠ gb391))
     have n10_ := Aside0.mk ((by rw [hg]; exact Nat.ne_of_gt (blk_lt (by exact BK330.out)) : gb391 ≠ gb330))
     have n11_ := Aside0.mk ((by rw [hg]; exact Nat.ne_of_lt (blk_lt (by exact BK339.out)) : gb339 ≠ gb391))
     have n12_ := Aside0.mk ((by rw [hg]; exact Nat.ne_of_gt (blk_lt (by exact BK339.out)) : gb391 ≠ gb339))
     clear BK329
     clear BK330
     clear BK339
     clear HB
     have BK329 := n0_
     have BK330 := n1_
     have BK339 := n2_
     have HB := n3_
     have BK391 := n4_
     have GW391 := n5_
     have GE391 := n6_
     have NB329_391 := n7_
     have NB391_329 := n8_
     have NB330_391 := n9_
     have NB391_330 := n10_
     have NB339_391 := n11_
     have NB391_339 := n12_
     clear n0_ n1_ n2_ n3_ n4_ n5_ n6_ n7_ n8_ n9_ n10_ n11_ n12_
     clear hb hbox hg
     refine hK.out _ _ ⟨(blk_cell BK339.out 0).trans rfl, (blk_cell BK339.out 1).trans rfl, (blk_cell BK339.out 2).trans rfl, (blk_cell BK339.out 3).trans rfl, (blk_cell BK339.out 4).trans rfl, (blk_cell BK339.out 5).trans rfl, (blk_cell BK330.out 0).trans rfl, (blk_cell BK330.out 1).trans rfl⟩ (fun hHeld => ?_)
     clear hK K
     refine norm_ (a' := ?_) ?_ ?_
     rotate_left
     ·show Act.put _ (some 19) _ = _
      simp only [Act.put, List.setIfInBounds_toArray, List.set_cons_zero, List.set_cons_succ, i64_w, i32_w]
      rfl
     refine one_ (i := 1) (N := some 76) #[true, true, true, true, true, true, false, false, false, false, true, false, false] rfl rfl (one_of HT_.out (by kernel_rfl)) (by decide) (fun K hK => ?_)
     refine goes_ Try.func15 (by kernel_rfl) rfl #[.agg #[.bool t332, .int .i64 t333, .bool t334, .int .i64 t335, .int .u64 t336, .int .u64 t337]] (by rfl) rfl rfl (by (try simp only [List.map_toArray, List.map_cons, List.map_nil]); first | done | rfl | (simp only [List.length_drop, List.length_take]; rfl)) ?_
     with_reducible refine (codel_State_Empty.calls t332 t333 t334 t335 t336 t337 t378 t379 t380 t381 t382 t383 _ A83.out).mono ?_
     rintro e w99 ⟨rfl, hb⟩
     refine ⟨_, rfl, ?_⟩
     have n0_ := Aside0.mk (blk_below (by exact BK329.out) hb)
     have n1_ := Aside0.mk (blk_below (by exact BK330.out) hb)
     have n2_ := Aside0.mk (blk_below (by exact BK339.out) hb)
     have n3_ := Aside0.mk (blk_below (by exact BK391.out) hb)
     have n4_ := Aside0.mk (below_step (by repeat (first | (with_reducible first | exact HB.out | apply below_alloc | apply pw_below_drewN | apply below_drew1 | refine below_set ?_ GE329.out | refine below_set ?_ GE330.out | refine below_set ?_ GE339.out | refine below_set ?_ GE391.out) | exact HB.out)) hb)
     clear BK329
     clear BK330
     clear BK339
     clear BK391
     clear HB
     have BK329 := n0_
     have BK330 := n1_
     have BK339 := n2_
     have BK391 := n3_
     have HB := n4_
     clear n0_ n1_ n2_ n3_ n4_
     (try clear hb)
     (try clear hb2)
     (try clear hk)
     (try clear hi)
     refine hK.out _ _ ⟨(blk_cell BK339.out 0).trans rfl, (blk_cell BK339.out 1).trans rfl, (blk_cell BK339.out 2).trans rfl, (blk_cell BK339.out 3).trans rfl, (blk_cell BK339.out 4).trans rfl, (blk_cell BK339.out 5).trans rfl, (blk_cell BK330.out 0).trans rfl, (blk_cell BK330.out 1).trans rfl⟩ (fun hHeld => ?_)
     clear hK K
     refine norm_ (a' := ?_) ?_ ?_
     rotate_left
     ·show Act.put _ (some 76) _ = _
      simp only [Act.put, List.setIfInBounds_toArray, List.set_cons_zero, List.set_cons_succ, i64_w, i32_w]
      rfl
     refine one_ (i := 6) (N := some 81) #[true, true, true, true, true, true, true, false, false, false, true, false, false] rfl rfl (one_of HT_.out (by kernel_rfl)) (by decide) (fun K hK => ?_)
     refine goes_ Try.func11 (by kernel_rfl) rfl #[.agg #[.bool t378, .int .i64 t379, .bool t380, .int .i64 t381, .int .u64 t382, .int .u64 t383], .agg #[.int .i64 a1_0, .int .i64 ((ji9) % 1099511627776)], .int .i64 (Int.tmod a2 1099511627776), .int .i64 a3, .int .i64 a4] (by rfl) rfl rfl (by (try simp only [List.map_toArray, List.map_cons, List.map_nil]); first | done | (simp only [hji9]; rfl) | rfl | (simp only [List.length_drop, List.length_take]; rfl)) ?_
     with_reducible refine (codel_State_Look.calls k t378 t379 t380 t381 t382 t383 a1_0 ((ji9) % 1099511627776) (Int.tmod a2 1099511627776) a3 a4 t384 t385 t386 t387 t388 t389 t390 _ A84.out).mono ?_
     rintro e w100 ⟨rfl, hb⟩
     refine ⟨_, rfl, ?_⟩
     have n0_ := Aside0.mk (blk_below (by exact BK329.out) hb)
     have n1_ := Aside0.mk (blk_below (by exact BK330.out) hb)
     have n2_ := Aside0.mk (blk_below (by exact BK339.out) hb)
     have n3_ := Aside0.mk (blk_below (by exact BK391.out) hb)
     have n4_ := Aside0.mk (below_step (by repeat (first | (with_reducible first | exact HB.out | apply below_alloc | apply pw_below_drewN | apply below_drew1 | refine below_set ?_ GE329.out | refine below_set ?_ GE330.out | refine below_set ?_ GE339.out | refine below_set ?_ GE391.out) | exact HB.out)) hb)
     clear BK329
     clear BK330
     clear BK339
     clear BK391
     clear HB
     have BK329 := n0_
     have BK330 := n1_
     have BK339 := n2_
     have BK391 := n3_
     have HB := n4_
     clear n0_ n1_ n2_ n3_ n4_
     (try clear hb)
     (try clear hb2)
     (try clear hk)
     (try clear hi)
     refine hK.out _ _ ⟨(blk_cell BK339.out 0).trans rfl, (blk_cell BK339.out 1).trans rfl, (blk_cell BK339.out 2).trans rfl, (blk_cell BK339.out 3).trans rfl, (blk_cell BK339.out 4).trans rfl, (blk_cell BK339.out 5).trans rfl, (blk_cell BK330.out 0).trans rfl, (blk_cell BK330.out 1).trans rfl⟩ (fun hHeld => ?_)
     clear hK K
     refine norm_ (a' := ?_) ?_ ?_
     rotate_left
     ·show Act.put _ (some 81) _ = _
      simp only [Act.put, List.setIfInBounds_toArray, List.set_cons_zero, List.set_cons_succ, i64_w, i32_w]
      rfl
     refine pure_ (i := 7) (N := some 74) (v := ?_) (a' := ?_) #[true, true, true, true, true, true, true, true, false, false, true, false, false] rfl rfl (any_of HT_.out (by kernel_rfl)) (fun _ _ _ h => h) (Or.inl ⟨by rfl, ?_⟩) ?_ ?_
     rotate_left
     ·intro w'
      go_simp
      with_reducible rfl
     rotate_left
     ·simp only [Act.put, List.setIfInBounds_toArray, List.set_cons_zero, List.set_cons_succ, i64_w, i32_w]
      rfl
     refine pure_ (i := 8) (N := some 82) (v := ?_) (a' := ?_) #[true, true, true, true, true, true, true, true, true, false, true, false, false] rfl rfl (any_of HT_.out (by kernel_rfl)) (fun _ _ _ h => h) (Or.inl ⟨by rfl, ?_⟩) ?_ ?_
     rotate_left
     ·intro w'
      go_simp
      with_reducible rfl
     rotate_left
     ·simp only [Act.put, List.setIfInBounds_toArray, List.set_cons_zero, List.set_cons_succ, i64_w, i32_w]
      rfl
     refine pure_ (i := 9) (N := some 83) (v := ?_) (a' := ?_) #[true, true, true, true, true, true, true, true, true, true, true, false, false] rfl rfl (any_of HT_.out (by kernel_rfl)) (fun _ _ _ h => h) (Or.inl ⟨by rfl, ?_⟩) ?_ ?_
     rotate_left
     ·intro w'
      go_simp
      with_reducible rfl
     rotate_left
     ·simp only [Act.put, List.setIfInBounds_toArray, List.set_cons_zero, List.set_cons_succ, i64_w, i32_w]
      rfl
     exact norm_ (by simp only [putAll, Act.put, List.setIfInBounds_toArray, List.set_cons_zero, List.set_cons_succ]) (hCont (gb391) _ ⟨hHeld, (by exact BK329.out), (by exact BK330.out), (by exact BK339.out), (by exact BK391.out), GW391.out, GE391.out, NB329_391.out, NB391_329.out, NB330_391.out, NB391_330.out, NB339_391.out, NB391_339.out, (by repeat (first | (with_reducible first | exact HB.out | apply below_alloc | apply pw_below_drewN | apply below_drew1 | refine below_set ?_ GE329.out | refine below_set ?_ GE330.out | refine below_set ?_ GE339.out | refine below_set ?_ GE391.out) | exact HB.out))⟩)
   rintro gb391 w101 ⟨hS_, h0_, h1_, h2_, h3_, h4_, h5_, h6_, h7_, h8_, h9_, h10_, h11_, h12_⟩
   have n0_ : Aside0 (w101.heap[gb329]? = some (.cells #[.bool a0_0, .int .i64 a0_1, .bool a0_2, .int .i64 a0_3, .int .u64 a0_4, .int .u64 a0_5] 24 (0, 0))) := ⟨h0_⟩
   have n1_ : Aside0 (w101.heap[gb330]? = some (.cells #[.int .i64 a1_0, .int .i64 ((ji9) % 1099511627776)] 26 (0, 0))) := ⟨h1_⟩
   have n2_ : Aside0 (w101.heap[gb339]? = some (.cells #[.bool t332, .int .i64 t333, .bool t334, .int .i64 t335, .int .u64 t336, .int .u64 t337] 24 (0, 0))) := ⟨h2_⟩
   have n3_ : Aside0 (w101.heap[gb391]? = some (.cells #[.bool false, .int .i64 0, .bool false, .int .i64 0, .int .u64 0, .int .u64 0] 24 (0, 0))) := ⟨h3_⟩
   have n4_ : Aside0 (w.heap.size ≤ gb391) := ⟨h4_⟩
   have n5_ : Aside0 (w.heap.size ≤ gb391) := ⟨h5_⟩
   have n6_ : Aside0 (gb329 ≠ gb391) := ⟨h6_⟩
   have n7_ : Aside0 (gb391 ≠ gb329) := ⟨h7_⟩
   have n8_ : Aside0 (gb330 ≠ gb391) := ⟨h8_⟩
   have n9_ : Aside0 (gb391 ≠ gb330) := ⟨h9_⟩
   have n10_ : Aside0 (gb339 ≠ gb391) := ⟨h10_⟩
   have n11_ : Aside0 (gb391 ≠ gb339) := ⟨h11_⟩
   have n12_ : Aside0 (Below w.heap.size w w101) := ⟨h12_⟩
   clear BK329
   clear BK330
   clear BK339
   clear HB
   clear h0_ h1_ h2_ h3_ h4_ h5_ h6_ h7_ h8_ h9_ h10_ h11_ h12_
   have BK329 := n0_
   have BK330 := n1_
   have BK339 := n2_
   have BK391 := n3_
   have GW391 := n4_
   have GE391 := n5_
   have NB329_391 := n6_
   have NB391_329 := n7_
   have NB330_391 := n8_
   have NB391_330 := n9_
   have NB339_391 := n10_
   have NB391_339 := n11_
   have HB := n12_
   clear n0_ n1_ n2_ n3_ n4_ n5_ n6_ n7_ n8_ n9_ n10_ n11_ n12_
   have hHeld : w101.cell? ⟨gb339, 0, none⟩ = some (.bool t332) ∧ w101.cell? ⟨gb339, 1, none⟩ = some (.int .i64 t333) ∧ w101.cell? ⟨gb339, 2, none⟩ = some (.bool t334) ∧ w101.cell? ⟨gb339, 3, none⟩ = some (.int .i64 t335) ∧ w101.cell? ⟨gb339, 4, none⟩ = some (.int .u64 t336) ∧ w101.cell? ⟨gb339, 5, none⟩ = some (.int .u64 t337) ∧ w101.cell? ⟨gb330, 0, none⟩ = some (.int .i64 a1_0) ∧ w101.cell? ⟨gb330, 1, none⟩ = some (.int .i64 ((ji9) % 1099511627776)) := hS_
   refine norm_ (a' := ?_) ?_ ?_
   rotate_left
   ·simp only [putAll, Act.put, List.setIfInBounds_toArray, List.set_cons_zero, List.set_cons_succ]
    rfl
   refine one_ (i := 11) (N := none) #[true, true, true, true, true, true, true, true, true, true, true, true, false] rfl rfl (one_of HT_.out (by kernel_rfl)) (by decide) (fun K hK => ?_)
   have hs102 : w101.cell? ⟨gb391, 0, none⟩ = some (.bool false) := (blk_cell BK391.out 0).trans rfl
   have hfs102 := blk_frozen BK391.out 0
   have hns102_0 := NB329_391.out
   have hns102_1 := NB330_391.out
   have hns102_2 := NB339_391.out
   have hms102_0 := NB391_329.out
   have hms102_1 := NB391_330.out
   have hms102_2 := NB391_339.out
   have hs103 : w101.cell? ⟨gb391, 1, none⟩ = some (.int .i64 0) := (blk_cell BK391.out 1).trans rfl
   have hfs103 := blk_frozen BK391.out 1
   have hns103_0 := NB329_391.out
   have hns103_1 := NB330_391.out
   have hns103_2 := NB339_391.out
   have hms103_0 := NB391_329.out
   have hms103_1 := NB391_330.out
   have hms103_2 := NB391_339.out
   have hs104 : w101.cell? ⟨gb391, 2, none⟩ = some (.bool false) := (blk_cell BK391.out 2).trans rfl
   have hfs104 := blk_frozen BK391.out 2
   have hns104_0 := NB329_391.out
   have hns104_1 := NB330_391.out
   have hns104_2 := NB339_391.out
   have hms104_0 := NB391_329.out
   have hms104_1 := NB391_330.out
   have hms104_2 := NB391_339.out
   have hs105 : w101.cell? ⟨gb391, 3, none⟩ = some (.int .i64 0) := (blk_cell BK391.out 3).trans rfl
   have hfs105 := blk_frozen BK391.out 3
   have hns105_0 := NB329_391.out
   have hns105_1 := NB330_391.out
   have hns105_2 := NB339_391.out
   have hms105_0 := NB391_329.out
   have hms105_1 := NB391_330.out
   have hms105_2 := NB391_339.out
   have hs106 : w101.cell? ⟨gb391, 4, none⟩ = some (.int .u64 0) := (blk_cell BK391.out 4).trans rfl
   have hfs106 := blk_frozen BK391.out 4
   have hns106_0 := NB329_391.out
   have hns106_1 := NB330_391.out
   have hns106_2 := NB339_391.out
   have hms106_0 := NB391_329.out
   have hms106_1 := NB391_330.out
   have hms106_2 := NB391_339.out
   have hs107 : w101.cell? ⟨gb391, 5, none⟩ = some (.int .u64 0) := (blk_cell BK391.out 5).trans rfl
   have hfs107 := blk_frozen BK391.out 5
   have hns107_0 := NB329_391.out
   have hns107_1 := NB330_391.out
   have hns107_2 := NB339_391.out
   have hms107_0 := NB391_329.out
   have hms107_1 := NB391_330.out
   have hms107_2 := NB391_339.out
   refine skip_ (w1 := ?_) (by rfl) rfl ?_ ?_
   rotate_left
   ·go_simp
    rfl
   refine hK.out _ _ ⟨((cell_far (p := ⟨gb391, _, none⟩) NB339_391.out _).trans (((cell_far (p := ⟨gb391, _, none⟩) NB339_391.out _).trans (((cell_far (p := ⟨gb391, _, none⟩) NB339_391.out _).trans (((cell_far (p := ⟨gb391, _, none⟩) NB339_391.out _).trans (((cell_far (p := ⟨gb391, _, none⟩) NB339_391.out _).trans (((cell_far (p := ⟨gb391, _, none⟩) NB339_391.out _).trans (hHeld.1)))))))))))), ((cell_far (p := ⟨gb391, _, none⟩) NB339_391.out _).trans (((cell_far (p := ⟨gb391, _, none⟩) NB339_391.out _).trans (((cell_far (p := ⟨gb391, _, none⟩) NB339_391.out _).trans (((cell_far (p := ⟨gb391, _, none⟩) NB339_391.out _).trans (((cell_far (p := ⟨gb391, _, none⟩) NB339_391.out _).trans (((cell_far (p := ⟨gb391, _, none⟩) NB339_391.out _).trans (hHeld.2.1)))))))))))), ((cell_far (p := ⟨gb391, _, none⟩) NB339_391.out _).trans (((cell_far (p := ⟨gb391, _, none⟩) NB339_391.out _).trans (((cell_far (p := ⟨gb391, _, none⟩) NB339_391.out _).trans (((cell_far (p := ⟨gb391, _, none⟩) NB339_391.out _).trans (((cell_far (p := ⟨gb391, _, none⟩) NB339_391.out _).trans (((cell_far (p := ⟨gb391, _, none⟩) NB339_391.out _).trans (hHeld.2.2.1)))))))))))), ((cell_far (p := ⟨gb391, _, none⟩) NB339_391.out _).trans (((cell_far (p := ⟨gb391, _, none⟩) NB339_391.out _).trans (((cell_far (p := ⟨gb391, _, none⟩) NB339_391.out _).trans (((cell_far (p := ⟨gb391, _, none⟩) NB339_391.out _).trans (((cell_far (p := ⟨gb391, _, none⟩) NB339_391.out _).trans (((cell_far (p := ⟨gb391, _, none⟩) NB339_391.out _).trans (hHeld.2.2.2.1)))))))))))), ((cell_far (p := ⟨gb391, _, none⟩) NB339_391.out _).trans (((cell_far (p := ⟨gb391, _, none⟩) NB339_391.out _).trans (((cell_far (p := ⟨gb391, _, none⟩) NB339_391.out _).trans (((cell_far (p := ⟨gb391, _, none⟩) NB339_391.out _).trans (((cell_far (p := ⟨gb391, _, none⟩) NB339_391.out _).trans (((cell_far (p := ⟨gb391, _, none⟩) NB339_391.out _).trans (hHeld.2.2.2.2.1)))))))))))), ((cell_far (p := ⟨gb391, _, none⟩) NB339_391.out _).trans (((cell_far (p := ⟨gb391, _, none⟩) NB339_391.out _).trans (((cell_far (p := ⟨gb391, _, none⟩) NB339_391.out _).trans (((cell_far (p := ⟨gb391, _, none⟩) NB339_391.out _).trans (((cell_far (p := ⟨gb391, _, none⟩) NB339_391.out _).trans (((cell_far (p := ⟨gb391, _, none⟩) NB339_391.out _).trans (hHeld.2.2.2.2.2.1)))))))))))), ((cell_far (p := ⟨gb391, _, none⟩) NB330_391.out _).trans (((cell_far (p := ⟨gb391, _, none⟩) NB330_391.out _).trans (((cell_far (p := ⟨gb391, _, none⟩) NB330_391.out _).trans (((cell_far (p := ⟨gb391, _, none⟩) NB330_391.out _).trans (((cell_far (p := ⟨gb391, _, none⟩) NB330_391.out _).trans (((cell_far (p := ⟨gb391, _, none⟩) NB330_391.out _).trans (hHeld.2.2.2.2.2.2.1)))))))))))), ((cell_far (p := ⟨gb391, _, none⟩) NB330_391.out _).trans (((cell_far (p := ⟨gb391, _, none⟩) NB330_391.out _).trans (((cell_far (p := ⟨gb391, _, none⟩) NB330_391.out _).trans (((cell_far (p := ⟨gb391, _, none⟩) NB330_391.out _).trans (((cell_far (p := ⟨gb391, _, none⟩) NB330_391.out _).trans (((cell_far (p := ⟨gb391, _, none⟩) NB330_391.out _).trans (hHeld.2.2.2.2.2.2.2))))))))))))⟩ (fun hHeld => ?_)
   clear hK K
   refine pure_ (i := 12) (N := some 20) (v := ?_) (a' := ?_) #[true, true, true, true, true, true, true, true, true, true, true, true, true] rfl rfl (any_of HT_.out (by kernel_rfl)) (fun _ _ _ h => h) (Or.inl ⟨by rfl, ?_⟩) ?_ ?_
   rotate_left
   ·intro w'
    go_simp
    with_reducible rfl
   rotate_left
   ·simp only [Act.put, List.setIfInBounds_toArray, List.set_cons_zero, List.set_cons_succ, i64_w, i32_w]
    rfl
   refine done_ (done_of HT_.out (by kernel_rfl)) ?_
   try go_wp2
   go_ret
   exact ⟨by first | rfl | (simp [errW_none, errW_some] <;> rfl) | (simp only [← hji9]; first | rfl | (simp [errW_none, errW_some] <;> rfl)) | (simp [*, errW_none, errW_some] <;> rfl), by repeat (first | (with_reducible first | exact HB.out | apply below_alloc | apply pw_below_drewN | apply below_drew1 | refine below_set ?_ GE329.out | refine below_set ?_ GE330.out | refine below_set ?_ GE339.out | refine below_set ?_ GE391.out) | exact HB.out)⟩
 ·replace c8 := Bool.eq_false_iff.mpr c8
  subst c8
  have H1 : (none) = some r := by rw [if_neg (show ¬ (false = true) by decide)] at H; exact H
  clear H
  have H := H1
  clear H1
  exact absurd H (by simp)

end Go.Proofs.Ytiiffgmbkajkhaa.E

-- Laid by a program of this claim's session (wip/tools/myprint.py) over the kit's printer.
import Derived.Test.YtiiffgmbkajkhaaLx0
import Derived.Test.YtiiffgmbkajkhaaLx1
import Derived.Test.YtiiffgmbkajkhaaLx6
import Derived.Test.YtiiffgmbkajkhaaLx7
import Derived.Test.YtiiffgmbkajkhaaLx12
import Derived.Test.YtiiffgmbkajkhaaLx13
namespace Go.Proofs.Ytiiffgmbkajkhaa.L
open Go.RowKit Go.Proofs.YtiiffgmbkajkhaaW.PrintWords Go.Proofs.YtiiffgmbkajkhaaW.PrintLast Go.Proofs.YtiiffgmbkajkhaaW.PrintMore
attribute [local go_sem] max2_int min2_int max_two min_two max_three min_three max_four min_four   -- for this text's walks alone
set_option linter.unusedVariables false
set_option linter.unusedSimpArgs false

attribute [local go_sem high] eqA41
/-! ### overfalllaw08_CodelLooks: function 8 -/
def overfalllaw08_CodelLooks.f (k : Nat) (a0_0 : Bool) (a0_1 : Int) (a0_2 : Bool) (a0_3 : Int) (a0_4 : Int) (a0_5 : Int) (a1_0 : Int) (a1_1 : Int) (a2 : Int) (a3 : Int) (a4 : Int) : Option (Bool) := (overfalllaw08_awake.f k).bind fun t404 => (if t404 = true then ((codel_State_Look.f k a0_0 a0_1 a0_2 a0_3 a0_4 a0_5 a1_0 a1_1 a2 a3 a4).bind fun bt405 => ((overfalllaw08_own.f a0_0 a0_1 a0_2 a0_3 a0_4 a0_5).bind fun bt413 => ((overfallref08_Look.f k bt413.1 bt413.2.1 bt413.2.2.1 bt413.2.2.2.1 bt413.2.2.2.2.1 bt413.2.2.2.2.2 a1_0 a1_1 a2 a3 a4).bind fun bt419 => ((codel_State_More.f k a0_0 a0_1 a0_2 a0_3 a0_4 a0_5 a1_0 a1_1 a2 a3 a4).bind fun bt427 => ((overfalllaw08_own.f a0_0 a0_1 a0_2 a0_3 a0_4 a0_5).bind fun bt435 => ((overfallref08_More.f k bt435.1 bt435.2.1 bt435.2.2.1 bt435.2.2.2.1 bt435.2.2.2.2.1 bt435.2.2.2.2.2 a1_0 a1_1 a2 a3 a4).bind fun bt441 => ((overfalllaw08_own.f a0_0 a0_1 a0_2 a0_3 a0_4 a0_5).bind fun bt449 => ((overfallref08_Note.f k bt449.1 bt449.2.1 bt449.2.2.1 bt449.2.2.2.1 bt449.2.2.2.2.1 bt449.2.2.2.2.2 a1_0 a1_1 a2 a3 a4).bind fun bt455 => ((codel_State_Empty.f a0_0 a0_1 a0_2 a0_3 a0_4 a0_5).bind fun bt463 => ((overfalllaw08_own.f bt405.1 bt405.2.1 bt405.2.2.1 bt405.2.2.2.1 bt405.2.2.2.2.1 bt405.2.2.2.2.2.1).bind fun bt470 => (if (bt470.1 == bt419.1 && (bt470.2.1 == bt419.2.1 && (bt470.2.2.1 == bt419.2.2.1 && (bt470.2.2.2.1 == bt419.2.2.2.1 && (bt470.2.2.2.2.1 == bt419.2.2.2.2.1 && (bt470.2.2.2.2.2 == bt419.2.2.2.2.2.1)))))) = true then (if bt405.2.2.2.2.2.2 = bt419.2.2.2.2.2.2 then ((overfalllaw08_own.f bt427.1 bt427.2.1 bt427.2.2.1 bt427.2.2.2.1 bt427.2.2.2.2.1 bt427.2.2.2.2.2.1).bind fun bt476 => (if (bt476.1 == bt441.1 && (bt476.2.1 == bt441.2.1 && (bt476.2.2.1 == bt441.2.2.1 && (bt476.2.2.2.1 == bt441.2.2.2.1 && (bt476.2.2.2.2.1 == bt441.2.2.2.2.1 && (bt476.2.2.2.2.2 == bt441.2.2.2.2.2.1)))))) = true then (if bt427.2.2.2.2.2.2 = bt441.2.2.2.2.2.2 then ((codel_State_Note.f k a0_0 a0_1 a0_2 a0_3 a0_4 a0_5 a1_0 a1_1 a2 a3 a4).bind fun bt482 => ((overfalllaw08_own.f bt482.1 bt482.2.1 bt482.2.2.1 bt482.2.2.2.1 bt482.2.2.2.2.1 bt482.2.2.2.2.2).bind fun bt488 => (if (bt488.1 == bt455.1 && (bt488.2.1 == bt455.2.1 && (bt488.2.2.1 == bt455.2.2.1 && (bt488.2.2.2.1 == bt455.2.2.2.1 && (bt488.2.2.2.2.1 == bt455.2.2.2.2.1 && (bt488.2.2.2.2.2 == bt455.2.2.2.2.2.1)))))) = true then (if bt463.1 = true then (none) else (if bt463.2.2.1 = true then (none) else (if bt463.2.1 = 0 then (if bt463.2.2.2.1 = a0_3 then (if bt463.2.2.2.2.1 = a0_4 then (some (bt463.2.2.2.2.2 == a0_5)) else (none)) else (none)) else (none)))) else (none)))) else (none)) else (none))) else (none)) else (none)))))))))))) else (none))
theorem overfalllaw08_CodelLooks.mono : ∀ a0 a1 a2 a3 a4 a5 a6 a7 a8 a9 a10 k, LeO (overfalllaw08_CodelLooks.f k a0 a1 a2 a3 a4 a5 a6 a7 a8 a9 a10) (overfalllaw08_CodelLooks.f (k + 1) a0 a1 a2 a3 a4 a5 a6 a7 a8 a9 a10) := by
 intro a0 a1 a2 a3 a4 a5 a6 a7 a8 a9 a10 k
 unfold overfalllaw08_CodelLooks.f
 repeat' first
   | (with_reducible exact codel_State_Look.mono _ _ _ _ _ _ _ _ _ _ _ _)
   | (with_reducible exact codel_State_More.mono _ _ _ _ _ _ _ _ _ _ _ _)
   | (with_reducible exact codel_State_Note.mono _ _ _ _ _ _ _ _ _ _ _ _)
   | (with_reducible exact overfalllaw08_awake.mono _)
   | (with_reducible exact overfallref08_Look.mono _ _ _ _ _ _ _ _ _ _ _ _)
   | (with_reducible exact overfallref08_More.mono _ _ _ _ _ _ _ _ _ _ _ _)
   | (with_reducible exact overfallref08_Note.mono _ _ _ _ _ _ _ _ _ _ _ _)
   | (with_reducible exact LeO.refl _)
   | (with_reducible exact LeO.none _)
   | (with_reducible refine LeO.ite ?_ ?_)
   | (with_reducible refine LeO.bind ?_ (fun _ => ?_))
   | exact codel_State_Look.mono _ _ _ _ _ _ _ _ _ _ _ _
   | exact codel_State_More.mono _ _ _ _ _ _ _ _ _ _ _ _
   | exact codel_State_Note.mono _ _ _ _ _ _ _ _ _ _ _ _
   | exact overfalllaw08_awake.mono _
   | exact overfallref08_Look.mono _ _ _ _ _ _ _ _ _ _ _ _
   | exact overfallref08_More.mono _ _ _ _ _ _ _ _ _ _ _ _
   | exact overfallref08_Note.mono _ _ _ _ _ _ _ _ _ _ _ _
   | exact LeO.none _
   | refine LeO.ite ?_ ?_
   | refine LeO.bind ?_ (fun _ => ?_)
def overfalllaw08_CodelLooks.T4 : Bool × List (List Nat × List Nat) := (true, [([], []), ([0], [0]), ([], []), ([2], [2]), ([], []), ([4], [4]), ([], []), ([], []), ([], []), ([1, 3, 5, 6, 7, 8, 1], [1, 3, 5, 6, 7, 8]), ([9], [9]), ([10], [10]), ([10], [10]), ([], []), ([13, 11, 9, 0, 1, 2, 3, 4, 5, 6, 7, 8, 9, 10, 11, 13], [11, 13]), ([12, 14, 0, 1, 2, 3, 4, 5, 6, 7, 8, 9, 10, 11, 12, 13, 14], [12])])
def overfalllaw08_CodelLooks.B4 : List Nat := [0, 1, 0, 4, 0, 16, 0, 0, 0, 511, 1023, 2047, 2047, 0, 12287, 32767]
theorem overfalllaw08_CodelLooks.tab4 : rtab .any (opsOf Try.f8 4) = overfalllaw08_CodelLooks.T4 := by kernel_rfl
theorem overfalllaw08_CodelLooks.bits4 : waitsOk overfalllaw08_CodelLooks.T4.2 overfalllaw08_CodelLooks.B4 = true := by kernel_rfl
def overfalllaw08_CodelLooks.T6 : Bool × List (List Nat × List Nat) := (true, [([], []), ([0], [0]), ([], []), ([2], [2]), ([], []), ([4], [4]), ([], []), ([], []), ([], []), ([1, 3, 5, 6, 7, 8, 1], [1, 3, 5, 6, 7, 8]), ([9], [9]), ([10], [10]), ([10], [10]), ([], []), ([13, 11, 9, 0, 1, 2, 3, 4, 5, 6, 7, 8, 9, 10, 11, 13], [11, 13]), ([12, 14, 0, 1, 2, 3, 4, 5, 6, 7, 8, 9, 10, 11, 12, 13, 14], [12])])
def overfalllaw08_CodelLooks.B6 : List Nat := [0, 1, 0, 4, 0, 16, 0, 0, 0, 511, 1023, 2047, 2047, 0, 12287, 32767]
theorem overfalllaw08_CodelLooks.tab6 : rtab .any (opsOf Try.f8 6) = overfalllaw08_CodelLooks.T6 := by kernel_rfl
theorem overfalllaw08_CodelLooks.bits6 : waitsOk overfalllaw08_CodelLooks.T6.2 overfalllaw08_CodelLooks.B6 = true := by kernel_rfl
def overfalllaw08_CodelLooks.T7 : Bool × List (List Nat × List Nat) := (true, [([], []), ([0], [0]), ([], []), ([2], [2]), ([], []), ([4], [4]), ([], []), ([], []), ([], []), ([1, 3, 5, 6, 7, 8, 1], [1, 3, 5, 6, 7, 8]), ([9], [9]), ([10], [10]), ([10], [10]), ([], []), ([13, 11, 9, 0, 1, 2, 3, 4, 5, 6, 7, 8, 9, 10, 11, 13], [11, 13]), ([12, 14, 0, 1, 2, 3, 4, 5, 6, 7, 8, 9, 10, 11, 12, 13, 14], [12])])
def overfalllaw08_CodelLooks.B7 : List Nat := [0, 1, 0, 4, 0, 16, 0, 0, 0, 511, 1023, 2047, 2047, 0, 12287, 32767]
theorem overfalllaw08_CodelLooks.tab7 : rtab .any (opsOf Try.f8 7) = overfalllaw08_CodelLooks.T7 := by kernel_rfl
theorem overfalllaw08_CodelLooks.bits7 : waitsOk overfalllaw08_CodelLooks.T7.2 overfalllaw08_CodelLooks.B7 = true := by kernel_rfl
def overfalllaw08_CodelLooks.T9 : Bool × List (List Nat × List Nat) := (true, [([], []), ([0], [0]), ([], []), ([1, 2], [1, 2]), ([3, 1], [3]), ([4], [4]), ([4], [4]), ([5, 6, 4], [4, 5, 6]), ([4, 7], [4, 7]), ([8, 4], [8]), ([9], [9]), ([10, 9, 9], [9, 10]), ([9], [9]), ([11, 12, 9], [9, 11, 12]), ([9, 13], [9, 13]), ([14, 11], [14]), ([15], [15]), ([15], [15]), ([16, 17, 15], [15, 16, 17]), ([15, 18], [15, 18]), ([19, 15], [19]), ([20], [20]), ([20], [20]), ([20], [20]), ([20], [20]), ([20], [20]), ([21, 22, 23, 24, 25, 20, 20], [20, 21, 22, 23, 24, 25]), ([26, 26, 20], [20, 26]), ([20], [20]), ([27, 28, 20], [20, 27, 28]), ([20, 29], [20, 29]), ([30, 27], [30]), ([31], [31]), ([32, 31], [31, 32]), ([33, 31], [31, 33]), ([31, 34], [31, 34]), ([35, 31], [35]), ([36], [36]), ([37, 36], [36, 37]), ([38, 36], [36, 38]), ([36, 39], [36, 39]), ([40, 36], [40]), ([41], [41]), ([42, 41], [41, 42]), ([43, 41], [41, 43]), ([41, 44], [41, 44]), ([45, 41], [45]), ([46], [46]), ([47, 46], [46, 47]), ([46], [46]), ([49, 46], [46, 49]), ([48, 50, 46], [46, 48, 50]), ([46, 51], [46, 51]), ([52, 46], [52]), ([53], [53]), ([54, 53], [53, 54]), ([53], [53]), ([56, 53], [53, 56]), ([55, 57, 53], [53, 55, 57]), ([53, 58], [53, 58]), ([59, 53], [59]), ([60], [60]), ([61, 60], [60, 61]), ([60], [60]), ([63, 60], [60, 63]), ([62, 64, 60], [60, 62, 64]), ([60, 65], [60, 65]), ([66, 60, 0, 1, 2, 3, 4, 5, 6, 7, 8, 9, 10, 11, 12, 13, 14, 15, 16, 17, 18, 19, 20, 21, 22, 23, 24, 25, 26, 27, 28, 29, 30, 31, 32, 33, 34, 35, 36, 37, 38, 39, 40, 41, 42, 43, 44, 45, 46, 47, 48, 49, 50, 51, 52, 53, 54, 55, 56, 57, 58, 59, 60, 61, 62, 63, 64, 65, 66], [66])])
def overfalllaw08_CodelLooks.B9 : List Nat := [0, 1, 0, 7, 15, 31, 31, 127, 255, 511, 1023, 2047, 1023, 8191, 16383, 32767, 65535, 65535, 262143, 524287, 1048575, 2097151, 2097151, 2097151, 2097151, 2097151, 67108863, 134217727, 2097151, 536870911, 1073741823, 2147483647, 4294967295, 8589934591, 17179869183, 34359738367, 68719476735, 137438953471, 274877906943, 549755813887, 1099511627775, 2199023255551, 4398046511103, 8796093022207, 17592186044415, 35184372088831, 70368744177663, 140737488355327, 281474976710655, 140737488355327, 703687441776639, 2251799813685247, 4503599627370495, 9007199254740991, 18014398509481983, 36028797018963967, 18014398509481983, 90071992547409919, 288230376151711743, 576460752303423487, 1152921504606846975, 2305843009213693951, 4611686018427387903, 2305843009213693951, 11529215046068469759, 36893488147419103231, 73786976294838206463, 147573952589676412927]
theorem overfalllaw08_CodelLooks.tab9 : rtab .any (opsOf Try.f8 9) = overfalllaw08_CodelLooks.T9 := by kernel_rfl
theorem overfalllaw08_CodelLooks.bits9 : waitsOk overfalllaw08_CodelLooks.T9.2 overfalllaw08_CodelLooks.B9 = true := by kernel_rfl
set_option maxHeartbeats 8000000 in
set_option maxRecDepth 100000 in
theorem overfalllaw08_CodelLooks.calls (k : Nat) (a0_0 : Bool) (a0_1 : Int) (a0_2 : Bool) (a0_3 : Int) (a0_4 : Int) (a0_5 : Int) (a1_0 : Int) (a1_1 : Int) (a2 : Int) (a3 : Int) (a4 : Int) (r : Bool) (w : World) (h : overfalllaw08_CodelLooks.f k a0_0 a0_1 a0_2 a0_3 a0_4 a0_5 a1_0 a1_1 a2 a3 a4 = some r) :
  Calls Try.prog 8 #[.agg #[.bool a0_0, .int .i64 a0_1, .bool a0_2, .int .i64 a0_3, .int .u64 a0_4, .int .u64 a0_5], .agg #[.int .i64 a1_0, .int .i64 a1_1], .int .i64 a2, .int .i64 a3, .int .i64 a4] w fun e w' => e = .returned (.bool r) ∧ Below w.heap.size w w' := by
 have hu24 := Try.underlying24
 have hu26 := Try.underlying26
 have hu41 := Try.underlying41
 have HB := m_ (Below.refl w.heap.size w)
 have H : ((overfalllaw08_awake.f k).bind fun t404 => (if t404 = true then ((codel_State_Look.f k a0_0 a0_1 a0_2 a0_3 a0_4 a0_5 a1_0 a1_1 a2 a3 a4).bind fun bt405 => ((overfalllaw08_own.f a0_0 a0_1 a0_2 a0_3 a0_4 a0_5).bind fun bt413 => ((overfallref08_Look.f k bt413.1 bt413.2.1 bt413.2.2.1 bt413.2.2.2.1 bt413.2.2.2.2.1 bt413.2.2.2.2.2 a1_0 a1_1 a2 a3 a4).bind fun bt419 => ((codel_State_More.f k a0_0 a0_1 a0_2 a0_3 a0_4 a0_5 a1_0 a1_1 a2 a3 a4).bind fun bt427 => ((overfalllaw08_own.f a0_0 a0_1 a0_2 a0_3 a0_4 a0_5).bind fun bt435 => ((overfallref08_More.f k bt435.1 bt435.2.1 bt435.2.2.1 bt435.2.2.2.1 bt435.2.2.2.2.1 bt435.2.2.2.2.2 a1_0 a1_1 a2 a3 a4).bind fun bt441 => ((overfalllaw08_own.f a0_0 a0_1 a0_2 a0_3 a0_4 a0_5).bind fun bt449 => ((overfallref08_Note.f k bt449.1 bt449.2.1 bt449.2.2.1 bt449.2.2.2.1 bt449.2.2.2.2.1 bt449.2.2.2.2.2 a1_0 a1_1 a2 a3 a4).bind fun bt455 => ((codel_State_Empty.f a0_0 a0_1 a0_2 a0_3 a0_4 a0_5).bind fun bt463 => ((overfalllaw08_own.f bt405.1 bt405.2.1 bt405.2.2.1 bt405.2.2.2.1 bt405.2.2.2.2.1 bt405.2.2.2.2.2.1).bind fun bt470 => (if (bt470.1 == bt419.1 && (bt470.2.1 == bt419.2.1 && (bt470.2.2.1 == bt419.2.2.1 && (bt470.2.2.2.1 == bt419.2.2.2.1 && (bt470.2.2.2.2.1 == bt419.2.2.2.2.1 && (bt470.2.2.2.2.2 == bt419.2.2.2.2.2.1)))))) = true then (if bt405.2.2.2.2.2.2 = bt419.2.2.2.2.2.2 then ((overfalllaw08_own.f bt427.1 bt427.2.1 bt427.2.2.1 bt427.2.2.2.1 bt427.2.2.2.2.1 bt427.2.2.2.2.2.1).bind fun bt476 => (if (bt476.1 == bt441.1 && (bt476.2.1 == bt441.2.1 && (bt476.2.2.1 == bt441.2.2.1 && (bt476.2.2.2.1 == bt441.2.2.2.1 && (bt476.2.2.2.2.1 == bt441.2.2.2.2.1 && (bt476.2.2.2.2.2 == bt441.2.2.2.2.2.1)))))) = true then (if bt427.2.2.2.2.2.2 = bt441.2.2.2.2.2.2 then ((codel_State_Note.f k a0_0 a0_1 a0_2 a0_3 a0_4 a0_5 a1_0 a1_1 a2 a3 a4).bind fun bt482 => ((overfalllaw08_own.f bt482.1 bt482.2.1 bt482.2.2.1 bt482.2.2.2.1 bt482.2.2.2.2.1 bt482.2.2.2.2.2).bind fun bt488 => (if (bt488.1 == bt455.1 && (bt488.2.1 == bt455.2.1 && (bt488.2.2.1 == bt455.2.2.1 && (bt488.2.2.2.1 == bt455.2.2.2.1 && (bt488.2.2.2.2.1 == bt455.2.2.2.2.1 && (bt488.2.2.2.2.2 == bt455.2.2.2.2.2.1)))))) = true then (if bt463.1 = true then (none) else (if bt463.2.2.1 = true then (none) else (if bt463.2.1 = 0 then (if bt463.2.2.2.1 = a0_3 then (if bt463.2.2.2.2.1 = a0_4 then (some (bt463.2.2.2.2.2 == a0_5)) else (none)) else (none)) else (none)))) else (none)))) else (none)) else (none))) else (none)) else (none)))))))))))) else (none))) = some r := h
 clear h
 replace H := Option.bind_eq_some_iff.mp H
 obtain ⟨t404, A60, H⟩ := H
 replace H : (if t404 = true then ((codel_State_Look.f k a0_0 a0_1 a0_2 a0_3 a0_4 a0_5 a1_0 a1_1 a2 a3 a4).bind fun bt405 => ((overfalllaw08_own.f a0_0 a0_1 a0_2 a0_3 a0_4 a0_5).bind fun bt413 => ((overfallref08_Look.f k bt413.1 bt413.2.1 bt413.2.2.1 bt413.2.2.2.1 bt413.2.2.2.2.1 bt413.2.2.2.2.2 a1_0 a1_1 a2 a3 a4).bind fun bt419 => ((codel_State_More.f k a0_0 a0_1 a0_2 a0_3 a0_4 a0_5 a1_0 a1_1 a2 a3 a4).bind fun bt427 => ((overfalllaw08_own.f a0_0 a0_1 a0_2 a0_3 a0_4 a0_5).bind fun bt435 => ((overfallref08_More.f k bt435.1 bt435.2.1 bt435.2.2.1 bt435.2.2.2.1 bt435.2.2.2.2.1 bt435.2.2.2.2.2 a1_0 a1_1 a2 a3 a4).bind fun bt441 => ((overfalllaw08_own.f a0_0 a0_1 a0_2 a0_3 a0_4 a0_5).bind fun bt449 => ((overfallref08_Note.f k bt449.1 bt449.2.1 bt449.2.2.1 bt449.2.2.2.1 bt449.2.2.2.2.1 bt449.2.2.2.2.2 a1_0 a1_1 a2 a3 a4).bind fun bt455 => ((codel_State_Empty.f a0_0 a0_1 a0_2 a0_3 a0_4 a0_5).bind fun bt463 => ((overfalllaw08_own.f bt405.1 bt405.2.1 bt405.2.2.1 bt405.2.2.2.1 bt405.2.2.2.2.1 bt405.2.2.2.2.2.1).bind fun bt470 => (if (bt470.1 == bt419.1 && (bt470.2.1 == bt419.2.1 && (bt470.2.2.1 == bt419.2.2.1 && (bt470.2.2.2.1 == bt419.2.2.2.1 && (bt470.2.2.2.2.1 == bt419.2.2.2.2.1 && (bt470.2.2.2.2.2 == bt419.2.2.2.2.2.1)))))) = true then (if bt405.2.2.2.2.2.2 = bt419.2.2.2.2.2.2 then ((overfalllaw08_own.f bt427.1 bt427.2.1 bt427.2.2.1 bt427.2.2.2.1 bt427.2.2.2.2.1 bt427.2.2.2.2.2.1).bind fun bt476 => (if (bt476.1 == bt441.1 && (bt476.2.1 == bt441.2.1 && (bt476.2.2.1 == bt441.2.2.1 && (bt476.2.2.2.1 == bt441.2.2.2.1 && (bt476.2.2.2.2.1 == bt441.2.2.2.2.1 && (bt476.2.2.2.2.2 == bt441.2.2.2.2.2.1)))))) = true then (if bt427.2.2.2.2.2.2 = bt441.2.2.2.2.2.2 then ((codel_State_Note.f k a0_0 a0_1 a0_2 a0_3 a0_4 a0_5 a1_0 a1_1 a2 a3 a4).bind fun bt482 => ((overfalllaw08_own.f bt482.1 bt482.2.1 bt482.2.2.1 bt482.2.2.2.1 bt482.2.2.2.2.1 bt482.2.2.2.2.2).bind fun bt488 => (if (bt488.1 == bt455.1 && (bt488.2.1 == bt455.2.1 && (bt488.2.2.1 == bt455.2.2.1 && (bt488.2.2.2.1 == bt455.2.2.2.1 && (bt488.2.2.2.2.1 == bt455.2.2.2.2.1 && (bt488.2.2.2.2.2 == bt455.2.2.2.2.2.1)))))) = true then (if bt463.1 = true then (none) else (if bt463.2.2.1 = true then (none) else (if bt463.2.1 = 0 then (if bt463.2.2.2.1 = a0_3 then (if bt463.2.2.2.2.1 = a0_4 then (some (bt463.2.2.2.2.2 == a0_5)) else (none)) else (none)) else (none)))) else (none)))) else (none)) else (none))) else (none)) else (none)))))))))))) else (none)) = some r := H
 have A6 := Aside0.mk A60
 clear A60
 by_cases c7 : t404 = true
 ·subst c7
  have H1 : ((codel_State_Look.f k a0_0 a0_1 a0_2 a0_3 a0_4 a0_5 a1_0 a1_1 a2 a3 a4).bind fun bt405 => ((overfalllaw08_own.f a0_0 a0_1 a0_2 a0_3 a0_4 a0_5).bind fun bt413 => ((overfallref08_Look.f k bt413.1 bt413.2.1 bt413.2.2.1 bt413.2.2.2.1 bt413.2.2.2.2.1 bt413.2.2.2.2.2 a1_0 a1_1 a2 a3 a4).bind fun bt419 => ((codel_State_More.f k a0_0 a0_1 a0_2 a0_3 a0_4 a0_5 a1_0 a1_1 a2 a3 a4).bind fun bt427 => ((overfalllaw08_own.f a0_0 a0_1 a0_2 a0_3 a0_4 a0_5).bind fun bt435 => ((overfallref08_More.f k bt435.1 bt435.2.1 bt435.2.2.1 bt435.2.2.2.1 bt435.2.2.2.2.1 bt435.2.2.2.2.2 a1_0 a1_1 a2 a3 a4).bind fun bt441 => ((overfalllaw08_own.f a0_0 a0_1 a0_2 a0_3 a0_4 a0_5).bind fun bt449 => ((overfallref08_Note.f k bt449.1 bt449.2.1 bt449.2.2.1 bt449.2.2.2.1 bt449.2.2.2.2.1 bt449.2.2.2.2.2 a1_0 a1_1 a2 a3 a4).bind fun bt455 => ((codel_State_Empty.f a0_0 a0_1 a0_2 a0_3 a0_4 a0_5).bind fun bt463 => ((overfalllaw08_own.f bt405.1 bt405.2.1 bt405.2.2.1 bt405.2.2.2.1 bt405.2.2.2.2.1 bt405.2.2.2.2.2.1).bind fun bt470 => (if (bt470.1 == bt419.1 && (bt470.2.1 == bt419.2.1 && (bt470.2.2.1 == bt419.2.2.1 && (bt470.2.2.2.1 == bt419.2.2.2.1 && (bt470.2.2.2.2.1 == bt419.2.2.2.2.1 && (bt470.2.2.2.2.2 == bt419.2.2.2.2.2.1)))))) = true then (if bt405.2.2.2.2.2.2 = bt419.2.2.2.2.2.2 then ((overfalllaw08_own.f bt427.1 bt427.2.1 bt427.2.2.1 bt427.2.2.2.1 bt427.2.2.2.2.1 bt427.2.2.2.2.2.1).bind fun bt476 => (if (bt476.1 == bt441.1 && (bt476.2.1 == bt441.2.1 && (bt476.2.2.1 == bt441.2.2.1 && (bt476.2.2.2.1 == bt441.2.2.2.1 && (bt476.2.2.2.2.1 == bt441.2.2.2.2.1 && (bt476.2.2.2.2.2 == bt441.2.2.2.2.2.1)))))) = true then (if bt427.2.2.2.2.2.2 = bt441.2.2.2.2.2.2 then ((codel_State_Note.f k a0_0 a0_1 a0_2 a0_3 a0_4 a0_5 a1_0 a1_1 a2 a3 a4).bind fun bt482 => ((overfalllaw08_own.f bt482.1 bt482.2.1 bt482.2.2.1 bt482.2.2.2.1 bt482.2.2.2.2.1 bt482.2.2.2.2.2).bind fun bt488 => (if (bt488.1 == bt455.1 && (bt488.2.1 == bt455.2.1 && (bt488.2.2.1 == bt455.2.2.1 && (bt488.2.2.2.1 == bt455.2.2.2.1 && (bt488.2.2.2.2.1 == bt455.2.2.2.2.1 && (bt488.2.2.2.2.2 == bt455.2.2.2.2.2.1)))))) = true then (if bt463.1 = true then (none) else (if bt463.2.2.1 = true then (none) else (if bt463.2.1 = 0 then (if bt463.2.2.2.1 = a0_3 then (if bt463.2.2.2.2.1 = a0_4 then (some (bt463.2.2.2.2.2 == a0_5)) else (none)) else (none)) else (none)))) else (none)))) else (none)) else (none))) else (none)) else (none)))))))))))) = some r := by rw [if_pos rfl] at H; exact H
  clear H
  have H := H1
  clear H1
  replace H := Option.bind_eq_some_iff.mp H
  obtain ⟨⟨t405, t406, t407, t408, t409, t410, t411⟩, A80, H⟩ := H
  replace H : ((overfalllaw08_own.f a0_0 a0_1 a0_2 a0_3 a0_4 a0_5).bind fun bt413 => ((overfallref08_Look.f k bt413.1 bt413.2.1 bt413.2.2.1 bt413.2.2.2.1 bt413.2.2.2.2.1 bt413.2.2.2.2.2 a1_0 a1_1 a2 a3 a4).bind fun bt419 => ((codel_State_More.f k a0_0 a0_1 a0_2 a0_3 a0_4 a0_5 a1_0 a1_1 a2 a3 a4).bind fun bt427 => ((overfalllaw08_own.f a0_0 a0_1 a0_2 a0_3 a0_4 a0_5).bind fun bt435 => ((overfallref08_More.f k bt435.1 bt435.2.1 bt435.2.2.1 bt435.2.2.2.1 bt435.2.2.2.2.1 bt435.2.2.2.2.2 a1_0 a1_1 a2 a3 a4).bind fun bt441 => ((overfalllaw08_own.f a0_0 a0_1 a0_2 a0_3 a0_4 a0_5).bind fun bt449 => ((overfallref08_Note.f k bt449.1 bt449.2.1 bt449.2.2.1 bt449.2.2.2.1 bt449.2.2.2.2.1 bt449.2.2.2.2.2 a1_0 a1_1 a2 a3 a4).bind fun bt455 => ((codel_State_Empty.f a0_0 a0_1 a0_2 a0_3 a0_4 a0_5).bind fun bt463 => ((overfalllaw08_own.f t405 t406 t407 t408 t409 t410).bind fun bt470 => (if (bt470.1 == bt419.1 && (bt470.2.1 == bt419.2.1 && (bt470.2.2.1 == bt419.2.2.1 && (bt470.2.2.2.1 == bt419.2.2.2.1 && (bt470.2.2.2.2.1 == bt419.2.2.2.2.1 && (bt470.2.2.2.2.2 == bt419.2.2.2.2.2.1)))))) = true then (if t411 = bt419.2.2.2.2.2.2 then ((overfalllaw08_own.f bt427.1 bt427.2.1 bt427.2.2.1 bt427.2.2.2.1 bt427.2.2.2.2.1 bt427.2.2.2.2.2.1).bind fun bt476 => (if (bt476.1 == bt441.1 && (bt476.2.1 == bt441.2.1 && (bt476.2.2.1 == bt441.2.2.1 && (bt476.2.2.2.1 == bt441.2.2.2.1 && (bt476.2.2.2.2.1 == bt441.2.2.2.2.1 && (bt476.2.2.2.2.2 == bt441.2.2.2.2.2.1)))))) = true then (if bt427.2.2.2.2.2.2 = bt441.2.2.2.2.2.2 then ((codel_State_Note.f k a0_0 a0_1 a0_2 a0_3 a0_4 a0_5 a1_0 a1_1 a2 a3 a4).bind fun bt482 => ((overfalllaw08_own.f bt482.1 bt482.2.1 bt482.2.2.1 bt482.2.2.2.1 bt482.2.2.2.2.1 bt482.2.2.2.2.2).bind fun bt488 => (if (bt488.1 == bt455.1 && (bt488.2.1 == bt455.2.1 && (bt488.2.2.1 == bt455.2.2.1 && (bt488.2.2.2.1 == bt455.2.2.2.1 && (bt488.2.2.2.2.1 == bt455.2.2.2.2.1 && (bt488.2.2.2.2.2 == bt455.2.2.2.2.2.1)))))) = true then (if bt463.1 = true then (none) else (if bt463.2.2.1 = true then (none) else (if bt463.2.1 = 0 then (if bt463.2.2.2.1 = a0_3 then (if bt463.2.2.2.2.1 = a0_4 then (some (bt463.2.2.2.2.2 == a0_5)) else (none)) else (none)) else (none)))) else (none)))) else (none)) else (none))) else (none)) else (none))))))))))) = some r := H
  have A8 := Aside0.mk A80
  clear A80
  replace H := Option.bind_eq_some_iff.mp H
  obtain ⟨⟨t413, t414, t415, t416, t417, t418⟩, A90, H⟩ := H
  replace H : ((overfallref08_Look.f k t413 t414 t415 t416 t417 t418 a1_0 a1_1 a2 a3 a4).bind fun bt419 => ((codel_State_More.f k a0_0 a0_1 a0_2 a0_3 a0_4 a0_5 a1_0 a1_1 a2 a3 a4).bind fun bt427 => ((overfalllaw08_own.f a0_0 a0_1 a0_2 a0_3 a0_4 a0_5).bind fun bt435 => ((overfallref08_More.f k bt435.1 bt435.2.1 bt435.2.2.1 bt435.2.2.2.1 bt435.2.2.2.2.1 bt435.2.2.2.2.2 a1_0 a1_1 a2 a3 a4).bind fun bt441 => ((overfalllaw08_own.f a0_0 a0_1 a0_2 a0_3 a0_4 a0_5).bind fun bt449 => ((overfallref08_Note.f k bt449.1 bt449.2.1 bt449.2.2.1 bt449.2.2.2.1 bt449.2.2.2.2.1 bt449.2.2.2.2.2 a1_0 a1_1 a2 a3 a4).bind fun bt455 => ((codel_State_Empty.f a0_0 a0_1 a0_2 a0_3 a0_4 a0_5).bind fun bt463 => ((overfalllaw08_own.f t405 t406 t407 t408 t409 t410).bind fun bt470 => (if (bt470.1 == bt419.1 && (bt470.2.1 == bt419.2.1 && (bt470.2.2.1 == bt419.2.2.1 && (bt470.2.2.2.1 == bt419.2.2.2.1 && (bt470.2.2.2.2.1 == bt419.2.2.2.2.1 && (bt470.2.2.2.2.2 == bt419.2.2.2.2.2.1)))))) = true then (if t411 = bt419.2.2.2.2.2.2 then ((overfalllaw08_own.f bt427.1 bt427.2.1 bt427.2.2.1 bt427.2.2.2.1 bt427.2.2.2.2.1 bt427.2.2.2.2.2.1).bind fun bt476 => (if (bt476.1 == bt441.1 && (bt476.2.1 == bt441.2.1 && (bt476.2.2.1 == bt441.2.2.1 && (bt476.2.2.2.1 == bt441.2.2.2.1 && (bt476.2.2.2.2.1 == bt441.2.2.2.2.1 && (bt476.2.2.2.2.2 == bt441.2.2.2.2.2.1)))))) = true then (if bt427.2.2.2.2.2.2 = bt441.2.2.2.2.2.2 then ((codel_State_Note.f k a0_0 a0_1 a0_2 a0_3 a0_4 a0_5 a1_0 a1_1 a2 a3 a4).bind fun bt482 => ((overfalllaw08_own.f bt482.1 bt482.2.1 bt482.2.2.1 bt482.2.2.2.1 bt482.2.2.2.2.1 bt482.2.2.2.2.2).bind fun bt488 => (if (bt488.1 == bt455.1 && (bt488.2.1 == bt455.2.1 && (bt488.2.2.1 == bt455.2.2.1 && (bt488.2.2.2.1 == bt455.2.2.2.1 && (bt488.2.2.2.2.1 == bt455.2.2.2.2.1 && (bt488.2.2.2.2.2 == bt455.2.2.2.2.2.1)))))) = true then (if bt463.1 = true then (none) else (if bt463.2.2.1 = true then (none) else (if bt463.2.1 = 0 then (if bt463.2.2.2.1 = a0_3 then (if bt463.2.2.2.2.1 = a0_4 then (some (bt463.2.2.2.2.2 == a0_5)) else (none)) else (none)) else (none)))) else (none)))) else (none)) else (none))) else (none)) else (none)))))))))) = some r := H
  have A9 := Aside0.mk A90
  clear A90
  replace H := Option.bind_eq_some_iff.mp H
  obtain ⟨⟨t419, t420, t421, t422, t423, t424, t425⟩, A100, H⟩ := H
  replace H : ((codel_State_More.f k a0_0 a0_1 a0_2 a0_3 a0_4 a0_5 a1_0 a1_1 a2 a3 a4).bind fun bt427 => ((overfalllaw08_own.f a0_0 a0_1 a0_2 a0_3 a0_4 a0_5).bind fun bt435 => ((overfallref08_More.f k bt435.1 bt435.2.1 bt435.2.2.1 bt435.2.2.2.1 bt435.2.2.2.2.1 bt435.2.2.2.2.2 a1_0 a1_1 a2 a3 a4).bind fun bt441 => ((overfalllaw08_own.f a0_0 a0_1 a0_2 a0_3 a0_4 a0_5).bind fun bt449 => ((overfallref08_Note.f k bt449.1 bt449.2.1 bt449.2.2.1 bt449.2.2.2.1 bt449.2.2.2.2.1 bt449.2.2.2.2.2 a1_0 a1_1 a2 a3 a4).bind fun bt455 => ((codel_State_Empty.f a0_0 a0_1 a0_2 a0_3 a0_4 a0_5).bind fun bt463 => ((overfalllaw08_own.f t405 t406 t407 t408 t409 t410).bind fun bt470 => (if (bt470.1 == t419 && (bt470.2.1 == t420 && (bt470.2.2.1 == t421 && (bt470.2.2.2.1 == t422 && (bt470.2.2.2.2.1 == t423 && (bt470.2.2.2.2.2 == t424)))))) = true then (if t411 = t425 then ((overfalllaw08_own.f bt427.1 bt427.2.1 bt427.2.2.1 bt427.2.2.2.1 bt427.2.2.2.2.1 bt427.2.2.2.2.2.1).bind fun bt476 => (if (bt476.1 == bt441.1 && (bt476.2.1 == bt441.2.1 && (bt476.2.2.1 == bt441.2.2.1 && (bt476.2.2.2.1 == bt441.2.2.2.1 && (bt476.2.2.2.2.1 == bt441.2.2.2.2.1 && (bt476.2.2.2.2.2 == bt441.2.2.2.2.2.1)))))) = true then (if bt427.2.2.2.2.2.2 = bt441.2.2.2.2.2.2 then ((codel_State_Note.f k a0_0 a0_1 a0_2 a0_3 a0_4 a0_5 a1_0 a1_1 a2 a3 a4).bind fun bt482 => ((overfalllaw08_own.f bt482.1 bt482.2.1 bt482.2.2.1 bt482.2.2.2.1 bt482.2.2.2.2.1 bt482.2.2.2.2.2).bind fun bt488 => (if (bt488.1 == bt455.1 && (bt488.2.1 == bt455.2.1 && (bt488.2.2.1 == bt455.2.2.1 && (bt488.2.2.2.1 == bt455.2.2.2.1 && (bt488.2.2.2.2.1 == bt455.2.2.2.2.1 && (bt488.2.2.2.2.2 == bt455.2.2.2.2.2.1)))))) = true then (if bt463.1 = true then (none) else (if bt463.2.2.1 = true then (none) else (if bt463.2.1 = 0 then (if bt463.2.2.2.1 = a0_3 then (if bt463.2.2.2.2.1 = a0_4 then (some (bt463.2.2.2.2.2 == a0_5)) else (none)) else (none)) else (none)))) else (none)))) else (none)) else (none))) else (none)) else (none))))))))) = some r := H
  have A10 := Aside0.mk A100
  clear A100
  replace H := Option.bind_eq_some_iff.mp H
  obtain ⟨⟨t427, t428, t429, t430, t431, t432, t433⟩, A110, H⟩ := H
  replace H : ((overfalllaw08_own.f a0_0 a0_1 a0_2 a0_3 a0_4 a0_5).bind fun bt435 => ((overfallref08_More.f k bt435.1 bt435.2.1 bt435.2.2.1 bt435.2.2.2.1 bt435.2.2.2.2.1 bt435.2.2.2.2.2 a1_0 a1_1 a2 a3 a4).bind fun bt441 => ((overfalllaw08_own.f a0_0 a0_1 a0_2 a0_3 a0_4 a0_5).bind fun bt449 => ((overfallref08_Note.f k bt449.1 bt449.2.1 bt449.2.2.1 bt449.2.2.2.1 bt449.2.2.2.2.1 bt449.2.2.2.2.2 a1_0 a1_1 a2 a3 a4).bind fun bt455 => ((codel_State_Empty.f a0_0 a0_1 a0_2 a0_3 a0_4 a0_5).bind fun bt463 => ((overfalllaw08_own.f t405 t406 t407 t408 t409 t410).bind fun bt470 => (if (bt470.1 == t419 && (bt470.2.1 == t420 && (bt470.2.2.1 == t421 && (bt470.2.2.2.1 == t422 && (bt470.2.2.2.2.1 == t423 && (bt470.2.2.2.2.2 == t424)))))) = true then (if t411 = t425 then ((overfalllaw08_own.f t427 t428 t429 t430 t431 t432).bind fun bt476 => (if (bt476.1 == bt441.1 && (bt476.2.1 == bt441.2.1 && (bt476.2.2.1 == bt441.2.2.1 && (bt476.2.2.2.1 == bt441.2.2.2.1 && (bt476.2.2.2.2.1 == bt441.2.2.2.2.1 && (bt476.2.2.2.2.2 == bt441.2.2.2.2.2.1)))))) = true then (if t433 = bt441.2.2.2.2.2.2 then ((codel_State_Note.f k a0_0 a0_1 a0_2 a0_3 a0_4 a0_5 a1_0 a1_1 a2 a3 a4).bind fun bt482 => ((overfalllaw08_own.f bt482.1 bt482.2.1 bt482.2.2.1 bt482.2.2.2.1 bt482.2.2.2.2.1 bt482.2.2.2.2.2).bind fun bt488 => (if (bt488.1 == bt455.1 && (bt488.2.1 == bt455.2.1 && (bt488.2.2.1 == bt455.2.2.1 && (bt488.2.2.2.1 == bt455.2.2.2.1 && (bt488.2.2.2.2.1 == bt455.2.2.2.2.1 && (bt488.2.2.2.2.2 == bt455.2.2.2.2.2.1)))))) = true then (if bt463.1 = true then (none) else (if bt463.2.2.1 = true then (none) else (if bt463.2.1 = 0 then (if bt463.2.2.2.1 = a0_3 then (if bt463.2.2.2.2.1 = a0_4 then (some (bt463.2.2.2.2.2 == a0_5)) else (none)) else (none)) else (none)))) else (none)))) else (none)) else (none))) else (none)) else (none)))))))) = some r := H
  have A11 := Aside0.mk A110
  clear A110
  replace H := Option.bind_eq_some_iff.mp H
  obtain ⟨⟨t435, t436, t437, t438, t439, t440⟩, A120, H⟩ := H
  replace H : ((overfallref08_More.f k t435 t436 t437 t438 t439 t440 a1_0 a1_1 a2 a3 a4).bind fun bt441 => ((overfalllaw08_own.f a0_0 a0_1 a0_2 a0_3 a0_4 a0_5).bind fun bt449 => ((overfallref08_Note.f k bt449.1 bt449.2.1 bt449.2.2.1 bt449.2.2.2.1 bt449.2.2.2.2.1 bt449.2.2.2.2.2 a1_0 a1_1 a2 a3 a4).bind fun bt455 => ((codel_State_Empty.f a0_0 a0_1 a0_2 a0_3 a0_4 a0_5).bind fun bt463 => ((overfalllaw08_own.f t405 t406 t407 t408 t409 t410).bind fun bt470 => (if (bt470.1 == t419 && (bt470.2.1 == t420 && (bt470.2.2.1 == t421 && (bt470.2.2.2.1 == t422 && (bt470.2.2.2.2.1 == t423 && (bt470.2.2.2.2.2 == t424)))))) = true then (if t411 = t425 then ((overfalllaw08_own.f t427 t428 t429 t430 t431 t432).bind fun bt476 => (if (bt476.1 == bt441.1 && (bt476.2.1 == bt441.2.1 && (bt476.2.2.1 == bt441.2.2.1 && (bt476.2.2.2.1 == bt441.2.2.2.1 && (bt476.2.2.2.2.1 == bt441.2.2.2.2.1 && (bt476.2.2.2.2.2 == bt441.2.2.2.2.2.1)))))) = true then (if t433 = bt441.2.2.2.2.2.2 then ((codel_State_Note.f k a0_0 a0_1 a0_2 a0_3 a0_4 a0_5 a1_0 a1_1 a2 a3 a4).bind fun bt482 => ((overfalllaw08_own.f bt482.1 bt482.2.1 bt482.2.2.1 bt482.2.2.2.1 bt482.2.2.2.2.1 bt482.2.2.2.2.2).bind fun bt488 => (if (bt488.1 == bt455.1 && (bt488.2.1 == bt455.2.1 && (bt488.2.2.1 == bt455.2.2.1 && (bt488.2.2.2.1 == bt455.2.2.2.1 && (bt488.2.2.2.2.1 == bt455.2.2.2.2.1 && (bt488.2.2.2.2.2 == bt455.2.2.2.2.2.1)))))) = true then (if bt463.1 = true then (none) else (if bt463.2.2.1 = true then (none) else (if bt463.2.1 = 0 then (if bt463.2.2.2.1 = a0_3 then (if bt463.2.2.2.2.1 = a0_4 then (some (bt463.2.2.2.2.2 == a0_5)) else (none)) else (none)) else (none)))) else (none)))) else (none)) else (none))) else (none)) else (none))))))) = some r := H
  have A12 := Aside0.mk A120
  clear A120
  replace H := Option.bind_eq_some_iff.mp H
  obtain ⟨⟨t441, t442, t443, t444, t445, t446, t447⟩, A130, H⟩ := H
  replace H : ((overfalllaw08_own.f a0_0 a0_1 a0_2 a0_3 a0_4 a0_5).bind fun bt449 => ((overfallref08_Note.f k bt449.1 bt449.2.1 bt449.2.2.1 bt449.2.2.2.1 bt449.2.2.2.2.1 bt449.2.2.2.2.2 a1_0 a1_1 a2 a3 a4).bind fun bt455 => ((codel_State_Empty.f a0_0 a0_1 a0_2 a0_3 a0_4 a0_5).bind fun bt463 => ((overfalllaw08_own.f t405 t406 t407 t408 t409 t410).bind fun bt470 => (if (bt470.1 == t419 && (bt470.2.1 == t420 && (bt470.2.2.1 == t421 && (bt470.2.2.2.1 == t422 && (bt470.2.2.2.2.1 == t423 && (bt470.2.2.2.2.2 == t424)))))) = true then (if t411 = t425 then ((overfalllaw08_own.f t427 t428 t429 t430 t431 t432).bind fun bt476 => (if (bt476.1 == t441 && (bt476.2.1 == t442 && (bt476.2.2.1 == t443 && (bt476.2.2.2.1 == t444 && (bt476.2.2.2.2.1 == t445 && (bt476.2.2.2.2.2 == t446)))))) = true then (if t433 = t447 then ((codel_State_Note.f k a0_0 a0_1 a0_2 a0_3 a0_4 a0_5 a1_0 a1_1 a2 a3 a4).bind fun bt482 => ((overfalllaw08_own.f bt482.1 bt482.2.1 bt482.2.2.1 bt482.2.2.2.1 bt482.2.2.2.2.1 bt482.2.2.2.2.2).bind fun bt488 => (if (bt488.1 == bt455.1 && (bt488.2.1 == bt455.2.1 && (bt488.2.2.1 == bt455.2.2.1 && (bt488.2.2.2.1 == bt455.2.2.2.1 && (bt488.2.2.2.2.1 == bt455.2.2.2.2.1 && (bt488.2.2.2.2.2 == bt455.2.2.2.2.2.1)))))) = true then (if bt463.1 = true then (none) else (if bt463.2.2.1 = true then (none) else (if bt463.2.1 = 0 then (if bt463.2.2.2.1 = a0_3 then (if bt463.2.2.2.2.1 = a0_4 then (some (bt463.2.2.2.2.2 == a0_5)) else (none)) else (none)) else (none)))) else (none)))) else (none)) else (none))) else (none)) else (none)))))) = some r := H
  have A13 := Aside0.mk A130
  clear A130
  replace H := Option.bind_eq_some_iff.mp H
  obtain ⟨⟨t449, t450, t451, t452, t453, t454⟩, A140, H⟩ := H
  replace H : ((overfallref08_Note.f k t449 t450 t451 t452 t453 t454 a1_0 a1_1 a2 a3 a4).bind fun bt455 => ((codel_State_Empty.f a0_0 a0_1 a0_2 a0_3 a0_4 a0_5).bind fun bt463 => ((overfalllaw08_own.f t405 t406 t407 t408 t409 t410).bind fun bt470 => (if (bt470.1 == t419 && (bt470.2.1 == t420 && (bt470.2.2.1 == t421 && (bt470.2.2.2.1 == t422 && (bt470.2.2.2.2.1 == t423 && (bt470.2.2.2.2.2 == t424)))))) = true then (if t411 = t425 then ((overfalllaw08_own.f t427 t428 t429 t430 t431 t432).bind fun bt476 => (if (bt476.1 == t441 && (bt476.2.1 == t442 && (bt476.2.2.1 == t443 && (bt476.2.2.2.1 == t444 && (bt476.2.2.2.2.1 == t445 && (bt476.2.2.2.2.2 == t446)))))) = true then (if t433 = t447 then ((codel_State_Note.f k a0_0 a0_1 a0_2 a0_3 a0_4 a0_5 a1_0 a1_1 a2 a3 a4).bind fun bt482 => ((overfalllaw08_own.f bt482.1 bt482.2.1 bt482.2.2.1 bt482.2.2.2.1 bt482.2.2.2.2.1 bt482.2.2.2.2.2).bind fun bt488 => (if (bt488.1 == bt455.1 && (bt488.2.1 == bt455.2.1 && (bt488.2.2.1 == bt455.2.2.1 && (bt488.2.2.2.1 == bt455.2.2.2.1 && (bt488.2.2.2.2.1 == bt455.2.2.2.2.1 && (bt488.2.2.2.2.2 == bt455.2.2.2.2.2.1)))))) = true then (if bt463.1 = true then (none) else (if bt463.2.2.1 = true then (none) else (if bt463.2.1 = 0 then (if bt463.2.2.2.1 = a0_3 then (if bt463.2.2.2.2.1 = a0_4 then (some (bt463.2.2.2.2.2 == a0_5)) else (none)) else (none)) else (none)))) else (none)))) else (none)) else (none))) else (none)) else (none))))) = some r := H
  have A14 := Aside0.mk A140
  clear A140
  replace H := Option.bind_eq_some_iff.mp H
  obtain ⟨⟨t455, t456, t457, t458, t459, t460, t461⟩, A150, H⟩ := H
  replace H : ((codel_State_Empty.f a0_0 a0_1 a0_2 a0_3 a0_4 a0_5).bind fun bt463 => ((overfalllaw08_own.f t405 t406 t407 t408 t409 t410).bind fun bt470 => (if (bt470.1 == t419 && (bt470.2.1 == t420 && (bt470.2.2.1 == t421 && (bt470.2.2.2.1 == t422 && (bt470.2.2.2.2.1 == t423 && (bt470.2.2.2.2.2 == t424)))))) = true then (if t411 = t425 then ((overfalllaw08_own.f t427 t428 t429 t430 t431 t432).bind fun bt476 => (if (bt476.1 == t441 && (bt476.2.1 == t442 && (bt476.2.2.1 == t443 && (bt476.2.2.2.1 == t444 && (bt476.2.2.2.2.1 == t445 && (bt476.2.2.2.2.2 == t446)))))) = true then (if t433 = t447 then ((codel_State_Note.f k a0_0 a0_1 a0_2 a0_3 a0_4 a0_5 a1_0 a1_1 a2 a3 a4).bind fun bt482 => ((overfalllaw08_own.f bt482.1 bt482.2.1 bt482.2.2.1 bt482.2.2.2.1 bt482.2.2.2.2.1 bt482.2.2.2.2.2).bind fun bt488 => (if (bt488.1 == t455 && (bt488.2.1 == t456 && (bt488.2.2.1 == t457 && (bt488.2.2.2.1 == t458 && (bt488.2.2.2.2.1 == t459 && (bt488.2.2.2.2.2 == t460)))))) = true then (if bt463.1 = true then (none) else (if bt463.2.2.1 = true then (none) else (if bt463.2.1 = 0 then (if bt463.2.2.2.1 = a0_3 then (if bt463.2.2.2.2.1 = a0_4 then (some (bt463.2.2.2.2.2 == a0_5)) else (none)) else (none)) else (none)))) else (none)))) else (none)) else (none))) else (none)) else (none)))) = some r := H
  have A15 := Aside0.mk A150
  clear A150
  replace H := Option.bind_eq_some_iff.mp H
  obtain ⟨⟨t463, t464, t465, t466, t467, t468⟩, A160, H⟩ := H
  replace H : ((overfalllaw08_own.f t405 t406 t407 t408 t409 t410).bind fun bt470 => (if (bt470.1 == t419 && (bt470.2.1 == t420 && (bt470.2.2.1 == t421 && (bt470.2.2.2.1 == t422 && (bt470.2.2.2.2.1 == t423 && (bt470.2.2.2.2.2 == t424)))))) = true then (if t411 = t425 then ((overfalllaw08_own.f t427 t428 t429 t430 t431 t432).bind fun bt476 => (if (bt476.1 == t441 && (bt476.2.1 == t442 && (bt476.2.2.1 == t443 && (bt476.2.2.2.1 == t444 && (bt476.2.2.2.2.1 == t445 && (bt476.2.2.2.2.2 == t446)))))) = true then (if t433 = t447 then ((codel_State_Note.f k a0_0 a0_1 a0_2 a0_3 a0_4 a0_5 a1_0 a1_1 a2 a3 a4).bind fun bt482 => ((overfalllaw08_own.f bt482.1 bt482.2.1 bt482.2.2.1 bt482.2.2.2.1 bt482.2.2.2.2.1 bt482.2.2.2.2.2).bind fun bt488 => (if (bt488.1 == t455 && (bt488.2.1 == t456 && (bt488.2.2.1 == t457 && (bt488.2.2.2.1 == t458 && (bt488.2.2.2.2.1 == t459 && (bt488.2.2.2.2.2 == t460)))))) = true then (if t463 = true then (none) else (if t465 = true then (none) else (if t464 = 0 then (if t466 = a0_3 then (if t467 = a0_4 then (some (t468 == a0_5)) else (none)) else (none)) else (none)))) else (none)))) else (none)) else (none))) else (none)) else (none))) = some r := H
  have A16 := Aside0.mk A160
  clear A160
  replace H := Option.bind_eq_some_iff.mp H
  obtain ⟨⟨t470, t471, t472, t473, t474, t475⟩, A170, H⟩ := H
  replace H : (if (t470 == t419 && (t471 == t420 && (t472 == t421 && (t473 == t422 && (t474 == t423 && (t475 == t424)))))) = true then (if t411 = t425 then ((overfalllaw08_own.f t427 t428 t429 t430 t431 t432).bind fun bt476 => (if (bt476.1 == t441 && (bt476.2.1 == t442 && (bt476.2.2.1 == t443 && (bt476.2.2.2.1 == t444 && (bt476.2.2.2.2.1 == t445 && (bt476.2.2.2.2.2 == t446)))))) = true then (if t433 = t447 then ((codel_State_Note.f k a0_0 a0_1 a0_2 a0_3 a0_4 a0_5 a1_0 a1_1 a2 a3 a4).bind fun bt482 => ((overfalllaw08_own.f bt482.1 bt482.2.1 bt482.2.2.1 bt482.2.2.2.1 bt482.2.2.2.2.1 bt482.2.2.2.2.2).bind fun bt488 => (if (bt488.1 == t455 && (bt488.2.1 == t456 && (bt488.2.2.1 == t457 && (bt488.2.2.2.1 == t458 && (bt488.2.2.2.2.1 == t459 && (bt488.2.2.2.2.2 == t460)))))) = true then (if t463 = true then (none) else (if t465 = true then (none) else (if t464 = 0 then (if t466 = a0_3 then (if t467 = a0_4 then (some (t468 == a0_5)) else (none)) else (none)) else (none)))) else (none)))) else (none)) else (none))) else (none)) else (none)) = some r := H
  have A17 := Aside0.mk A170
  clear A170
  by_cases c18 : (t470 == t419 && (t471 == t420 && (t472 == t421 && (t473 == t422 && (t474 == t423 && (t475 == t424)))))) = true
  ·rw [if_pos c18] at H
   have c18b0 : (t470 == t419 && (t471 == t420 && (t472 == t421 && (t473 == t422 && (t474 == t423 && (t475 == t424)))))) = true := c18
   (try (have c18b1 : decide (t470 = t419 && (t471 == t420 && (t472 == t421 && (t473 == t422 && (t474 == t423 && (t475 == t424)))))) = true := by simpa using c18))
   (try (have c18b2 : (t470 == t419 && (t471 == t420 && (t472 == t421 && (t473 == t422 && (t474 == t423 && (t475 == t424)))))) = true := by simpa using c18))
   clear c18
   by_cases c19 : t411 = t425
   ·rw [if_pos c19] at H
    have c19b0 : (t411 == t425) = true := beq_iff_eq.mpr c19
    have c19b1 : (t411 != t425) = false := bne_eq_false_iff_eq.mpr c19
    clear c19
    replace H := Option.bind_eq_some_iff.mp H
    obtain ⟨⟨t476, t477, t478, t479, t480, t481⟩, A200, H⟩ := H
    replace H : (if (t476 == t441 && (t477 == t442 && (t478 == t443 && (t479 == t444 && (t480 == t445 && (t481 == t446)))))) = true then (if t433 = t447 then ((codel_State_Note.f k a0_0 a0_1 a0_2 a0_3 a0_4 a0_5 a1_0 a1_1 a2 a3 a4).bind fun bt482 => ((overfalllaw08_own.f bt482.1 bt482.2.1 bt482.2.2.1 bt482.2.2.2.1 bt482.2.2.2.2.1 bt482.2.2.2.2.2).bind fun bt488 => (if (bt488.1 == t455 && (bt488.2.1 == t456 && (bt488.2.2.1 == t457 && (bt488.2.2.2.1 == t458 && (bt488.2.2.2.2.1 == t459 && (bt488.2.2.2.2.2 == t460)))))) = true then (if t463 = true then (none) else (if t465 = true then (none) else (if t464 = 0 then (if t466 = a0_3 then (if t467 = a0_4 then (some (t468 == a0_5)) else (none)) else (none)) else (none)))) else (none)))) else (none)) else (none)) = some r := H
    have A20 := Aside0.mk A200
    clear A200
    by_cases c21 : (t476 == t441 && (t477 == t442 && (t478 == t443 && (t479 == t444 && (t480 == t445 && (t481 == t446)))))) = true
    ·rw [if_pos c21] at H
     have c21b0 : (t476 == t441 && (t477 == t442 && (t478 == t443 && (t479 == t444 && (t480 == t445 && (t481 == t446)))))) = true := c21
     (try (have c21b1 : decide (t476 = t441 && (t477 == t442 && (t478 == t443 && (t479 == t444 && (t480 == t445 && (t481 == t446)))))) = true := by simpa using c21))
     (try (have c21b2 : (t476 == t441 && (t477 == t442 && (t478 == t443 && (t479 == t444 && (t480 == t445 && (t481 == t446)))))) = true := by simpa using c21))
     clear c21
     by_cases c22 : t433 = t447
     ·rw [if_pos c22] at H
      have c22b0 : (t433 == t447) = true := beq_iff_eq.mpr c22
      have c22b1 : (t433 != t447) = false := bne_eq_false_iff_eq.mpr c22
      clear c22
      replace H := Option.bind_eq_some_iff.mp H
      obtain ⟨⟨t482, t483, t484, t485, t486, t487⟩, A230, H⟩ := H
      replace H : ((overfalllaw08_own.f t482 t483 t484 t485 t486 t487).bind fun bt488 => (if (bt488.1 == t455 && (bt488.2.1 == t456 && (bt488.2.2.1 == t457 && (bt488.2.2.2.1 == t458 && (bt488.2.2.2.2.1 == t459 && (bt488.2.2.2.2.2 == t460)))))) = true then (if t463 = true then (none) else (if t465 = true then (none) else (if t464 = 0 then (if t466 = a0_3 then (if t467 = a0_4 then (some (t468 == a0_5)) else (none)) else (none)) else (none)))) else (none))) = some r := H
      have A23 := Aside0.mk A230
      clear A230
      replace H := Option.bind_eq_some_iff.mp H
      obtain ⟨⟨t488, t489, t490, t491, t492, t493⟩, A240, H⟩ := H
      replace H : (if (t488 == t455 && (t489 == t456 && (t490 == t457 && (t491 == t458 && (t492 == t459 && (t493 == t460)))))) = true then (if t463 = true then (none) else (if t465 = true then (none) else (if t464 = 0 then (if t466 = a0_3 then (if t467 = a0_4 then (some (t468 == a0_5)) else (none)) else (none)) else (none)))) else (none)) = some r := H
      have A24 := Aside0.mk A240
      clear A240
      by_cases c25 : (t488 == t455 && (t489 == t456 && (t490 == t457 && (t491 == t458 && (t492 == t459 && (t493 == t460)))))) = true
      ·rw [if_pos c25] at H
       have c25b0 : (t488 == t455 && (t489 == t456 && (t490 == t457 && (t491 == t458 && (t492 == t459 && (t493 == t460)))))) = true := c25
       (try (have c25b1 : decide (t488 = t455 && (t489 == t456 && (t490 == t457 && (t491 == t458 && (t492 == t459 && (t493 == t460)))))) = true := by simpa using c25))
       (try (have c25b2 : (t488 == t455 && (t489 == t456 && (t490 == t457 && (t491 == t458 && (t492 == t459 && (t493 == t460)))))) = true := by simpa using c25))
       clear c25
       by_cases c26 : t463 = true
       ·subst c26
        have H1 : (none) = some r := by rw [if_pos rfl] at H; exact H
        clear H
        have H := H1
        clear H1
        exact absurd H (by simp)
       ·replace c26 := Bool.eq_false_iff.mpr c26
        subst c26
        have H1 : (if t465 = true then (none) else (if t464 = 0 then (if t466 = a0_3 then (if t467 = a0_4 then (some (t468 == a0_5)) else (none)) else (none)) else (none))) = some r := by rw [if_neg (show ¬ (false = true) by decide)] at H; exact H
        clear H
        have H := H1
        clear H1
        by_cases c27 : t465 = true
        ·subst c27
         have H1 : (none) = some r := by rw [if_pos rfl] at H; exact H
         clear H
         have H := H1
         clear H1
         exact absurd H (by simp)
        ·replace c27 := Bool.eq_false_iff.mpr c27
         subst c27
         have H1 : (if t464 = 0 then (if t466 = a0_3 then (if t467 = a0_4 then (some (t468 == a0_5)) else (none)) else (none)) else (none)) = some r := by rw [if_neg (show ¬ (false = true) by decide)] at H; exact H
         clear H
         have H := H1
         clear H1
         by_cases c28 : t464 = 0
         ·rw [if_pos c28] at H
          have c28b0 : (t464 == 0) = true := beq_iff_eq.mpr c28
          have c28b1 : (t464 != 0) = false := bne_eq_false_iff_eq.mpr c28
          clear c28
          by_cases c29 : t466 = a0_3
          ·rw [if_pos c29] at H
           have c29b0 : (t466 == a0_3) = true := beq_iff_eq.mpr c29
           have c29b1 : (t466 != a0_3) = false := bne_eq_false_iff_eq.mpr c29
           clear c29
           by_cases c30 : t467 = a0_4
           ·rw [if_pos c30] at H
            have c30b0 : (t467 == a0_4) = true := beq_iff_eq.mpr c30
            have c30b1 : (t467 != a0_4) = false := bne_eq_false_iff_eq.mpr c30
            clear c30
            obtain rfl := Option.some.inj H
            go_enter Try.func8, Try.ntmps8
            try go_wp2_with (first | ((with_reducible refine gate_dst (N := 5) rfl ?_); refine box_event ?hg (N := 5) ?hd (cs := #[.bool a0_0, .int .i64 a0_1, .bool a0_2, .int .i64 a0_3, .int .u64 a0_4, .int .u64 a0_5]) (t := 24) ?hr ?_; (case hd => rfl); (case hg => rfl); (case hr => first | (go_simp; done) | (go_simp; rfl)); intro gb402 hg w31 hbox hb; have BK402 := m_ (hbox); have GW402 := ge_ (by repeat (with_reducible first | exact HB.out)) hg; have GE402 := GW402; replace HB := st_ (by repeat (with_reducible first | exact HB.out)) hb; clear hb hbox hg) | ((with_reducible refine gate_dst (N := 6) rfl ?_); refine box_event ?hg (N := 6) ?hd (cs := #[.int .i64 a1_0, .int .i64 a1_1]) (t := 26) ?hr ?_; (case hd => rfl); (case hg => rfl); (case hr => first | (go_simp; done) | (go_simp; rfl)); intro gb403 hg w32 hbox hb; have BK403 := m_ (hbox); have GW403 := ge_ (by repeat (with_reducible first | exact HB.out | apply bs_ GE402)) hg; have GE403 := GW403; have NB402_403 := nl_ BK402 hg; have NB403_402 := ng_ BK402 hg; replace BK402 := bb_ BK402 hb; replace HB := st_ (by repeat (with_reducible first | exact HB.out | apply bs_ GE402)) hb; clear hb hbox hg) | ((with_reducible refine gate_callee (f := 9) rfl ?_); refine goesL_ (some 22) rfl rfl Try.func9 (by kernel_rfl) rfl #[] rfl (by first | rfl | (simp only [List.map_toArray, List.map_cons, List.map_nil]; first | done | rfl)) ?_; (with_reducible refine (overfalllaw08_awake.calls k  true _ A6.out).mono ?_); rintro e w33 ⟨rfl, hb⟩; refine ⟨_, rfl, ?_⟩; replace BK402 := bb_ BK402 hb; replace BK403 := bb_ BK403 hb; replace HB := st_ (by repeat (with_reducible first | exact HB.out | apply bs_ GE402 | apply bs_ GE403)) hb; (try clear hb); have hnb34 := NB402_403.out; have hnc34 := NB403_402.out; obtain ⟨hcz35_0, hcz35_1, hcz35_2, hcz35_3, hcz35_4, hcz35_5, hfz35_0, hfz35_1, hfz35_2, hfz35_3, hfz35_4, hfz35_5⟩ := cf6 BK402; obtain ⟨hcz36_0, hcz36_1, hfz36_0, hfz36_1⟩ := cf2 BK403) | ((with_reducible refine gate_callee (f := 11) rfl ?_); refine goesL_ (some 30) rfl rfl Try.func11 (by kernel_rfl) rfl #[.agg #[.bool a0_0, .int .i64 a0_1, .bool a0_2, .int .i64 a0_3, .int .u64 a0_4, .int .u64 a0_5], .agg #[.int .i64 a1_0, .int .i64 a1_1], .int .i64 a2, .int .i64 a3, .int .i64 a4] rfl (by first | rfl | (simp only [List.map_toArray, List.map_cons, List.map_nil]; first | done | rfl)) ?_; (with_reducible refine (codel_State_Look.calls k a0_0 a0_1 a0_2 a0_3 a0_4 a0_5 a1_0 a1_1 a2 a3 a4 t405 t406 t407 t408 t409 t410 t411 _ A8.out).mono ?_); rintro e w37 ⟨rfl, hb⟩; refine ⟨_, rfl, ?_⟩; replace BK402 := bb_ BK402 hb; replace BK403 := bb_ BK403 hb; replace HB := st_ (by repeat (with_reducible first | exact HB.out | apply bs_ GE402 | apply bs_ GE403)) hb; (try clear hb)) | ((with_reducible refine gate_dst (N := 11) rfl ?_); refine box_event ?hg (N := 11) ?hd (cs := #[.bool false, .int .i64 0, .bool false, .int .i64 0, .int .u64 0, .int .u64 0]) (t := 24) ?hr ?_; (case hd => rfl); (case hg => rfl); (case hr => first | (go_simp; done) | (go_simp; rfl)); intro gb412 hg w38 hbox hb; have BK412 := m_ (hbox); have GW412 := ge_ (by repeat (with_reducible first | exact HB.out | apply bs_ GE402 | apply bs_ GE403)) hg; have GE412 := GW412; have NB402_412 := nl_ BK402 hg; have NB412_402 := ng_ BK402 hg; have NB403_412 := nl_ BK403 hg; have NB412_403 := ng_ BK403 hg; replace BK402 := bb_ BK402 hb; replace BK403 := bb_ BK403 hb; replace HB := st_ (by repeat (with_reducible first | exact HB.out | apply bs_ GE402 | apply bs_ GE403)) hb; clear hb hbox hg; have hnb39 := NB412_402.out; have hnc39 := NB402_412.out; have hnb40 := NB412_403.out; have hnc40 := NB403_412.out; obtain ⟨hcz41_0, hcz41_1, hcz41_2, hcz41_3, hcz41_4, hcz41_5, hfz41_0, hfz41_1, hfz41_2, hfz41_3, hfz41_4, hfz41_5⟩ := cf6 BK412))
            have n0_ : Aside0 (((((((w38.setCell ⟨gb412, 0, none⟩ (.bool t405)).setCell ⟨gb412, 1, none⟩ (.int .i64 t406)).setCell ⟨gb412, 2, none⟩ (.bool t407)).setCell ⟨gb412, 3, none⟩ (.int .i64 t408)).setCell ⟨gb412, 4, none⟩ (.int .u64 t409)).setCell ⟨gb412, 5, none⟩ (.int .u64 t410)).heap[gb402]? = some (.cells #[.bool a0_0, .int .i64 a0_1, .bool a0_2, .int .i64 a0_3, .int .u64 a0_4, .int .u64 a0_5] 24 (0, 0))) := ⟨by refine far6_ NB402_412 ?_; exact BK402.out⟩
            have n1_ : Aside0 (((((((w38.setCell ⟨gb412, 0, none⟩ (.bool t405)).setCell ⟨gb412, 1, none⟩ (.int .i64 t406)).setCell ⟨gb412, 2, none⟩ (.bool t407)).setCell ⟨gb412, 3, none⟩ (.int .i64 t408)).setCell ⟨gb412, 4, none⟩ (.int .u64 t409)).setCell ⟨gb412, 5, none⟩ (.int .u64 t410)).heap[gb403]? = some (.cells #[.int .i64 a1_0, .int .i64 a1_1] 26 (0, 0))) := ⟨by refine far6_ NB403_412 ?_; exact BK403.out⟩
            have n2_ : Aside0 (((((((w38.setCell ⟨gb412, 0, none⟩ (.bool t405)).setCell ⟨gb412, 1, none⟩ (.int .i64 t406)).setCell ⟨gb412, 2, none⟩ (.bool t407)).setCell ⟨gb412, 3, none⟩ (.int .i64 t408)).setCell ⟨gb412, 4, none⟩ (.int .u64 t409)).setCell ⟨gb412, 5, none⟩ (.int .u64 t410)).heap[gb412]? = some (.cells #[.bool t405, .int .i64 t406, .bool t407, .int .i64 t408, .int .u64 t409, .int .u64 t410] 24 (0, 0))) := ⟨by apply put6_; exact BK412.out⟩
            have n3_ : Aside0 (Below w.heap.size w ((((((w38.setCell ⟨gb412, 0, none⟩ (.bool t405)).setCell ⟨gb412, 1, none⟩ (.int .i64 t406)).setCell ⟨gb412, 2, none⟩ (.bool t407)).setCell ⟨gb412, 3, none⟩ (.int .i64 t408)).setCell ⟨gb412, 4, none⟩ (.int .u64 t409)).setCell ⟨gb412, 5, none⟩ (.int .u64 t410))) := ⟨by repeat (with_reducible first | exact HB.out | apply bs_ GE402 | apply bs_ GE403 | apply bs_ GE412)⟩
            (try clear BK402)
            (try clear BK403)
            (try clear BK412)
            (try clear HB)
            generalize ((((((w38.setCell ⟨gb412, 0, none⟩ (.bool t405)).setCell ⟨gb412, 1, none⟩ (.int .i64 t406)).setCell ⟨gb412, 2, none⟩ (.bool t407)).setCell ⟨gb412, 3, none⟩ (.int .i64 t408)).setCell ⟨gb412, 4, none⟩ (.int .u64 t409)).setCell ⟨gb412, 5, none⟩ (.int .u64 t410)) = w42 at n0_ n1_ n2_ n3_ ⊢
            have BK402 := n0_
            have BK403 := n1_
            have BK412 := n2_
            have HB := n3_
            clear n0_ n1_ n2_ n3_
            replace BK402 := m_ (blk_drew BK402.out)
            replace BK403 := m_ (blk_drew BK403.out)
            replace BK412 := m_ (blk_drew BK412.out)
            replace HB := m_ (below_drew1 HB.out)
            refine start_ (n := 16) (S := fun w' => w'.cell? ⟨gb402, 0, none⟩ = some (.bool a0_0) ∧ w'.cell? ⟨gb402, 1, none⟩ = some (.int .i64 a0_1) ∧ w'.cell? ⟨gb402, 2, none⟩ = some (.bool a0_2) ∧ w'.cell? ⟨gb402, 3, none⟩ = some (.int .i64 a0_3) ∧ w'.cell? ⟨gb402, 4, none⟩ = some (.int .u64 a0_4) ∧ w'.cell? ⟨gb402, 5, none⟩ = some (.int .u64 a0_5) ∧ w'.cell? ⟨gb403, 0, none⟩ = some (.int .i64 a1_0) ∧ w'.cell? ⟨gb403, 1, none⟩ = some (.int .i64 a1_1)) (ds := []) #[false, false, false, false, false, false, false, false, false, false, false, false, false, false, false, false] (by kernel_rfl) rfl rfl ⟨(blk_cell BK402.out 0).trans rfl, (blk_cell BK402.out 1).trans rfl, (blk_cell BK402.out 2).trans rfl, (blk_cell BK402.out 3).trans rfl, (blk_cell BK402.out 4).trans rfl, (blk_cell BK402.out 5).trans rfl, (blk_cell BK403.out 0).trans rfl, (blk_cell BK403.out 1).trans rfl⟩ (fun hHeld => ?_); refine with_tabW overfalllaw08_CodelLooks.tab4 overfalllaw08_CodelLooks.bits4 (fun HT_ HW_ => ?_)
            generalize w42.drew = w43 at BK402 BK403 BK412 HB hHeld ⊢
            refine pure_ (i := 2) (N := some 36) (v := ?_) (a' := ?_) #[false, false, true, false, false, false, false, false, false, false, false, false, false, false, false, false] rfl rfl (any_of HT_.out (by kernel_rfl)) (fun _ _ _ h => h) (Or.inl ⟨by rfl, ?_⟩) ?_ ?_
            rotate_left
            ·intro w'
             go_simp
             with_reducible rfl
            rotate_left
            ·simp only [Act.put, sa_, s0_, ss_, i64_w, i32_w]
             rfl
            refine pure_ (i := 4) (N := some 38) (v := ?_) (a' := ?_) #[false, false, true, false, true, false, false, false, false, false, false, false, false, false, false, false] rfl rfl (any_of HT_.out (by kernel_rfl)) (fun _ _ _ h => h) (Or.inl ⟨by rfl, ?_⟩) ?_ ?_
            rotate_left
            ·intro w'
             go_simp
             with_reducible rfl
            rotate_left
            ·simp only [Act.put, sa_, s0_, ss_, i64_w, i32_w]
             rfl
            refine pure_ (i := 6) (N := some 40) (v := ?_) (a' := ?_) #[false, false, true, false, true, false, true, false, false, false, false, false, false, false, false, false] rfl rfl (any_of HT_.out (by kernel_rfl)) (fun _ _ _ h => h) (Or.inl ⟨by rfl, ?_⟩) ?_ ?_
            rotate_left
            ·intro w'
             go_simp
             with_reducible rfl
            rotate_left
            ·simp only [Act.put, sa_, s0_, ss_, i64_w, i32_w]
             rfl
            refine pure_ (i := 7) (N := some 41) (v := ?_) (a' := ?_) #[false, false, true, false, true, false, true, true, false, false, false, false, false, false, false, false] rfl rfl (any_of HT_.out (by kernel_rfl)) (fun _ _ _ h => h) (Or.inl ⟨by rfl, ?_⟩) ?_ ?_
            rotate_left
            ·intro w'
             go_simp
             with_reducible rfl
            rotate_left
            ·simp only [Act.put, sa_, s0_, ss_, i64_w, i32_w]
             rfl
            refine pure_ (i := 8) (N := some 42) (v := ?_) (a' := ?_) #[false, false, true, false, true, false, true, true, true, false, false, false, false, false, false, false] rfl rfl (any_of HT_.out (by kernel_rfl)) (fun _ _ _ h => h) (Or.inl ⟨by rfl, ?_⟩) ?_ ?_
            rotate_left
            ·intro w'
             go_simp
             with_reducible rfl
            rotate_left
            ·simp only [Act.put, sa_, s0_, ss_, i64_w, i32_w]
             rfl
            refine take_ (i := 0) (N := some 34) (v := ?_) (a' := ?_) #[true, false, true, false, true, false, true, true, true, false, false, false, false, false, false, false] rfl rfl (take_ofW HT_.out HW_.out (by kernel_rfl)) (fun _ _ _ h => h) (Or.inl ⟨by rfl, ?_⟩) hHeld ?_ ?_
            rotate_left
            ·rintro w' ⟨s0, s1, s2, s3, s4, s5, s6, s7⟩
             go_simp
             with_reducible rfl
            rotate_left
            ·simp only [Act.put, sa_, s0_, ss_, i64_w, i32_w]
             rfl
            refine take_ (i := 3) (N := some 37) (v := ?_) (a' := ?_) #[true, false, true, true, true, false, true, true, true, false, false, false, false, false, false, false] rfl rfl (take_ofW HT_.out HW_.out (by kernel_rfl)) (fun _ _ _ h => h) (Or.inl ⟨by rfl, ?_⟩) hHeld ?_ ?_
            rotate_left
            ·rintro w' ⟨s0, s1, s2, s3, s4, s5, s6, s7⟩
             go_simp
             with_reducible rfl
            rotate_left
            ·simp only [Act.put, sa_, s0_, ss_, i64_w, i32_w]
             rfl
            refine take_ (i := 5) (N := some 39) (v := ?_) (a' := ?_) #[true, false, true, true, true, true, true, true, true, false, false, false, false, false, false, false] rfl rfl (take_ofW HT_.out HW_.out (by kernel_rfl)) (fun _ _ _ h => h) (Or.inl ⟨by rfl, ?_⟩) hHeld ?_ ?_
            rotate_left
            ·rintro w' ⟨s0, s1, s2, s3, s4, s5, s6, s7⟩
             go_simp
             with_reducible rfl
            rotate_left
            ·simp only [Act.put, sa_, s0_, ss_, i64_w, i32_w]
             rfl
            refine join_ (σ := Nat) 2 #[true, true, true, true, true, true, true, true, true, true, true, true, true, true, false, false] (fun s_ => [(35, .agg #[.bool t413, .int .i64 t414, .bool t415, .int .i64 t416, .int .u64 t417, .int .u64 t418]), (43, .tuple #[.agg #[.bool t419, .int .i64 t420, .bool t421, .int .i64 t422, .int .u64 t423, .int .u64 t424], .int .i64 t425]), (13, .pointer (some ⟨s_, 0, none⟩)), (33, .tuple #[.agg #[.bool t419, .int .i64 t420, .bool t421, .int .i64 t422, .int .u64 t423, .int .u64 t424], .int .i64 t425]), (44, .agg #[.bool t419, .int .i64 t420, .bool t421, .int .i64 t422, .int .u64 t423, .int .u64 t424]), (45, .int .i64 t425)]) (fun s_ w' => (w'.cell? ⟨gb402, 0, none⟩ = some (.bool a0_0) ∧ w'.cell? ⟨gb402, 1, none⟩ = some (.int .i64 a0_1) ∧ w'.cell? ⟨gb402, 2, none⟩ = some (.bool a0_2) ∧ w'.cell? ⟨gb402, 3, none⟩ = some (.int .i64 a0_3) ∧ w'.cell? ⟨gb402, 4, none⟩ = some (.int .u64 a0_4) ∧ w'.cell? ⟨gb402, 5, none⟩ = some (.int .u64 a0_5) ∧ w'.cell? ⟨gb403, 0, none⟩ = some (.int .i64 a1_0) ∧ w'.cell? ⟨gb403, 1, none⟩ = some (.int .i64 a1_1)) ∧ (w'.heap[gb402]? = some (.cells #[.bool a0_0, .int .i64 a0_1, .bool a0_2, .int .i64 a0_3, .int .u64 a0_4, .int .u64 a0_5] 24 (0, 0))) ∧ (w'.heap[gb403]? = some (.cells #[.int .i64 a1_0, .int .i64 a1_1] 26 (0, 0))) ∧ (w'.heap[gb412]? = some (.cells #[.bool t405, .int .i64 t406, .bool t407, .int .i64 t408, .int .u64 t409, .int .u64 t410] 24 (0, 0))) ∧ (w'.heap[s_]? = some (.cells #[.bool false, .int .i64 0, .bool false, .int .i64 0, .int .u64 0, .int .u64 0] 41 (0, 0))) ∧ (w.heap.size ≤ s_) ∧ (w.heap.size ≤ s_) ∧ (gb402 ≠ s_) ∧ (s_ ≠ gb402) ∧ (gb403 ≠ s_) ∧ (s_ ≠ gb403) ∧ (gb412 ≠ s_) ∧ (s_ ≠ gb412) ∧ (Below w.heap.size w w')) ?_ ?_
            rotate_left
            ·intro hCont
             refine two_ (i := 1) (j := 13) (Ni := some 35) (Nj := some 13) #[true, true, true, true, true, true, true, true, true, false, false, false, false, false, false, false] #[true, false, true, true, true, true, true, true, true, false, false, false, false, true, false, false] rfl rfl rfl rfl (two_of HT_.out (by kernel_rfl)) (by decide) (by decide) (fun K hK => ?_) (fun K hK => ?_)
             ·skip
              refine goes_ Try.func18 (by kernel_rfl) rfl #[.agg #[.bool a0_0, .int .i64 a0_1, .bool a0_2, .int .i64 a0_3, .int .u64 a0_4, .int .u64 a0_5]] (by rfl) rfl rfl (by first | rfl | (simp only [List.map_toArray, List.map_cons, List.map_nil]; first | done | rfl)) ?_
              with_reducible refine (overfalllaw08_own.calls a0_0 a0_1 a0_2 a0_3 a0_4 a0_5 t413 t414 t415 t416 t417 t418 _ A9.out).mono ?_
              rintro e w44 ⟨rfl, hb⟩
              refine ⟨_, rfl, ?_⟩
              replace BK402 := bb_ BK402 hb
              replace BK403 := bb_ BK403 hb
              replace BK412 := bb_ BK412 hb
              replace HB := st_ (by repeat (with_reducible first | exact HB.out | apply bs_ GE402 | apply bs_ GE403 | apply bs_ GE412)) hb
              (try clear hb)
              (try clear hb2)
              (try clear hk)
              (try clear hi)
              refine hK.out _ _ ⟨(blk_cell BK402.out 0).trans rfl, (blk_cell BK402.out 1).trans rfl, (blk_cell BK402.out 2).trans rfl, (blk_cell BK402.out 3).trans rfl, (blk_cell BK402.out 4).trans rfl, (blk_cell BK402.out 5).trans rfl, (blk_cell BK403.out 0).trans rfl, (blk_cell BK403.out 1).trans rfl⟩ (fun hHeld => ?_)
              clear hK K
              refine norm_ (a' := ?_) ?_ ?_
              rotate_left
              ·show Act.put _ (some 35) _ = _
               simp only [Act.put, sa_, s0_, ss_, i64_w, i32_w]
               rfl
              refine two_ (i := 9) (j := 13) (Ni := some 43) (Nj := some 13) #[true, true, true, true, true, true, true, true, true, true, false, false, false, false, false, false] #[true, true, true, true, true, true, true, true, true, false, false, false, false, true, false, false] rfl rfl rfl rfl (two_of HT_.out (by kernel_rfl)) (by decide) (by decide) (fun K hK => ?_) (fun K hK => ?_)
              ·skip
               refine goes_ Try.func17 (by kernel_rfl) rfl #[.agg #[.bool t413, .int .i64 t414, .bool t415, .int .i64 t416, .int .u64 t417, .int .u64 t418], .int .i64 a1_0, .int .i64 a1_1, .int .i64 a2, .int .i64 a3, .int .i64 a4] (by rfl) rfl rfl (by first | rfl | (simp only [List.map_toArray, List.map_cons, List.map_nil]; first | done | rfl)) ?_
               with_reducible refine (overfallref08_Look.calls k t413 t414 t415 t416 t417 t418 a1_0 a1_1 a2 a3 a4 t419 t420 t421 t422 t423 t424 t425 _ A10.out).mono ?_
               rintro e w45 ⟨rfl, hb⟩
               refine ⟨_, rfl, ?_⟩
               replace BK402 := bb_ BK402 hb
               replace BK403 := bb_ BK403 hb
               replace BK412 := bb_ BK412 hb
               replace HB := st_ (by repeat (with_reducible first | exact HB.out | apply bs_ GE402 | apply bs_ GE403 | apply bs_ GE412)) hb
               (try clear hb)
               (try clear hb2)
               (try clear hk)
               (try clear hi)
               refine hK.out _ _ ⟨(blk_cell BK402.out 0).trans rfl, (blk_cell BK402.out 1).trans rfl, (blk_cell BK402.out 2).trans rfl, (blk_cell BK402.out 3).trans rfl, (blk_cell BK402.out 4).trans rfl, (blk_cell BK402.out 5).trans rfl, (blk_cell BK403.out 0).trans rfl, (blk_cell BK403.out 1).trans rfl⟩ (fun hHeld => ?_)
               clear hK K
               refine norm_ (a' := ?_) ?_ ?_
               rotate_left
               ·show Act.put _ (some 43) _ = _
                simp only [Act.put, sa_, s0_, ss_, i64_w, i32_w]
                rfl
               refine pure_ (i := 10) (N := some 33) (v := ?_) (a' := ?_) #[true, true, true, true, true, true, true, true, true, true, true, false, false, false, false, false] rfl rfl (any_of HT_.out (by kernel_rfl)) (fun _ _ _ h => h) (Or.inl ⟨by rfl, ?_⟩) ?_ ?_
               rotate_left
               ·intro w'
                go_simp
                with_reducible rfl
               rotate_left
               ·simp only [Act.put, sa_, s0_, ss_, i64_w, i32_w]
                rfl
               refine pure_ (i := 11) (N := some 44) (v := ?_) (a' := ?_) #[true, true, true, true, true, true, true, true, true, true, true, true, false, false, false, false] rfl rfl (any_of HT_.out (by kernel_rfl)) (fun _ _ _ h => h) (Or.inl ⟨by rfl, ?_⟩) ?_ ?_
               rotate_left
               ·intro w'
                go_simp
                with_reducible rfl
               rotate_left
               ·simp only [Act.put, sa_, s0_, ss_, i64_w, i32_w]
                rfl
               refine pure_ (i := 12) (N := some 45) (v := ?_) (a' := ?_) #[true, true, true, true, true, true, true, true, true, true, true, true, true, false, false, false] rfl rfl (any_of HT_.out (by kernel_rfl)) (fun _ _ _ h => h) (Or.inl ⟨by rfl, ?_⟩) ?_ ?_
               rotate_left
               ·intro w'
                go_simp
                with_reducible rfl
               rotate_left
               ·simp only [Act.put, sa_, s0_, ss_, i64_w, i32_w]
                rfl
               refine one_ (i := 13) (N := some 13) #[true, true, true, true, true, true, true, true, true, true, true, true, true, true, false, false] rfl rfl (one_of HT_.out (by kernel_rfl)) (by decide) (fun K hK => ?_)
               refine box_step ?hg (N := 13) ?hd (cs := #[.bool false, .int .i64 0, .bool false, .int .i64 0, .int .u64 0, .int .u64 0]) (t := 41) ?hr ?_; (case hd => rfl); (case hg => rfl); (case hr => first | (go_simp; done) | (go_simp; rfl))
               intro gb426 hg w46 hbox hb
               have BK426 := m_ (hbox)
               have GW426 := ge_ (by repeat (with_reducible first | exact HB.out | apply bs_ GE402 | apply bs_ GE403 | apply bs_ GE412)) hg
               have GE426 := GW426
               have NB402_426 := nl_ BK402 hg
               have NB426_402 := ng_ BK402 hg
               have NB403_426 := nl_ BK403 hg
               have NB426_403 := ng_ BK403 hg
               have NB412_426 := nl_ BK412 hg
               have NB426_412 := ng_ BK412 hg
               replace BK402 := bb_ BK402 hb
               replace BK403 := bb_ BK403 hb
               replace BK412 := bb_ BK412 hb
               replace HB := st_ (by repeat (with_reducible first | exact HB.out | apply bs_ GE402 | apply bs_ GE403 | apply bs_ GE412)) hb
               clear hb hbox hg
               refine hK.out _ _ ⟨(blk_cell BK402.out 0).trans rfl, (blk_cell BK402.out 1).trans rfl, (blk_cell BK402.out 2).trans rfl, (blk_cell BK402.out 3).trans rfl, (blk_cell BK402.out 4).trans rfl, (blk_cell BK402.out 5).trans rfl, (blk_cell BK403.out 0).trans rfl, (blk_cell BK403.out 1).trans rfl⟩ (fun hHeld => ?_)
               clear hK K
               refine norm_ (a' := ?_) ?_ ?_
               rotate_left
               ·show Act.put _ (some 13) _ = _
                simp only [Act.put, sa_, s0_, ss_, i64_w, i32_w]
                rfl
               exact norm_ (by simp only [putAll, Act.put, sa_, s0_, ss_]) (hCont (gb426) _ ⟨hHeld, (by exact BK402.out), (by exact BK403.out), (by exact BK412.out), (by exact BK426.out), GW426.out, GE426.out, NB402_426.out, NB426_402.out, NB403_426.out, NB426_403.out, NB412_426.out, NB426_412.out, (by repeat (with_reducible first | exact HB.out | apply bs_ GE402 | apply bs_ GE403 | apply bs_ GE412 | apply bs_ GE426))⟩)
              ·skip
               refine box_step ?hg (N := 13) ?hd (cs := #[.bool false, .int .i64 0, .bool false, .int .i64 0, .int .u64 0, .int .u64 0]) (t := 41) ?hr ?_; (case hd => rfl); (case hg => rfl); (case hr => first | (go_simp; done) | (go_simp; rfl))
               intro gb426 hg w45 hbox hb
               have BK426 := m_ (hbox)
               have GW426 := ge_ (by repeat (with_reducible first | exact HB.out | apply bs_ GE402 | apply bs_ GE403 | apply bs_ GE412)) hg
               have GE426 := GW426
               have NB402_426 := nl_ BK402 hg
               have NB426_402 := ng_ BK402 hg
               have NB403_426 := nl_ BK403 hg
               have NB426_403 := ng_ BK403 hg
               have NB412_426 := nl_ BK412 hg
               have NB426_412 := ng_ BK412 hg
               replace BK402 := bb_ BK402 hb
               replace BK403 := bb_ BK403 hb
               replace BK412 := bb_ BK412 hb
               replace HB := st_ (by repeat (with_reducible first | exact HB.out | apply bs_ GE402 | apply bs_ GE403 | apply bs_ GE412)) hb
               clear hb hbox hg
               refine hK.out _ _ ⟨(blk_cell BK402.out 0).trans rfl, (blk_cell BK402.out 1).trans rfl, (blk_cell BK402.out 2).trans rfl, (blk_cell BK402.out 3).trans rfl, (blk_cell BK402.out 4).trans rfl, (blk_cell BK402.out 5).trans rfl, (blk_cell BK403.out 0).trans rfl, (blk_cell BK403.out 1).trans rfl⟩ (fun hHeld => ?_)
               clear hK K
               refine norm_ (a' := ?_) ?_ ?_
               rotate_left
               ·show Act.put _ (some 13) _ = _
                simp only [Act.put, sa_, s0_, ss_, i64_w, i32_w]
                rfl
               refine one_ (i := 9) (N := some 43) #[true, true, true, true, true, true, true, true, true, true, false, false, false, true, false, false] rfl rfl (one_of HT_.out (by kernel_rfl)) (by decide) (fun K hK => ?_)
               refine goes_ Try.func17 (by kernel_rfl) rfl #[.agg #[.bool t413, .int .i64 t414, .bool t415, .int .i64 t416, .int .u64 t417, .int .u64 t418], .int .i64 a1_0, .int .i64 a1_1, .int .i64 a2, .int .i64 a3, .int .i64 a4] (by rfl) rfl rfl (by first | rfl | (simp only [List.map_toArray, List.map_cons, List.map_nil]; first | done | rfl)) ?_
               with_reducible refine (overfallref08_Look.calls k t413 t414 t415 t416 t417 t418 a1_0 a1_1 a2 a3 a4 t419 t420 t421 t422 t423 t424 t425 _ A10.out).mono ?_
               rintro e w46 ⟨rfl, hb⟩
               refine ⟨_, rfl, ?_⟩
               replace BK402 := bb_ BK402 hb
               replace BK403 := bb_ BK403 hb
               replace BK412 := bb_ BK412 hb
               replace BK426 := bb_ BK426 hb
               replace HB := st_ (by repeat (with_reducible first | exact HB.out | apply bs_ GE402 | apply bs_ GE403 | apply bs_ GE412 | apply bs_ GE426)) hb
               (try clear hb)
               (try clear hb2)
               (try clear hk)
               (try clear hi)
               refine hK.out _ _ ⟨(blk_cell BK402.out 0).trans rfl, (blk_cell BK402.out 1).trans rfl, (blk_cell BK402.out 2).trans rfl, (blk_cell BK402.out 3).trans rfl, (blk_cell BK402.out 4).trans rfl, (blk_cell BK402.out 5).trans rfl, (blk_cell BK403.out 0).trans rfl, (blk_cell BK403.out 1).trans rfl⟩ (fun hHeld => ?_)
               clear hK K
               refine norm_ (a' := ?_) ?_ ?_
               rotate_left
               ·show Act.put _ (some 43) _ = _
                simp only [Act.put, sa_, s0_, ss_, i64_w, i32_w]
                rfl
               refine pure_ (i := 10) (N := some 33) (v := ?_) (a' := ?_) #[true, true, true, true, true, true, true, true, true, true, true, false, false, true, false, false] rfl rfl (any_of HT_.out (by kernel_rfl)) (fun _ _ _ h => h) (Or.inl ⟨by rfl, ?_⟩) ?_ ?_
               rotate_left
               ·intro w'
                go_simp
                with_reducible rfl
               rotate_left
               ·simp only [Act.put, sa_, s0_, ss_, i64_w, i32_w]
                rfl
               refine pure_ (i := 11) (N := some 44) (v := ?_) (a' := ?_) #[true, true, true, true, true, true, true, true, true, true, true, true, false, true, false, false] rfl rfl (any_of HT_.out (by kernel_rfl)) (fun _ _ _ h => h) (Or.inl ⟨by rfl, ?_⟩) ?_ ?_
               rotate_left
               ·intro w'
                go_simp
                with_reducible rfl
               rotate_left
               ·simp only [Act.put, sa_, s0_, ss_, i64_w, i32_w]
                rfl
               refine pure_ (i := 12) (N := some 45) (v := ?_) (a' := ?_) #[true, true, true, true, true, true, true, true, true, true, true, true, true, true, false, false] rfl rfl (any_of HT_.out (by kernel_rfl)) (fun _ _ _ h => h) (Or.inl ⟨by rfl, ?_⟩) ?_ ?_
               rotate_left
               ·intro w'
                go_simp
                with_reducible rfl
               rotate_left
               ·simp only [Act.put, sa_, s0_, ss_, i64_w, i32_w]
                rfl
               exact norm_ (by simp only [putAll, Act.put, sa_, s0_, ss_]) (hCont (gb426) _ ⟨hHeld, (by exact BK402.out), (by exact BK403.out), (by exact BK412.out), (by exact BK426.out), GW426.out, GE426.out, NB402_426.out, NB426_402.out, NB403_426.out, NB426_403.out, NB412_426.out, NB426_412.out, (by repeat (with_reducible first | exact HB.out | apply bs_ GE402 | apply bs_ GE403 | apply bs_ GE412 | apply bs_ GE426))⟩)
             ·skip
              refine box_step ?hg (N := 13) ?hd (cs := #[.bool false, .int .i64 0, .bool false, .int .i64 0, .int .u64 0, .int .u64 0]) (t := 41) ?hr ?_; (case hd => rfl); (case hg => rfl); (case hr => first | (go_simp; done) | (go_simp; rfl))
              intro gb426 hg w44 hbox hb
              have BK426 := m_ (hbox)
              have GW426 := ge_ (by repeat (with_reducible first | exact HB.out | apply bs_ GE402 | apply bs_ GE403 | apply bs_ GE412)) hg
              have GE426 := GW426
              have NB402_426 := nl_ BK402 hg
              have NB426_402 := ng_ BK402 hg
              have NB403_426 := nl_ BK403 hg
              have NB426_403 := ng_ BK403 hg
              have NB412_426 := nl_ BK412 hg
              have NB426_412 := ng_ BK412 hg
              replace BK402 := bb_ BK402 hb
              replace BK403 := bb_ BK403 hb
              replace BK412 := bb_ BK412 hb
              replace HB := st_ (by repeat (with_reducible first | exact HB.out | apply bs_ GE402 | apply bs_ GE403 | apply bs_ GE412)) hb
              clear hb hbox hg
              refine hK.out _ _ ⟨(blk_cell BK402.out 0).trans rfl, (blk_cell BK402.out 1).trans rfl, (blk_cell BK402.out 2).trans rfl, (blk_cell BK402.out 3).trans rfl, (blk_cell BK402.out 4).trans rfl, (blk_cell BK402.out 5).trans rfl, (blk_cell BK403.out 0).trans rfl, (blk_cell BK403.out 1).trans rfl⟩ (fun hHeld => ?_)
              clear hK K
              refine norm_ (a' := ?_) ?_ ?_
              rotate_left
              ·show Act.put _ (some 13) _ = _
               simp only [Act.put, sa_, s0_, ss_, i64_w, i32_w]
               rfl
              refine one_ (i := 1) (N := some 35) #[true, true, true, true, true, true, true, true, true, false, false, false, false, true, false, false] rfl rfl (one_of HT_.out (by kernel_rfl)) (by decide) (fun K hK => ?_)
              refine goes_ Try.func18 (by kernel_rfl) rfl #[.agg #[.bool a0_0, .int .i64 a0_1, .bool a0_2, .int .i64 a0_3, .int .u64 a0_4, .int .u64 a0_5]] (by rfl) rfl rfl (by first | rfl | (simp only [List.map_toArray, List.map_cons, List.map_nil]; first | done | rfl)) ?_
              with_reducible refine (overfalllaw08_own.calls a0_0 a0_1 a0_2 a0_3 a0_4 a0_5 t413 t414 t415 t416 t417 t418 _ A9.out).mono ?_
              rintro e w45 ⟨rfl, hb⟩
              refine ⟨_, rfl, ?_⟩
              replace BK402 := bb_ BK402 hb
              replace BK403 := bb_ BK403 hb
              replace BK412 := bb_ BK412 hb
              replace BK426 := bb_ BK426 hb
              replace HB := st_ (by repeat (with_reducible first | exact HB.out | apply bs_ GE402 | apply bs_ GE403 | apply bs_ GE412 | apply bs_ GE426)) hb
              (try clear hb)
              (try clear hb2)
              (try clear hk)
              (try clear hi)
              refine hK.out _ _ ⟨(blk_cell BK402.out 0).trans rfl, (blk_cell BK402.out 1).trans rfl, (blk_cell BK402.out 2).trans rfl, (blk_cell BK402.out 3).trans rfl, (blk_cell BK402.out 4).trans rfl, (blk_cell BK402.out 5).trans rfl, (blk_cell BK403.out 0).trans rfl, (blk_cell BK403.out 1).trans rfl⟩ (fun hHeld => ?_)
              clear hK K
              refine norm_ (a' := ?_) ?_ ?_
              rotate_left
              ·show Act.put _ (some 35) _ = _
               simp only [Act.put, sa_, s0_, ss_, i64_w, i32_w]
               rfl
              refine one_ (i := 9) (N := some 43) #[true, true, true, true, true, true, true, true, true, true, false, false, false, true, false, false] rfl rfl (one_of HT_.out (by kernel_rfl)) (by decide) (fun K hK => ?_)
              refine goes_ Try.func17 (by kernel_rfl) rfl #[.agg #[.bool t413, .int .i64 t414, .bool t415, .int .i64 t416, .int .u64 t417, .int .u64 t418], .int .i64 a1_0, .int .i64 a1_1, .int .i64 a2, .int .i64 a3, .int .i64 a4] (by rfl) rfl rfl (by first | rfl | (simp only [List.map_toArray, List.map_cons, List.map_nil]; first | done | rfl)) ?_
              with_reducible refine (overfallref08_Look.calls k t413 t414 t415 t416 t417 t418 a1_0 a1_1 a2 a3 a4 t419 t420 t421 t422 t423 t424 t425 _ A10.out).mono ?_
              rintro e w46 ⟨rfl, hb⟩
              refine ⟨_, rfl, ?_⟩
              replace BK402 := bb_ BK402 hb
              replace BK403 := bb_ BK403 hb
              replace BK412 := bb_ BK412 hb
              replace BK426 := bb_ BK426 hb
              replace HB := st_ (by repeat (with_reducible first | exact HB.out | apply bs_ GE402 | apply bs_ GE403 | apply bs_ GE412 | apply bs_ GE426)) hb
              (try clear hb)
              (try clear hb2)
              (try clear hk)
              (try clear hi)
              refine hK.out _ _ ⟨(blk_cell BK402.out 0).trans rfl, (blk_cell BK402.out 1).trans rfl, (blk_cell BK402.out 2).trans rfl, (blk_cell BK402.out 3).trans rfl, (blk_cell BK402.out 4).trans rfl, (blk_cell BK402.out 5).trans rfl, (blk_cell BK403.out 0).trans rfl, (blk_cell BK403.out 1).trans rfl⟩ (fun hHeld => ?_)
              clear hK K
              refine norm_ (a' := ?_) ?_ ?_
              rotate_left
              ·show Act.put _ (some 43) _ = _
               simp only [Act.put, sa_, s0_, ss_, i64_w, i32_w]
               rfl
              refine pure_ (i := 10) (N := some 33) (v := ?_) (a' := ?_) #[true, true, true, true, true, true, true, true, true, true, true, false, false, true, false, false] rfl rfl (any_of HT_.out (by kernel_rfl)) (fun _ _ _ h => h) (Or.inl ⟨by rfl, ?_⟩) ?_ ?_
              rotate_left
              ·intro w'
               go_simp
               with_reducible rfl
              rotate_left
              ·simp only [Act.put, sa_, s0_, ss_, i64_w, i32_w]
               rfl
              refine pure_ (i := 11) (N := some 44) (v := ?_) (a' := ?_) #[true, true, true, true, true, true, true, true, true, true, true, true, false, true, false, false] rfl rfl (any_of HT_.out (by kernel_rfl)) (fun _ _ _ h => h) (Or.inl ⟨by rfl, ?_⟩) ?_ ?_
              rotate_left
              ·intro w'
               go_simp
               with_reducible rfl
              rotate_left
              ·simp only [Act.put, sa_, s0_, ss_, i64_w, i32_w]
               rfl
              refine pure_ (i := 12) (N := some 45) (v := ?_) (a' := ?_) #[true, true, true, true, true, true, true, true, true, true, true, true, true, true, false, false] rfl rfl (any_of HT_.out (by kernel_rfl)) (fun _ _ _ h => h) (Or.inl ⟨by rfl, ?_⟩) ?_ ?_
              rotate_left
              ·intro w'
               go_simp
               with_reducible rfl
              rotate_left
              ·simp only [Act.put, sa_, s0_, ss_, i64_w, i32_w]
               rfl
              exact norm_ (by simp only [putAll, Act.put, sa_, s0_, ss_]) (hCont (gb426) _ ⟨hHeld, (by exact BK402.out), (by exact BK403.out), (by exact BK412.out), (by exact BK426.out), GW426.out, GE426.out, NB402_426.out, NB426_402.out, NB403_426.out, NB426_403.out, NB412_426.out, NB426_412.out, (by repeat (with_reducible first | exact HB.out | apply bs_ GE402 | apply bs_ GE403 | apply bs_ GE412 | apply bs_ GE426))⟩)
            rintro gb426 w47 ⟨hS_, h0_, h1_, h2_, h3_, h4_, h5_, h6_, h7_, h8_, h9_, h10_, h11_, h12_⟩
            have n0_ : Aside0 (w47.heap[gb402]? = some (.cells #[.bool a0_0, .int .i64 a0_1, .bool a0_2, .int .i64 a0_3, .int .u64 a0_4, .int .u64 a0_5] 24 (0, 0))) := ⟨h0_⟩
            have n1_ : Aside0 (w47.heap[gb403]? = some (.cells #[.int .i64 a1_0, .int .i64 a1_1] 26 (0, 0))) := ⟨h1_⟩
            have n2_ : Aside0 (w47.heap[gb412]? = some (.cells #[.bool t405, .int .i64 t406, .bool t407, .int .i64 t408, .int .u64 t409, .int .u64 t410] 24 (0, 0))) := ⟨h2_⟩
            have n3_ : Aside0 (w47.heap[gb426]? = some (.cells #[.bool false, .int .i64 0, .bool false, .int .i64 0, .int .u64 0, .int .u64 0] 41 (0, 0))) := ⟨h3_⟩
            have n4_ : Aside0 (w.heap.size ≤ gb426) := ⟨h4_⟩
            have n5_ : Aside0 (w.heap.size ≤ gb426) := ⟨h5_⟩
            have n6_ : Aside0 (gb402 ≠ gb426) := ⟨h6_⟩
            have n7_ : Aside0 (gb426 ≠ gb402) := ⟨h7_⟩
            have n8_ : Aside0 (gb403 ≠ gb426) := ⟨h8_⟩
            have n9_ : Aside0 (gb426 ≠ gb403) := ⟨h9_⟩
            have n10_ : Aside0 (gb412 ≠ gb426) := ⟨h10_⟩
            have n11_ : Aside0 (gb426 ≠ gb412) := ⟨h11_⟩
            have n12_ : Aside0 (Below w.heap.size w w47) := ⟨h12_⟩
            clear BK402
            clear BK403
            clear BK412
            clear HB
            clear h0_ h1_ h2_ h3_ h4_ h5_ h6_ h7_ h8_ h9_ h10_ h11_ h12_
            have BK402 := n0_
            have BK403 := n1_
            have BK412 := n2_
            have BK426 := n3_
            have GW426 := n4_
            have GE426 := n5_
            have NB402_426 := n6_
            have NB426_402 := n7_
            have NB403_426 := n8_
            have NB426_403 := n9_
            have NB412_426 := n10_
            have NB426_412 := n11_
            have HB := n12_
            clear n0_ n1_ n2_ n3_ n4_ n5_ n6_ n7_ n8_ n9_ n10_ n11_ n12_
            have hHeld : w47.cell? ⟨gb402, 0, none⟩ = some (.bool a0_0) ∧ w47.cell? ⟨gb402, 1, none⟩ = some (.int .i64 a0_1) ∧ w47.cell? ⟨gb402, 2, none⟩ = some (.bool a0_2) ∧ w47.cell? ⟨gb402, 3, none⟩ = some (.int .i64 a0_3) ∧ w47.cell? ⟨gb402, 4, none⟩ = some (.int .u64 a0_4) ∧ w47.cell? ⟨gb402, 5, none⟩ = some (.int .u64 a0_5) ∧ w47.cell? ⟨gb403, 0, none⟩ = some (.int .i64 a1_0) ∧ w47.cell? ⟨gb403, 1, none⟩ = some (.int .i64 a1_1) := hS_
            refine norm_ (a' := ?_) ?_ ?_
            rotate_left
            ·simp only [putAll, Act.put, sa_, s0_, ss_]
             rfl
            refine one_ (i := 14) (N := none) #[true, true, true, true, true, true, true, true, true, true, true, true, true, true, true, false] rfl rfl (one_of HT_.out (by kernel_rfl)) (by decide) (fun K hK => ?_)
            have hs48 : w47.cell? ⟨gb426, 0, none⟩ = some (.bool false) := (blk_cell BK426.out 0).trans rfl
            have hfs48 := blk_frozen BK426.out 0
            have hns48_0 := NB402_426.out
            have hns48_1 := NB403_426.out
            have hns48_2 := NB412_426.out
            have hms48_0 := NB426_402.out
            have hms48_1 := NB426_403.out
            have hms48_2 := NB426_412.out
            have hs49 : w47.cell? ⟨gb426, 1, none⟩ = some (.int .i64 0) := (blk_cell BK426.out 1).trans rfl
            have hfs49 := blk_frozen BK426.out 1
            have hns49_0 := NB402_426.out
            have hns49_1 := NB403_426.out
            have hns49_2 := NB412_426.out
            have hms49_0 := NB426_402.out
            have hms49_1 := NB426_403.out
            have hms49_2 := NB426_412.out
            have hs50 : w47.cell? ⟨gb426, 2, none⟩ = some (.bool false) := (blk_cell BK426.out 2).trans rfl
            have hfs50 := blk_frozen BK426.out 2
            have hns50_0 := NB402_426.out
            have hns50_1 := NB403_426.out
            have hns50_2 := NB412_426.out
            have hms50_0 := NB426_402.out
            have hms50_1 := NB426_403.out
            have hms50_2 := NB426_412.out
            have hs51 : w47.cell? ⟨gb426, 3, none⟩ = some (.int .i64 0) := (blk_cell BK426.out 3).trans rfl
            have hfs51 := blk_frozen BK426.out 3
            have hns51_0 := NB402_426.out
            have hns51_1 := NB403_426.out
            have hns51_2 := NB412_426.out
            have hms51_0 := NB426_402.out
            have hms51_1 := NB426_403.out
            have hms51_2 := NB426_412.out
            have hs52 : w47.cell? ⟨gb426, 4, none⟩ = some (.int .u64 0) := (blk_cell BK426.out 4).trans rfl
            have hfs52 := blk_frozen BK426.out 4
            have hns52_0 := NB402_426.out
            have hns52_1 := NB403_426.out
            have hns52_2 := NB412_426.out
            have hms52_0 := NB426_402.out
            have hms52_1 := NB426_403.out
            have hms52_2 := NB426_412.out
            have hs53 : w47.cell? ⟨gb426, 5, none⟩ = some (.int .u64 0) := (blk_cell BK426.out 5).trans rfl
            have hfs53 := blk_frozen BK426.out 5
            have hns53_0 := NB402_426.out
            have hns53_1 := NB403_426.out
            have hns53_2 := NB412_426.out
            have hms53_0 := NB426_402.out
            have hms53_1 := NB426_403.out
            have hms53_2 := NB426_412.out
            refine skip_ (w1 := ?_) (by rfl) rfl ?_ ?_
            rotate_left
            ·go_simp
             rfl
            refine hK.out _ _ ⟨(cfar6_ NB402_426 (hHeld.1)), (cfar6_ NB402_426 (hHeld.2.1)), (cfar6_ NB402_426 (hHeld.2.2.1)), (cfar6_ NB402_426 (hHeld.2.2.2.1)), (cfar6_ NB402_426 (hHeld.2.2.2.2.1)), (cfar6_ NB402_426 (hHeld.2.2.2.2.2.1)), (cfar6_ NB403_426 (hHeld.2.2.2.2.2.2.1)), (cfar6_ NB403_426 (hHeld.2.2.2.2.2.2.2))⟩ (fun hHeld => ?_)
            clear hK K
            refine pure_ (i := 15) (N := some 14) (v := ?_) (a' := ?_) #[true, true, true, true, true, true, true, true, true, true, true, true, true, true, true, true] rfl rfl (any_of HT_.out (by kernel_rfl)) (fun _ _ _ h => h) (Or.inl ⟨by rfl, ?_⟩) ?_ ?_
            rotate_left
            ·intro w'
             go_simp
             with_reducible rfl
            rotate_left
            ·simp only [Act.put, sa_, s0_, ss_, i64_w, i32_w]
             rfl
            refine done_ (done_of HT_.out (by kernel_rfl)) ?_
            have hnb54 := NB402_426.out
            have hnc54 := NB426_402.out
            obtain ⟨hcz55_0, hcz55_1, hcz55_2, hcz55_3, hcz55_4, hcz55_5, hfz55_0, hfz55_1, hfz55_2, hfz55_3, hfz55_4, hfz55_5⟩ := cf6 BK402
            have hnb56 := NB403_426.out
            have hnc56 := NB426_403.out
            obtain ⟨hcz57_0, hcz57_1, hfz57_0, hfz57_1⟩ := cf2 BK403
            try go_wp2_with (first | ((with_reducible refine gate_callee (f := 16) rfl ?_); refine goesL_ (some 52) rfl rfl Try.func16 (by kernel_rfl) rfl #[.agg #[.bool a0_0, .int .i64 a0_1, .bool a0_2, .int .i64 a0_3, .int .u64 a0_4, .int .u64 a0_5], .agg #[.int .i64 a1_0, .int .i64 a1_1], .int .i64 a2, .int .i64 a3, .int .i64 a4] rfl (by first | rfl | (simp only [List.map_toArray, List.map_cons, List.map_nil]; first | done | rfl)) ?_; (with_reducible refine (codel_State_More.calls k a0_0 a0_1 a0_2 a0_3 a0_4 a0_5 a1_0 a1_1 a2 a3 a4 t427 t428 t429 t430 t431 t432 t433 _ A11.out).mono ?_); rintro e w58 ⟨rfl, hb⟩; refine ⟨_, rfl, ?_⟩; replace BK402 := m_ (blk_below (g := gb402) (o := .cells #[.bool a0_0, .int .i64 a0_1, .bool a0_2, .int .i64 a0_3, .int .u64 a0_4, .int .u64 a0_5] 24 (0, 0)) (by refine far6_ NB402_426 ?_; exact BK402.out) hb); replace BK403 := m_ (blk_below (g := gb403) (o := .cells #[.int .i64 a1_0, .int .i64 a1_1] 26 (0, 0)) (by refine far6_ NB403_426 ?_; exact BK403.out) hb); replace BK412 := m_ (blk_below (g := gb412) (o := .cells #[.bool t405, .int .i64 t406, .bool t407, .int .i64 t408, .int .u64 t409, .int .u64 t410] 24 (0, 0)) (by refine far6_ NB412_426 ?_; exact BK412.out) hb); replace BK426 := m_ (blk_below (g := gb426) (o := .cells #[.bool t419, .int .i64 t420, .bool t421, .int .i64 t422, .int .u64 t423, .int .u64 t424] 41 (0, 0)) (by apply put6_; exact BK426.out) hb); replace HB := st_ (by repeat (with_reducible first | exact HB.out | apply bs_ GE402 | apply bs_ GE403 | apply bs_ GE412 | apply bs_ GE426)) hb; (try clear hb)) | ((with_reducible refine gate_dst (N := 15) rfl ?_); refine box_event ?hg (N := 15) ?hd (cs := #[.bool false, .int .i64 0, .bool false, .int .i64 0, .int .u64 0, .int .u64 0]) (t := 24) ?hr ?_; (case hd => rfl); (case hg => rfl); (case hr => first | (go_simp; done) | (go_simp; rfl)); intro gb434 hg w59 hbox hb; have BK434 := m_ (hbox); have GW434 := ge_ (by repeat (with_reducible first | exact HB.out | apply bs_ GE402 | apply bs_ GE403 | apply bs_ GE412 | apply bs_ GE426)) hg; have GE434 := GW434; have NB402_434 := nl_ BK402 hg; have NB434_402 := ng_ BK402 hg; have NB403_434 := nl_ BK403 hg; have NB434_403 := ng_ BK403 hg; have NB412_434 := nl_ BK412 hg; have NB434_412 := ng_ BK412 hg; have NB426_434 := nl_ BK426 hg; have NB434_426 := ng_ BK426 hg; replace BK402 := bb_ BK402 hb; replace BK403 := bb_ BK403 hb; replace BK412 := bb_ BK412 hb; replace BK426 := bb_ BK426 hb; replace HB := st_ (by repeat (with_reducible first | exact HB.out | apply bs_ GE402 | apply bs_ GE403 | apply bs_ GE412 | apply bs_ GE426)) hb; clear hb hbox hg; have hnb60 := NB434_402.out; have hnc60 := NB402_434.out; have hnb61 := NB434_403.out; have hnc61 := NB403_434.out; have hnb62 := NB434_412.out; have hnc62 := NB412_434.out; have hnb63 := NB434_426.out; have hnc63 := NB426_434.out; obtain ⟨hcz64_0, hcz64_1, hcz64_2, hcz64_3, hcz64_4, hcz64_5, hfz64_0, hfz64_1, hfz64_2, hfz64_3, hfz64_4, hfz64_5⟩ := cf6 BK434))
            have n0_ : Aside0 (((((((w59.setCell ⟨gb434, 0, none⟩ (.bool t427)).setCell ⟨gb434, 1, none⟩ (.int .i64 t428)).setCell ⟨gb434, 2, none⟩ (.bool t429)).setCell ⟨gb434, 3, none⟩ (.int .i64 t430)).setCell ⟨gb434, 4, none⟩ (.int .u64 t431)).setCell ⟨gb434, 5, none⟩ (.int .u64 t432)).heap[gb402]? = some (.cells #[.bool a0_0, .int .i64 a0_1, .bool a0_2, .int .i64 a0_3, .int .u64 a0_4, .int .u64 a0_5] 24 (0, 0))) := ⟨by refine far6_ NB402_434 ?_; exact BK402.out⟩
            have n1_ : Aside0 (((((((w59.setCell ⟨gb434, 0, none⟩ (.bool t427)).setCell ⟨gb434, 1, none⟩ (.int .i64 t428)).setCell ⟨gb434, 2, none⟩ (.bool t429)).setCell ⟨gb434, 3, none⟩ (.int .i64 t430)).setCell ⟨gb434, 4, none⟩ (.int .u64 t431)).setCell ⟨gb434, 5, none⟩ (.int .u64 t432)).heap[gb403]? = some (.cells #[.int .i64 a1_0, .int .i64 a1_1] 26 (0, 0))) := ⟨by refine far6_ NB403_434 ?_; exact BK403.out⟩
            have n2_ : Aside0 (((((((w59.setCell ⟨gb434, 0, none⟩ (.bool t427)).setCell ⟨gb434, 1, none⟩ (.int .i64 t428)).setCell ⟨gb434, 2, none⟩ (.bool t429)).setCell ⟨gb434, 3, none⟩ (.int .i64 t430)).setCell ⟨gb434, 4, none⟩ (.int .u64 t431)).setCell ⟨gb434, 5, none⟩ (.int .u64 t432)).heap[gb412]? = some (.cells #[.bool t405, .int .i64 t406, .bool t407, .int .i64 t408, .int .u64 t409, .int .u64 t410] 24 (0, 0))) := ⟨by refine far6_ NB412_434 ?_; exact BK412.out⟩
            have n3_ : Aside0 (((((((w59.setCell ⟨gb434, 0, none⟩ (.bool t427)).setCell ⟨gb434, 1, none⟩ (.int .i64 t428)).setCell ⟨gb434, 2, none⟩ (.bool t429)).setCell ⟨gb434, 3, none⟩ (.int .i64 t430)).setCell ⟨gb434, 4, none⟩ (.int .u64 t431)).setCell ⟨gb434, 5, none⟩ (.int .u64 t432)).heap[gb426]? = some (.cells #[.bool t419, .int .i64 t420, .bool t421, .int .i64 t422, .int .u64 t423, .int .u64 t424] 41 (0, 0))) := ⟨by refine far6_ NB426_434 ?_; exact BK426.out⟩
            have n4_ : Aside0 (((((((w59.setCell ⟨gb434, 0, none⟩ (.bool t427)).setCell ⟨gb434, 1, none⟩ (.int .i64 t428)).setCell ⟨gb434, 2, none⟩ (.bool t429)).setCell ⟨gb434, 3, none⟩ (.int .i64 t430)).setCell ⟨gb434, 4, none⟩ (.int .u64 t431)).setCell ⟨gb434, 5, none⟩ (.int .u64 t432)).heap[gb434]? = some (.cells #[.bool t427, .int .i64 t428, .bool t429, .int .i64 t430, .int .u64 t431, .int .u64 t432] 24 (0, 0))) := ⟨by apply put6_; exact BK434.out⟩
            have n5_ : Aside0 (Below w.heap.size w ((((((w59.setCell ⟨gb434, 0, none⟩ (.bool t427)).setCell ⟨gb434, 1, none⟩ (.int .i64 t428)).setCell ⟨gb434, 2, none⟩ (.bool t429)).setCell ⟨gb434, 3, none⟩ (.int .i64 t430)).setCell ⟨gb434, 4, none⟩ (.int .u64 t431)).setCell ⟨gb434, 5, none⟩ (.int .u64 t432))) := ⟨by repeat (with_reducible first | exact HB.out | apply bs_ GE402 | apply bs_ GE403 | apply bs_ GE412 | apply bs_ GE426 | apply bs_ GE434)⟩
            (try clear BK402)
            (try clear BK403)
            (try clear BK412)
            (try clear BK426)
            (try clear BK434)
            (try clear HB)
            generalize ((((((w59.setCell ⟨gb434, 0, none⟩ (.bool t427)).setCell ⟨gb434, 1, none⟩ (.int .i64 t428)).setCell ⟨gb434, 2, none⟩ (.bool t429)).setCell ⟨gb434, 3, none⟩ (.int .i64 t430)).setCell ⟨gb434, 4, none⟩ (.int .u64 t431)).setCell ⟨gb434, 5, none⟩ (.int .u64 t432)) = w65 at n0_ n1_ n2_ n3_ n4_ n5_ ⊢
            have BK402 := n0_
            have BK403 := n1_
            have BK412 := n2_
            have BK426 := n3_
            have BK434 := n4_
            have HB := n5_
            clear n0_ n1_ n2_ n3_ n4_ n5_
            replace BK402 := m_ (blk_drew BK402.out)
            replace BK403 := m_ (blk_drew BK403.out)
            replace BK412 := m_ (blk_drew BK412.out)
            replace BK426 := m_ (blk_drew BK426.out)
            replace BK434 := m_ (blk_drew BK434.out)
            replace HB := m_ (below_drew1 HB.out)
            refine start_ (n := 16) (S := fun w' => w'.cell? ⟨gb402, 0, none⟩ = some (.bool a0_0) ∧ w'.cell? ⟨gb402, 1, none⟩ = some (.int .i64 a0_1) ∧ w'.cell? ⟨gb402, 2, none⟩ = some (.bool a0_2) ∧ w'.cell? ⟨gb402, 3, none⟩ = some (.int .i64 a0_3) ∧ w'.cell? ⟨gb402, 4, none⟩ = some (.int .u64 a0_4) ∧ w'.cell? ⟨gb402, 5, none⟩ = some (.int .u64 a0_5) ∧ w'.cell? ⟨gb403, 0, none⟩ = some (.int .i64 a1_0) ∧ w'.cell? ⟨gb403, 1, none⟩ = some (.int .i64 a1_1)) (ds := []) #[false, false, false, false, false, false, false, false, false, false, false, false, false, false, false, false] (by kernel_rfl) rfl rfl ⟨(blk_cell BK402.out 0).trans rfl, (blk_cell BK402.out 1).trans rfl, (blk_cell BK402.out 2).trans rfl, (blk_cell BK402.out 3).trans rfl, (blk_cell BK402.out 4).trans rfl, (blk_cell BK402.out 5).trans rfl, (blk_cell BK403.out 0).trans rfl, (blk_cell BK403.out 1).trans rfl⟩ (fun hHeld => ?_); refine with_tabW overfalllaw08_CodelLooks.tab6 overfalllaw08_CodelLooks.bits6 (fun HT_ HW_ => ?_)
            generalize w65.drew = w66 at BK402 BK403 BK412 BK426 BK434 HB hHeld ⊢
            refine pure_ (i := 2) (N := some 58) (v := ?_) (a' := ?_) #[false, false, true, false, false, false, false, false, false, false, false, false, false, false, false, false] rfl rfl (any_of HT_.out (by kernel_rfl)) (fun _ _ _ h => h) (Or.inl ⟨by rfl, ?_⟩) ?_ ?_
            rotate_left
            ·intro w'
             go_simp
             with_reducible rfl
            rotate_left
            ·simp only [Act.put, sa_, s0_, ss_, i64_w, i32_w]
             rfl
            refine pure_ (i := 4) (N := some 60) (v := ?_) (a' := ?_) #[false, false, true, false, true, false, false, false, false, false, false, false, false, false, false, false] rfl rfl (any_of HT_.out (by kernel_rfl)) (fun _ _ _ h => h) (Or.inl ⟨by rfl, ?_⟩) ?_ ?_
            rotate_left
            ·intro w'
             go_simp
             with_reducible rfl
            rotate_left
            ·simp only [Act.put, sa_, s0_, ss_, i64_w, i32_w]
             rfl
            refine pure_ (i := 6) (N := some 62) (v := ?_) (a' := ?_) #[false, false, true, false, true, false, true, false, false, false, false, false, false, false, false, false] rfl rfl (any_of HT_.out (by kernel_rfl)) (fun _ _ _ h => h) (Or.inl ⟨by rfl, ?_⟩) ?_ ?_
            rotate_left
            ·intro w'
             go_simp
             with_reducible rfl
            rotate_left
            ·simp only [Act.put, sa_, s0_, ss_, i64_w, i32_w]
             rfl
            refine pure_ (i := 7) (N := some 63) (v := ?_) (a' := ?_) #[false, false, true, false, true, false, true, true, false, false, false, false, false, false, false, false] rfl rfl (any_of HT_.out (by kernel_rfl)) (fun _ _ _ h => h) (Or.inl ⟨by rfl, ?_⟩) ?_ ?_
            rotate_left
            ·intro w'
             go_simp
             with_reducible rfl
            rotate_left
            ·simp only [Act.put, sa_, s0_, ss_, i64_w, i32_w]
             rfl
            refine pure_ (i := 8) (N := some 64) (v := ?_) (a' := ?_) #[false, false, true, false, true, false, true, true, true, false, false, false, false, false, false, false] rfl rfl (any_of HT_.out (by kernel_rfl)) (fun _ _ _ h => h) (Or.inl ⟨by rfl, ?_⟩) ?_ ?_
            rotate_left
            ·intro w'
             go_simp
             with_reducible rfl
            rotate_left
            ·simp only [Act.put, sa_, s0_, ss_, i64_w, i32_w]
             rfl
            refine take_ (i := 0) (N := some 56) (v := ?_) (a' := ?_) #[true, false, true, false, true, false, true, true, true, false, false, false, false, false, false, false] rfl rfl (take_ofW HT_.out HW_.out (by kernel_rfl)) (fun _ _ _ h => h) (Or.inl ⟨by rfl, ?_⟩) hHeld ?_ ?_
            rotate_left
            ·rintro w' ⟨s0, s1, s2, s3, s4, s5, s6, s7⟩
             go_simp
             with_reducible rfl
            rotate_left
            ·simp only [Act.put, sa_, s0_, ss_, i64_w, i32_w]
             rfl
            refine take_ (i := 3) (N := some 59) (v := ?_) (a' := ?_) #[true, false, true, true, true, false, true, true, true, false, false, false, false, false, false, false] rfl rfl (take_ofW HT_.out HW_.out (by kernel_rfl)) (fun _ _ _ h => h) (Or.inl ⟨by rfl, ?_⟩) hHeld ?_ ?_
            rotate_left
            ·rintro w' ⟨s0, s1, s2, s3, s4, s5, s6, s7⟩
             go_simp
             with_reducible rfl
            rotate_left
            ·simp only [Act.put, sa_, s0_, ss_, i64_w, i32_w]
             rfl
            refine take_ (i := 5) (N := some 61) (v := ?_) (a' := ?_) #[true, false, true, true, true, true, true, true, true, false, false, false, false, false, false, false] rfl rfl (take_ofW HT_.out HW_.out (by kernel_rfl)) (fun _ _ _ h => h) (Or.inl ⟨by rfl, ?_⟩) hHeld ?_ ?_
            rotate_left
            ·rintro w' ⟨s0, s1, s2, s3, s4, s5, s6, s7⟩
             go_simp
             with_reducible rfl
            rotate_left
            ·simp only [Act.put, sa_, s0_, ss_, i64_w, i32_w]
             rfl
            refine join_ (σ := Nat) 2 #[true, true, true, true, true, true, true, true, true, true, true, true, true, true, false, false] (fun s_ => [(57, .agg #[.bool t435, .int .i64 t436, .bool t437, .int .i64 t438, .int .u64 t439, .int .u64 t440]), (65, .tuple #[.agg #[.bool t441, .int .i64 t442, .bool t443, .int .i64 t444, .int .u64 t445, .int .u64 t446], .int .i64 t447]), (17, .pointer (some ⟨s_, 0, none⟩)), (55, .tuple #[.agg #[.bool t441, .int .i64 t442, .bool t443, .int .i64 t444, .int .u64 t445, .int .u64 t446], .int .i64 t447]), (66, .agg #[.bool t441, .int .i64 t442, .bool t443, .int .i64 t444, .int .u64 t445, .int .u64 t446]), (67, .int .i64 t447)]) (fun s_ w' => (w'.cell? ⟨gb402, 0, none⟩ = some (.bool a0_0) ∧ w'.cell? ⟨gb402, 1, none⟩ = some (.int .i64 a0_1) ∧ w'.cell? ⟨gb402, 2, none⟩ = some (.bool a0_2) ∧ w'.cell? ⟨gb402, 3, none⟩ = some (.int .i64 a0_3) ∧ w'.cell? ⟨gb402, 4, none⟩ = some (.int .u64 a0_4) ∧ w'.cell? ⟨gb402, 5, none⟩ = some (.int .u64 a0_5) ∧ w'.cell? ⟨gb403, 0, none⟩ = some (.int .i64 a1_0) ∧ w'.cell? ⟨gb403, 1, none⟩ = some (.int .i64 a1_1)) ∧ (w'.heap[gb402]? = some (.cells #[.bool a0_0, .int .i64 a0_1, .bool a0_2, .int .i64 a0_3, .int .u64 a0_4, .int .u64 a0_5] 24 (0, 0))) ∧ (w'.heap[gb403]? = some (.cells #[.int .i64 a1_0, .int .i64 a1_1] 26 (0, 0))) ∧ (w'.heap[gb412]? = some (.cells #[.bool t405, .int .i64 t406, .bool t407, .int .i64 t408, .int .u64 t409, .int .u64 t410] 24 (0, 0))) ∧ (w'.heap[gb426]? = some (.cells #[.bool t419, .int .i64 t420, .bool t421, .int .i64 t422, .int .u64 t423, .int .u64 t424] 41 (0, 0))) ∧ (w'.heap[gb434]? = some (.cells #[.bool t427, .int .i64 t428, .bool t429, .int .i64 t430, .int .u64 t431, .int .u64 t432] 24 (0, 0))) ∧ (w'.heap[s_]? = some (.cells #[.bool false, .int .i64 0, .bool false, .int .i64 0, .int .u64 0, .int .u64 0] 41 (0, 0))) ∧ (w.heap.size ≤ s_) ∧ (w.heap.size ≤ s_) ∧ (gb402 ≠ s_) ∧ (s_ ≠ gb402) ∧ (gb403 ≠ s_) ∧ (s_ ≠ gb403) ∧ (gb412 ≠ s_) ∧ (s_ ≠ gb412) ∧ (gb426 ≠ s_) ∧ (s_ ≠ gb426) ∧ (gb434 ≠ s_) ∧ (s_ ≠ gb434) ∧ (Below w.heap.size w w')) ?_ ?_
            rotate_left
            ·intro hCont
             refine two_ (i := 1) (j := 13) (Ni := some 57) (Nj := some 17) #[true, true, true, true, true, true, true, true, true, false, false, false, false, false, false, false] #[true, false, true, true, true, true, true, true, true, false, false, false, false, true, false, false] rfl rfl rfl rfl (two_of HT_.out (by kernel_rfl)) (by decide) (by decide) (fun K hK => ?_) (fun K hK => ?_)
             ·skip
              refine goes_ Try.func18 (by kernel_rfl) rfl #[.agg #[.bool a0_0, .int .i64 a0_1, .bool a0_2, .int .i64 a0_3, .int .u64 a0_4, .int .u64 a0_5]] (by rfl) rfl rfl (by first | rfl | (simp only [List.map_toArray, List.map_cons, List.map_nil]; first | done | rfl)) ?_
              with_reducible refine (overfalllaw08_own.calls a0_0 a0_1 a0_2 a0_3 a0_4 a0_5 t435 t436 t437 t438 t439 t440 _ A12.out).mono ?_
              rintro e w67 ⟨rfl, hb⟩
              refine ⟨_, rfl, ?_⟩
              replace BK402 := bb_ BK402 hb
              replace BK403 := bb_ BK403 hb
              replace BK412 := bb_ BK412 hb
              replace BK426 := bb_ BK426 hb
              replace BK434 := bb_ BK434 hb
              replace HB := st_ (by repeat (with_reducible first | exact HB.out | apply bs_ GE402 | apply bs_ GE403 | apply bs_ GE412 | apply bs_ GE426 | apply bs_ GE434)) hb
              (try clear hb)
              (try clear hb2)
              (try clear hk)
              (try clear hi)
              refine hK.out _ _ ⟨(blk_cell BK402.out 0).trans rfl, (blk_cell BK402.out 1).trans rfl, (blk_cell BK402.out 2).trans rfl, (blk_cell BK402.out 3).trans rfl, (blk_cell BK402.out 4).trans rfl, (blk_cell BK402.out 5).trans rfl, (blk_cell BK403.out 0).trans rfl, (blk_cell BK403.out 1).trans rfl⟩ (fun hHeld => ?_)
              clear hK K
              refine norm_ (a' := ?_) ?_ ?_
              rotate_left
              ·show Act.put _ (some 57) _ = _
               simp only [Act.put, sa_, s0_, ss_, i64_w, i32_w]
               rfl
              refine two_ (i := 9) (j := 13) (Ni := some 65) (Nj := some 17) #[true, true, true, true, true, true, true, true, true, true, false, false, false, false, false, false] #[true, true, true, true, true, true, true, true, true, false, false, false, false, true, false, false] rfl rfl rfl rfl (two_of HT_.out (by kernel_rfl)) (by decide) (by decide) (fun K hK => ?_) (fun K hK => ?_)
              ·skip
               refine goes_ Try.func19 (by kernel_rfl) rfl #[.agg #[.bool t435, .int .i64 t436, .bool t437, .int .i64 t438, .int .u64 t439, .int .u64 t440], .int .i64 a1_0, .int .i64 a1_1, .int .i64 a2, .int .i64 a3, .int .i64 a4] (by rfl) rfl rfl (by first | rfl | (simp only [List.map_toArray, List.map_cons, List.map_nil]; first | done | rfl)) ?_
               with_reducible refine (overfallref08_More.calls k t435 t436 t437 t438 t439 t440 a1_0 a1_1 a2 a3 a4 t441 t442 t443 t444 t445 t446 t447 _ A13.out).mono ?_
               rintro e w68 ⟨rfl, hb⟩
               refine ⟨_, rfl, ?_⟩
               replace BK402 := bb_ BK402 hb
               replace BK403 := bb_ BK403 hb
               replace BK412 := bb_ BK412 hb
               replace BK426 := bb_ BK426 hb
               replace BK434 := bb_ BK434 hb
               replace HB := st_ (by repeat (with_reducible first | exact HB.out | apply bs_ GE402 | apply bs_ GE403 | apply bs_ GE412 | apply bs_ GE426 | apply bs_ GE434)) hb
               (try clear hb)
               (try clear hb2)
               (try clear hk)
               (try clear hi)
               refine hK.out _ _ ⟨(blk_cell BK402.out 0).trans rfl, (blk_cell BK402.out 1).trans rfl, (blk_cell BK402.out 2).trans rfl, (blk_cell BK402.out 3).trans rfl, (blk_cell BK402.out 4).trans rfl, (blk_cell BK402.out 5).trans rfl, (blk_cell BK403.out 0).trans rfl, (blk_cell BK403.out 1).trans rfl⟩ (fun hHeld => ?_)
               clear hK K
               refine norm_ (a' := ?_) ?_ ?_
               rotate_left
               ·show Act.put _ (some 65) _ = _
                simp only [Act.put, sa_, s0_, ss_, i64_w, i32_w]
                rfl
               refine pure_ (i := 10) (N := some 55) (v := ?_) (a' := ?_) #[true, true, true, true, true, true, true, true, true, true, true, false, false, false, false, false] rfl rfl (any_of HT_.out (by kernel_rfl)) (fun _ _ _ h => h) (Or.inl ⟨by rfl, ?_⟩) ?_ ?_
               rotate_left
               ·intro w'
                go_simp
                with_reducible rfl
               rotate_left
               ·simp only [Act.put, sa_, s0_, ss_, i64_w, i32_w]
                rfl
               refine pure_ (i := 11) (N := some 66) (v := ?_) (a' := ?_) #[true, true, true, true, true, true, true, true, true, true, true, true, false, false, false, false] rfl rfl (any_of HT_.out (by kernel_rfl)) (fun _ _ _ h => h) (Or.inl ⟨by rfl, ?_⟩) ?_ ?_
               rotate_left
               ·intro w'
                go_simp
                with_reducible rfl
               rotate_left
               ·simp only [Act.put, sa_, s0_, ss_, i64_w, i32_w]
                rfl
               refine pure_ (i := 12) (N := some 67) (v := ?_) (a' := ?_) #[true, true, true, true, true, true, true, true, true, true, true, true, true, false, false, false] rfl rfl (any_of HT_.out (by kernel_rfl)) (fun _ _ _ h => h) (Or.inl ⟨by rfl, ?_⟩) ?_ ?_
               rotate_left
               ·intro w'
                go_simp
                with_reducible rfl
               rotate_left
               ·simp only [Act.put, sa_, s0_, ss_, i64_w, i32_w]
                rfl
               refine one_ (i := 13) (N := some 17) #[true, true, true, true, true, true, true, true, true, true, true, true, true, true, false, false] rfl rfl (one_of HT_.out (by kernel_rfl)) (by decide) (fun K hK => ?_)
               refine box_step ?hg (N := 17) ?hd (cs := #[.bool false, .int .i64 0, .bool false, .int .i64 0, .int .u64 0, .int .u64 0]) (t := 41) ?hr ?_; (case hd => rfl); (case hg => rfl); (case hr => first | (go_simp; done) | (go_simp; rfl))
               intro gb448 hg w69 hbox hb
               have BK448 := m_ (hbox)
               have GW448 := ge_ (by repeat (with_reducible first | exact HB.out | apply bs_ GE402 | apply bs_ GE403 | apply bs_ GE412 | apply bs_ GE426 | apply bs_ GE434)) hg
               have GE448 := GW448
               have NB402_448 := nl_ BK402 hg
               have NB448_402 := ng_ BK402 hg
               have NB403_448 := nl_ BK403 hg
               have NB448_403 := ng_ BK403 hg
               have NB412_448 := nl_ BK412 hg
               have NB448_412 := ng_ BK412 hg
               have NB426_448 := nl_ BK426 hg
               have NB448_426 := ng_ BK426 hg
               have NB434_448 := nl_ BK434 hg
               have NB448_434 := ng_ BK434 hg
               replace BK402 := bb_ BK402 hb
               replace BK403 := bb_ BK403 hb
               replace BK412 := bb_ BK412 hb
               replace BK426 := bb_ BK426 hb
               replace BK434 := bb_ BK434 hb
               replace HB := st_ (by repeat (with_reducible first | exact HB.out | apply bs_ GE402 | apply bs_ GE403 | apply bs_ GE412 | apply bs_ GE426 | apply bs_ GE434)) hb
               clear hb hbox hg
               refine hK.out _ _ ⟨(blk_cell BK402.out 0).trans rfl, (blk_cell BK402.out 1).trans rfl, (blk_cell BK402.out 2).trans rfl, (blk_cell BK402.out 3).trans rfl, (blk_cell BK402.out 4).trans rfl, (blk_cell BK402.out 5).trans rfl, (blk_cell BK403.out 0).trans rfl, (blk_cell BK403.out 1).trans rfl⟩ (fun hHeld => ?_)
               clear hK K
               refine norm_ (a' := ?_) ?_ ?_
               rotate_left
               ·show Act.put _ (some 17) _ = _
                simp only [Act.put, sa_, s0_, ss_, i64_w, i32_w]
                rfl
               exact norm_ (by simp only [putAll, Act.put, sa_, s0_, ss_]) (hCont (gb448) _ ⟨hHeld, (by exact BK402.out), (by exact BK403.out), (by exact BK412.out), (by exact BK426.out), (by exact BK434.out), (by exact BK448.out), GW448.out, GE448.out, NB402_448.out, NB448_402.out, NB403_448.out, NB448_403.out, NB412_448.out, NB448_412.out, NB426_448.out, NB448_426.out, NB434_448.out, NB448_434.out, (by repeat (with_reducible first | exact HB.out | apply bs_ GE402 | apply bs_ GE403 | apply bs_ GE412 | apply bs_ GE426 | apply bs_ GE434 | apply bs_ GE448))⟩)
              ·skip
               refine box_step ?hg (N := 17) ?hd (cs := #[.bool false, .int .i64 0, .bool false, .int .i64 0, .int .u64 0, .int .u64 0]) (t := 41) ?hr ?_; (case hd => rfl); (case hg => rfl); (case hr => first | (go_simp; done) | (go_simp; rfl))
               intro gb448 hg w68 hbox hb
               have BK448 := m_ (hbox)
               have GW448 := ge_ (by repeat (with_reducible first | exact HB.out | apply bs_ GE402 | apply bs_ GE403 | apply bs_ GE412 | apply bs_ GE426 | apply bs_ GE434)) hg
               have GE448 := GW448
               have NB402_448 := nl_ BK402 hg
               have NB448_402 := ng_ BK402 hg
               have NB403_448 := nl_ BK403 hg
               have NB448_403 := ng_ BK403 hg
               have NB412_448 := nl_ BK412 hg
               have NB448_412 := ng_ BK412 hg
               have NB426_448 := nl_ BK426 hg
               have NB448_426 := ng_ BK426 hg
               have NB434_448 := nl_ BK434 hg
               have NB448_434 := ng_ BK434 hg
               replace BK402 := bb_ BK402 hb
               replace BK403 := bb_ BK403 hb
               replace BK412 := bb_ BK412 hb
               replace BK426 := bb_ BK426 hb
               replace BK434 := bb_ BK434 hb
               replace HB := st_ (by repeat (with_reducible first | exact HB.out | apply bs_ GE402 | apply bs_ GE403 | apply bs_ GE412 | apply bs_ GE426 | apply bs_ GE434)) hb
               clear hb hbox hg
               refine hK.out _ _ ⟨(blk_cell BK402.out 0).trans rfl, (blk_cell BK402.out 1).trans rfl, (blk_cell BK402.out 2).trans rfl, (blk_cell BK402.out 3).trans rfl, (blk_cell BK402.out 4).trans rfl, (blk_cell BK402.out 5).trans rfl, (blk_cell BK403.out 0).trans rfl, (blk_cell BK403.out 1).trans rfl⟩ (fun hHeld => ?_)
               clear hK K
               refine norm_ (a' := ?_) ?_ ?_
               rotate_left
               ·show Act.put _ (some 17) _ = _
                simp only [Act.put, sa_, s0_, ss_, i64_w, i32_w]
                rfl
               refine one_ (i := 9) (N := some 65) #[true, true, true, true, true, true, true, true, true, true, false, false, false, true, false, false] rfl rfl (one_of HT_.out (by kernel_rfl)) (by decide) (fun K hK => ?_)
               refine goes_ Try.func19 (by kernel_rfl) rfl #[.agg #[.bool t435, .int .i64 t436, .bool t437, .int .i64 t438, .int .u64 t439, .int .u64 t440], .int .i64 a1_0, .int .i64 a1_1, .int .i64 a2, .int .i64 a3, .int .i64 a4] (by rfl) rfl rfl (by first | rfl | (simp only [List.map_toArray, List.map_cons, List.map_nil]; first | done | rfl)) ?_
               with_reducible refine (overfallref08_More.calls k t435 t436 t437 t438 t439 t440 a1_0 a1_1 a2 a3 a4 t441 t442 t443 t444 t445 t446 t447 _ A13.out).mono ?_
               rintro e w69 ⟨rfl, hb⟩
               refine ⟨_, rfl, ?_⟩
               replace BK402 := bb_ BK402 hb
               replace BK403 := bb_ BK403 hb
               replace BK412 := bb_ BK412 hb
               replace BK426 := bb_ BK426 hb
               replace BK434 := bb_ BK434 hb
               replace BK448 := bb_ BK448 hb
               replace HB := st_ (by repeat (with_reducible first | exact HB.out | apply bs_ GE402 | apply bs_ GE403 | apply bs_ GE412 | apply bs_ GE426 | apply bs_ GE434 | apply bs_ GE448)) hb
               (try clear hb)
               (try clear hb2)
               (try clear hk)
               (try clear hi)
               refine hK.out _ _ ⟨(blk_cell BK402.out 0).trans rfl, (blk_cell BK402.out 1).trans rfl, (blk_cell BK402.out 2).trans rfl, (blk_cell BK402.out 3).trans rfl, (blk_cell BK402.out 4).trans rfl, (blk_cell BK402.out 5).trans rfl, (blk_cell BK403.out 0).trans rfl, (blk_cell BK403.out 1).trans rfl⟩ (fun hHeld => ?_)
               clear hK K
               refine norm_ (a' := ?_) ?_ ?_
               rotate_left
               ·show Act.put _ (some 65) _ = _
                simp only [Act.put, sa_, s0_, ss_, i64_w, i32_w]
                rfl
               refine pure_ (i := 10) (N := some 55) (v := ?_) (a' := ?_) #[true, true, true, true, true, true, true, true, true, true, true, false, false, true, false, false] rfl rfl (any_of HT_.out (by kernel_rfl)) (fun _ _ _ h => h) (Or.inl ⟨by rfl, ?_⟩) ?_ ?_
               rotate_left
               ·intro w'
                go_simp
                with_reducible rfl
               rotate_left
               ·simp only [Act.put, sa_, s0_, ss_, i64_w, i32_w]
                rfl
               refine pure_ (i := 11) (N := some 66) (v := ?_) (a' := ?_) #[true, true, true, true, true, true, true, true, true, true, true, true, false, true, false, false] rfl rfl (any_of HT_.out (by kernel_rfl)) (fun _ _ _ h => h) (Or.inl ⟨by rfl, ?_⟩) ?_ ?_
               rotate_left
               ·intro w'
                go_simp
                with_reducible rfl
               rotate_left
               ·simp only [Act.put, sa_, s0_, ss_, i64_w, i32_w]
                rfl
               refine pure_ (i := 12) (N := some 67) (v := ?_) (a' := ?_) #[true, true, true, true, true, true, true, true, true, true, true, true, true, true, false, false] rfl rfl (any_of HT_.out (by kernel_rfl)) (fun _ _ _ h => h) (Or.inl ⟨by rfl, ?_⟩) ?_ ?_
               rotate_left
               ·intro w'
                go_simp
                with_reducible rfl
               rotate_left
               ·simp only [Act.put, sa_, s0_, ss_, i64_w, i32_w]
                rfl
               exact norm_ (by simp only [putAll, Act.put, sa_, s0_, ss_]) (hCont (gb448) _ ⟨hHeld, (by exact BK402.out), (by exact BK403.out), (by exact BK412.out), (by exact BK426.out), (by exact BK434.out), (by exact BK448.out), GW448.out, GE448.out, NB402_448.out, NB448_402.out, NB403_448.out, NB448_403.out, NB412_448.out, NB448_412.out, NB426_448.out, NB448_426.out, NB434_448.out, NB448_434.out, (by repeat (with_reducible first | exact HB.out | apply bs_ GE402 | apply bs_ GE403 | apply bs_ GE412 | apply bs_ GE426 | apply bs_ GE434 | apply bs_ GE448))⟩)
             ·skip
              refine box_step ?hg (N := 17) ?hd (cs := #[.bool false, .int .i64 0, .bool false, .int .i64 0, .int .u64 0, .int .u64 0]) (t := 41) ?hr ?_; (case hd => rfl); (case hg => rfl); (case hr => first | (go_simp; done) | (go_simp; rfl))
              intro gb448 hg w67 hbox hb
              have BK448 := m_ (hbox)
              have GW448 := ge_ (by repeat (with_reducible first | exact HB.out | apply bs_ GE402 | apply bs_ GE403 | apply bs_ GE412 | apply bs_ GE426 | apply bs_ GE434)) hg
              have GE448 := GW448
              have NB402_448 := nl_ BK402 hg
              have NB448_402 := ng_ BK402 hg
              have NB403_448 := nl_ BK403 hg
              have NB448_403 := ng_ BK403 hg
              have NB412_448 := nl_ BK412 hg
              have NB448_412 := ng_ BK412 hg
              have NB426_448 := nl_ BK426 hg
              have NB448_426 := ng_ BK426 hg
              have NB434_448 := nl_ BK434 hg
              have NB448_434 := ng_ BK434 hg
              replace BK402 := bb_ BK402 hb
              replace BK403 := bb_ BK403 hb
              replace BK412 := bb_ BK412 hb
              replace BK426 := bb_ BK426 hb
              replace BK434 := bb_ BK434 hb
              replace HB := st_ (by repeat (with_reducible first | exact HB.out | apply bs_ GE402 | apply bs_ GE403 | apply bs_ GE412 | apply bs_ GE426 | apply bs_ GE434)) hb
              clear hb hbox hg
              refine hK.out _ _ ⟨(blk_cell BK402.out 0).trans rfl, (blk_cell BK402.out 1).trans rfl, (blk_cell BK402.out 2).trans rfl, (blk_cell BK402.out 3).trans rfl, (blk_cell BK402.out 4).trans rfl, (blk_cell BK402.out 5).trans rfl, (blk_cell BK403.out 0).trans rfl, (blk_cell BK403.out 1).trans rfl⟩ (fun hHeld => ?_)
              clear hK K
              refine norm_ (a' := ?_) ?_ ?_
              rotate_left
              ·show Act.put _ (some 17) _ = _
               simp only [Act.put, sa_, s0_, ss_, i64_w, i32_w]
               rfl
              refine one_ (i := 1) (N := some 57) #[true, true, true, true, true, true, true, true, true, false, false, false, false, true, false, false] rfl rfl (one_of HT_.out (by kernel_rfl)) (by decide) (fun K hK => ?_)
              refine goes_ Try.func18 (by kernel_rfl) rfl #[.agg #[.bool a0_0, .int .i64 a0_1, .bool a0_2, .int .i64 a0_3, .int .u64 a0_4, .int .u64 a0_5]] (by rfl) rfl rfl (by first | rfl | (simp only [List.map_toArray, List.map_cons, List.map_nil]; first | done | rfl)) ?_
              with_reducible refine (overfalllaw08_own.calls a0_0 a0_1 a0_2 a0_3 a0_4 a0_5 t435 t436 t437 t438 t439 t440 _ A12.out).mono ?_
              rintro e w68 ⟨rfl, hb⟩
              refine ⟨_, rfl, ?_⟩
              replace BK402 := bb_ BK402 hb
              replace BK403 := bb_ BK403 hb
              replace BK412 := bb_ BK412 hb
              replace BK426 := bb_ BK426 hb
              replace BK434 := bb_ BK434 hb
              replace BK448 := bb_ BK448 hb
              replace HB := st_ (by repeat (with_reducible first | exact HB.out | apply bs_ GE402 | apply bs_ GE403 | apply bs_ GE412 | apply bs_ GE426 | apply bs_ GE434 | apply bs_ GE448)) hb
              (try clear hb)
              (try clear hb2)
              (try clear hk)
              (try clear hi)
              refine hK.out _ _ ⟨(blk_cell BK402.out 0).trans rfl, (blk_cell BK402.out 1).trans rfl, (blk_cell BK402.out 2).trans rfl, (blk_cell BK402.out 3).trans rfl, (blk_cell BK402.out 4).trans rfl, (blk_cell BK402.out 5).trans rfl, (blk_cell BK403.out 0).trans rfl, (blk_cell BK403.out 1).trans rfl⟩ (fun hHeld => ?_)
              clear hK K
              refine norm_ (a' := ?_) ?_ ?_
              rotate_left
              ·show Act.put _ (some 57) _ = _
               simp only [Act.put, sa_, s0_, ss_, i64_w, i32_w]
               rfl
              refine one_ (i := 9) (N := some 65) #[true, true, true, true, true, true, true, true, true, true, false, false, false, true, false, false] rfl rfl (one_of HT_.out (by kernel_rfl)) (by decide) (fun K hK => ?_)
              refine goes_ Try.func19 (by kernel_rfl) rfl #[.agg #[.bool t435, .int .i64 t436, .bool t437, .int .i64 t438, .int .u64 t439, .int .u64 t440], .int .i64 a1_0, .int .i64 a1_1, .int .i64 a2, .int .i64 a3, .int .i64 a4] (by rfl) rfl rfl (by first | rfl | (simp only [List.map_toArray, List.map_cons, List.map_nil]; first | done | rfl)) ?_
              with_reducible refine (overfallref08_More.calls k t435 t436 t437 t438 t439 t440 a1_0 a1_1 a2 a3 a4 t441 t442 t443 t444 t445 t446 t447 _ A13.out).mono ?_
              rintro e w69 ⟨rfl, hb⟩
              refine ⟨_, rfl, ?_⟩
              replace BK402 := bb_ BK402 hb
              replace BK403 := bb_ BK403 hb
              replace BK412 := bb_ BK412 hb
              replace BK426 := bb_ BK426 hb
              replace BK434 := bb_ BK434 hb
              replace BK448 := bb_ BK448 hb
              replace HB := st_ (by repeat (with_reducible first | exact HB.out | apply bs_ GE402 | apply bs_ GE403 | apply bs_ GE412 | apply bs_ GE426 | apply bs_ GE434 | apply bs_ GE448)) hb
              (try clear hb)
              (try clear hb2)
              (try clear hk)
              (try clear hi)
              refine hK.out _ _ ⟨(blk_cell BK402.out 0).trans rfl, (blk_cell BK402.out 1).trans rfl, (blk_cell BK402.out 2).trans rfl, (blk_cell BK402.out 3).trans rfl, (blk_cell BK402.out 4).trans rfl, (blk_cell BK402.out 5).trans rfl, (blk_cell BK403.out 0).trans rfl, (blk_cell BK403.out 1).trans rfl⟩ (fun hHeld => ?_)
              clear hK K
              refine norm_ (a' := ?_) ?_ ?_
              rotate_left
              ·show Act.put _ (some 65) _ = _
               simp only [Act.put, sa_, s0_, ss_, i64_w, i32_w]
               rfl
              refine pure_ (i := 10) (N := some 55) (v := ?_) (a' := ?_) #[true, true, true, true, true, true, true, true, true, true, true, false, false, true, false, false] rfl rfl (any_of HT_.out (by kernel_rfl)) (fun _ _ _ h => h) (Or.inl ⟨by rfl, ?_⟩) ?_ ?_
              rotate_left
              ·intro w'
               go_simp
               with_reducible rfl
              rotate_left
              ·simp only [Act.put, sa_, s0_, ss_, i64_w, i32_w]
               rfl
              refine pure_ (i := 11) (N := some 66) (v := ?_) (a' := ?_) #[true, true, true, true, true, true, true, true, true, true, true, true, false, true, false, false] rfl rfl (any_of HT_.out (by kernel_rfl)) (fun _ _ _ h => h) (Or.inl ⟨by rfl, ?_⟩) ?_ ?_
              rotate_left
              ·intro w'
               go_simp
               with_reducible rfl
              rotate_left
              ·simp only [Act.put, sa_, s0_, ss_, i64_w, i32_w]
               rfl
              refine pure_ (i := 12) (N := some 67) (v := ?_) (a' := ?_) #[true, true, true, true, true, true, true, true, true, true, true, true, true, true, false, false] rfl rfl (any_of HT_.out (by kernel_rfl)) (fun _ _ _ h => h) (Or.inl ⟨by rfl, ?_⟩) ?_ ?_
              rotate_left
              ·intro w'
               go_simp
               with_reducible rfl
              rotate_left
              ·simp only [Act.put, sa_, s0_, ss_, i64_w, i32_w]
               rfl
              exact norm_ (by simp only [putAll, Act.put, sa_, s0_, ss_]) (hCont (gb448) _ ⟨hHeld, (by exact BK402.out), (by exact BK403.out), (by exact BK412.out), (by exact BK426.out), (by exact BK434.out), (by exact BK448.out), GW448.out, GE448.out, NB402_448.out, NB448_402.out, NB403_448.out, NB448_403.out, NB412_448.out, NB448_412.out, NB426_448.out, NB448_426.out, NB434_448.out, NB448_434.out, (by repeat (with_reducible first | exact HB.out | apply bs_ GE402 | apply bs_ GE403 | apply bs_ GE412 | apply bs_ GE426 | apply bs_ GE434 | apply bs_ GE448))⟩)
            rintro gb448 w70 ⟨hS_, h0_, h1_, h2_, h3_, h4_, h5_, h6_, h7_, h8_, h9_, h10_, h11_, h12_, h13_, h14_, h15_, h16_, h17_, h18_⟩
            have n0_ : Aside0 (w70.heap[gb402]? = some (.cells #[.bool a0_0, .int .i64 a0_1, .bool a0_2, .int .i64 a0_3, .int .u64 a0_4, .int .u64 a0_5] 24 (0, 0))) := ⟨h0_⟩
            have n1_ : Aside0 (w70.heap[gb403]? = some (.cells #[.int .i64 a1_0, .int .i64 a1_1] 26 (0, 0))) := ⟨h1_⟩
            have n2_ : Aside0 (w70.heap[gb412]? = some (.cells #[.bool t405, .int .i64 t406, .bool t407, .int .i64 t408, .int .u64 t409, .int .u64 t410] 24 (0, 0))) := ⟨h2_⟩
            have n3_ : Aside0 (w70.heap[gb426]? = some (.cells #[.bool t419, .int .i64 t420, .bool t421, .int .i64 t422, .int .u64 t423, .int .u64 t424] 41 (0, 0))) := ⟨h3_⟩
            have n4_ : Aside0 (w70.heap[gb434]? = some (.cells #[.bool t427, .int .i64 t428, .bool t429, .int .i64 t430, .int .u64 t431, .int .u64 t432] 24 (0, 0))) := ⟨h4_⟩
            have n5_ : Aside0 (w70.heap[gb448]? = some (.cells #[.bool false, .int .i64 0, .bool false, .int .i64 0, .int .u64 0, .int .u64 0] 41 (0, 0))) := ⟨h5_⟩
            have n6_ : Aside0 (w.heap.size ≤ gb448) := ⟨h6_⟩
            have n7_ : Aside0 (w.heap.size ≤ gb448) := ⟨h7_⟩
            have n8_ : Aside0 (gb402 ≠ gb448) := ⟨h8_⟩
            have n9_ : Aside0 (gb448 ≠ gb402) := ⟨h9_⟩
            have n10_ : Aside0 (gb403 ≠ gb448) := ⟨h10_⟩
            have n11_ : Aside0 (gb448 ≠ gb403) := ⟨h11_⟩
            have n12_ : Aside0 (gb412 ≠ gb448) := ⟨h12_⟩
            have n13_ : Aside0 (gb448 ≠ gb412) := ⟨h13_⟩
            have n14_ : Aside0 (gb426 ≠ gb448) := ⟨h14_⟩
            have n15_ : Aside0 (gb448 ≠ gb426) := ⟨h15_⟩
            have n16_ : Aside0 (gb434 ≠ gb448) := ⟨h16_⟩
            have n17_ : Aside0 (gb448 ≠ gb434) := ⟨h17_⟩
            have n18_ : Aside0 (Below w.heap.size w w70) := ⟨h18_⟩
            clear BK402
            clear BK403
            clear BK412
            clear BK426
            clear BK434
            clear HB
            clear h0_ h1_ h2_ h3_ h4_ h5_ h6_ h7_ h8_ h9_ h10_ h11_ h12_ h13_ h14_ h15_ h16_ h17_ h18_
            have BK402 := n0_
            have BK403 := n1_
            have BK412 := n2_
            have BK426 := n3_
            have BK434 := n4_
            have BK448 := n5_
            have GW448 := n6_
            have GE448 := n7_
            have NB402_448 := n8_
            have NB448_402 := n9_
            have NB403_448 := n10_
            have NB448_403 := n11_
            have NB412_448 := n12_
            have NB448_412 := n13_
            have NB426_448 := n14_
            have NB448_426 := n15_
            have NB434_448 := n16_
            have NB448_434 := n17_
            have HB := n18_
            clear n0_ n1_ n2_ n3_ n4_ n5_ n6_ n7_ n8_ n9_ n10_ n11_ n12_ n13_ n14_ n15_ n16_ n17_ n18_
            have hHeld : w70.cell? ⟨gb402, 0, none⟩ = some (.bool a0_0) ∧ w70.cell? ⟨gb402, 1, none⟩ = some (.int .i64 a0_1) ∧ w70.cell? ⟨gb402, 2, none⟩ = some (.bool a0_2) ∧ w70.cell? ⟨gb402, 3, none⟩ = some (.int .i64 a0_3) ∧ w70.cell? ⟨gb402, 4, none⟩ = some (.int .u64 a0_4) ∧ w70.cell? ⟨gb402, 5, none⟩ = some (.int .u64 a0_5) ∧ w70.cell? ⟨gb403, 0, none⟩ = some (.int .i64 a1_0) ∧ w70.cell? ⟨gb403, 1, none⟩ = some (.int .i64 a1_1) := hS_
            refine norm_ (a' := ?_) ?_ ?_
            rotate_left
            ·simp only [putAll, Act.put, sa_, s0_, ss_]
             rfl
            refine one_ (i := 14) (N := none) #[true, true, true, true, true, true, true, true, true, true, true, true, true, true, true, false] rfl rfl (one_of HT_.out (by kernel_rfl)) (by decide) (fun K hK => ?_)
            have hs71 : w70.cell? ⟨gb448, 0, none⟩ = some (.bool false) := (blk_cell BK448.out 0).trans rfl
            have hfs71 := blk_frozen BK448.out 0
            have hns71_0 := NB402_448.out
            have hns71_1 := NB403_448.out
            have hns71_2 := NB412_448.out
            have hns71_3 := NB426_448.out
            have hns71_4 := NB434_448.out
            have hms71_0 := NB448_402.out
            have hms71_1 := NB448_403.out
            have hms71_2 := NB448_412.out
            have hms71_3 := NB448_426.out
            have hms71_4 := NB448_434.out
            have hs72 : w70.cell? ⟨gb448, 1, none⟩ = some (.int .i64 0) := (blk_cell BK448.out 1).trans rfl
            have hfs72 := blk_frozen BK448.out 1
            have hns72_0 := NB402_448.out
            have hns72_1 := NB403_448.out
            have hns72_2 := NB412_448.out
            have hns72_3 := NB426_448.out
            have hns72_4 := NB434_448.out
            have hms72_0 := NB448_402.out
            have hms72_1 := NB448_403.out
            have hms72_2 := NB448_412.out
            have hms72_3 := NB448_426.out
            have hms72_4 := NB448_434.out
            have hs73 : w70.cell? ⟨gb448, 2, none⟩ = some (.bool false) := (blk_cell BK448.out 2).trans rfl
            have hfs73 := blk_frozen BK448.out 2
            have hns73_0 := NB402_448.out
            have hns73_1 := NB403_448.out
            have hns73_2 := NB412_448.out
            have hns73_3 := NB426_448.out
            have hns73_4 := NB434_448.out
            have hms73_0 := NB448_402.out
            have hms73_1 := NB448_403.out
            have hms73_2 := NB448_412.out
            have hms73_3 := NB448_426.out
            have hms73_4 := NB448_434.out
            have hs74 : w70.cell? ⟨gb448, 3, none⟩ = some (.int .i64 0) := (blk_cell BK448.out 3).trans rfl
            have hfs74 := blk_frozen BK448.out 3
            have hns74_0 := NB402_448.out
            have hns74_1 := NB403_448.out
            have hns74_2 := NB412_448.out
            have hns74_3 := NB426_448.out
            have hns74_4 := NB434_448.out
            have hms74_0 := NB448_402.out
            have hms74_1 := NB448_403.out
            have hms74_2 := NB448_412.out
            have hms74_3 := NB448_426.out
            have hms74_4 := NB448_434.out
            have hs75 : w70.cell? ⟨gb448, 4, none⟩ = some (.int .u64 0) := (blk_cell BK448.out 4).trans rfl
            have hfs75 := blk_frozen BK448.out 4
            have hns75_0 := NB402_448.out
            have hns75_1 := NB403_448.out
            have hns75_2 := NB412_448.out
            have hns75_3 := NB426_448.out
            have hns75_4 := NB434_448.out
            have hms75_0 := NB448_402.out
            have hms75_1 := NB448_403.out
            have hms75_2 := NB448_412.out
            have hms75_3 := NB448_426.out
            have hms75_4 := NB448_434.out
            have hs76 : w70.cell? ⟨gb448, 5, none⟩ = some (.int .u64 0) := (blk_cell BK448.out 5).trans rfl
            have hfs76 := blk_frozen BK448.out 5
            have hns76_0 := NB402_448.out
            have hns76_1 := NB403_448.out
            have hns76_2 := NB412_448.out
            have hns76_3 := NB426_448.out
            have hns76_4 := NB434_448.out
            have hms76_0 := NB448_402.out
            have hms76_1 := NB448_403.out
            have hms76_2 := NB448_412.out
            have hms76_3 := NB448_426.out
            have hms76_4 := NB448_434.out
            refine skip_ (w1 := ?_) (by rfl) rfl ?_ ?_
            rotate_left
            ·go_simp
             rfl
            refine hK.out _ _ ⟨(cfar6_ NB402_448 (hHeld.1)), (cfar6_ NB402_448 (hHeld.2.1)), (cfar6_ NB402_448 (hHeld.2.2.1)), (cfar6_ NB402_448 (hHeld.2.2.2.1)), (cfar6_ NB402_448 (hHeld.2.2.2.2.1)), (cfar6_ NB402_448 (hHeld.2.2.2.2.2.1)), (cfar6_ NB403_448 (hHeld.2.2.2.2.2.2.1)), (cfar6_ NB403_448 (hHeld.2.2.2.2.2.2.2))⟩ (fun hHeld => ?_)
            clear hK K
            refine pure_ (i := 15) (N := some 18) (v := ?_) (a' := ?_) #[true, true, true, true, true, true, true, true, true, true, true, true, true, true, true, true] rfl rfl (any_of HT_.out (by kernel_rfl)) (fun _ _ _ h => h) (Or.inl ⟨by rfl, ?_⟩) ?_ ?_
            rotate_left
            ·intro w'
             go_simp
             with_reducible rfl
            rotate_left
            ·simp only [Act.put, sa_, s0_, ss_, i64_w, i32_w]
             rfl
            refine done_ (done_of HT_.out (by kernel_rfl)) ?_
            try go_wp2
            have n0_ : Aside0 (((((((w70.setCell ⟨gb448, 0, none⟩ (.bool t441)).setCell ⟨gb448, 1, none⟩ (.int .i64 t442)).setCell ⟨gb448, 2, none⟩ (.bool t443)).setCell ⟨gb448, 3, none⟩ (.int .i64 t444)).setCell ⟨gb448, 4, none⟩ (.int .u64 t445)).setCell ⟨gb448, 5, none⟩ (.int .u64 t446)).heap[gb402]? = some (.cells #[.bool a0_0, .int .i64 a0_1, .bool a0_2, .int .i64 a0_3, .int .u64 a0_4, .int .u64 a0_5] 24 (0, 0))) := ⟨by refine far6_ NB402_448 ?_; exact BK402.out⟩
            have n1_ : Aside0 (((((((w70.setCell ⟨gb448, 0, none⟩ (.bool t441)).setCell ⟨gb448, 1, none⟩ (.int .i64 t442)).setCell ⟨gb448, 2, none⟩ (.bool t443)).setCell ⟨gb448, 3, none⟩ (.int .i64 t444)).setCell ⟨gb448, 4, none⟩ (.int .u64 t445)).setCell ⟨gb448, 5, none⟩ (.int .u64 t446)).heap[gb403]? = some (.cells #[.int .i64 a1_0, .int .i64 a1_1] 26 (0, 0))) := ⟨by refine far6_ NB403_448 ?_; exact BK403.out⟩
            have n2_ : Aside0 (((((((w70.setCell ⟨gb448, 0, none⟩ (.bool t441)).setCell ⟨gb448, 1, none⟩ (.int .i64 t442)).setCell ⟨gb448, 2, none⟩ (.bool t443)).setCell ⟨gb448, 3, none⟩ (.int .i64 t444)).setCell ⟨gb448, 4, none⟩ (.int .u64 t445)).setCell ⟨gb448, 5, none⟩ (.int .u64 t446)).heap[gb412]? = some (.cells #[.bool t405, .int .i64 t406, .bool t407, .int .i64 t408, .int .u64 t409, .int .u64 t410] 24 (0, 0))) := ⟨by refine far6_ NB412_448 ?_; exact BK412.out⟩
            have n3_ : Aside0 (((((((w70.setCell ⟨gb448, 0, none⟩ (.bool t441)).setCell ⟨gb448, 1, none⟩ (.int .i64 t442)).setCell ⟨gb448, 2, none⟩ (.bool t443)).setCell ⟨gb448, 3, none⟩ (.int .i64 t444)).setCell ⟨gb448, 4, none⟩ (.int .u64 t445)).setCell ⟨gb448, 5, none⟩ (.int .u64 t446)).heap[gb426]? = some (.cells #[.bool t419, .int .i64 t420, .bool t421, .int .i64 t422, .int .u64 t423, .int .u64 t424] 41 (0, 0))) := ⟨by refine far6_ NB426_448 ?_; exact BK426.out⟩
            have n4_ : Aside0 (((((((w70.setCell ⟨gb448, 0, none⟩ (.bool t441)).setCell ⟨gb448, 1, none⟩ (.int .i64 t442)).setCell ⟨gb448, 2, none⟩ (.bool t443)).setCell ⟨gb448, 3, none⟩ (.int .i64 t444)).setCell ⟨gb448, 4, none⟩ (.int .u64 t445)).setCell ⟨gb448, 5, none⟩ (.int .u64 t446)).heap[gb434]? = some (.cells #[.bool t427, .int .i64 t428, .bool t429, .int .i64 t430, .int .u64 t431, .int .u64 t432] 24 (0, 0))) := ⟨by refine far6_ NB434_448 ?_; exact BK434.out⟩
            have n5_ : Aside0 (((((((w70.setCell ⟨gb448, 0, none⟩ (.bool t441)).setCell ⟨gb448, 1, none⟩ (.int .i64 t442)).setCell ⟨gb448, 2, none⟩ (.bool t443)).setCell ⟨gb448, 3, none⟩ (.int .i64 t444)).setCell ⟨gb448, 4, none⟩ (.int .u64 t445)).setCell ⟨gb448, 5, none⟩ (.int .u64 t446)).heap[gb448]? = some (.cells #[.bool t441, .int .i64 t442, .bool t443, .int .i64 t444, .int .u64 t445, .int .u64 t446] 41 (0, 0))) := ⟨by apply put6_; exact BK448.out⟩
            have n6_ : Aside0 (Below w.heap.size w ((((((w70.setCell ⟨gb448, 0, none⟩ (.bool t441)).setCell ⟨gb448, 1, none⟩ (.int .i64 t442)).setCell ⟨gb448, 2, none⟩ (.bool t443)).setCell ⟨gb448, 3, none⟩ (.int .i64 t444)).setCell ⟨gb448, 4, none⟩ (.int .u64 t445)).setCell ⟨gb448, 5, none⟩ (.int .u64 t446))) := ⟨by repeat (with_reducible first | exact HB.out | apply bs_ GE402 | apply bs_ GE403 | apply bs_ GE412 | apply bs_ GE426 | apply bs_ GE434 | apply bs_ GE448)⟩
            (try clear BK402)
            (try clear BK403)
            (try clear BK412)
            (try clear BK426)
            (try clear BK434)
            (try clear BK448)
            (try clear HB)
            generalize ((((((w70.setCell ⟨gb448, 0, none⟩ (.bool t441)).setCell ⟨gb448, 1, none⟩ (.int .i64 t442)).setCell ⟨gb448, 2, none⟩ (.bool t443)).setCell ⟨gb448, 3, none⟩ (.int .i64 t444)).setCell ⟨gb448, 4, none⟩ (.int .u64 t445)).setCell ⟨gb448, 5, none⟩ (.int .u64 t446)) = w77 at n0_ n1_ n2_ n3_ n4_ n5_ n6_ ⊢
            have BK402 := n0_
            have BK403 := n1_
            have BK412 := n2_
            have BK426 := n3_
            have BK434 := n4_
            have BK448 := n5_
            have HB := n6_
            clear n0_ n1_ n2_ n3_ n4_ n5_ n6_
            replace BK402 := m_ (blk_drew BK402.out)
            replace BK403 := m_ (blk_drew BK403.out)
            replace BK412 := m_ (blk_drew BK412.out)
            replace BK426 := m_ (blk_drew BK426.out)
            replace BK434 := m_ (blk_drew BK434.out)
            replace BK448 := m_ (blk_drew BK448.out)
            replace HB := m_ (below_drew1 HB.out)
            refine start_ (n := 16) (S := fun w' => w'.cell? ⟨gb402, 0, none⟩ = some (.bool a0_0) ∧ w'.cell? ⟨gb402, 1, none⟩ = some (.int .i64 a0_1) ∧ w'.cell? ⟨gb402, 2, none⟩ = some (.bool a0_2) ∧ w'.cell? ⟨gb402, 3, none⟩ = some (.int .i64 a0_3) ∧ w'.cell? ⟨gb402, 4, none⟩ = some (.int .u64 a0_4) ∧ w'.cell? ⟨gb402, 5, none⟩ = some (.int .u64 a0_5) ∧ w'.cell? ⟨gb403, 0, none⟩ = some (.int .i64 a1_0) ∧ w'.cell? ⟨gb403, 1, none⟩ = some (.int .i64 a1_1)) (ds := []) #[false, false, false, false, false, false, false, false, false, false, false, false, false, false, false, false] (by kernel_rfl) rfl rfl ⟨(blk_cell BK402.out 0).trans rfl, (blk_cell BK402.out 1).trans rfl, (blk_cell BK402.out 2).trans rfl, (blk_cell BK402.out 3).trans rfl, (blk_cell BK402.out 4).trans rfl, (blk_cell BK402.out 5).trans rfl, (blk_cell BK403.out 0).trans rfl, (blk_cell BK403.out 1).trans rfl⟩ (fun hHeld => ?_); refine with_tabW overfalllaw08_CodelLooks.tab7 overfalllaw08_CodelLooks.bits7 (fun HT_ HW_ => ?_)
            generalize w77.drew = w78 at BK402 BK403 BK412 BK426 BK434 BK448 HB hHeld ⊢
            refine pure_ (i := 2) (N := some 71) (v := ?_) (a' := ?_) #[false, false, true, false, false, false, false, false, false, false, false, false, false, false, false, false] rfl rfl (any_of HT_.out (by kernel_rfl)) (fun _ _ _ h => h) (Or.inl ⟨by rfl, ?_⟩) ?_ ?_
            rotate_left
            ·intro w'
             go_simp
             with_reducible rfl
            rotate_left
            ·simp only [Act.put, sa_, s0_, ss_, i64_w, i32_w]
             rfl
            refine pure_ (i := 4) (N := some 73) (v := ?_) (a' := ?_) #[false, false, true, false, true, false, false, false, false, false, false, false, false, false, false, false] rfl rfl (any_of HT_.out (by kernel_rfl)) (fun _ _ _ h => h) (Or.inl ⟨by rfl, ?_⟩) ?_ ?_
            rotate_left
            ·intro w'
             go_simp
             with_reducible rfl
            rotate_left
            ·simp only [Act.put, sa_, s0_, ss_, i64_w, i32_w]
             rfl
            refine pure_ (i := 6) (N := some 75) (v := ?_) (a' := ?_) #[false, false, true, false, true, false, true, false, false, false, false, false, false, false, false, false] rfl rfl (any_of HT_.out (by kernel_rfl)) (fun _ _ _ h => h) (Or.inl ⟨by rfl, ?_⟩) ?_ ?_
            rotate_left
            ·intro w'
             go_simp
             with_reducible rfl
            rotate_left
            ·simp only [Act.put, sa_, s0_, ss_, i64_w, i32_w]
             rfl
            refine pure_ (i := 7) (N := some 76) (v := ?_) (a' := ?_) #[false, false, true, false, true, false, true, true, false, false, false, false, false, false, false, false] rfl rfl (any_of HT_.out (by kernel_rfl)) (fun _ _ _ h => h) (Or.inl ⟨by rfl, ?_⟩) ?_ ?_
            rotate_left
            ·intro w'
             go_simp
             with_reducible rfl
            rotate_left
            ·simp only [Act.put, sa_, s0_, ss_, i64_w, i32_w]
             rfl
            refine pure_ (i := 8) (N := some 77) (v := ?_) (a' := ?_) #[false, false, true, false, true, false, true, true, true, false, false, false, false, false, false, false] rfl rfl (any_of HT_.out (by kernel_rfl)) (fun _ _ _ h => h) (Or.inl ⟨by rfl, ?_⟩) ?_ ?_
            rotate_left
            ·intro w'
             go_simp
             with_reducible rfl
            rotate_left
            ·simp only [Act.put, sa_, s0_, ss_, i64_w, i32_w]
             rfl
            refine take_ (i := 0) (N := some 69) (v := ?_) (a' := ?_) #[true, false, true, false, true, false, true, true, true, false, false, false, false, false, false, false] rfl rfl (take_ofW HT_.out HW_.out (by kernel_rfl)) (fun _ _ _ h => h) (Or.inl ⟨by rfl, ?_⟩) hHeld ?_ ?_
            rotate_left
            ·rintro w' ⟨s0, s1, s2, s3, s4, s5, s6, s7⟩
             go_simp
             with_reducible rfl
            rotate_left
            ·simp only [Act.put, sa_, s0_, ss_, i64_w, i32_w]
             rfl
            refine take_ (i := 3) (N := some 72) (v := ?_) (a' := ?_) #[true, false, true, true, true, false, true, true, true, false, false, false, false, false, false, false] rfl rfl (take_ofW HT_.out HW_.out (by kernel_rfl)) (fun _ _ _ h => h) (Or.inl ⟨by rfl, ?_⟩) hHeld ?_ ?_
            rotate_left
            ·rintro w' ⟨s0, s1, s2, s3, s4, s5, s6, s7⟩
             go_simp
             with_reducible rfl
            rotate_left
            ·simp only [Act.put, sa_, s0_, ss_, i64_w, i32_w]
             rfl
            refine take_ (i := 5) (N := some 74) (v := ?_) (a' := ?_) #[true, false, true, true, true, true, true, true, true, false, false, false, false, false, false, false] rfl rfl (take_ofW HT_.out HW_.out (by kernel_rfl)) (fun _ _ _ h => h) (Or.inl ⟨by rfl, ?_⟩) hHeld ?_ ?_
            rotate_left
            ·rintro w' ⟨s0, s1, s2, s3, s4, s5, s6, s7⟩
             go_simp
             with_reducible rfl
            rotate_left
            ·simp only [Act.put, sa_, s0_, ss_, i64_w, i32_w]
             rfl
            refine join_ (σ := Nat) 2 #[true, true, true, true, true, true, true, true, true, true, true, true, true, true, false, false] (fun s_ => [(70, .agg #[.bool t449, .int .i64 t450, .bool t451, .int .i64 t452, .int .u64 t453, .int .u64 t454]), (78, .tuple #[.agg #[.bool t455, .int .i64 t456, .bool t457, .int .i64 t458, .int .u64 t459, .int .u64 t460], .bool t461]), (19, .pointer (some ⟨s_, 0, none⟩)), (68, .tuple #[.agg #[.bool t455, .int .i64 t456, .bool t457, .int .i64 t458, .int .u64 t459, .int .u64 t460], .bool t461]), (79, .agg #[.bool t455, .int .i64 t456, .bool t457, .int .i64 t458, .int .u64 t459, .int .u64 t460]), (80, .bool t461)]) (fun s_ w' => (w'.cell? ⟨gb402, 0, none⟩ = some (.bool a0_0) ∧ w'.cell? ⟨gb402, 1, none⟩ = some (.int .i64 a0_1) ∧ w'.cell? ⟨gb402, 2, none⟩ = some (.bool a0_2) ∧ w'.cell? ⟨gb402, 3, none⟩ = some (.int .i64 a0_3) ∧ w'.cell? ⟨gb402, 4, none⟩ = some (.int .u64 a0_4) ∧ w'.cell? ⟨gb402, 5, none⟩ = some (.int .u64 a0_5) ∧ w'.cell? ⟨gb403, 0, none⟩ = some (.int .i64 a1_0) ∧ w'.cell? ⟨gb403, 1, none⟩ = some (.int .i64 a1_1)) ∧ (w'.heap[gb402]? = some (.cells #[.bool a0_0, .int .i64 a0_1, .bool a0_2, .int .i64 a0_3, .int .u64 a0_4, .int .u64 a0_5] 24 (0, 0))) ∧ (w'.heap[gb403]? = some (.cells #[.int .i64 a1_0, .int .i64 a1_1] 26 (0, 0))) ∧ (w'.heap[gb412]? = some (.cells #[.bool t405, .int .i64 t406, .bool t407, .int .i64 t408, .int .u64 t409, .int .u64 t410] 24 (0, 0))) ∧ (w'.heap[gb426]? = some (.cells #[.bool t419, .int .i64 t420, .bool t421, .int .i64 t422, .int .u64 t423, .int .u64 t424] 41 (0, 0))) ∧ (w'.heap[gb434]? = some (.cells #[.bool t427, .int .i64 t428, .bool t429, .int .i64 t430, .int .u64 t431, .int .u64 t432] 24 (0, 0))) ∧ (w'.heap[gb448]? = some (.cells #[.bool t441, .int .i64 t442, .bool t443, .int .i64 t444, .int .u64 t445, .int .u64 t446] 41 (0, 0))) ∧ (w'.heap[s_]? = some (.cells #[.bool false, .int .i64 0, .bool false, .int .i64 0, .int .u64 0, .int .u64 0] 41 (0, 0))) ∧ (w.heap.size ≤ s_) ∧ (w.heap.size ≤ s_) ∧ (gb402 ≠ s_) ∧ (s_ ≠ gb402) ∧ (gb403 ≠ s_) ∧ (s_ ≠ gb403) ∧ (gb412 ≠ s_) ∧ (s_ ≠ gb412) ∧ (gb426 ≠ s_) ∧ (s_ ≠ gb426) ∧ (gb434 ≠ s_) ∧ (s_ ≠ gb434) ∧ (gb448 ≠ s_) ∧ (s_ ≠ gb448) ∧ (Below w.heap.size w w')) ?_ ?_
            rotate_left
            ·intro hCont
             refine two_ (i := 1) (j := 13) (Ni := some 70) (Nj := some 19) #[true, true, true, true, true, true, true, true, true, false, false, false, false, false, false, false] #[true, false, true, true, true, true, true, true, true, false, false, false, false, true, false, false] rfl rfl rfl rfl (two_of HT_.out (by kernel_rfl)) (by decide) (by decide) (fun K hK => ?_) (fun K hK => ?_)
             ·skip
              refine goes_ Try.func18 (by kernel_rfl) rfl #[.agg #[.bool a0_0, .int .i64 a0_1, .bool a0_2, .int .i64 a0_3, .int .u64 a0_4, .int .u64 a0_5]] (by rfl) rfl rfl (by first | rfl | (simp only [List.map_toArray, List.map_cons, List.map_nil]; first | done | rfl)) ?_
              with_reducible refine (overfalllaw08_own.calls a0_0 a0_1 a0_2 a0_3 a0_4 a0_5 t449 t450 t451 t452 t453 t454 _ A14.out).mono ?_
              rintro e w79 ⟨rfl, hb⟩
              refine ⟨_, rfl, ?_⟩
              replace BK402 := bb_ BK402 hb
              replace BK403 := bb_ BK403 hb
              replace BK412 := bb_ BK412 hb
              replace BK426 := bb_ BK426 hb
              replace BK434 := bb_ BK434 hb
              replace BK448 := bb_ BK448 hb
              replace HB := st_ (by repeat (with_reducible first | exact HB.out | apply bs_ GE402 | apply bs_ GE403 | apply bs_ GE412 | apply bs_ GE426 | apply bs_ GE434 | apply bs_ GE448)) hb
              (try clear hb)
              (try clear hb2)
              (try clear hk)
              (try clear hi)
              refine hK.out _ _ ⟨(blk_cell BK402.out 0).trans rfl, (blk_cell BK402.out 1).trans rfl, (blk_cell BK402.out 2).trans rfl, (blk_cell BK402.out 3).trans rfl, (blk_cell BK402.out 4).trans rfl, (blk_cell BK402.out 5).trans rfl, (blk_cell BK403.out 0).trans rfl, (blk_cell BK403.out 1).trans rfl⟩ (fun hHeld => ?_)
              clear hK K
              refine norm_ (a' := ?_) ?_ ?_
              rotate_left
              ·show Act.put _ (some 70) _ = _
               simp only [Act.put, sa_, s0_, ss_, i64_w, i32_w]
               rfl
              refine two_ (i := 9) (j := 13) (Ni := some 78) (Nj := some 19) #[true, true, true, true, true, true, true, true, true, true, false, false, false, false, false, false] #[true, true, true, true, true, true, true, true, true, false, false, false, false, true, false, false] rfl rfl rfl rfl (two_of HT_.out (by kernel_rfl)) (by decide) (by decide) (fun K hK => ?_) (fun K hK => ?_)
              ·skip
               refine goes_ Try.func20 (by kernel_rfl) rfl #[.agg #[.bool t449, .int .i64 t450, .bool t451, .int .i64 t452, .int .u64 t453, .int .u64 t454], .int .i64 a1_0, .int .i64 a1_1, .int .i64 a2, .int .i64 a3, .int .i64 a4] (by rfl) rfl rfl (by first | rfl | (simp only [List.map_toArray, List.map_cons, List.map_nil]; first | done | rfl)) ?_
               with_reducible refine (overfallref08_Note.calls k t449 t450 t451 t452 t453 t454 a1_0 a1_1 a2 a3 a4 t455 t456 t457 t458 t459 t460 t461 _ A15.out).mono ?_
               rintro e w80 ⟨rfl, hb⟩
               refine ⟨_, rfl, ?_⟩
               replace BK402 := bb_ BK402 hb
               replace BK403 := bb_ BK403 hb
               replace BK412 := bb_ BK412 hb
               replace BK426 := bb_ BK426 hb
               replace BK434 := bb_ BK434 hb
               replace BK448 := bb_ BK448 hb
               replace HB := st_ (by repeat (with_reducible first | exact HB.out | apply bs_ GE402 | apply bs_ GE403 | apply bs_ GE412 | apply bs_ GE426 | apply bs_ GE434 | apply bs_ GE448)) hb
               (try clear hb)
               (try clear hb2)
               (try clear hk)
               (try clear hi)
               refine hK.out _ _ ⟨(blk_cell BK402.out 0).trans rfl, (blk_cell BK402.out 1).trans rfl, (blk_cell BK402.out 2).trans rfl, (blk_cell BK402.out 3).trans rfl, (blk_cell BK402.out 4).trans rfl, (blk_cell BK402.out 5).trans rfl, (blk_cell BK403.out 0).trans rfl, (blk_cell BK403.out 1).trans rfl⟩ (fun hHeld => ?_)
               clear hK K
               refine norm_ (a' := ?_) ?_ ?_
               rotate_left
               ·show Act.put _ (some 78) _ = _
                simp only [Act.put, sa_, s0_, ss_, i64_w, i32_w]
                rfl
               refine pure_ (i := 10) (N := some 68) (v := ?_) (a' := ?_) #[true, true, true, true, true, true, true, true, true, true, true, false, false, false, false, false] rfl rfl (any_of HT_.out (by kernel_rfl)) (fun _ _ _ h => h) (Or.inl ⟨by rfl, ?_⟩) ?_ ?_
               rotate_left
               ·intro w'
                go_simp
                with_reducible rfl
               rotate_left
               ·simp only [Act.put, sa_, s0_, ss_, i64_w, i32_w]
                rfl
               refine pure_ (i := 11) (N := some 79) (v := ?_) (a' := ?_) #[true, true, true, true, true, true, true, true, true, true, true, true, false, false, false, false] rfl rfl (any_of HT_.out (by kernel_rfl)) (fun _ _ _ h => h) (Or.inl ⟨by rfl, ?_⟩) ?_ ?_
               rotate_left
               ·intro w'
                go_simp
                with_reducible rfl
               rotate_left
               ·simp only [Act.put, sa_, s0_, ss_, i64_w, i32_w]
                rfl
               refine pure_ (i := 12) (N := some 80) (v := ?_) (a' := ?_) #[true, true, true, true, true, true, true, true, true, true, true, true, true, false, false, false] rfl rfl (any_of HT_.out (by kernel_rfl)) (fun _ _ _ h => h) (Or.inl ⟨by rfl, ?_⟩) ?_ ?_
               rotate_left
               ·intro w'
                go_simp
                with_reducible rfl
               rotate_left
               ·simp only [Act.put, sa_, s0_, ss_, i64_w, i32_w]
                rfl
               refine one_ (i := 13) (N := some 19) #[true, true, true, true, true, true, true, true, true, true, true, true, true, true, false, false] rfl rfl (one_of HT_.out (by kernel_rfl)) (by decide) (fun K hK => ?_)
               refine box_step ?hg (N := 19) ?hd (cs := #[.bool false, .int .i64 0, .bool false, .int .i64 0, .int .u64 0, .int .u64 0]) (t := 41) ?hr ?_; (case hd => rfl); (case hg => rfl); (case hr => first | (go_simp; done) | (go_simp; rfl))
               intro gb462 hg w81 hbox hb
               have BK462 := m_ (hbox)
               have GW462 := ge_ (by repeat (with_reducible first | exact HB.out | apply bs_ GE402 | apply bs_ GE403 | apply bs_ GE412 | apply bs_ GE426 | apply bs_ GE434 | apply bs_ GE448)) hg
               have GE462 := GW462
               have NB402_462 := nl_ BK402 hg
               have NB462_402 := ng_ BK402 hg
               have NB403_462 := nl_ BK403 hg
               have NB462_403 := ng_ BK403 hg
               have NB412_462 := nl_ BK412 hg
               have NB462_412 := ng_ BK412 hg
               have NB426_462 := nl_ BK426 hg
               have NB462_426 := ng_ BK426 hg
               have NB434_462 := nl_ BK434 hg
               have NB462_434 := ng_ BK434 hg
               have NB448_462 := nl_ BK448 hg
               have NB462_448 := ng_ BK448 hg
               replace BK402 := bb_ BK402 hb
               replace BK403 := bb_ BK403 hb
               replace BK412 := bb_ BK412 hb
               replace BK426 := bb_ BK426 hb
               replace BK434 := bb_ BK434 hb
               replace BK448 := bb_ BK448 hb
               replace HB := st_ (by repeat (with_reducible first | exact HB.out | apply bs_ GE402 | apply bs_ GE403 | apply bs_ GE412 | apply bs_ GE426 | apply bs_ GE434 | apply bs_ GE448)) hb
               clear hb hbox hg
               refine hK.out _ _ ⟨(blk_cell BK402.out 0).trans rfl, (blk_cell BK402.out 1).trans rfl, (blk_cell BK402.out 2).trans rfl, (blk_cell BK402.out 3).trans rfl, (blk_cell BK402.out 4).trans rfl, (blk_cell BK402.out 5).trans rfl, (blk_cell BK403.out 0).trans rfl, (blk_cell BK403.out 1).trans rfl⟩ (fun hHeld => ?_)
               clear hK K
               refine norm_ (a' := ?_) ?_ ?_
               rotate_left
               ·show Act.put _ (some 19) _ = _
                simp only [Act.put, sa_, s0_, ss_, i64_w, i32_w]
                rfl
               exact norm_ (by simp only [putAll, Act.put, sa_, s0_, ss_]) (hCont (gb462) _ ⟨hHeld, (by exact BK402.out), (by exact BK403.out), (by exact BK412.out), (by exact BK426.out), (by exact BK434.out), (by exact BK448.out), (by exact BK462.out), GW462.out, GE462.out, NB402_462.out, NB462_402.out, NB403_462.out, NB462_403.out, NB412_462.out, NB462_412.out, NB426_462.out, NB462_426.out, NB434_462.out, NB462_434.out, NB448_462.out, NB462_448.out, (by repeat (with_reducible first | exact HB.out | apply bs_ GE402 | apply bs_ GE403 | apply bs_ GE412 | apply bs_ GE426 | apply bs_ GE434 | apply bs_ GE448 | apply bs_ GE462))⟩)
              ·skip
               refine box_step ?hg (N := 19) ?hd (cs := #[.bool false, .int .i64 0, .bool false, .int .i64 0, .int .u64 0, .int .u64 0]) (t := 41) ?hr ?_; (case hd => rfl); (case hg => rfl); (case hr => first | (go_simp; done) | (go_simp; rfl))
               intro gb462 hg w80 hbox hb
               have BK462 := m_ (hbox)
               have GW462 := ge_ (by repeat (with_reducible first | exact HB.out | apply bs_ GE402 | apply bs_ GE403 | apply bs_ GE412 | apply bs_ GE426 | apply bs_ GE434 | apply bs_ GE448)) hg
               have GE462 := GW462
               have NB402_462 := nl_ BK402 hg
               have NB462_402 := ng_ BK402 hg
               have NB403_462 := nl_ BK403 hg
               have NB462_403 := ng_ BK403 hg
               have NB412_462 := nl_ BK412 hg
               have NB462_412 := ng_ BK412 hg
               have NB426_462 := nl_ BK426 hg
               have NB462_426 := ng_ BK426 hg
               have NB434_462 := nl_ BK434 hg
               have NB462_434 := ng_ BK434 hg
               have NB448_462 := nl_ BK448 hg
               have NB462_448 := ng_ BK448 hg
               replace BK402 := bb_ BK402 hb
               replace BK403 := bb_ BK403 hb
               replace BK412 := bb_ BK412 hb
               replace BK426 := bb_ BK426 hb
               replace BK434 := bb_ BK434 hb
               replace BK448 := bb_ BK448 hb
               replace HB := st_ (by repeat (with_reducible first | exact HB.out | apply bs_ GE402 | apply bs_ GE403 | apply bs_ GE412 | apply bs_ GE426 | apply bs_ GE434 | apply bs_ GE448)) hb
               clear hb hbox hg
               refine hK.out _ _ ⟨(blk_cell BK402.out 0).trans rfl, (blk_cell BK402.out 1).trans rfl, (blk_cell BK402.out 2).trans rfl, (blk_cell BK402.out 3).trans rfl, (blk_cell BK402.out 4).trans rfl, (blk_cell BK402.out 5).trans rfl, (blk_cell BK403.out 0).trans rfl, (blk_cell BK403.out 1).trans rfl⟩ (fun hHeld => ?_)
               clear hK K
               refine norm_ (a' := ?_) ?_ ?_
               rotate_left
               ·show Act.put _ (some 19) _ = _
                simp only [Act.put, sa_, s0_, ss_, i64_w, i32_w]
                rfl
               refine one_ (i := 9) (N := some 78) #[true, true, true, true, true, true, true, true, true, true, false, false, false, true, false, false] rfl rfl (one_of HT_.out (by kernel_rfl)) (by decide) (fun K hK => ?_)
               refine goes_ Try.func20 (by kernel_rfl) rfl #[.agg #[.bool t449, .int .i64 t450, .bool t451, .int .i64 t452, .int .u64 t453, .int .u64 t454], .int .i64 a1_0, .int .i64 a1_1, .int .i64 a2, .int .i64 a3, .int .i64 a4] (by rfl) rfl rfl (by first | rfl | (simp only [List.map_toArray, List.map_cons, List.map_nil]; first | done | rfl)) ?_
               with_reducible refine (overfallref08_Note.calls k t449 t450 t451 t452 t453 t454 a1_0 a1_1 a2 a3 a4 t455 t456 t457 t458 t459 t460 t461 _ A15.out).mono ?_
               rintro e w81 ⟨rfl, hb⟩
               refine ⟨_, rfl, ?_⟩
               replace BK402 := bb_ BK402 hb
               replace BK403 := bb_ BK403 hb
               replace BK412 := bb_ BK412 hb
               replace BK426 := bb_ BK426 hb
               replace BK434 := bb_ BK434 hb
               replace BK448 := bb_ BK448 hb
               replace BK462 := bb_ BK462 hb
               replace HB := st_ (by repeat (with_reducible first | exact HB.out | apply bs_ GE402 | apply bs_ GE403 | apply bs_ GE412 | apply bs_ GE426 | apply bs_ GE434 | apply bs_ GE448 | apply bs_ GE462)) hb
               (try clear hb)
               (try clear hb2)
               (try clear hk)
               (try clear hi)
               refine hK.out _ _ ⟨(blk_cell BK402.out 0).trans rfl, (blk_cell BK402.out 1).trans rfl, (blk_cell BK402.out 2).trans rfl, (blk_cell BK402.out 3).trans rfl, (blk_cell BK402.out 4).trans rfl, (blk_cell BK402.out 5).trans rfl, (blk_cell BK403.out 0).trans rfl, (blk_cell BK403.out 1).trans rfl⟩ (fun hHeld => ?_)
               clear hK K
               refine norm_ (a' := ?_) ?_ ?_
               rotate_left
               ·show Act.put _ (some 78) _ = _
                simp only [Act.put, sa_, s0_, ss_, i64_w, i32_w]
                rfl
               refine pure_ (i := 10) (N := some 68) (v := ?_) (a' := ?_) #[true, true, true, true, true, true, true, true, true, true, true, false, false, true, false, false] rfl rfl (any_of HT_.out (by kernel_rfl)) (fun _ _ _ h => h) (Or.inl ⟨by rfl, ?_⟩) ?_ ?_
               rotate_left
               ·intro w'
                go_simp
                with_reducible rfl
               rotate_left
               ·simp only [Act.put, sa_, s0_, ss_, i64_w, i32_w]
                rfl
               refine pure_ (i := 11) (N := some 79) (v := ?_) (a' := ?_) #[true, true, true, true, true, true, true, true, true, true, true, true, false, true, false, false] rfl rfl (any_of HT_.out (by kernel_rfl)) (fun _ _ _ h => h) (Or.inl ⟨by rfl, ?_⟩) ?_ ?_
               rotate_left
               ·intro w'
                go_simp
                with_reducible rfl
               rotate_left
               ·simp only [Act.put, sa_, s0_, ss_, i64_w, i32_w]
                rfl
               refine pure_ (i := 12) (N := some 80) (v := ?_) (a' := ?_) #[true, true, true, true, true, true, true, true, true, true, true, true, true, true, false, false] rfl rfl (any_of HT_.out (by kernel_rfl)) (fun _ _ _ h => h) (Or.inl ⟨by rfl, ?_⟩) ?_ ?_
               rotate_left
               ·intro w'
                go_simp
                with_reducible rfl
               rotate_left
               ·simp only [Act.put, sa_, s0_, ss_, i64_w, i32_w]
                rfl
               exact norm_ (by simp only [putAll, Act.put, sa_, s0_, ss_]) (hCont (gb462) _ ⟨hHeld, (by exact BK402.out), (by exact BK403.out), (by exact BK412.out), (by exact BK426.out), (by exact BK434.out), (by exact BK448.out), (by exact BK462.out), GW462.out, GE462.out, NB402_462.out, NB462_402.out, NB403_462.out, NB462_403.out, NB412_462.out, NB462_412.out, NB426_462.out, NB462_426.out, NB434_462.out, NB462_434.out, NB448_462.out, NB462_448.out, (by repeat (with_reducible first | exact HB.out | apply bs_ GE402 | apply bs_ GE403 | apply bs_ GE412 | apply bs_ GE426 | apply bs_ GE434 | apply bs_ GE448 | apply bs_ GE462))⟩)
             ·skip
              refine box_step ?hg (N := 19) ?hd (cs := #[.bool false, .int .i64 0, .bool false, .int .i64 0, .int .u64 0, .int .u64 0]) (t := 41) ?hr ?_; (case hd => rfl); (case hg => rfl); (case hr => first | (go_simp; done) | (go_simp; rfl))
              intro gb462 hg w79 hbox hb
              have BK462 := m_ (hbox)
              have GW462 := ge_ (by repeat (with_reducible first | exact HB.out | apply bs_ GE402 | apply bs_ GE403 | apply bs_ GE412 | apply bs_ GE426 | apply bs_ GE434 | apply bs_ GE448)) hg
              have GE462 := GW462
              have NB402_462 := nl_ BK402 hg
              have NB462_402 := ng_ BK402 hg
              have NB403_462 := nl_ BK403 hg
              have NB462_403 := ng_ BK403 hg
              have NB412_462 := nl_ BK412 hg
              have NB462_412 := ng_ BK412 hg
              have NB426_462 := nl_ BK426 hg
              have NB462_426 := ng_ BK426 hg
              have NB434_462 := nl_ BK434 hg
              have NB462_434 := ng_ BK434 hg
              have NB448_462 := nl_ BK448 hg
              have NB462_448 := ng_ BK448 hg
              replace BK402 := bb_ BK402 hb
              replace BK403 := bb_ BK403 hb
              replace BK412 := bb_ BK412 hb
              replace BK426 := bb_ BK426 hb
              replace BK434 := bb_ BK434 hb
              replace BK448 := bb_ BK448 hb
              replace HB := st_ (by repeat (with_reducible first | exact HB.out | apply bs_ GE402 | apply bs_ GE403 | apply bs_ GE412 | apply bs_ GE426 | apply bs_ GE434 | apply bs_ GE448)) hb
              clear hb hbox hg
              refine hK.out _ _ ⟨(blk_cell BK402.out 0).trans rfl, (blk_cell BK402.out 1).trans rfl, (blk_cell BK402.out 2).trans rfl, (blk_cell BK402.out 3).trans rfl, (blk_cell BK402.out 4).trans rfl, (blk_cell BK402.out 5).trans rfl, (blk_cell BK403.out 0).trans rfl, (blk_cell BK403.out 1).trans rfl⟩ (fun hHeld => ?_)
              clear hK K
              refine norm_ (a' := ?_) ?_ ?_
              rotate_left
              ·show Act.put _ (some 19) _ = _
               simp only [Act.put, sa_, s0_, ss_, i64_w, i32_w]
               rfl
              refine one_ (i := 1) (N := some 70) #[true, true, true, true, true, true, true, true, true, false, false, false, false, true, false, false] rfl rfl (one_of HT_.out (by kernel_rfl)) (by decide) (fun K hK => ?_)
              refine goes_ Try.func18 (by kernel_rfl) rfl #[.agg #[.bool a0_0, .int .i64 a0_1, .bool a0_2, .int .i64 a0_3, .int .u64 a0_4, .int .u64 a0_5]] (by rfl) rfl rfl (by first | rfl | (simp only [List.map_toArray, List.map_cons, List.map_nil]; first | done | rfl)) ?_
              with_reducible refine (overfalllaw08_own.calls a0_0 a0_1 a0_2 a0_3 a0_4 a0_5 t449 t450 t451 t452 t453 t454 _ A14.out).mono ?_
              rintro e w80 ⟨rfl, hb⟩
              refine ⟨_, rfl, ?_⟩
              replace BK402 := bb_ BK402 hb
              replace BK403 := bb_ BK403 hb
              replace BK412 := bb_ BK412 hb
              replace BK426 := bb_ BK426 hb
              replace BK434 := bb_ BK434 hb
              replace BK448 := bb_ BK448 hb
              replace BK462 := bb_ BK462 hb
              replace HB := st_ (by repeat (with_reducible first | exact HB.out | apply bs_ GE402 | apply bs_ GE403 | apply bs_ GE412 | apply bs_ GE426 | apply bs_ GE434 | apply bs_ GE448 | apply bs_ GE462)) hb
              (try clear hb)
              (try clear hb2)
              (try clear hk)
              (try clear hi)
              refine hK.out _ _ ⟨(blk_cell BK402.out 0).trans rfl, (blk_cell BK402.out 1).trans rfl, (blk_cell BK402.out 2).trans rfl, (blk_cell BK402.out 3).trans rfl, (blk_cell BK402.out 4).trans rfl, (blk_cell BK402.out 5).trans rfl, (blk_cell BK403.out 0).trans rfl, (blk_cell BK403.out 1).trans rfl⟩ (fun hHeld => ?_)
              clear hK K
              refine norm_ (a' := ?_) ?_ ?_
              rotate_left
              ·show Act.put _ (some 70) _ = _
               simp only [Act.put, sa_, s0_, ss_, i64_w, i32_w]
               rfl
              refine one_ (i := 9) (N := some 78) #[true, true, true, true, true, true, true, true, true, true, false, false, false, true, false, false] rfl rfl (one_of HT_.out (by kernel_rfl)) (by decide) (fun K hK => ?_)
              refine goes_ Try.func20 (by kernel_rfl) rfl #[.agg #[.bool t449, .int .i64 t450, .bool t451, .int .i64 t452, .int .u64 t453, .int .u64 t454], .int .i64 a1_0, .int .i64 a1_1, .int .i64 a2, .int .i64 a3, .int .i64 a4] (by rfl) rfl rfl (by first | rfl | (simp only [List.map_toArray, List.map_cons, List.map_nil]; first | done | rfl)) ?_
              with_reducible refine (overfallref08_Note.calls k t449 t450 t451 t452 t453 t454 a1_0 a1_1 a2 a3 a4 t455 t456 t457 t458 t459 t460 t461 _ A15.out).mono ?_
              rintro e w81 ⟨rfl, hb⟩
              refine ⟨_, rfl, ?_⟩
              replace BK402 := bb_ BK402 hb
              replace BK403 := bb_ BK403 hb
              replace BK412 := bb_ BK412 hb
              replace BK426 := bb_ BK426 hb
              replace BK434 := bb_ BK434 hb
              replace BK448 := bb_ BK448 hb
              replace BK462 := bb_ BK462 hb
              replace HB := st_ (by repeat (with_reducible first | exact HB.out | apply bs_ GE402 | apply bs_ GE403 | apply bs_ GE412 | apply bs_ GE426 | apply bs_ GE434 | apply bs_ GE448 | apply bs_ GE462)) hb
              (try clear hb)
              (try clear hb2)
              (try clear hk)
              (try clear hi)
              refine hK.out _ _ ⟨(blk_cell BK402.out 0).trans rfl, (blk_cell BK402.out 1).trans rfl, (blk_cell BK402.out 2).trans rfl, (blk_cell BK402.out 3).trans rfl, (blk_cell BK402.out 4).trans rfl, (blk_cell BK402.out 5).trans rfl, (blk_cell BK403.out 0).trans rfl, (blk_cell BK403.out 1).trans rfl⟩ (fun hHeld => ?_)
              clear hK K
              refine norm_ (a' := ?_) ?_ ?_
              rotate_left
              ·show Act.put _ (some 78) _ = _
               simp only [Act.put, sa_, s0_, ss_, i64_w, i32_w]
               rfl
              refine pure_ (i := 10) (N := some 68) (v := ?_) (a' := ?_) #[true, true, true, true, true, true, true, true, true, true, true, false, false, true, false, false] rfl rfl (any_of HT_.out (by kernel_rfl)) (fun _ _ _ h => h) (Or.inl ⟨by rfl, ?_⟩) ?_ ?_
              rotate_left
              ·intro w'
               go_simp
               with_reducible rfl
              rotate_left
              ·simp only [Act.put, sa_, s0_, ss_, i64_w, i32_w]
               rfl
              refine pure_ (i := 11) (N := some 79) (v := ?_) (a' := ?_) #[true, true, true, true, true, true, true, true, true, true, true, true, false, true, false, false] rfl rfl (any_of HT_.out (by kernel_rfl)) (fun _ _ _ h => h) (Or.inl ⟨by rfl, ?_⟩) ?_ ?_
              rotate_left
              ·intro w'
               go_simp
               with_reducible rfl
              rotate_left
              ·simp only [Act.put, sa_, s0_, ss_, i64_w, i32_w]
               rfl
              refine pure_ (i := 12) (N := some 80) (v := ?_) (a' := ?_) #[true, true, true, true, true, true, true, true, true, true, true, true, true, true, false, false] rfl rfl (any_of HT_.out (by kernel_rfl)) (fun _ _ _ h => h) (Or.inl ⟨by rfl, ?_⟩) ?_ ?_
              rotate_left
              ·intro w'
               go_simp
               with_reducible rfl
              rotate_left
              ·simp only [Act.put, sa_, s0_, ss_, i64_w, i32_w]
               rfl
              exact norm_ (by simp only [putAll, Act.put, sa_, s0_, ss_]) (hCont (gb462) _ ⟨hHeld, (by exact BK402.out), (by exact BK403.out), (by exact BK412.out), (by exact BK426.out), (by exact BK434.out), (by exact BK448.out), (by exact BK462.out), GW462.out, GE462.out, NB402_462.out, NB462_402.out, NB403_462.out, NB462_403.out, NB412_462.out, NB462_412.out, NB426_462.out, NB462_426.out, NB434_462.out, NB462_434.out, NB448_462.out, NB462_448.out, (by repeat (with_reducible first | exact HB.out | apply bs_ GE402 | apply bs_ GE403 | apply bs_ GE412 | apply bs_ GE426 | apply bs_ GE434 | apply bs_ GE448 | apply bs_ GE462))⟩)
            rintro gb462 w82 ⟨hS_, h0_, h1_, h2_, h3_, h4_, h5_, h6_, h7_, h8_, h9_, h10_, h11_, h12_, h13_, h14_, h15_, h16_, h17_, h18_, h19_, h20_, h21_⟩
            have n0_ : Aside0 (w82.heap[gb402]? = some (.cells #[.bool a0_0, .int .i64 a0_1, .bool a0_2, .int .i64 a0_3, .int .u64 a0_4, .int .u64 a0_5] 24 (0, 0))) := ⟨h0_⟩
            have n1_ : Aside0 (w82.heap[gb403]? = some (.cells #[.int .i64 a1_0, .int .i64 a1_1] 26 (0, 0))) := ⟨h1_⟩
            have n2_ : Aside0 (w82.heap[gb412]? = some (.cells #[.bool t405, .int .i64 t406, .bool t407, .int .i64 t408, .int .u64 t409, .int .u64 t410] 24 (0, 0))) := ⟨h2_⟩
            have n3_ : Aside0 (w82.heap[gb426]? = some (.cells #[.bool t419, .int .i64 t420, .bool t421, .int .i64 t422, .int .u64 t423, .int .u64 t424] 41 (0, 0))) := ⟨h3_⟩
            have n4_ : Aside0 (w82.heap[gb434]? = some (.cells #[.bool t427, .int .i64 t428, .bool t429, .int .i64 t430, .int .u64 t431, .int .u64 t432] 24 (0, 0))) := ⟨h4_⟩
            have n5_ : Aside0 (w82.heap[gb448]? = some (.cells #[.bool t441, .int .i64 t442, .bool t443, .int .i64 t444, .int .u64 t445, .int .u64 t446] 41 (0, 0))) := ⟨h5_⟩
            have n6_ : Aside0 (w82.heap[gb462]? = some (.cells #[.bool false, .int .i64 0, .bool false, .int .i64 0, .int .u64 0, .int .u64 0] 41 (0, 0))) := ⟨h6_⟩
            have n7_ : Aside0 (w.heap.size ≤ gb462) := ⟨h7_⟩
            have n8_ : Aside0 (w.heap.size ≤ gb462) := ⟨h8_⟩
            have n9_ : Aside0 (gb402 ≠ gb462) := ⟨h9_⟩
            have n10_ : Aside0 (gb462 ≠ gb402) := ⟨h10_⟩
            have n11_ : Aside0 (gb403 ≠ gb462) := ⟨h11_⟩
            have n12_ : Aside0 (gb462 ≠ gb403) := ⟨h12_⟩
            have n13_ : Aside0 (gb412 ≠ gb462) := ⟨h13_⟩
            have n14_ : Aside0 (gb462 ≠ gb412) := ⟨h14_⟩
            have n15_ : Aside0 (gb426 ≠ gb462) := ⟨h15_⟩
            have n16_ : Aside0 (gb462 ≠ gb426) := ⟨h16_⟩
            have n17_ : Aside0 (gb434 ≠ gb462) := ⟨h17_⟩
            have n18_ : Aside0 (gb462 ≠ gb434) := ⟨h18_⟩
            have n19_ : Aside0 (gb448 ≠ gb462) := ⟨h19_⟩
            have n20_ : Aside0 (gb462 ≠ gb448) := ⟨h20_⟩
            have n21_ : Aside0 (Below w.heap.size w w82) := ⟨h21_⟩
            clear BK402
            clear BK403
            clear BK412
            clear BK426
            clear BK434
            clear BK448
            clear HB
            clear h0_ h1_ h2_ h3_ h4_ h5_ h6_ h7_ h8_ h9_ h10_ h11_ h12_ h13_ h14_ h15_ h16_ h17_ h18_ h19_ h20_ h21_
            have BK402 := n0_
            have BK403 := n1_
            have BK412 := n2_
            have BK426 := n3_
            have BK434 := n4_
            have BK448 := n5_
            have BK462 := n6_
            have GW462 := n7_
            have GE462 := n8_
            have NB402_462 := n9_
            have NB462_402 := n10_
            have NB403_462 := n11_
            have NB462_403 := n12_
            have NB412_462 := n13_
            have NB462_412 := n14_
            have NB426_462 := n15_
            have NB462_426 := n16_
            have NB434_462 := n17_
            have NB462_434 := n18_
            have NB448_462 := n19_
            have NB462_448 := n20_
            have HB := n21_
            clear n0_ n1_ n2_ n3_ n4_ n5_ n6_ n7_ n8_ n9_ n10_ n11_ n12_ n13_ n14_ n15_ n16_ n17_ n18_ n19_ n20_ n21_
            have hHeld : w82.cell? ⟨gb402, 0, none⟩ = some (.bool a0_0) ∧ w82.cell? ⟨gb402, 1, none⟩ = some (.int .i64 a0_1) ∧ w82.cell? ⟨gb402, 2, none⟩ = some (.bool a0_2) ∧ w82.cell? ⟨gb402, 3, none⟩ = some (.int .i64 a0_3) ∧ w82.cell? ⟨gb402, 4, none⟩ = some (.int .u64 a0_4) ∧ w82.cell? ⟨gb402, 5, none⟩ = some (.int .u64 a0_5) ∧ w82.cell? ⟨gb403, 0, none⟩ = some (.int .i64 a1_0) ∧ w82.cell? ⟨gb403, 1, none⟩ = some (.int .i64 a1_1) := hS_
            refine norm_ (a' := ?_) ?_ ?_
            rotate_left
            ·simp only [putAll, Act.put, sa_, s0_, ss_]
             rfl
            refine one_ (i := 14) (N := none) #[true, true, true, true, true, true, true, true, true, true, true, true, true, true, true, false] rfl rfl (one_of HT_.out (by kernel_rfl)) (by decide) (fun K hK => ?_)
            have hs83 : w82.cell? ⟨gb462, 0, none⟩ = some (.bool false) := (blk_cell BK462.out 0).trans rfl
            have hfs83 := blk_frozen BK462.out 0
            have hns83_0 := NB402_462.out
            have hns83_1 := NB403_462.out
            have hns83_2 := NB412_462.out
            have hns83_3 := NB426_462.out
            have hns83_4 := NB434_462.out
            have hns83_5 := NB448_462.out
            have hms83_0 := NB462_402.out
            have hms83_1 := NB462_403.out
            have hms83_2 := NB462_412.out
            have hms83_3 := NB462_426.out
            have hms83_4 := NB462_434.out
            have hms83_5 := NB462_448.out
            have hs84 : w82.cell? ⟨gb462, 1, none⟩ = some (.int .i64 0) := (blk_cell BK462.out 1).trans rfl
            have hfs84 := blk_frozen BK462.out 1
            have hns84_0 := NB402_462.out
            have hns84_1 := NB403_462.out
            have hns84_2 := NB412_462.out
            have hns84_3 := NB426_462.out
            have hns84_4 := NB434_462.out
            have hns84_5 := NB448_462.out
            have hms84_0 := NB462_402.out
            have hms84_1 := NB462_403.out
            have hms84_2 := NB462_412.out
            have hms84_3 := NB462_426.out
            have hms84_4 := NB462_434.out
            have hms84_5 := NB462_448.out
            have hs85 : w82.cell? ⟨gb462, 2, none⟩ = some (.bool false) := (blk_cell BK462.out 2).trans rfl
            have hfs85 := blk_frozen BK462.out 2
            have hns85_0 := NB402_462.out
            have hns85_1 := NB403_462.out
            have hns85_2 := NB412_462.out
            have hns85_3 := NB426_462.out
            have hns85_4 := NB434_462.out
            have hns85_5 := NB448_462.out
            have hms85_0 := NB462_402.out
            have hms85_1 := NB462_403.out
            have hms85_2 := NB462_412.out
            have hms85_3 := NB462_426.out
            have hms85_4 := NB462_434.out
            have hms85_5 := NB462_448.out
            have hs86 : w82.cell? ⟨gb462, 3, none⟩ = some (.int .i64 0) := (blk_cell BK462.out 3).trans rfl
            have hfs86 := blk_frozen BK462.out 3
            have hns86_0 := NB402_462.out
            have hns86_1 := NB403_462.out
            have hns86_2 := NB412_462.out
            have hns86_3 := NB426_462.out
            have hns86_4 := NB434_462.out
            have hns86_5 := NB448_462.out
            have hms86_0 := NB462_402.out
            have hms86_1 := NB462_403.out
            have hms86_2 := NB462_412.out
            have hms86_3 := NB462_426.out
            have hms86_4 := NB462_434.out
            have hms86_5 := NB462_448.out
            have hs87 : w82.cell? ⟨gb462, 4, none⟩ = some (.int .u64 0) := (blk_cell BK462.out 4).trans rfl
            have hfs87 := blk_frozen BK462.out 4
            have hns87_0 := NB402_462.out
            have hns87_1 := NB403_462.out
            have hns87_2 := NB412_462.out
            have hns87_3 := NB426_462.out
            have hns87_4 := NB434_462.out
            have hns87_5 := NB448_462.out
            have hms87_0 := NB462_402.out
            have hms87_1 := NB462_403.out
            have hms87_2 := NB462_412.out
            have hms87_3 := NB462_426.out
            have hms87_4 := NB462_434.out
            have hms87_5 := NB462_448.out
            have hs88 : w82.cell? ⟨gb462, 5, none⟩ = some (.int .u64 0) := (blk_cell BK462.out 5).trans rfl
            have hfs88 := blk_frozen BK462.out 5
            have hns88_0 := NB402_462.out
            have hns88_1 := NB403_462.out
            have hns88_2 := NB412_462.out
            have hns88_3 := NB426_462.out
            have hns88_4 := NB434_462.out
            have hns88_5 := NB448_462.out
            have hms88_0 := NB462_402.out
            have hms88_1 := NB462_403.out
            have hms88_2 := NB462_412.out
            have hms88_3 := NB462_426.out
            have hms88_4 := NB462_434.out
            have hms88_5 := NB462_448.out
            refine skip_ (w1 := ?_) (by rfl) rfl ?_ ?_
            rotate_left
            ·go_simp
             rfl
            refine hK.out _ _ ⟨(cfar6_ NB402_462 (hHeld.1)), (cfar6_ NB402_462 (hHeld.2.1)), (cfar6_ NB402_462 (hHeld.2.2.1)), (cfar6_ NB402_462 (hHeld.2.2.2.1)), (cfar6_ NB402_462 (hHeld.2.2.2.2.1)), (cfar6_ NB402_462 (hHeld.2.2.2.2.2.1)), (cfar6_ NB403_462 (hHeld.2.2.2.2.2.2.1)), (cfar6_ NB403_462 (hHeld.2.2.2.2.2.2.2))⟩ (fun hHeld => ?_)
            clear hK K
            refine pure_ (i := 15) (N := some 20) (v := ?_) (a' := ?_) #[true, true, true, true, true, true, true, true, true, true, true, true, true, true, true, true] rfl rfl (any_of HT_.out (by kernel_rfl)) (fun _ _ _ h => h) (Or.inl ⟨by rfl, ?_⟩) ?_ ?_
            rotate_left
            ·intro w'
             go_simp
             with_reducible rfl
            rotate_left
            ·simp only [Act.put, sa_, s0_, ss_, i64_w, i32_w]
             rfl
            refine done_ (done_of HT_.out (by kernel_rfl)) ?_
            have hnb89 := NB402_448.out
            have hnc89 := NB448_402.out
            have hnb90 := NB402_462.out
            have hnc90 := NB462_402.out
            obtain ⟨hcz91_0, hcz91_1, hcz91_2, hcz91_3, hcz91_4, hcz91_5, hfz91_0, hfz91_1, hfz91_2, hfz91_3, hfz91_4, hfz91_5⟩ := cf6 BK402
            try go_wp2_with (first | ((with_reducible refine gate_callee (f := 15) rfl ?_); refine goesL_ (some 82) rfl rfl Try.func15 (by kernel_rfl) rfl #[.agg #[.bool a0_0, .int .i64 a0_1, .bool a0_2, .int .i64 a0_3, .int .u64 a0_4, .int .u64 a0_5]] rfl (by first | rfl | (simp only [List.map_toArray, List.map_cons, List.map_nil]; first | done | rfl)) ?_; (with_reducible refine (codel_State_Empty.calls a0_0 a0_1 a0_2 a0_3 a0_4 a0_5 false t464 false t466 t467 t468 _ A16.out).mono ?_); rintro e w92 ⟨rfl, hb⟩; refine ⟨_, rfl, ?_⟩; replace BK402 := m_ (blk_below (g := gb402) (o := .cells #[.bool a0_0, .int .i64 a0_1, .bool a0_2, .int .i64 a0_3, .int .u64 a0_4, .int .u64 a0_5] 24 (0, 0)) (by refine far6_ NB402_462 ?_; exact BK402.out) hb); replace BK403 := m_ (blk_below (g := gb403) (o := .cells #[.int .i64 a1_0, .int .i64 a1_1] 26 (0, 0)) (by refine far6_ NB403_462 ?_; exact BK403.out) hb); replace BK412 := m_ (blk_below (g := gb412) (o := .cells #[.bool t405, .int .i64 t406, .bool t407, .int .i64 t408, .int .u64 t409, .int .u64 t410] 24 (0, 0)) (by refine far6_ NB412_462 ?_; exact BK412.out) hb); replace BK426 := m_ (blk_below (g := gb426) (o := .cells #[.bool t419, .int .i64 t420, .bool t421, .int .i64 t422, .int .u64 t423, .int .u64 t424] 41 (0, 0)) (by refine far6_ NB426_462 ?_; exact BK426.out) hb); replace BK434 := m_ (blk_below (g := gb434) (o := .cells #[.bool t427, .int .i64 t428, .bool t429, .int .i64 t430, .int .u64 t431, .int .u64 t432] 24 (0, 0)) (by refine far6_ NB434_462 ?_; exact BK434.out) hb); replace BK448 := m_ (blk_below (g := gb448) (o := .cells #[.bool t441, .int .i64 t442, .bool t443, .int .i64 t444, .int .u64 t445, .int .u64 t446] 41 (0, 0)) (by refine far6_ NB448_462 ?_; exact BK448.out) hb); replace BK462 := m_ (blk_below (g := gb462) (o := .cells #[.bool t455, .int .i64 t456, .bool t457, .int .i64 t458, .int .u64 t459, .int .u64 t460] 41 (0, 0)) (by apply put6_; exact BK462.out) hb); replace HB := st_ (by repeat (with_reducible first | exact HB.out | apply bs_ GE402 | apply bs_ GE403 | apply bs_ GE412 | apply bs_ GE426 | apply bs_ GE434 | apply bs_ GE448 | apply bs_ GE462)) hb; (try clear hb)) | ((with_reducible refine gate_dst (N := 21) rfl ?_); refine box_event ?hg (N := 21) ?hd (cs := #[.bool false, .int .i64 0, .bool false, .int .i64 0, .int .u64 0, .int .u64 0]) (t := 24) ?hr ?_; (case hd => rfl); (case hg => rfl); (case hr => first | (go_simp; done) | (go_simp; rfl)); intro gb469 hg w93 hbox hb; have BK469 := m_ (hbox); have GW469 := ge_ (by repeat (with_reducible first | exact HB.out | apply bs_ GE402 | apply bs_ GE403 | apply bs_ GE412 | apply bs_ GE426 | apply bs_ GE434 | apply bs_ GE448 | apply bs_ GE462)) hg; have GE469 := GW469; have NB402_469 := nl_ BK402 hg; have NB469_402 := ng_ BK402 hg; have NB403_469 := nl_ BK403 hg; have NB469_403 := ng_ BK403 hg; have NB412_469 := nl_ BK412 hg; have NB469_412 := ng_ BK412 hg; have NB426_469 := nl_ BK426 hg; have NB469_426 := ng_ BK426 hg; have NB434_469 := nl_ BK434 hg; have NB469_434 := ng_ BK434 hg; have NB448_469 := nl_ BK448 hg; have NB469_448 := ng_ BK448 hg; have NB462_469 := nl_ BK462 hg; have NB469_462 := ng_ BK462 hg; replace BK402 := bb_ BK402 hb; replace BK403 := bb_ BK403 hb; replace BK412 := bb_ BK412 hb; replace BK426 := bb_ BK426 hb; replace BK434 := bb_ BK434 hb; replace BK448 := bb_ BK448 hb; replace BK462 := bb_ BK462 hb; replace HB := st_ (by repeat (with_reducible first | exact HB.out | apply bs_ GE402 | apply bs_ GE403 | apply bs_ GE412 | apply bs_ GE426 | apply bs_ GE434 | apply bs_ GE448 | apply bs_ GE462)) hb; clear hb hbox hg; have hnb94 := NB469_402.out; have hnc94 := NB402_469.out; have hnb95 := NB469_403.out; have hnc95 := NB403_469.out; have hnb96 := NB469_412.out; have hnc96 := NB412_469.out; have hnb97 := NB469_426.out; have hnc97 := NB426_469.out; have hnb98 := NB469_434.out; have hnc98 := NB434_469.out; have hnb99 := NB469_448.out; have hnc99 := NB448_469.out; have hnb100 := NB469_462.out; have hnc100 := NB462_469.out; obtain ⟨hcz101_0, hcz101_1, hcz101_2, hcz101_3, hcz101_4, hcz101_5, hfz101_0, hfz101_1, hfz101_2, hfz101_3, hfz101_4, hfz101_5⟩ := cf6 BK469))
            have n0_ : Aside0 (((((((w93.setCell ⟨gb469, 0, none⟩ (.bool false)).setCell ⟨gb469, 1, none⟩ (.int .i64 t464)).setCell ⟨gb469, 2, none⟩ (.bool false)).setCell ⟨gb469, 3, none⟩ (.int .i64 t466)).setCell ⟨gb469, 4, none⟩ (.int .u64 t467)).setCell ⟨gb469, 5, none⟩ (.int .u64 t468)).heap[gb402]? = some (.cells #[.bool a0_0, .int .i64 a0_1, .bool a0_2, .int .i64 a0_3, .int .u64 a0_4, .int .u64 a0_5] 24 (0, 0))) := ⟨by refine far6_ NB402_469 ?_; exact BK402.out⟩
            have n1_ : Aside0 (((((((w93.setCell ⟨gb469, 0, none⟩ (.bool false)).setCell ⟨gb469, 1, none⟩ (.int .i64 t464)).setCell ⟨gb469, 2, none⟩ (.bool false)).setCell ⟨gb469, 3, none⟩ (.int .i64 t466)).setCell ⟨gb469, 4, none⟩ (.int .u64 t467)).setCell ⟨gb469, 5, none⟩ (.int .u64 t468)).heap[gb403]? = some (.cells #[.int .i64 a1_0, .int .i64 a1_1] 26 (0, 0))) := ⟨by refine far6_ NB403_469 ?_; exact BK403.out⟩
            have n2_ : Aside0 (((((((w93.setCell ⟨gb469, 0, none⟩ (.bool false)).setCell ⟨gb469, 1, none⟩ (.int .i64 t464)).setCell ⟨gb469, 2, none⟩ (.bool false)).setCell ⟨gb469, 3, none⟩ (.int .i64 t466)).setCell ⟨gb469, 4, none⟩ (.int .u64 t467)).setCell ⟨gb469, 5, none⟩ (.int .u64 t468)).heap[gb412]? = some (.cells #[.bool t405, .int .i64 t406, .bool t407, .int .i64 t408, .int .u64 t409, .int .u64 t410] 24 (0, 0))) := ⟨by refine far6_ NB412_469 ?_; exact BK412.out⟩
            have n3_ : Aside0 (((((((w93.setCell ⟨gb469, 0, none⟩ (.bool false)).setCell ⟨gb469, 1, none⟩ (.int .i64 t464)).setCell ⟨gb469, 2, none⟩ (.bool false)).setCell ⟨gb469, 3, none⟩ (.int .i64 t466)).setCell ⟨gb469, 4, none⟩ (.int .u64 t467)).setCell ⟨gb469, 5, none⟩ (.int .u64 t468)).heap[gb426]? = some (.cells #[.bool t419, .int .i64 t420, .bool t421, .int .i64 t422, .int .u64 t423, .int .u64 t424] 41 (0, 0))) := ⟨by refine far6_ NB426_469 ?_; exact BK426.out⟩
            have n4_ : Aside0 (((((((w93.setCell ⟨gb469, 0, none⟩ (.bool false)).setCell ⟨gb469, 1, none⟩ (.int .i64 t464)).setCell ⟨gb469, 2, none⟩ (.bool false)).setCell ⟨gb469, 3, none⟩ (.int .i64 t466)).setCell ⟨gb469, 4, none⟩ (.int .u64 t467)).setCell ⟨gb469, 5, none⟩ (.int .u64 t468)).heap[gb434]? = some (.cells #[.bool t427, .int .i64 t428, .bool t429, .int .i64 t430, .int .u64 t431, .int .u64 t432] 24 (0, 0))) := ⟨by refine far6_ NB434_469 ?_; exact BK434.out⟩
            have n5_ : Aside0 (((((((w93.setCell ⟨gb469, 0, none⟩ (.bool false)).setCell ⟨gb469, 1, none⟩ (.int .i64 t464)).setCell ⟨gb469, 2, none⟩ (.bool false)).setCell ⟨gb469, 3, none⟩ (.int .i64 t466)).setCell ⟨gb469, 4, none⟩ (.int .u64 t467)).setCell ⟨gb469, 5, none⟩ (.int .u64 t468)).heap[gb448]? = some (.cells #[.bool t441, .int .i64 t442, .bool t443, .int .i64 t444, .int .u64 t445, .int .u64 t446] 41 (0, 0))) := ⟨by refine far6_ NB448_469 ?_; exact BK448.out⟩
            have n6_ : Aside0 (((((((w93.setCell ⟨gb469, 0, none⟩ (.bool false)).setCell ⟨gb469, 1, none⟩ (.int .i64 t464)).setCell ⟨gb469, 2, none⟩ (.bool false)).setCell ⟨gb469, 3, none⟩ (.int .i64 t466)).setCell ⟨gb469, 4, none⟩ (.int .u64 t467)).setCell ⟨gb469, 5, none⟩ (.int .u64 t468)).heap[gb462]? = some (.cells #[.bool t455, .int .i64 t456, .bool t457, .int .i64 t458, .int .u64 t459, .int .u64 t460] 41 (0, 0))) := ⟨by refine far6_ NB462_469 ?_; exact BK462.out⟩
            have n7_ : Aside0 (((((((w93.setCell ⟨gb469, 0, none⟩ (.bool false)).setCell ⟨gb469, 1, none⟩ (.int .i64 t464)).setCell ⟨gb469, 2, none⟩ (.bool false)).setCell ⟨gb469, 3, none⟩ (.int .i64 t466)).setCell ⟨gb469, 4, none⟩ (.int .u64 t467)).setCell ⟨gb469, 5, none⟩ (.int .u64 t468)).heap[gb469]? = some (.cells #[.bool false, .int .i64 t464, .bool false, .int .i64 t466, .int .u64 t467, .int .u64 t468] 24 (0, 0))) := ⟨by apply put6_; exact BK469.out⟩
            have n8_ : Aside0 (Below w.heap.size w ((((((w93.setCell ⟨gb469, 0, none⟩ (.bool false)).setCell ⟨gb469, 1, none⟩ (.int .i64 t464)).setCell ⟨gb469, 2, none⟩ (.bool false)).setCell ⟨gb469, 3, none⟩ (.int .i64 t466)).setCell ⟨gb469, 4, none⟩ (.int .u64 t467)).setCell ⟨gb469, 5, none⟩ (.int .u64 t468))) := ⟨by repeat (with_reducible first | exact HB.out | apply bs_ GE402 | apply bs_ GE403 | apply bs_ GE412 | apply bs_ GE426 | apply bs_ GE434 | apply bs_ GE448 | apply bs_ GE462 | apply bs_ GE469)⟩
            (try clear BK402)
            (try clear BK403)
            (try clear BK412)
            (try clear BK426)
            (try clear BK434)
            (try clear BK448)
            (try clear BK462)
            (try clear BK469)
            (try clear HB)
            generalize ((((((w93.setCell ⟨gb469, 0, none⟩ (.bool false)).setCell ⟨gb469, 1, none⟩ (.int .i64 t464)).setCell ⟨gb469, 2, none⟩ (.bool false)).setCell ⟨gb469, 3, none⟩ (.int .i64 t466)).setCell ⟨gb469, 4, none⟩ (.int .u64 t467)).setCell ⟨gb469, 5, none⟩ (.int .u64 t468)) = w102 at n0_ n1_ n2_ n3_ n4_ n5_ n6_ n7_ n8_ ⊢
            have BK402 := n0_
            have BK403 := n1_
            have BK412 := n2_
            have BK426 := n3_
            have BK434 := n4_
            have BK448 := n5_
            have BK462 := n6_
            have BK469 := n7_
            have HB := n8_
            clear n0_ n1_ n2_ n3_ n4_ n5_ n6_ n7_ n8_
            replace BK402 := m_ (blk_drew BK402.out)
            replace BK403 := m_ (blk_drew BK403.out)
            replace BK412 := m_ (blk_drew BK412.out)
            replace BK426 := m_ (blk_drew BK426.out)
            replace BK434 := m_ (blk_drew BK434.out)
            replace BK448 := m_ (blk_drew BK448.out)
            replace BK462 := m_ (blk_drew BK462.out)
            replace BK469 := m_ (blk_drew BK469.out)
            replace HB := m_ (below_drew1 HB.out)
            refine start_ (n := 68) (S := fun w' => w'.cell? ⟨gb412, 0, none⟩ = some (.bool t405) ∧ w'.cell? ⟨gb412, 1, none⟩ = some (.int .i64 t406) ∧ w'.cell? ⟨gb412, 2, none⟩ = some (.bool t407) ∧ w'.cell? ⟨gb412, 3, none⟩ = some (.int .i64 t408) ∧ w'.cell? ⟨gb412, 4, none⟩ = some (.int .u64 t409) ∧ w'.cell? ⟨gb412, 5, none⟩ = some (.int .u64 t410) ∧ w'.cell? ⟨gb426, 0, none⟩ = some (.bool t419) ∧ w'.cell? ⟨gb426, 1, none⟩ = some (.int .i64 t420) ∧ w'.cell? ⟨gb426, 2, none⟩ = some (.bool t421) ∧ w'.cell? ⟨gb426, 3, none⟩ = some (.int .i64 t422) ∧ w'.cell? ⟨gb426, 4, none⟩ = some (.int .u64 t423) ∧ w'.cell? ⟨gb426, 5, none⟩ = some (.int .u64 t424) ∧ w'.cell? ⟨gb434, 0, none⟩ = some (.bool t427) ∧ w'.cell? ⟨gb434, 1, none⟩ = some (.int .i64 t428) ∧ w'.cell? ⟨gb434, 2, none⟩ = some (.bool t429) ∧ w'.cell? ⟨gb434, 3, none⟩ = some (.int .i64 t430) ∧ w'.cell? ⟨gb434, 4, none⟩ = some (.int .u64 t431) ∧ w'.cell? ⟨gb434, 5, none⟩ = some (.int .u64 t432) ∧ w'.cell? ⟨gb448, 0, none⟩ = some (.bool t441) ∧ w'.cell? ⟨gb448, 1, none⟩ = some (.int .i64 t442) ∧ w'.cell? ⟨gb448, 2, none⟩ = some (.bool t443) ∧ w'.cell? ⟨gb448, 3, none⟩ = some (.int .i64 t444) ∧ w'.cell? ⟨gb448, 4, none⟩ = some (.int .u64 t445) ∧ w'.cell? ⟨gb448, 5, none⟩ = some (.int .u64 t446) ∧ w'.cell? ⟨gb402, 0, none⟩ = some (.bool a0_0) ∧ w'.cell? ⟨gb402, 1, none⟩ = some (.int .i64 a0_1) ∧ w'.cell? ⟨gb402, 2, none⟩ = some (.bool a0_2) ∧ w'.cell? ⟨gb402, 3, none⟩ = some (.int .i64 a0_3) ∧ w'.cell? ⟨gb402, 4, none⟩ = some (.int .u64 a0_4) ∧ w'.cell? ⟨gb402, 5, none⟩ = some (.int .u64 a0_5) ∧ w'.cell? ⟨gb403, 0, none⟩ = some (.int .i64 a1_0) ∧ w'.cell? ⟨gb403, 1, none⟩ = some (.int .i64 a1_1) ∧ w'.cell? ⟨gb462, 0, none⟩ = some (.bool t455) ∧ w'.cell? ⟨gb462, 1, none⟩ = some (.int .i64 t456) ∧ w'.cell? ⟨gb462, 2, none⟩ = some (.bool t457) ∧ w'.cell? ⟨gb462, 3, none⟩ = some (.int .i64 t458) ∧ w'.cell? ⟨gb462, 4, none⟩ = some (.int .u64 t459) ∧ w'.cell? ⟨gb462, 5, none⟩ = some (.int .u64 t460) ∧ w'.cell? ⟨gb469, 0, none⟩ = some (.bool false) ∧ w'.cell? ⟨gb469, 1, none⟩ = some (.int .i64 t464) ∧ w'.cell? ⟨gb469, 2, none⟩ = some (.bool false) ∧ w'.cell? ⟨gb469, 3, none⟩ = some (.int .i64 t466) ∧ w'.cell? ⟨gb469, 4, none⟩ = some (.int .u64 t467) ∧ w'.cell? ⟨gb469, 5, none⟩ = some (.int .u64 t468)) (ds := []) #[false, false, false, false, false, false, false, false, false, false, false, false, false, false, false, false, false, false, false, false, false, false, false, false, false, false, false, false, false, false, false, false, false, false, false, false, false, false, false, false, false, false, false, false, false, false, false, false, false, false, false, false, false, false, false, false, false, false, false, false, false, false, false, false, false, false, false, false] (by kernel_rfl) rfl rfl ⟨(blk_cell BK412.out 0).trans rfl, (blk_cell BK412.out 1).trans rfl, (blk_cell BK412.out 2).trans rfl, (blk_cell BK412.out 3).trans rfl, (blk_cell BK412.out 4).trans rfl, (blk_cell BK412.out 5).trans rfl, (blk_cell BK426.out 0).trans rfl, (blk_cell BK426.out 1).trans rfl, (blk_cell BK426.out 2).trans rfl, (blk_cell BK426.out 3).trans rfl, (blk_cell BK426.out 4).trans rfl, (blk_cell BK426.out 5).trans rfl, (blk_cell BK434.out 0).trans rfl, (blk_cell BK434.out 1).trans rfl, (blk_cell BK434.out 2).trans rfl, (blk_cell BK434.out 3).trans rfl, (blk_cell BK434.out 4).trans rfl, (blk_cell BK434.out 5).trans rfl, (blk_cell BK448.out 0).trans rfl, (blk_cell BK448.out 1).trans rfl, (blk_cell BK448.out 2).trans rfl, (blk_cell BK448.out 3).trans rfl, (blk_cell BK448.out 4).trans rfl, (blk_cell BK448.out 5).trans rfl, (blk_cell BK402.out 0).trans rfl, (blk_cell BK402.out 1).trans rfl, (blk_cell BK402.out 2).trans rfl, (blk_cell BK402.out 3).trans rfl, (blk_cell BK402.out 4).trans rfl, (blk_cell BK402.out 5).trans rfl, (blk_cell BK403.out 0).trans rfl, (blk_cell BK403.out 1).trans rfl, (blk_cell BK462.out 0).trans rfl, (blk_cell BK462.out 1).trans rfl, (blk_cell BK462.out 2).trans rfl, (blk_cell BK462.out 3).trans rfl, (blk_cell BK462.out 4).trans rfl, (blk_cell BK462.out 5).trans rfl, (blk_cell BK469.out 0).trans rfl, (blk_cell BK469.out 1).trans rfl, (blk_cell BK469.out 2).trans rfl, (blk_cell BK469.out 3).trans rfl, (blk_cell BK469.out 4).trans rfl, (blk_cell BK469.out 5).trans rfl⟩ (fun hHeld => ?_); refine with_tabW overfalllaw08_CodelLooks.tab9 overfalllaw08_CodelLooks.bits9 (fun HT_ HW_ => ?_)
            generalize w102.drew = w103 at BK402 BK403 BK412 BK426 BK434 BK448 BK462 BK469 HB hHeld ⊢
            refine take_ (i := 0) (N := some 83) (v := ?_) (a' := ?_) #[true, false, false, false, false, false, false, false, false, false, false, false, false, false, false, false, false, false, false, false, false, false, false, false, false, false, false, false, false, false, false, false, false, false, false, false, false, false, false, false, false, false, false, false, false, false, false, false, false, false, false, false, false, false, false, false, false, false, false, false, false, false, false, false, false, false, false, false] rfl rfl (take_ofW HT_.out HW_.out (by kernel_rfl)) (fun _ _ _ h => h) (Or.inl ⟨by rfl, ?_⟩) hHeld ?_ ?_
            rotate_left
            ·rintro w' ⟨s0, s1, s2, s3, s4, s5, s6, s7, s8, s9, s10, s11, s12, s13, s14, s15, s16, s17, s18, s19, s20, s21, s22, s23, s24, s25, s26, s27, s28, s29, s30, s31, s32, s33, s34, s35, s36, s37, s38, s39, s40, s41, s42, s43⟩
             go_simp
             with_reducible rfl
            rotate_left
            ·simp only [Act.put, sa_, s0_, ss_, i64_w, i32_w]
             rfl
            refine take_ (i := 2) (N := some 85) (v := ?_) (a' := ?_) #[true, false, true, false, false, false, false, false, false, false, false, false, false, false, false, false, false, false, false, false, false, false, false, false, false, false, false, false, false, false, false, false, false, false, false, false, false, false, false, false, false, false, false, false, false, false, false, false, false, false, false, false, false, false, false, false, false, false, false, false, false, false, false, false, false, false, false, false] rfl rfl (take_ofW HT_.out HW_.out (by kernel_rfl)) (fun _ _ _ h => h) (Or.inl ⟨by rfl, ?_⟩) hHeld ?_ ?_
            rotate_left
            ·rintro w' ⟨s0, s1, s2, s3, s4, s5, s6, s7, s8, s9, s10, s11, s12, s13, s14, s15, s16, s17, s18, s19, s20, s21, s22, s23, s24, s25, s26, s27, s28, s29, s30, s31, s32, s33, s34, s35, s36, s37, s38, s39, s40, s41, s42, s43⟩
             go_simp
             with_reducible rfl
            rotate_left
            ·simp only [Act.put, sa_, s0_, ss_, i64_w, i32_w]
             rfl
            refine one_ (i := 1) (N := some 84) #[true, true, true, false, false, false, false, false, false, false, false, false, false, false, false, false, false, false, false, false, false, false, false, false, false, false, false, false, false, false, false, false, false, false, false, false, false, false, false, false, false, false, false, false, false, false, false, false, false, false, false, false, false, false, false, false, false, false, false, false, false, false, false, false, false, false, false, false] rfl rfl (one_of HT_.out (by kernel_rfl)) (by decide) (fun K hK => ?_)
            refine goes_ Try.func18 (by kernel_rfl) rfl #[.agg #[.bool t405, .int .i64 t406, .bool t407, .int .i64 t408, .int .u64 t409, .int .u64 t410]] (by rfl) rfl rfl (by first | rfl | (simp only [List.map_toArray, List.map_cons, List.map_nil]; first | done | rfl)) ?_
            with_reducible refine (overfalllaw08_own.calls t405 t406 t407 t408 t409 t410 t470 t471 t472 t473 t474 t475 _ A17.out).mono ?_
            rintro e w104 ⟨rfl, hb⟩
            refine ⟨_, rfl, ?_⟩
            replace BK402 := bb_ BK402 hb
            replace BK403 := bb_ BK403 hb
            replace BK412 := bb_ BK412 hb
            replace BK426 := bb_ BK426 hb
            replace BK434 := bb_ BK434 hb
            replace BK448 := bb_ BK448 hb
            replace BK462 := bb_ BK462 hb
            replace BK469 := bb_ BK469 hb
            replace HB := st_ (by repeat (with_reducible first | exact HB.out | apply bs_ GE402 | apply bs_ GE403 | apply bs_ GE412 | apply bs_ GE426 | apply bs_ GE434 | apply bs_ GE448 | apply bs_ GE462 | apply bs_ GE469)) hb
            (try clear hb)
            (try clear hb2)
            (try clear hk)
            (try clear hi)
            refine hK.out _ _ ⟨(blk_cell BK412.out 0).trans rfl, (blk_cell BK412.out 1).trans rfl, (blk_cell BK412.out 2).trans rfl, (blk_cell BK412.out 3).trans rfl, (blk_cell BK412.out 4).trans rfl, (blk_cell BK412.out 5).trans rfl, (blk_cell BK426.out 0).trans rfl, (blk_cell BK426.out 1).trans rfl, (blk_cell BK426.out 2).trans rfl, (blk_cell BK426.out 3).trans rfl, (blk_cell BK426.out 4).trans rfl, (blk_cell BK426.out 5).trans rfl, (blk_cell BK434.out 0).trans rfl, (blk_cell BK434.out 1).trans rfl, (blk_cell BK434.out 2).trans rfl, (blk_cell BK434.out 3).trans rfl, (blk_cell BK434.out 4).trans rfl, (blk_cell BK434.out 5).trans rfl, (blk_cell BK448.out 0).trans rfl, (blk_cell BK448.out 1).trans rfl, (blk_cell BK448.out 2).trans rfl, (blk_cell BK448.out 3).trans rfl, (blk_cell BK448.out 4).trans rfl, (blk_cell BK448.out 5).trans rfl, (blk_cell BK402.out 0).trans rfl, (blk_cell BK402.out 1).trans rfl, (blk_cell BK402.out 2).trans rfl, (blk_cell BK402.out 3).trans rfl, (blk_cell BK402.out 4).trans rfl, (blk_cell BK402.out 5).trans rfl, (blk_cell BK403.out 0).trans rfl, (blk_cell BK403.out 1).trans rfl, (blk_cell BK462.out 0).trans rfl, (blk_cell BK462.out 1).trans rfl, (blk_cell BK462.out 2).trans rfl, (blk_cell BK462.out 3).trans rfl, (blk_cell BK462.out 4).trans rfl, (blk_cell BK462.out 5).trans rfl, (blk_cell BK469.out 0).trans rfl, (blk_cell BK469.out 1).trans rfl, (blk_cell BK469.out 2).trans rfl, (blk_cell BK469.out 3).trans rfl, (blk_cell BK469.out 4).trans rfl, (blk_cell BK469.out 5).trans rfl⟩ (fun hHeld => ?_)
            clear hK K
            refine norm_ (a' := ?_) ?_ ?_
            rotate_left
            ·show Act.put _ (some 84) _ = _
             simp only [Act.put, sa_, s0_, ss_, i64_w, i32_w]
             rfl
            refine pure_ (i := 3) (N := some 86) (v := ?_) (a' := ?_) #[true, true, true, true, false, false, false, false, false, false, false, false, false, false, false, false, false, false, false, false, false, false, false, false, false, false, false, false, false, false, false, false, false, false, false, false, false, false, false, false, false, false, false, false, false, false, false, false, false, false, false, false, false, false, false, false, false, false, false, false, false, false, false, false, false, false, false, false] rfl rfl (any_of HT_.out (by kernel_rfl)) (fun _ _ _ h => h) (Or.inl ⟨by rfl, ?_⟩) ?_ ?_
            rotate_left
            ·intro w'
             go_simp
             with_reducible rfl
            rotate_left
            ·simp only [Act.put, sa_, s0_, ss_, i64_w, i32_w]
             rfl
            refine pure_ (i := 4) (N := some 87) (v := ?_) (a' := ?_) #[true, true, true, true, true, false, false, false, false, false, false, false, false, false, false, false, false, false, false, false, false, false, false, false, false, false, false, false, false, false, false, false, false, false, false, false, false, false, false, false, false, false, false, false, false, false, false, false, false, false, false, false, false, false, false, false, false, false, false, false, false, false, false, false, false, false, false, false] rfl rfl (any_of HT_.out (by kernel_rfl)) (fun _ _ _ h => h) (Or.inl ⟨by rfl, ?_⟩) ?_ ?_
            rotate_left
            ·intro w'
             go_simp
             with_reducible rfl
            rotate_left
            ·simp only [Act.put, sa_, s0_, ss_, i64_w, i32_w]
             rfl
            refine pure_ (i := 5) (N := some 88) (v := ?_) (a' := ?_) #[true, true, true, true, true, true, false, false, false, false, false, false, false, false, false, false, false, false, false, false, false, false, false, false, false, false, false, false, false, false, false, false, false, false, false, false, false, false, false, false, false, false, false, false, false, false, false, false, false, false, false, false, false, false, false, false, false, false, false, false, false, false, false, false, false, false, false, false] rfl rfl (any_of HT_.out (by kernel_rfl)) (fun _ _ _ h => h) (Or.inl ⟨by rfl, ?_⟩) ?_ ?_
            rotate_left
            ·intro w'
             go_simp
             with_reducible rfl
            rotate_left
            ·simp only [Act.put, sa_, s0_, ss_, i64_w, i32_w]
             rfl
            refine pure_ (i := 6) (N := some 89) (v := ?_) (a' := ?_) #[true, true, true, true, true, true, true, false, false, false, false, false, false, false, false, false, false, false, false, false, false, false, false, false, false, false, false, false, false, false, false, false, false, false, false, false, false, false, false, false, false, false, false, false, false, false, false, false, false, false, false, false, false, false, false, false, false, false, false, false, false, false, false, false, false, false, false, false] rfl rfl (any_of HT_.out (by kernel_rfl)) (fun _ _ _ h => h) (Or.inl ⟨by rfl, ?_⟩) ?_ ?_
            rotate_left
            ·intro w'
             go_simp
             with_reducible rfl
            rotate_left
            ·simp only [Act.put, sa_, s0_, ss_, i64_w, i32_w]
             rfl
            refine pure_ (i := 7) (N := some 90) (v := ?_) (a' := ?_) #[true, true, true, true, true, true, true, true, false, false, false, false, false, false, false, false, false, false, false, false, false, false, false, false, false, false, false, false, false, false, false, false, false, false, false, false, false, false, false, false, false, false, false, false, false, false, false, false, false, false, false, false, false, false, false, false, false, false, false, false, false, false, false, false, false, false, false, false] rfl rfl (any_of HT_.out (by kernel_rfl)) (fun _ _ _ h => h) (Or.inl ⟨by rfl, ?_⟩) ?_ ?_
            rotate_left
            ·intro w'
             go_simp
             with_reducible rfl
            rotate_left
            ·simp only [Act.put, sa_, s0_, ss_, i64_w, i32_w]
             rfl
            refine pure_ (i := 8) (N := some 91) (v := ?_) (a' := ?_) #[true, true, true, true, true, true, true, true, true, false, false, false, false, false, false, false, false, false, false, false, false, false, false, false, false, false, false, false, false, false, false, false, false, false, false, false, false, false, false, false, false, false, false, false, false, false, false, false, false, false, false, false, false, false, false, false, false, false, false, false, false, false, false, false, false, false, false, false] rfl rfl (any_of HT_.out (by kernel_rfl)) (fun _ _ _ h => h) (Or.inl ⟨by rfl, ?_⟩) ?_ ?_
            rotate_left
            ·intro w'
             go_simp
             with_reducible rfl
            rotate_left
            ·simp only [Act.put, sa_, s0_, ss_, i64_w, i32_w]
             rfl
            refine pure_ (i := 9) (N := some 92) (v := ?_) (a' := ?_) #[true, true, true, true, true, true, true, true, true, true, false, false, false, false, false, false, false, false, false, false, false, false, false, false, false, false, false, false, false, false, false, false, false, false, false, false, false, false, false, false, false, false, false, false, false, false, false, false, false, false, false, false, false, false, false, false, false, false, false, false, false, false, false, false, false, false, false, false] rfl rfl (any_of HT_.out (by kernel_rfl)) (fun _ _ _ h => h) (Or.inl ⟨by rfl, ?_⟩) ?_ ?_
            rotate_left
            ·intro w'
             go_simp
             with_reducible rfl
            rotate_left
            ·simp only [Act.put, sa_, s0_, ss_, i64_w, i32_w]
             rfl
            refine take_ (i := 10) (N := some 93) (v := ?_) (a' := ?_) #[true, true, true, true, true, true, true, true, true, true, true, false, false, false, false, false, false, false, false, false, false, false, false, false, false, false, false, false, false, false, false, false, false, false, false, false, false, false, false, false, false, false, false, false, false, false, false, false, false, false, false, false, false, false, false, false, false, false, false, false, false, false, false, false, false, false, false, false] rfl rfl (take_ofW HT_.out HW_.out (by kernel_rfl)) (fun _ _ _ h => h) (Or.inl ⟨by rfl, ?_⟩) hHeld ?_ ?_
            rotate_left
            ·rintro w' ⟨s0, s1, s2, s3, s4, s5, s6, s7, s8, s9, s10, s11, s12, s13, s14, s15, s16, s17, s18, s19, s20, s21, s22, s23, s24, s25, s26, s27, s28, s29, s30, s31, s32, s33, s34, s35, s36, s37, s38, s39, s40, s41, s42, s43⟩
             go_simp
             with_reducible rfl
            rotate_left
            ·simp only [Act.put, sa_, s0_, ss_, i64_w, i32_w]
             rfl
            refine take_ (i := 12) (N := some 95) (v := ?_) (a' := ?_) #[true, true, true, true, true, true, true, true, true, true, true, false, true, false, false, false, false, false, false, false, false, false, false, false, false, false, false, false, false, false, false, false, false, false, false, false, false, false, false, false, false, false, false, false, false, false, false, false, false, false, false, false, false, false, false, false, false, false, false, false, false, false, false, false, false, false, false, false] rfl rfl (take_ofW HT_.out HW_.out (by kernel_rfl)) (fun _ _ _ h => h) (Or.inl ⟨by rfl, ?_⟩) hHeld ?_ ?_
            rotate_left
            ·rintro w' ⟨s0, s1, s2, s3, s4, s5, s6, s7, s8, s9, s10, s11, s12, s13, s14, s15, s16, s17, s18, s19, s20, s21, s22, s23, s24, s25, s26, s27, s28, s29, s30, s31, s32, s33, s34, s35, s36, s37, s38, s39, s40, s41, s42, s43⟩
             go_simp
             with_reducible rfl
            rotate_left
            ·simp only [Act.put, sa_, s0_, ss_, i64_w, i32_w]
             rfl
            refine one_ (i := 11) (N := some 94) #[true, true, true, true, true, true, true, true, true, true, true, true, true, false, false, false, false, false, false, false, false, false, false, false, false, false, false, false, false, false, false, false, false, false, false, false, false, false, false, false, false, false, false, false, false, false, false, false, false, false, false, false, false, false, false, false, false, false, false, false, false, false, false, false, false, false, false, false] rfl rfl (one_of HT_.out (by kernel_rfl)) (by decide) (fun K hK => ?_)
            refine goes_ Try.func18 (by kernel_rfl) rfl #[.agg #[.bool t427, .int .i64 t428, .bool t429, .int .i64 t430, .int .u64 t431, .int .u64 t432]] (by rfl) rfl rfl (by first | rfl | (simp only [List.map_toArray, List.map_cons, List.map_nil]; first | done | rfl)) ?_
            with_reducible refine (overfalllaw08_own.calls t427 t428 t429 t430 t431 t432 t476 t477 t478 t479 t480 t481 _ A20.out).mono ?_
            rintro e w105 ⟨rfl, hb⟩
            refine ⟨_, rfl, ?_⟩
            replace BK402 := bb_ BK402 hb
            replace BK403 := bb_ BK403 hb
            replace BK412 := bb_ BK412 hb
            replace BK426 := bb_ BK426 hb
            replace BK434 := bb_ BK434 hb
            replace BK448 := bb_ BK448 hb
            replace BK462 := bb_ BK462 hb
            replace BK469 := bb_ BK469 hb
            replace HB := st_ (by repeat (with_reducible first | exact HB.out | apply bs_ GE402 | apply bs_ GE403 | apply bs_ GE412 | apply bs_ GE426 | apply bs_ GE434 | apply bs_ GE448 | apply bs_ GE462 | apply bs_ GE469)) hb
            (try clear hb)
            (try clear hb2)
            (try clear hk)
            (try clear hi)
            refine hK.out _ _ ⟨(blk_cell BK412.out 0).trans rfl, (blk_cell BK412.out 1).trans rfl, (blk_cell BK412.out 2).trans rfl, (blk_cell BK412.out 3).trans rfl, (blk_cell BK412.out 4).trans rfl, (blk_cell BK412.out 5).trans rfl, (blk_cell BK426.out 0).trans rfl, (blk_cell BK426.out 1).trans rfl, (blk_cell BK426.out 2).trans rfl, (blk_cell BK426.out 3).trans rfl, (blk_cell BK426.out 4).trans rfl, (blk_cell BK426.out 5).trans rfl, (blk_cell BK434.out 0).trans rfl, (blk_cell BK434.out 1).trans rfl, (blk_cell BK434.out 2).trans rfl, (blk_cell BK434.out 3).trans rfl, (blk_cell BK434.out 4).trans rfl, (blk_cell BK434.out 5).trans rfl, (blk_cell BK448.out 0).trans rfl, (blk_cell BK448.out 1).trans rfl, (blk_cell BK448.out 2).trans rfl, (blk_cell BK448.out 3).trans rfl, (blk_cell BK448.out 4).trans rfl, (blk_cell BK448.out 5).trans rfl, (blk_cell BK402.out 0).trans rfl, (blk_cell BK402.out 1).trans rfl, (blk_cell BK402.out 2).trans rfl, (blk_cell BK402.out 3).trans rfl, (blk_cell BK402.out 4).trans rfl, (blk_cell BK402.out 5).trans rfl, (blk_cell BK403.out 0).trans rfl, (blk_cell BK403.out 1).trans rfl, (blk_cell BK462.out 0).trans rfl, (blk_cell BK462.out 1).trans rfl, (blk_cell BK462.out 2).trans rfl, (blk_cell BK462.out 3).trans rfl, (blk_cell BK462.out 4).trans rfl, (blk_cell BK462.out 5).trans rfl, (blk_cell BK469.out 0).trans rfl, (blk_cell BK469.out 1).trans rfl, (blk_cell BK469.out 2).trans rfl, (blk_cell BK469.out 3).trans rfl, (blk_cell BK469.out 4).trans rfl, (blk_cell BK469.out 5).trans rfl⟩ (fun hHeld => ?_)
            clear hK K
            refine norm_ (a' := ?_) ?_ ?_
            rotate_left
            ·show Act.put _ (some 94) _ = _
             simp only [Act.put, sa_, s0_, ss_, i64_w, i32_w]
             rfl
            refine pure_ (i := 13) (N := some 96) (v := ?_) (a' := ?_) #[true, true, true, true, true, true, true, true, true, true, true, true, true, true, false, false, false, false, false, false, false, false, false, false, false, false, false, false, false, false, false, false, false, false, false, false, false, false, false, false, false, false, false, false, false, false, false, false, false, false, false, false, false, false, false, false, false, false, false, false, false, false, false, false, false, false, false, false] rfl rfl (any_of HT_.out (by kernel_rfl)) (fun _ _ _ h => h) (Or.inl ⟨by rfl, ?_⟩) ?_ ?_
            rotate_left
            ·intro w'
             go_simp
             with_reducible rfl
            rotate_left
            ·simp only [Act.put, sa_, s0_, ss_, i64_w, i32_w]
             rfl
            refine pure_ (i := 14) (N := some 97) (v := ?_) (a' := ?_) #[true, true, true, true, true, true, true, true, true, true, true, true, true, true, true, false, false, false, false, false, false, false, false, false, false, false, false, false, false, false, false, false, false, false, false, false, false, false, false, false, false, false, false, false, false, false, false, false, false, false, false, false, false, false, false, false, false, false, false, false, false, false, false, false, false, false, false, false] rfl rfl (any_of HT_.out (by kernel_rfl)) (fun _ _ _ h => h) (Or.inl ⟨by rfl, ?_⟩) ?_ ?_
            rotate_left
            ·intro w'
             go_simp
             with_reducible rfl
            rotate_left
            ·simp only [Act.put, sa_, s0_, ss_, i64_w, i32_w]
             rfl
            refine pure_ (i := 15) (N := some 98) (v := ?_) (a' := ?_) #[true, true, true, true, true, true, true, true, true, true, true, true, true, true, true, true, false, false, false, false, false, false, false, false, false, false, false, false, false, false, false, false, false, false, false, false, false, false, false, false, false, false, false, false, false, false, false, false, false, false, false, false, false, false, false, false, false, false, false, false, false, false, false, false, false, false, false, false] rfl rfl (any_of HT_.out (by kernel_rfl)) (fun _ _ _ h => h) (Or.inl ⟨by rfl, ?_⟩) ?_ ?_
            rotate_left
            ·intro w'
             go_simp
             with_reducible rfl
            rotate_left
            ·simp only [Act.put, sa_, s0_, ss_, i64_w, i32_w]
             rfl
            refine pure_ (i := 16) (N := some 99) (v := ?_) (a' := ?_) #[true, true, true, true, true, true, true, true, true, true, true, true, true, true, true, true, true, false, false, false, false, false, false, false, false, false, false, false, false, false, false, false, false, false, false, false, false, false, false, false, false, false, false, false, false, false, false, false, false, false, false, false, false, false, false, false, false, false, false, false, false, false, false, false, false, false, false, false] rfl rfl (any_of HT_.out (by kernel_rfl)) (fun _ _ _ h => h) (Or.inl ⟨by rfl, ?_⟩) ?_ ?_
            rotate_left
            ·intro w'
             go_simp
             with_reducible rfl
            rotate_left
            ·simp only [Act.put, sa_, s0_, ss_, i64_w, i32_w]
             rfl
            refine pure_ (i := 17) (N := some 100) (v := ?_) (a' := ?_) #[true, true, true, true, true, true, true, true, true, true, true, true, true, true, true, true, true, true, false, false, false, false, false, false, false, false, false, false, false, false, false, false, false, false, false, false, false, false, false, false, false, false, false, false, false, false, false, false, false, false, false, false, false, false, false, false, false, false, false, false, false, false, false, false, false, false, false, false] rfl rfl (any_of HT_.out (by kernel_rfl)) (fun _ _ _ h => h) (Or.inl ⟨by rfl, ?_⟩) ?_ ?_
            rotate_left
            ·intro w'
             go_simp
             with_reducible rfl
            rotate_left
            ·simp only [Act.put, sa_, s0_, ss_, i64_w, i32_w]
             rfl
            refine pure_ (i := 18) (N := some 101) (v := ?_) (a' := ?_) #[true, true, true, true, true, true, true, true, true, true, true, true, true, true, true, true, true, true, true, false, false, false, false, false, false, false, false, false, false, false, false, false, false, false, false, false, false, false, false, false, false, false, false, false, false, false, false, false, false, false, false, false, false, false, false, false, false, false, false, false, false, false, false, false, false, false, false, false] rfl rfl (any_of HT_.out (by kernel_rfl)) (fun _ _ _ h => h) (Or.inl ⟨by rfl, ?_⟩) ?_ ?_
            rotate_left
            ·intro w'
             go_simp
             with_reducible rfl
            rotate_left
            ·simp only [Act.put, sa_, s0_, ss_, i64_w, i32_w]
             rfl
            refine pure_ (i := 19) (N := some 102) (v := ?_) (a' := ?_) #[true, true, true, true, true, true, true, true, true, true, true, true, true, true, true, true, true, true, true, true, false, false, false, false, false, false, false, false, false, false, false, false, false, false, false, false, false, false, false, false, false, false, false, false, false, false, false, false, false, false, false, false, false, false, false, false, false, false, false, false, false, false, false, false, false, false, false, false] rfl rfl (any_of HT_.out (by kernel_rfl)) (fun _ _ _ h => h) (Or.inl ⟨by rfl, ?_⟩) ?_ ?_
            rotate_left
            ·intro w'
             go_simp
             with_reducible rfl
            rotate_left
            ·simp only [Act.put, sa_, s0_, ss_, i64_w, i32_w]
             rfl
            refine pure_ (i := 20) (N := some 103) (v := ?_) (a' := ?_) #[true, true, true, true, true, true, true, true, true, true, true, true, true, true, true, true, true, true, true, true, true, false, false, false, false, false, false, false, false, false, false, false, false, false, false, false, false, false, false, false, false, false, false, false, false, false, false, false, false, false, false, false, false, false, false, false, false, false, false, false, false, false, false, false, false, false, false, false] rfl rfl (any_of HT_.out (by kernel_rfl)) (fun _ _ _ h => h) (Or.inl ⟨by rfl, ?_⟩) ?_ ?_
            rotate_left
            ·intro w'
             go_simp
             with_reducible rfl
            rotate_left
            ·simp only [Act.put, sa_, s0_, ss_, i64_w, i32_w]
             rfl
            refine pure_ (i := 23) (N := some 106) (v := ?_) (a' := ?_) #[true, true, true, true, true, true, true, true, true, true, true, true, true, true, true, true, true, true, true, true, true, false, false, true, false, false, false, false, false, false, false, false, false, false, false, false, false, false, false, false, false, false, false, false, false, false, false, false, false, false, false, false, false, false, false, false, false, false, false, false, false, false, false, false, false, false, false, false] rfl rfl (any_of HT_.out (by kernel_rfl)) (fun _ _ _ h => h) (Or.inl ⟨by rfl, ?_⟩) ?_ ?_
            rotate_left
            ·intro w'
             go_simp
             with_reducible rfl
            rotate_left
            ·simp only [Act.put, sa_, s0_, ss_, i64_w, i32_w]
             rfl
            refine pure_ (i := 24) (N := some 107) (v := ?_) (a' := ?_) #[true, true, true, true, true, true, true, true, true, true, true, true, true, true, true, true, true, true, true, true, true, false, false, true, true, false, false, false, false, false, false, false, false, false, false, false, false, false, false, false, false, false, false, false, false, false, false, false, false, false, false, false, false, false, false, false, false, false, false, false, false, false, false, false, false, false, false, false] rfl rfl (any_of HT_.out (by kernel_rfl)) (fun _ _ _ h => h) (Or.inl ⟨by rfl, ?_⟩) ?_ ?_
            rotate_left
            ·intro w'
             go_simp
             with_reducible rfl
            rotate_left
            ·simp only [Act.put, sa_, s0_, ss_, i64_w, i32_w]
             rfl
            refine pure_ (i := 25) (N := some 108) (v := ?_) (a' := ?_) #[true, true, true, true, true, true, true, true, true, true, true, true, true, true, true, true, true, true, true, true, true, false, false, true, true, true, false, false, false, false, false, false, false, false, false, false, false, false, false, false, false, false, false, false, false, false, false, false, false, false, false, false, false, false, false, false, false, false, false, false, false, false, false, false, false, false, false, false] rfl rfl (any_of HT_.out (by kernel_rfl)) (fun _ _ _ h => h) (Or.inl ⟨by rfl, ?_⟩) ?_ ?_
            rotate_left
            ·intro w'
             go_simp
             with_reducible rfl
            rotate_left
            ·simp only [Act.put, sa_, s0_, ss_, i64_w, i32_w]
             rfl
            refine take_ (i := 21) (N := some 104) (v := ?_) (a' := ?_) #[true, true, true, true, true, true, true, true, true, true, true, true, true, true, true, true, true, true, true, true, true, true, false, true, true, true, false, false, false, false, false, false, false, false, false, false, false, false, false, false, false, false, false, false, false, false, false, false, false, false, false, false, false, false, false, false, false, false, false, false, false, false, false, false, false, false, false, false] rfl rfl (take_ofW HT_.out HW_.out (by kernel_rfl)) (fun _ _ _ h => h) (Or.inl ⟨by rfl, ?_⟩) hHeld ?_ ?_
            rotate_left
            ·rintro w' ⟨s0, s1, s2, s3, s4, s5, s6, s7, s8, s9, s10, s11, s12, s13, s14, s15, s16, s17, s18, s19, s20, s21, s22, s23, s24, s25, s26, s27, s28, s29, s30, s31, s32, s33, s34, s35, s36, s37, s38, s39, s40, s41, s42, s43⟩
             go_simp
             with_reducible rfl
            rotate_left
            ·simp only [Act.put, sa_, s0_, ss_, i64_w, i32_w]
             rfl
            refine take_ (i := 22) (N := some 105) (v := ?_) (a' := ?_) #[true, true, true, true, true, true, true, true, true, true, true, true, true, true, true, true, true, true, true, true, true, true, true, true, true, true, false, false, false, false, false, false, false, false, false, false, false, false, false, false, false, false, false, false, false, false, false, false, false, false, false, false, false, false, false, false, false, false, false, false, false, false, false, false, false, false, false, false] rfl rfl (take_ofW HT_.out HW_.out (by kernel_rfl)) (fun _ _ _ h => h) (Or.inl ⟨by rfl, ?_⟩) hHeld ?_ ?_
            rotate_left
            ·rintro w' ⟨s0, s1, s2, s3, s4, s5, s6, s7, s8, s9, s10, s11, s12, s13, s14, s15, s16, s17, s18, s19, s20, s21, s22, s23, s24, s25, s26, s27, s28, s29, s30, s31, s32, s33, s34, s35, s36, s37, s38, s39, s40, s41, s42, s43⟩
             go_simp
             with_reducible rfl
            rotate_left
            ·simp only [Act.put, sa_, s0_, ss_, i64_w, i32_w]
             rfl
            refine take_ (i := 28) (N := some 111) (v := ?_) (a' := ?_) #[true, true, true, true, true, true, true, true, true, true, true, true, true, true, true, true, true, true, true, true, true, true, true, true, true, true, false, false, true, false, false, false, false, false, false, false, false, false, false, false, false, false, false, false, false, false, false, false, false, false, false, false, false, false, false, false, false, false, false, false, false, false, false, false, false, false, false, false] rfl rfl (take_ofW HT_.out HW_.out (by kernel_rfl)) (fun _ _ _ h => h) (Or.inl ⟨by rfl, ?_⟩) hHeld ?_ ?_
            rotate_left
            ·rintro w' ⟨s0, s1, s2, s3, s4, s5, s6, s7, s8, s9, s10, s11, s12, s13, s14, s15, s16, s17, s18, s19, s20, s21, s22, s23, s24, s25, s26, s27, s28, s29, s30, s31, s32, s33, s34, s35, s36, s37, s38, s39, s40, s41, s42, s43⟩
             go_simp
             with_reducible rfl
            rotate_left
            ·simp only [Act.put, sa_, s0_, ss_, i64_w, i32_w]
             rfl
            refine one_ (i := 26) (N := some 109) #[true, true, true, true, true, true, true, true, true, true, true, true, true, true, true, true, true, true, true, true, true, true, true, true, true, true, true, false, true, false, false, false, false, false, false, false, false, false, false, false, false, false, false, false, false, false, false, false, false, false, false, false, false, false, false, false, false, false, false, false, false, false, false, false, false, false, false, false] rfl rfl (one_of HT_.out (by kernel_rfl)) (by decide) (fun K hK => ?_)
            refine goes_ Try.func21 (by kernel_rfl) rfl #[.agg #[.bool a0_0, .int .i64 a0_1, .bool a0_2, .int .i64 a0_3, .int .u64 a0_4, .int .u64 a0_5], .agg #[.int .i64 a1_0, .int .i64 a1_1], .int .i64 a2, .int .i64 a3, .int .i64 a4] (by rfl) rfl rfl (by first | rfl | (simp only [List.map_toArray, List.map_cons, List.map_nil]; first | done | rfl)) ?_
            with_reducible refine (codel_State_Note.calls k a0_0 a0_1 a0_2 a0_3 a0_4 a0_5 a1_0 a1_1 a2 a3 a4 t482 t483 t484 t485 t486 t487 _ A23.out).mono ?_
            rintro e w106 ⟨rfl, hb⟩
            refine ⟨_, rfl, ?_⟩
            replace BK402 := bb_ BK402 hb
            replace BK403 := bb_ BK403 hb
            replace BK412 := bb_ BK412 hb
            replace BK426 := bb_ BK426 hb
            replace BK434 := bb_ BK434 hb
            replace BK448 := bb_ BK448 hb
            replace BK462 := bb_ BK462 hb
            replace BK469 := bb_ BK469 hb
            replace HB := st_ (by repeat (with_reducible first | exact HB.out | apply bs_ GE402 | apply bs_ GE403 | apply bs_ GE412 | apply bs_ GE426 | apply bs_ GE434 | apply bs_ GE448 | apply bs_ GE462 | apply bs_ GE469)) hb
            (try clear hb)
            (try clear hb2)
            (try clear hk)
            (try clear hi)
            refine hK.out _ _ ⟨(blk_cell BK412.out 0).trans rfl, (blk_cell BK412.out 1).trans rfl, (blk_cell BK412.out 2).trans rfl, (blk_cell BK412.out 3).trans rfl, (blk_cell BK412.out 4).trans rfl, (blk_cell BK412.out 5).trans rfl, (blk_cell BK426.out 0).trans rfl, (blk_cell BK426.out 1).trans rfl, (blk_cell BK426.out 2).trans rfl, (blk_cell BK426.out 3).trans rfl, (blk_cell BK426.out 4).trans rfl, (blk_cell BK426.out 5).trans rfl, (blk_cell BK434.out 0).trans rfl, (blk_cell BK434.out 1).trans rfl, (blk_cell BK434.out 2).trans rfl, (blk_cell BK434.out 3).trans rfl, (blk_cell BK434.out 4).trans rfl, (blk_cell BK434.out 5).trans rfl, (blk_cell BK448.out 0).trans rfl, (blk_cell BK448.out 1).trans rfl, (blk_cell BK448.out 2).trans rfl, (blk_cell BK448.out 3).trans rfl, (blk_cell BK448.out 4).trans rfl, (blk_cell BK448.out 5).trans rfl, (blk_cell BK402.out 0).trans rfl, (blk_cell BK402.out 1).trans rfl, (blk_cell BK402.out 2).trans rfl, (blk_cell BK402.out 3).trans rfl, (blk_cell BK402.out 4).trans rfl, (blk_cell BK402.out 5).trans rfl, (blk_cell BK403.out 0).trans rfl, (blk_cell BK403.out 1).trans rfl, (blk_cell BK462.out 0).trans rfl, (blk_cell BK462.out 1).trans rfl, (blk_cell BK462.out 2).trans rfl, (blk_cell BK462.out 3).trans rfl, (blk_cell BK462.out 4).trans rfl, (blk_cell BK462.out 5).trans rfl, (blk_cell BK469.out 0).trans rfl, (blk_cell BK469.out 1).trans rfl, (blk_cell BK469.out 2).trans rfl, (blk_cell BK469.out 3).trans rfl, (blk_cell BK469.out 4).trans rfl, (blk_cell BK469.out 5).trans rfl⟩ (fun hHeld => ?_)
            clear hK K
            refine norm_ (a' := ?_) ?_ ?_
            rotate_left
            ·show Act.put _ (some 109) _ = _
             simp only [Act.put, sa_, s0_, ss_, i64_w, i32_w]
             rfl
            refine one_ (i := 27) (N := some 110) #[true, true, true, true, true, true, true, true, true, true, true, true, true, true, true, true, true, true, true, true, true, true, true, true, true, true, true, true, true, false, false, false, false, false, false, false, false, false, false, false, false, false, false, false, false, false, false, false, false, false, false, false, false, false, false, false, false, false, false, false, false, false, false, false, false, false, false, false] rfl rfl (one_of HT_.out (by kernel_rfl)) (by decide) (fun K hK => ?_)
            refine goes_ Try.func18 (by kernel_rfl) rfl #[.agg #[.bool t482, .int .i64 t483, .bool t484, .int .i64 t485, .int .u64 t486, .int .u64 t487]] (by rfl) rfl rfl (by first | rfl | (simp only [List.map_toArray, List.map_cons, List.map_nil]; first | done | rfl)) ?_
            with_reducible refine (overfalllaw08_own.calls t482 t483 t484 t485 t486 t487 t488 t489 t490 t491 t492 t493 _ A24.out).mono ?_
            rintro e w107 ⟨rfl, hb⟩
            refine ⟨_, rfl, ?_⟩
            replace BK402 := bb_ BK402 hb
            replace BK403 := bb_ BK403 hb
            replace BK412 := bb_ BK412 hb
            replace BK426 := bb_ BK426 hb
            replace BK434 := bb_ BK434 hb
            replace BK448 := bb_ BK448 hb
            replace BK462 := bb_ BK462 hb
            replace BK469 := bb_ BK469 hb
            replace HB := st_ (by repeat (with_reducible first | exact HB.out | apply bs_ GE402 | apply bs_ GE403 | apply bs_ GE412 | apply bs_ GE426 | apply bs_ GE434 | apply bs_ GE448 | apply bs_ GE462 | apply bs_ GE469)) hb
            (try clear hb)
            (try clear hb2)
            (try clear hk)
            (try clear hi)
            refine hK.out _ _ ⟨(blk_cell BK412.out 0).trans rfl, (blk_cell BK412.out 1).trans rfl, (blk_cell BK412.out 2).trans rfl, (blk_cell BK412.out 3).trans rfl, (blk_cell BK412.out 4).trans rfl, (blk_cell BK412.out 5).trans rfl, (blk_cell BK426.out 0).trans rfl, (blk_cell BK426.out 1).trans rfl, (blk_cell BK426.out 2).trans rfl, (blk_cell BK426.out 3).trans rfl, (blk_cell BK426.out 4).trans rfl, (blk_cell BK426.out 5).trans rfl, (blk_cell BK434.out 0).trans rfl, (blk_cell BK434.out 1).trans rfl, (blk_cell BK434.out 2).trans rfl, (blk_cell BK434.out 3).trans rfl, (blk_cell BK434.out 4).trans rfl, (blk_cell BK434.out 5).trans rfl, (blk_cell BK448.out 0).trans rfl, (blk_cell BK448.out 1).trans rfl, (blk_cell BK448.out 2).trans rfl, (blk_cell BK448.out 3).trans rfl, (blk_cell BK448.out 4).trans rfl, (blk_cell BK448.out 5).trans rfl, (blk_cell BK402.out 0).trans rfl, (blk_cell BK402.out 1).trans rfl, (blk_cell BK402.out 2).trans rfl, (blk_cell BK402.out 3).trans rfl, (blk_cell BK402.out 4).trans rfl, (blk_cell BK402.out 5).trans rfl, (blk_cell BK403.out 0).trans rfl, (blk_cell BK403.out 1).trans rfl, (blk_cell BK462.out 0).trans rfl, (blk_cell BK462.out 1).trans rfl, (blk_cell BK462.out 2).trans rfl, (blk_cell BK462.out 3).trans rfl, (blk_cell BK462.out 4).trans rfl, (blk_cell BK462.out 5).trans rfl, (blk_cell BK469.out 0).trans rfl, (blk_cell BK469.out 1).trans rfl, (blk_cell BK469.out 2).trans rfl, (blk_cell BK469.out 3).trans rfl, (blk_cell BK469.out 4).trans rfl, (blk_cell BK469.out 5).trans rfl⟩ (fun hHeld => ?_)
            clear hK K
            refine norm_ (a' := ?_) ?_ ?_
            rotate_left
            ·show Act.put _ (some 110) _ = _
             simp only [Act.put, sa_, s0_, ss_, i64_w, i32_w]
             rfl
            refine pure_ (i := 29) (N := some 112) (v := ?_) (a' := ?_) #[true, true, true, true, true, true, true, true, true, true, true, true, true, true, true, true, true, true, true, true, true, true, true, true, true, true, true, true, true, true, false, false, false, false, false, false, false, false, false, false, false, false, false, false, false, false, false, false, false, false, false, false, false, false, false, false, false, false, false, false, false, false, false, false, false, false, false, false] rfl rfl (any_of HT_.out (by kernel_rfl)) (fun _ _ _ h => h) (Or.inl ⟨by rfl, ?_⟩) ?_ ?_
            rotate_left
            ·intro w'
             go_simp
             with_reducible rfl
            rotate_left
            ·simp only [Act.put, sa_, s0_, ss_, i64_w, i32_w]
             rfl
            refine pure_ (i := 30) (N := some 113) (v := ?_) (a' := ?_) #[true, true, true, true, true, true, true, true, true, true, true, true, true, true, true, true, true, true, true, true, true, true, true, true, true, true, true, true, true, true, true, false, false, false, false, false, false, false, false, false, false, false, false, false, false, false, false, false, false, false, false, false, false, false, false, false, false, false, false, false, false, false, false, false, false, false, false, false] rfl rfl (any_of HT_.out (by kernel_rfl)) (fun _ _ _ h => h) (Or.inl ⟨by rfl, ?_⟩) ?_ ?_
            rotate_left
            ·intro w'
             go_simp
             with_reducible rfl
            rotate_left
            ·simp only [Act.put, sa_, s0_, ss_, i64_w, i32_w]
             rfl
            refine pure_ (i := 31) (N := some 114) (v := ?_) (a' := ?_) #[true, true, true, true, true, true, true, true, true, true, true, true, true, true, true, true, true, true, true, true, true, true, true, true, true, true, true, true, true, true, true, true, false, false, false, false, false, false, false, false, false, false, false, false, false, false, false, false, false, false, false, false, false, false, false, false, false, false, false, false, false, false, false, false, false, false, false, false] rfl rfl (any_of HT_.out (by kernel_rfl)) (fun _ _ _ h => h) (Or.inl ⟨by rfl, ?_⟩) ?_ ?_
            rotate_left
            ·intro w'
             go_simp
             with_reducible rfl
            rotate_left
            ·simp only [Act.put, sa_, s0_, ss_, i64_w, i32_w]
             rfl
            refine pure_ (i := 32) (N := some 115) (v := ?_) (a' := ?_) #[true, true, true, true, true, true, true, true, true, true, true, true, true, true, true, true, true, true, true, true, true, true, true, true, true, true, true, true, true, true, true, true, true, false, false, false, false, false, false, false, false, false, false, false, false, false, false, false, false, false, false, false, false, false, false, false, false, false, false, false, false, false, false, false, false, false, false, false] rfl rfl (any_of HT_.out (by kernel_rfl)) (fun _ _ _ h => h) (Or.inl ⟨by rfl, ?_⟩) ?_ ?_
            rotate_left
            ·intro w'
             go_simp
             with_reducible rfl
            rotate_left
            ·simp only [Act.put, sa_, s0_, ss_, i64_w, i32_w]
             rfl
            refine take_ (i := 33) (N := some 116) (v := ?_) (a' := ?_) #[true, true, true, true, true, true, true, true, true, true, true, true, true, true, true, true, true, true, true, true, true, true, true, true, true, true, true, true, true, true, true, true, true, true, false, false, false, false, false, false, false, false, false, false, false, false, false, false, false, false, false, false, false, false, false, false, false, false, false, false, false, false, false, false, false, false, false, false] rfl rfl (take_ofW HT_.out HW_.out (by kernel_rfl)) (fun _ _ _ h => h) (Or.inl ⟨by rfl, ?_⟩) hHeld ?_ ?_
            rotate_left
            ·rintro w' ⟨s0, s1, s2, s3, s4, s5, s6, s7, s8, s9, s10, s11, s12, s13, s14, s15, s16, s17, s18, s19, s20, s21, s22, s23, s24, s25, s26, s27, s28, s29, s30, s31, s32, s33, s34, s35, s36, s37, s38, s39, s40, s41, s42, s43⟩
             go_simp
             with_reducible rfl
            rotate_left
            ·simp only [Act.put, sa_, s0_, ss_, i64_w, i32_w]
             rfl
            refine pure_ (i := 34) (N := some 117) (v := ?_) (a' := ?_) #[true, true, true, true, true, true, true, true, true, true, true, true, true, true, true, true, true, true, true, true, true, true, true, true, true, true, true, true, true, true, true, true, true, true, true, false, false, false, false, false, false, false, false, false, false, false, false, false, false, false, false, false, false, false, false, false, false, false, false, false, false, false, false, false, false, false, false, false] rfl rfl (any_of HT_.out (by kernel_rfl)) (fun _ _ _ h => h) (Or.inl ⟨by rfl, ?_⟩) ?_ ?_
            rotate_left
            ·intro w'
             go_simp
             with_reducible rfl
            rotate_left
            ·simp only [Act.put, sa_, s0_, ss_, i64_w, i32_w]
             rfl
            refine pure_ (i := 35) (N := some 118) (v := ?_) (a' := ?_) #[true, true, true, true, true, true, true, true, true, true, true, true, true, true, true, true, true, true, true, true, true, true, true, true, true, true, true, true, true, true, true, true, true, true, true, true, false, false, false, false, false, false, false, false, false, false, false, false, false, false, false, false, false, false, false, false, false, false, false, false, false, false, false, false, false, false, false, false] rfl rfl (any_of HT_.out (by kernel_rfl)) (fun _ _ _ h => h) (Or.inl ⟨by rfl, ?_⟩) ?_ ?_
            rotate_left
            ·intro w'
             go_simp
             with_reducible rfl
            rotate_left
            ·simp only [Act.put, sa_, s0_, ss_, i64_w, i32_w]
             rfl
            refine pure_ (i := 36) (N := some 119) (v := ?_) (a' := ?_) #[true, true, true, true, true, true, true, true, true, true, true, true, true, true, true, true, true, true, true, true, true, true, true, true, true, true, true, true, true, true, true, true, true, true, true, true, true, false, false, false, false, false, false, false, false, false, false, false, false, false, false, false, false, false, false, false, false, false, false, false, false, false, false, false, false, false, false, false] rfl rfl (any_of HT_.out (by kernel_rfl)) (fun _ _ _ h => h) (Or.inl ⟨by rfl, ?_⟩) ?_ ?_
            rotate_left
            ·intro w'
             go_simp
             with_reducible rfl
            rotate_left
            ·simp only [Act.put, sa_, s0_, ss_, i64_w, i32_w]
             rfl
            refine pure_ (i := 37) (N := some 120) (v := ?_) (a' := ?_) #[true, true, true, true, true, true, true, true, true, true, true, true, true, true, true, true, true, true, true, true, true, true, true, true, true, true, true, true, true, true, true, true, true, true, true, true, true, true, false, false, false, false, false, false, false, false, false, false, false, false, false, false, false, false, false, false, false, false, false, false, false, false, false, false, false, false, false, false] rfl rfl (any_of HT_.out (by kernel_rfl)) (fun _ _ _ h => h) (Or.inl ⟨by rfl, ?_⟩) ?_ ?_
            rotate_left
            ·intro w'
             go_simp
             with_reducible rfl
            rotate_left
            ·simp only [Act.put, sa_, s0_, ss_, i64_w, i32_w]
             rfl
            refine take_ (i := 38) (N := some 121) (v := ?_) (a' := ?_) #[true, true, true, true, true, true, true, true, true, true, true, true, true, true, true, true, true, true, true, true, true, true, true, true, true, true, true, true, true, true, true, true, true, true, true, true, true, true, true, false, false, false, false, false, false, false, false, false, false, false, false, false, false, false, false, false, false, false, false, false, false, false, false, false, false, false, false, false] rfl rfl (take_ofW HT_.out HW_.out (by kernel_rfl)) (fun _ _ _ h => h) (Or.inl ⟨by rfl, ?_⟩) hHeld ?_ ?_
            rotate_left
            ·rintro w' ⟨s0, s1, s2, s3, s4, s5, s6, s7, s8, s9, s10, s11, s12, s13, s14, s15, s16, s17, s18, s19, s20, s21, s22, s23, s24, s25, s26, s27, s28, s29, s30, s31, s32, s33, s34, s35, s36, s37, s38, s39, s40, s41, s42, s43⟩
             go_simp
             with_reducible rfl
            rotate_left
            ·simp only [Act.put, sa_, s0_, ss_, i64_w, i32_w]
             rfl
            refine pure_ (i := 39) (N := some 122) (v := ?_) (a' := ?_) #[true, true, true, true, true, true, true, true, true, true, true, true, true, true, true, true, true, true, true, true, true, true, true, true, true, true, true, true, true, true, true, true, true, true, true, true, true, true, true, true, false, false, false, false, false, false, false, false, false, false, false, false, false, false, false, false, false, false, false, false, false, false, false, false, false, false, false, false] rfl rfl (any_of HT_.out (by kernel_rfl)) (fun _ _ _ h => h) (Or.inl ⟨by rfl, ?_⟩) ?_ ?_
            rotate_left
            ·intro w'
             go_simp
             with_reducible rfl
            rotate_left
            ·simp only [Act.put, sa_, s0_, ss_, i64_w, i32_w]
             rfl
            refine pure_ (i := 40) (N := some 123) (v := ?_) (a' := ?_) #[true, true, true, true, true, true, true, true, true, true, true, true, true, true, true, true, true, true, true, true, true, true, true, true, true, true, true, true, true, true, true, true, true, true, true, true, true, true, true, true, true, false, false, false, false, false, false, false, false, false, false, false, false, false, false, false, false, false, false, false, false, false, false, false, false, false, false, false] rfl rfl (any_of HT_.out (by kernel_rfl)) (fun _ _ _ h => h) (Or.inl ⟨by rfl, ?_⟩) ?_ ?_
            rotate_left
            ·intro w'
             go_simp
             with_reducible rfl
            rotate_left
            ·simp only [Act.put, sa_, s0_, ss_, i64_w, i32_w]
             rfl
            refine pure_ (i := 41) (N := some 124) (v := ?_) (a' := ?_) #[true, true, true, true, true, true, true, true, true, true, true, true, true, true, true, true, true, true, true, true, true, true, true, true, true, true, true, true, true, true, true, true, true, true, true, true, true, true, true, true, true, true, false, false, false, false, false, false, false, false, false, false, false, false, false, false, false, false, false, false, false, false, false, false, false, false, false, false] rfl rfl (any_of HT_.out (by kernel_rfl)) (fun _ _ _ h => h) (Or.inl ⟨by rfl, ?_⟩) ?_ ?_
            rotate_left
            ·intro w'
             go_simp
             with_reducible rfl
            rotate_left
            ·simp only [Act.put, sa_, s0_, ss_, i64_w, i32_w]
             rfl
            refine pure_ (i := 42) (N := some 125) (v := ?_) (a' := ?_) #[true, true, true, true, true, true, true, true, true, true, true, true, true, true, true, true, true, true, true, true, true, true, true, true, true, true, true, true, true, true, true, true, true, true, true, true, true, true, true, true, true, true, true, false, false, false, false, false, false, false, false, false, false, false, false, false, false, false, false, false, false, false, false, false, false, false, false, false] rfl rfl (any_of HT_.out (by kernel_rfl)) (fun _ _ _ h => h) (Or.inl ⟨by rfl, ?_⟩) ?_ ?_
            rotate_left
            ·intro w'
             go_simp
             with_reducible rfl
            rotate_left
            ·simp only [Act.put, sa_, s0_, ss_, i64_w, i32_w]
             rfl
            refine take_ (i := 43) (N := some 126) (v := ?_) (a' := ?_) #[true, true, true, true, true, true, true, true, true, true, true, true, true, true, true, true, true, true, true, true, true, true, true, true, true, true, true, true, true, true, true, true, true, true, true, true, true, true, true, true, true, true, true, true, false, false, false, false, false, false, false, false, false, false, false, false, false, false, false, false, false, false, false, false, false, false, false, false] rfl rfl (take_ofW HT_.out HW_.out (by kernel_rfl)) (fun _ _ _ h => h) (Or.inl ⟨by rfl, ?_⟩) hHeld ?_ ?_
            rotate_left
            ·rintro w' ⟨s0, s1, s2, s3, s4, s5, s6, s7, s8, s9, s10, s11, s12, s13, s14, s15, s16, s17, s18, s19, s20, s21, s22, s23, s24, s25, s26, s27, s28, s29, s30, s31, s32, s33, s34, s35, s36, s37, s38, s39, s40, s41, s42, s43⟩
             go_simp
             with_reducible rfl
            rotate_left
            ·simp only [Act.put, sa_, s0_, ss_, i64_w, i32_w]
             rfl
            refine pure_ (i := 44) (N := some 127) (v := ?_) (a' := ?_) #[true, true, true, true, true, true, true, true, true, true, true, true, true, true, true, true, true, true, true, true, true, true, true, true, true, true, true, true, true, true, true, true, true, true, true, true, true, true, true, true, true, true, true, true, true, false, false, false, false, false, false, false, false, false, false, false, false, false, false, false, false, false, false, false, false, false, false, false] rfl rfl (any_of HT_.out (by kernel_rfl)) (fun _ _ _ h => h) (Or.inl ⟨by rfl, ?_⟩) ?_ ?_
            rotate_left
            ·intro w'
             go_simp
             with_reducible rfl
            rotate_left
            ·simp only [Act.put, sa_, s0_, ss_, i64_w, i32_w]
             rfl
            refine pure_ (i := 45) (N := some 128) (v := ?_) (a' := ?_) #[true, true, true, true, true, true, true, true, true, true, true, true, true, true, true, true, true, true, true, true, true, true, true, true, true, true, true, true, true, true, true, true, true, true, true, true, true, true, true, true, true, true, true, true, true, true, false, false, false, false, false, false, false, false, false, false, false, false, false, false, false, false, false, false, false, false, false, false] rfl rfl (any_of HT_.out (by kernel_rfl)) (fun _ _ _ h => h) (Or.inl ⟨by rfl, ?_⟩) ?_ ?_
            rotate_left
            ·intro w'
             go_simp
             with_reducible rfl
            rotate_left
            ·simp only [Act.put, sa_, s0_, ss_, i64_w, i32_w]
             rfl
            refine pure_ (i := 46) (N := some 129) (v := ?_) (a' := ?_) #[true, true, true, true, true, true, true, true, true, true, true, true, true, true, true, true, true, true, true, true, true, true, true, true, true, true, true, true, true, true, true, true, true, true, true, true, true, true, true, true, true, true, true, true, true, true, true, false, false, false, false, false, false, false, false, false, false, false, false, false, false, false, false, false, false, false, false, false] rfl rfl (any_of HT_.out (by kernel_rfl)) (fun _ _ _ h => h) (Or.inl ⟨by rfl, ?_⟩) ?_ ?_
            rotate_left
            ·intro w'
             go_simp
             with_reducible rfl
            rotate_left
            ·simp only [Act.put, sa_, s0_, ss_, i64_w, i32_w]
             rfl
            refine pure_ (i := 47) (N := some 130) (v := ?_) (a' := ?_) #[true, true, true, true, true, true, true, true, true, true, true, true, true, true, true, true, true, true, true, true, true, true, true, true, true, true, true, true, true, true, true, true, true, true, true, true, true, true, true, true, true, true, true, true, true, true, true, true, false, false, false, false, false, false, false, false, false, false, false, false, false, false, false, false, false, false, false, false] rfl rfl (any_of HT_.out (by kernel_rfl)) (fun _ _ _ h => h) (Or.inl ⟨by rfl, ?_⟩) ?_ ?_
            rotate_left
            ·intro w'
             go_simp
             with_reducible rfl
            rotate_left
            ·simp only [Act.put, sa_, s0_, ss_, i64_w, i32_w]
             rfl
            refine pure_ (i := 49) (N := some 132) (v := ?_) (a' := ?_) #[true, true, true, true, true, true, true, true, true, true, true, true, true, true, true, true, true, true, true, true, true, true, true, true, true, true, true, true, true, true, true, true, true, true, true, true, true, true, true, true, true, true, true, true, true, true, true, true, false, true, false, false, false, false, false, false, false, false, false, false, false, false, false, false, false, false, false, false] rfl rfl (any_of HT_.out (by kernel_rfl)) (fun _ _ _ h => h) (Or.inl ⟨by rfl, ?_⟩) ?_ ?_
            rotate_left
            ·intro w'
             go_simp
             with_reducible rfl
            rotate_left
            ·simp only [Act.put, sa_, s0_, ss_, i64_w, i32_w]
             rfl
            refine take_ (i := 48) (N := some 131) (v := ?_) (a' := ?_) #[true, true, true, true, true, true, true, true, true, true, true, true, true, true, true, true, true, true, true, true, true, true, true, true, true, true, true, true, true, true, true, true, true, true, true, true, true, true, true, true, true, true, true, true, true, true, true, true, true, true, false, false, false, false, false, false, false, false, false, false, false, false, false, false, false, false, false, false] rfl rfl (take_ofW HT_.out HW_.out (by kernel_rfl)) (fun _ _ _ h => h) (Or.inl ⟨by rfl, ?_⟩) hHeld ?_ ?_
            rotate_left
            ·rintro w' ⟨s0, s1, s2, s3, s4, s5, s6, s7, s8, s9, s10, s11, s12, s13, s14, s15, s16, s17, s18, s19, s20, s21, s22, s23, s24, s25, s26, s27, s28, s29, s30, s31, s32, s33, s34, s35, s36, s37, s38, s39, s40, s41, s42, s43⟩
             go_simp
             with_reducible rfl
            rotate_left
            ·simp only [Act.put, sa_, s0_, ss_, i64_w, i32_w]
             rfl
            refine take_ (i := 50) (N := some 133) (v := ?_) (a' := ?_) #[true, true, true, true, true, true, true, true, true, true, true, true, true, true, true, true, true, true, true, true, true, true, true, true, true, true, true, true, true, true, true, true, true, true, true, true, true, true, true, true, true, true, true, true, true, true, true, true, true, true, true, false, false, false, false, false, false, false, false, false, false, false, false, false, false, false, false, false] rfl rfl (take_ofW HT_.out HW_.out (by kernel_rfl)) (fun _ _ _ h => h) (Or.inl ⟨by rfl, ?_⟩) hHeld ?_ ?_
            rotate_left
            ·rintro w' ⟨s0, s1, s2, s3, s4, s5, s6, s7, s8, s9, s10, s11, s12, s13, s14, s15, s16, s17, s18, s19, s20, s21, s22, s23, s24, s25, s26, s27, s28, s29, s30, s31, s32, s33, s34, s35, s36, s37, s38, s39, s40, s41, s42, s43⟩
             go_simp
             with_reducible rfl
            rotate_left
            ·simp only [Act.put, sa_, s0_, ss_, i64_w, i32_w]
             rfl
            refine pure_ (i := 51) (N := some 134) (v := ?_) (a' := ?_) #[true, true, true, true, true, true, true, true, true, true, true, true, true, true, true, true, true, true, true, true, true, true, true, true, true, true, true, true, true, true, true, true, true, true, true, true, true, true, true, true, true, true, true, true, true, true, true, true, true, true, true, true, false, false, false, false, false, false, false, false, false, false, false, false, false, false, false, false] rfl rfl (any_of HT_.out (by kernel_rfl)) (fun _ _ _ h => h) (Or.inl ⟨by rfl, ?_⟩) ?_ ?_
            rotate_left
            ·intro w'
             go_simp
             with_reducible rfl
            rotate_left
            ·simp only [Act.put, sa_, s0_, ss_, i64_w, i32_w]
             rfl
            refine pure_ (i := 52) (N := some 135) (v := ?_) (a' := ?_) #[true, true, true, true, true, true, true, true, true, true, true, true, true, true, true, true, true, true, true, true, true, true, true, true, true, true, true, true, true, true, true, true, true, true, true, true, true, true, true, true, true, true, true, true, true, true, true, true, true, true, true, true, true, false, false, false, false, false, false, false, false, false, false, false, false, false, false, false] rfl rfl (any_of HT_.out (by kernel_rfl)) (fun _ _ _ h => h) (Or.inl ⟨by rfl, ?_⟩) ?_ ?_
            rotate_left
            ·intro w'
             go_simp
             with_reducible rfl
            rotate_left
            ·simp only [Act.put, sa_, s0_, ss_, i64_w, i32_w]
             rfl
            refine pure_ (i := 53) (N := some 136) (v := ?_) (a' := ?_) #[true, true, true, true, true, true, true, true, true, true, true, true, true, true, true, true, true, true, true, true, true, true, true, true, true, true, true, true, true, true, true, true, true, true, true, true, true, true, true, true, true, true, true, true, true, true, true, true, true, true, true, true, true, true, false, false, false, false, false, false, false, false, false, false, false, false, false, false] rfl rfl (any_of HT_.out (by kernel_rfl)) (fun _ _ _ h => h) (Or.inl ⟨by rfl, ?_⟩) ?_ ?_
            rotate_left
            ·intro w'
             go_simp
             with_reducible rfl
            rotate_left
            ·simp only [Act.put, sa_, s0_, ss_, i64_w, i32_w]
             rfl
            refine pure_ (i := 54) (N := some 137) (v := ?_) (a' := ?_) #[true, true, true, true, true, true, true, true, true, true, true, true, true, true, true, true, true, true, true, true, true, true, true, true, true, true, true, true, true, true, true, true, true, true, true, true, true, true, true, true, true, true, true, true, true, true, true, true, true, true, true, true, true, true, true, false, false, false, false, false, false, false, false, false, false, false, false, false] rfl rfl (any_of HT_.out (by kernel_rfl)) (fun _ _ _ h => h) (Or.inl ⟨by rfl, ?_⟩) ?_ ?_
            rotate_left
            ·intro w'
             go_simp
             with_reducible rfl
            rotate_left
            ·simp only [Act.put, sa_, s0_, ss_, i64_w, i32_w]
             rfl
            refine pure_ (i := 56) (N := some 139) (v := ?_) (a' := ?_) #[true, true, true, true, true, true, true, true, true, true, true, true, true, true, true, true, true, true, true, true, true, true, true, true, true, true, true, true, true, true, true, true, true, true, true, true, true, true, true, true, true, true, true, true, true, true, true, true, true, true, true, true, true, true, true, false, true, false, false, false, false, false, false, false, false, false, false, false] rfl rfl (any_of HT_.out (by kernel_rfl)) (fun _ _ _ h => h) (Or.inl ⟨by rfl, ?_⟩) ?_ ?_
            rotate_left
            ·intro w'
             go_simp
             with_reducible rfl
            rotate_left
            ·simp only [Act.put, sa_, s0_, ss_, i64_w, i32_w]
             rfl
            refine take_ (i := 55) (N := some 138) (v := ?_) (a' := ?_) #[true, true, true, true, true, true, true, true, true, true, true, true, true, true, true, true, true, true, true, true, true, true, true, true, true, true, true, true, true, true, true, true, true, true, true, true, true, true, true, true, true, true, true, true, true, true, true, true, true, true, true, true, true, true, true, true, true, false, false, false, false, false, false, false, false, false, false, false] rfl rfl (take_ofW HT_.out HW_.out (by kernel_rfl)) (fun _ _ _ h => h) (Or.inl ⟨by rfl, ?_⟩) hHeld ?_ ?_
            rotate_left
            ·rintro w' ⟨s0, s1, s2, s3, s4, s5, s6, s7, s8, s9, s10, s11, s12, s13, s14, s15, s16, s17, s18, s19, s20, s21, s22, s23, s24, s25, s26, s27, s28, s29, s30, s31, s32, s33, s34, s35, s36, s37, s38, s39, s40, s41, s42, s43⟩
             go_simp
             with_reducible rfl
            rotate_left
            ·simp only [Act.put, sa_, s0_, ss_, i64_w, i32_w]
             rfl
            refine take_ (i := 57) (N := some 140) (v := ?_) (a' := ?_) #[true, true, true, true, true, true, true, true, true, true, true, true, true, true, true, true, true, true, true, true, true, true, true, true, true, true, true, true, true, true, true, true, true, true, true, true, true, true, true, true, true, true, true, true, true, true, true, true, true, true, true, true, true, true, true, true, true, true, false, false, false, false, false, false, false, false, false, false] rfl rfl (take_ofW HT_.out HW_.out (by kernel_rfl)) (fun _ _ _ h => h) (Or.inl ⟨by rfl, ?_⟩) hHeld ?_ ?_
            rotate_left
            ·rintro w' ⟨s0, s1, s2, s3, s4, s5, s6, s7, s8, s9, s10, s11, s12, s13, s14, s15, s16, s17, s18, s19, s20, s21, s22, s23, s24, s25, s26, s27, s28, s29, s30, s31, s32, s33, s34, s35, s36, s37, s38, s39, s40, s41, s42, s43⟩
             go_simp
             with_reducible rfl
            rotate_left
            ·simp only [Act.put, sa_, s0_, ss_, i64_w, i32_w]
             rfl
            refine pure_ (i := 58) (N := some 141) (v := ?_) (a' := ?_) #[true, true, true, true, true, true, true, true, true, true, true, true, true, true, true, true, true, true, true, true, true, true, true, true, true, true, true, true, true, true, true, true, true, true, true, true, true, true, true, true, true, true, true, true, true, true, true, true, true, true, true, true, true, true, true, true, true, true, true, false, false, false, false, false, false, false, false, false] rfl rfl (any_of HT_.out (by kernel_rfl)) (fun _ _ _ h => h) (Or.inl ⟨by rfl, ?_⟩) ?_ ?_
            rotate_left
            ·intro w'
             go_simp
             with_reducible rfl
            rotate_left
            ·simp only [Act.put, sa_, s0_, ss_, i64_w, i32_w]
             rfl
            refine pure_ (i := 59) (N := some 142) (v := ?_) (a' := ?_) #[true, true, true, true, true, true, true, true, true, true, true, true, true, true, true, true, true, true, true, true, true, true, true, true, true, true, true, true, true, true, true, true, true, true, true, true, true, true, true, true, true, true, true, true, true, true, true, true, true, true, true, true, true, true, true, true, true, true, true, true, false, false, false, false, false, false, false, false] rfl rfl (any_of HT_.out (by kernel_rfl)) (fun _ _ _ h => h) (Or.inl ⟨by rfl, ?_⟩) ?_ ?_
            rotate_left
            ·intro w'
             go_simp
             with_reducible rfl
            rotate_left
            ·simp only [Act.put, sa_, s0_, ss_, i64_w, i32_w]
             rfl
            refine pure_ (i := 60) (N := some 143) (v := ?_) (a' := ?_) #[true, true, true, true, true, true, true, true, true, true, true, true, true, true, true, true, true, true, true, true, true, true, true, true, true, true, true, true, true, true, true, true, true, true, true, true, true, true, true, true, true, true, true, true, true, true, true, true, true, true, true, true, true, true, true, true, true, true, true, true, true, false, false, false, false, false, false, false] rfl rfl (any_of HT_.out (by kernel_rfl)) (fun _ _ _ h => h) (Or.inl ⟨by rfl, ?_⟩) ?_ ?_
            rotate_left
            ·intro w'
             go_simp
             with_reducible rfl
            rotate_left
            ·simp only [Act.put, sa_, s0_, ss_, i64_w, i32_w]
             rfl
            refine pure_ (i := 61) (N := some 144) (v := ?_) (a' := ?_) #[true, true, true, true, true, true, true, true, true, true, true, true, true, true, true, true, true, true, true, true, true, true, true, true, true, true, true, true, true, true, true, true, true, true, true, true, true, true, true, true, true, true, true, true, true, true, true, true, true, true, true, true, true, true, true, true, true, true, true, true, true, true, false, false, false, false, false, false] rfl rfl (any_of HT_.out (by kernel_rfl)) (fun _ _ _ h => h) (Or.inl ⟨by rfl, ?_⟩) ?_ ?_
            rotate_left
            ·intro w'
             go_simp
             with_reducible rfl
            rotate_left
            ·simp only [Act.put, sa_, s0_, ss_, i64_w, i32_w]
             rfl
            refine pure_ (i := 63) (N := some 146) (v := ?_) (a' := ?_) #[true, true, true, true, true, true, true, true, true, true, true, true, true, true, true, true, true, true, true, true, true, true, true, true, true, true, true, true, true, true, true, true, true, true, true, true, true, true, true, true, true, true, true, true, true, true, true, true, true, true, true, true, true, true, true, true, true, true, true, true, true, true, false, true, false, false, false, false] rfl rfl (any_of HT_.out (by kernel_rfl)) (fun _ _ _ h => h) (Or.inl ⟨by rfl, ?_⟩) ?_ ?_
            rotate_left
            ·intro w'
             go_simp
             with_reducible rfl
            rotate_left
            ·simp only [Act.put, sa_, s0_, ss_, i64_w, i32_w]
             rfl
            refine take_ (i := 62) (N := some 145) (v := ?_) (a' := ?_) #[true, true, true, true, true, true, true, true, true, true, true, true, true, true, true, true, true, true, true, true, true, true, true, true, true, true, true, true, true, true, true, true, true, true, true, true, true, true, true, true, true, true, true, true, true, true, true, true, true, true, true, true, true, true, true, true, true, true, true, true, true, true, true, true, false, false, false, false] rfl rfl (take_ofW HT_.out HW_.out (by kernel_rfl)) (fun _ _ _ h => h) (Or.inl ⟨by rfl, ?_⟩) hHeld ?_ ?_
            rotate_left
            ·rintro w' ⟨s0, s1, s2, s3, s4, s5, s6, s7, s8, s9, s10, s11, s12, s13, s14, s15, s16, s17, s18, s19, s20, s21, s22, s23, s24, s25, s26, s27, s28, s29, s30, s31, s32, s33, s34, s35, s36, s37, s38, s39, s40, s41, s42, s43⟩
             go_simp
             with_reducible rfl
            rotate_left
            ·simp only [Act.put, sa_, s0_, ss_, i64_w, i32_w]
             rfl
            refine take_ (i := 64) (N := some 147) (v := ?_) (a' := ?_) #[true, true, true, true, true, true, true, true, true, true, true, true, true, true, true, true, true, true, true, true, true, true, true, true, true, true, true, true, true, true, true, true, true, true, true, true, true, true, true, true, true, true, true, true, true, true, true, true, true, true, true, true, true, true, true, true, true, true, true, true, true, true, true, true, true, false, false, false] rfl rfl (take_ofW HT_.out HW_.out (by kernel_rfl)) (fun _ _ _ h => h) (Or.inl ⟨by rfl, ?_⟩) hHeld ?_ ?_
            rotate_left
            ·rintro w' ⟨s0, s1, s2, s3, s4, s5, s6, s7, s8, s9, s10, s11, s12, s13, s14, s15, s16, s17, s18, s19, s20, s21, s22, s23, s24, s25, s26, s27, s28, s29, s30, s31, s32, s33, s34, s35, s36, s37, s38, s39, s40, s41, s42, s43⟩
             go_simp
             with_reducible rfl
            rotate_left
            ·simp only [Act.put, sa_, s0_, ss_, i64_w, i32_w]
             rfl
            refine pure_ (i := 65) (N := some 148) (v := ?_) (a' := ?_) #[true, true, true, true, true, true, true, true, true, true, true, true, true, true, true, true, true, true, true, true, true, true, true, true, true, true, true, true, true, true, true, true, true, true, true, true, true, true, true, true, true, true, true, true, true, true, true, true, true, true, true, true, true, true, true, true, true, true, true, true, true, true, true, true, true, true, false, false] rfl rfl (any_of HT_.out (by kernel_rfl)) (fun _ _ _ h => h) (Or.inl ⟨by rfl, ?_⟩) ?_ ?_
            rotate_left
            ·intro w'
             go_simp
             with_reducible rfl
            rotate_left
            ·simp only [Act.put, sa_, s0_, ss_, i64_w, i32_w]
             rfl
            refine pure_ (i := 66) (N := some 149) (v := ?_) (a' := ?_) #[true, true, true, true, true, true, true, true, true, true, true, true, true, true, true, true, true, true, true, true, true, true, true, true, true, true, true, true, true, true, true, true, true, true, true, true, true, true, true, true, true, true, true, true, true, true, true, true, true, true, true, true, true, true, true, true, true, true, true, true, true, true, true, true, true, true, true, false] rfl rfl (any_of HT_.out (by kernel_rfl)) (fun _ _ _ h => h) (Or.inl ⟨by rfl, ?_⟩) ?_ ?_
            rotate_left
            ·intro w'
             go_simp
             with_reducible rfl
            rotate_left
            ·simp only [Act.put, sa_, s0_, ss_, i64_w, i32_w]
             rfl
            refine pure_ (i := 67) (N := some 10) (v := ?_) (a' := ?_) #[true, true, true, true, true, true, true, true, true, true, true, true, true, true, true, true, true, true, true, true, true, true, true, true, true, true, true, true, true, true, true, true, true, true, true, true, true, true, true, true, true, true, true, true, true, true, true, true, true, true, true, true, true, true, true, true, true, true, true, true, true, true, true, true, true, true, true, true] rfl rfl (any_of HT_.out (by kernel_rfl)) (fun _ _ _ h => h) (Or.inl ⟨by rfl, ?_⟩) ?_ ?_
            rotate_left
            ·intro w'
             go_simp
             with_reducible rfl
            rotate_left
            ·simp only [Act.put, sa_, s0_, ss_, i64_w, i32_w]
             rfl
            refine done_ (done_of HT_.out (by kernel_rfl)) ?_
            try go_wp2
            go_ret
            exact ⟨by first | rfl | (simp [errW_none, errW_some] <;> rfl) | (simp [*, errW_none, errW_some] <;> rfl), by repeat (with_reducible first | exact HB.out | apply bs_ GE402 | apply bs_ GE403 | apply bs_ GE412 | apply bs_ GE426 | apply bs_ GE434 | apply bs_ GE448 | apply bs_ GE462 | apply bs_ GE469)⟩
           ·rw [if_neg c30] at H
            exact absurd H (by simp)
          ·rw [if_neg c29] at H
           exact absurd H (by simp)
         ·rw [if_neg c28] at H
          exact absurd H (by simp)
      ·rw [if_neg c25] at H
       exact absurd H (by simp)
     ·rw [if_neg c22] at H
      exact absurd H (by simp)
    ·rw [if_neg c21] at H
     exact absurd H (by simp)
   ·rw [if_neg c19] at H
    exact absurd H (by simp)
  ·rw [if_neg c18] at H
   exact absurd H (by simp)
 ·replace c7 := Bool.eq_false_iff.mpr c7
  subst c7
  have H1 : (none) = some r := by rw [if_neg (show ¬ (false = true) by decide)] at H; exact H
  clear H
  have H := H1
  clear H1
  exact absurd H (by simp)

end Go.Proofs.Ytiiffgmbkajkhaa.L

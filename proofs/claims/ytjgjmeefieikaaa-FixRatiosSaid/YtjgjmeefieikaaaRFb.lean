/- The reference's numbers that don't go over: the same sums, differences, products. -/
import Derived.Test.YtjgjmeefieikaaaRFa
import Derived.Test.YtjgjmeefieikaaaRWe
import Derived.Test.YtjgjmeefieikaaaRx5
import Derived.Test.YtjgjmeefieikaaaRx8
namespace Go.Proofs.Ytjgjmeefieikaaa.Lib
set_option linter.unusedVariables false
set_option linter.unusedSimpArgs false
open Go.RowKit Go.Proofs.Ytjgjmeefieikaaa.R Go.Proofs.YtjgjmeefieikaaaW.PrintWords Go.Proofs.YtjgjmeefieikaaaW.PrintLast Go.Proofs.YtjgjmeefieikaaaW.PrintMore

theorem rsizef (a : Int) (a0 : -9223372036854775808 ≤ a) (a1 : a < 9223372036854775808) : overfallref02_Size.f a = some (0, ab a, decide (a < 0)) := by
  unfold overfallref02_Size.f ab
  by_cases c : a < 0
  · rw [if_neg (show ¬ a ≥ 0 by omega), if_pos c, w64 (x := a + 1) (by omega) (by omega), w64 (x := -(a + 1)) (by omega) (by omega), wu_in (x := -(a + 1)) (by omega) (by omega), wu_in (x := -(a + 1) + 1) (by omega) (by omega), decide_eq_true c, show -(a + 1) + 1 = -a by omega]
  · rw [if_pos (show a ≥ 0 by omega), if_neg c, wu_in (x := a) (by omega) (by omega), decide_eq_false c]
theorem rbackf (k : Nat) (hi lo : Int) (below : Bool) (h0 : 0 ≤ hi) (l0 : 0 ≤ lo) (l1 : lo < 18446744073709551616) : overfallref02_Back.f (k + 1) hi lo below = some (sg (V hi lo) below false) := by
  rw [overfallref02_Back.f]
  by_cases c : hi > 0
  · rw [if_pos c, overfallref02_Back.j0, if_pos (rfl : true = true)]
    cases below
    · rw [if_neg Bool.false_ne_true, sg_f, sat_hi (by unfold V; omega)]
    · rw [if_pos (rfl : true = true), sg_tf, sat_lo (by unfold V; omega)]
  · have hz : hi = 0 := by omega
    subst hz
    rw [if_neg c, overfallref02_Back.j0]
    by_cases g : lo ≥ 9223372036854775808
    · rw [decide_eq_true g, if_pos (rfl : true = true)]
      cases below
      · rw [if_neg Bool.false_ne_true, sg_f, sat_hi (by unfold V; omega)]
      · rw [if_pos (rfl : true = true), sg_tf]
        unfold V sat
        repeat' split
        all_goals first | rfl | (congr 1; omega) | omega
    · rw [decide_eq_false g, if_neg Bool.false_ne_true]
      cases below
      · rw [if_neg Bool.false_ne_true, sg_f, sat_in (by unfold V; omega) (by unfold V; omega), w64 (x := lo) (by omega) (by omega)]
        unfold V; congr 1; omega
      · rw [if_pos (rfl : true = true), sg_tf, sat_in (by unfold V; omega) (by unfold V; omega), w64 (x := lo) (by omega) (by omega), w64 (x := -lo) (by omega) (by omega)]
        unfold V; congr 1; omega
theorem sg_mul (a b : Int) : sg (ab a * ab b) (decide (a < 0) != decide (b < 0)) false = sat (a * b) := by
  rw [← sgn_mul a b]
  cases (decide (a < 0) != decide (b < 0))
  · rw [sg_f, if_neg Bool.false_ne_true]
  · rw [sg_tf, if_pos (rfl : true = true)]
theorem rdownf (k : Nat) (hi lo : Int) (left below : Bool) (h0 : 0 ≤ hi) (h1 : hi < 9223372036854775808) (l0 : 0 ≤ lo) (l1 : lo < 18446744073709551616) : overfallref02_down.f (k + 21) hi lo left below = some (sg (V hi lo) below left) := by
  rw [overfallref02_down.f]
  cases below
  · rw [if_neg Bool.false_ne_true, overfallref02_down.j0, if_neg Bool.false_ne_true, rbackf (k + 19) hi lo false h0 l0 l1, Option.bind_some, sg_f, sg_f]
  · rw [if_pos (rfl : true = true), overfallref02_down.j0]
    cases left
    · rw [if_neg Bool.false_ne_true, rbackf (k + 19) hi lo true h0 l0 l1, Option.bind_some]
    · have S := raddf k hi lo 0 1 h0 (by omega) l0 l1 (by omega) (by omega) (by omega) (by omega)
      have R := rbackf (k + 19) ((hi + 0 + (lo + 1) / 18446744073709551616) % 18446744073709551616) ((lo + 1) % 18446744073709551616) true (by omega) (by omega) (by omega)
      rw [sg_tf, show V ((hi + 0 + (lo + 1) / 18446744073709551616) % 18446744073709551616) ((lo + 1) % 18446744073709551616) = V hi lo + 1 by unfold V; omega] at R
      rw [if_pos (rfl : true = true), S, Option.bind_some, R, Option.bind_some, sg_tt]
end Go.Proofs.Ytjgjmeefieikaaa.Lib

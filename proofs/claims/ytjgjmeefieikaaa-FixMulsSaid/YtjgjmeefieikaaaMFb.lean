/- The reference's numbers that don't go over: the same sums, differences, products. -/
import Derived.Test.YtjgjmeefieikaaaMFa
import Derived.Test.YtjgjmeefieikaaaMWf
import Derived.Test.YtjgjmeefieikaaaMx5
import Derived.Test.YtjgjmeefieikaaaMx6
namespace Go.Proofs.Ytjgjmeefieikaaa.Lib
set_option linter.unusedVariables false
set_option linter.unusedSimpArgs false
open Go.RowKit Go.Proofs.Ytjgjmeefieikaaa.M Go.Proofs.YtjgjmeefieikaaaW.PrintWords Go.Proofs.YtjgjmeefieikaaaW.PrintLast Go.Proofs.YtjgjmeefieikaaaW.PrintMore

theorem rsizef (a : Int) (a0 : -9223372036854775808 ≤ a) (a1 : a < 9223372036854775808) : overfallref02_Size.f a = some (0, ab a, decide (a < 0)) := by
  unfold overfallref02_Size.f ab
  by_cases c : a < 0
  · rw [if_neg (show ¬ a ≥ 0 by omega), if_pos c, w64 (x := a + 1) (by omega) (by omega), w64 (x := -(a + 1)) (by omega) (by omega), wu_in (x := -(a + 1)) (by omega) (by omega), wu_in (x := -(a + 1) + 1) (by omega) (by omega), decide_eq_true c, show -(a + 1) + 1 = -a by omega]
  · rw [if_pos (show a ≥ 0 by omega), if_neg c, wu_in (x := a) (by omega) (by omega), decide_eq_false c]
theorem rbackf (k : Nat) (hi lo : Int) (below : Bool) (h0 : 0 ≤ hi) (l0 : 0 ≤ lo) (l1 : lo < 18446744073709551616) : overfallref02_Back.f (k + 1) hi lo below = some (sg (V hi lo) below false) := by
  rw [overfallref02_Back.f]
  by_cases c : hi > 0
  · rw [if_pos c, overfallref02_Back.j0, if_pos (rfl : true = true)]
    cases below
    · rw [if_neg Bool.false_ne_true, sg_f, sat_hi (by unfold V; omega)]
    · rw [if_pos (rfl : true = true), sg_tf, sat_lo (by unfold V; omega)]
  · have hz : hi = 0 := by omega
    subst hz
    rw [if_neg c, overfallref02_Back.j0]
    by_cases g : lo ≥ 9223372036854775808
    · rw [decide_eq_true g, if_pos (rfl : true = true)]
      cases below
      · rw [if_neg Bool.false_ne_true, sg_f, sat_hi (by unfold V; omega)]
      · rw [if_pos (rfl : true = true), sg_tf]
        unfold V sat
        repeat' split
        all_goals first | rfl | (congr 1; omega) | omega
    · rw [decide_eq_false g, if_neg Bool.false_ne_true]
      cases below
      · rw [if_neg Bool.false_ne_true, sg_f, sat_in (by unfold V; omega) (by unfold V; omega), w64 (x := lo) (by omega) (by omega)]
        unfold V; congr 1; omega
      · rw [if_pos (rfl : true = true), sg_tf, sat_in (by unfold V; omega) (by unfold V; omega), w64 (x := lo) (by omega) (by omega), w64 (x := -lo) (by omega) (by omega)]
        unfold V; congr 1; omega
theorem rmul_abs (k : Nat) (a b x y n1 n2 r : Int) (s t : Bool) (ha : overfallref02_Size.f a = some (0, x, s)) (hb : overfallref02_Size.f b = some (0, y, t)) (h : overfallref01_Mul.f k x y = some (n1, n2)) (hr : overfallref02_Back.f k n1 n2 (s != t) = some r) : overfallref02_Mul.f k a b = some r := by
  rw [overfallref02_Mul.f, ha, Option.bind_some, hb, Option.bind_some]
  rw [h, Option.bind_some, hr, Option.bind_some]
theorem sg_mul (a b : Int) : sg (ab a * ab b) (decide (a < 0) != decide (b < 0)) false = sat (a * b) := by
  rw [← sgn_mul a b]
  cases (decide (a < 0) != decide (b < 0))
  · rw [sg_f, if_neg Bool.false_ne_true]
  · rw [sg_tf, if_pos (rfl : true = true)]
theorem rmul2f (k : Nat) (a b : Int) (a0 : -9223372036854775808 ≤ a) (a1 : a < 9223372036854775808) (b0 : -9223372036854775808 ≤ b) (b1 : b < 9223372036854775808) : overfallref02_Mul.f (k + 40) a b = some (sat (a * b)) := by
  have A := ab_bd a0 a1
  have B := ab_bd b0 b1
  have P := ab_mul_bd a0 a1 b0 b1
  have R := rbackf (k + 39) (ab a * ab b / 18446744073709551616) (ab a * ab b % 18446744073709551616) (decide (a < 0) != decide (b < 0)) (by omega) (by omega) (by omega)
  rw [V_of, sg_mul] at R
  exact rmul_abs _ a b _ _ _ _ _ _ _ (rsizef a a0 a1) (rsizef b b0 b1) (rmulf k _ _ A.1 (by omega) B.1 (by omega)) R
end Go.Proofs.Ytjgjmeefieikaaa.Lib

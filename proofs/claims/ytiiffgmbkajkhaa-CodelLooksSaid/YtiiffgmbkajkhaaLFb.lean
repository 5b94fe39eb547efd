/- The reference's numbers that don't go over: the same sums, differences, products. -/
import Derived.Test.YtiiffgmbkajkhaaLFa
import Derived.Test.YtiiffgmbkajkhaaLWf
import Derived.Test.YtiiffgmbkajkhaaLWe
import Derived.Test.YtiiffgmbkajkhaaLx7
import Derived.Test.YtiiffgmbkajkhaaLx8
import Derived.Test.YtiiffgmbkajkhaaLx9
import Derived.Test.YtiiffgmbkajkhaaLx10
namespace Go.Proofs.Ytiiffgmbkajkhaa.Lib
set_option linter.unusedVariables false
set_option linter.unusedSimpArgs false
open Go.RowKit Go.Proofs.Ytiiffgmbkajkhaa.L Go.Proofs.YtiiffgmbkajkhaaW.PrintWords Go.Proofs.YtiiffgmbkajkhaaW.PrintLast Go.Proofs.YtiiffgmbkajkhaaW.PrintMore

theorem rsizef (a : Int) (a0 : -9223372036854775808 ≤ a) (a1 : a < 9223372036854775808) : overfallref02_Size.f a = some (0, ab a, decide (a < 0)) := by
  unfold overfallref02_Size.f ab
  by_cases c : a < 0
  · rw [if_neg (show ¬ a ≥ 0 by omega), if_pos c, w64 (x := a + 1) (by omega) (by omega), w64 (x := -(a + 1)) (by omega) (by omega), wu_in (x := -(a + 1)) (by omega) (by omega), wu_in (x := -(a + 1) + 1) (by omega) (by omega), decide_eq_true c, show -(a + 1) + 1 = -a by omega]
  · rw [if_pos (show a ≥ 0 by omega), if_neg c, wu_in (x := a) (by omega) (by omega), decide_eq_false c]
theorem rbackf (k : Nat) (hi lo : Int) (below : Bool) (h0 : 0 ≤ hi) (l0 : 0 ≤ lo) (l1 : lo < 18446744073709551616) : overfallref02_Back.f (k + 1) hi lo below = some (sg (V hi lo) below false) := by
  rw [overfallref02_Back.f]
  by_cases c : hi > 0
  · rw [if_pos c, overfallref02_Back.j0, if_pos (rfl : true = true)]
    cases below
    · rw [if_neg Bool.false_ne_true, sg_f, sat_hi (by unfold V; omega)]
    · rw [if_pos (rfl : true = true), sg_tf, sat_lo (by unfold V; omega)]
  · have hz : hi = 0 := by omega
    subst hz
    rw [if_neg c, overfallref02_Back.j0]
    by_cases g : lo ≥ 9223372036854775808
    · rw [decide_eq_true g, if_pos (rfl : true = true)]
      cases below
      · rw [if_neg Bool.false_ne_true, sg_f, sat_hi (by unfold V; omega)]
      · rw [if_pos (rfl : true = true), sg_tf]
        unfold V sat
        repeat' split
        all_goals first | rfl | (congr 1; omega) | omega
    · rw [decide_eq_false g, if_neg Bool.false_ne_true]
      cases below
      · rw [if_neg Bool.false_ne_true, sg_f, sat_in (by unfold V; omega) (by unfold V; omega), w64 (x := lo) (by omega) (by omega)]
        unfold V; congr 1; omega
      · rw [if_pos (rfl : true = true), sg_tf, sat_in (by unfold V; omega) (by unfold V; omega), w64 (x := lo) (by omega) (by omega), w64 (x := -lo) (by omega) (by omega)]
        unfold V; congr 1; omega
theorem radd_same (k : Nat) (a b x y n1 n2 r : Int) (s n3 : Bool) (ha : overfallref02_Size.f a = some (0, x, s)) (hb : overfallref02_Size.f b = some (0, y, s)) (h : overfallref01_Add.f k 0 x 0 y = some (n1, n2, n3)) (hr : overfallref02_Back.f k n1 n2 s = some r) : overfallref02_Add.f k a b = some r := by
  rw [overfallref02_Add.f, ha, Option.bind_some, hb, Option.bind_some, if_pos (by simp)]
  rw [h, Option.bind_some, hr, Option.bind_some]
theorem radd_less (k : Nat) (a b x y n1 n2 r : Int) (s t n3 : Bool) (hs : (s == t) = false) (ha : overfallref02_Size.f a = some (0, x, s)) (hb : overfallref02_Size.f b = some (0, y, t)) (hl : overfallref01_Less.f 0 x 0 y = some true) (h : overfallref01_Sub.f k 0 y 0 x = some (n1, n2, n3)) (hr : overfallref02_Back.f k n1 n2 t = some r) : overfallref02_Add.f k a b = some r := by
  rw [overfallref02_Add.f, ha, Option.bind_some, hb, Option.bind_some, if_neg (by simp [hs])]
  rw [hl, Option.bind_some, if_pos (rfl : true = true), h, Option.bind_some, hr, Option.bind_some]
theorem radd_more (k : Nat) (a b x y n1 n2 r : Int) (s t n3 : Bool) (hs : (s == t) = false) (ha : overfallref02_Size.f a = some (0, x, s)) (hb : overfallref02_Size.f b = some (0, y, t)) (hl : overfallref01_Less.f 0 x 0 y = some false) (h : overfallref01_Sub.f k 0 x 0 y = some (n1, n2, n3)) (hr : overfallref02_Back.f k n1 n2 s = some r) : overfallref02_Add.f k a b = some r := by
  rw [overfallref02_Add.f, ha, Option.bind_some, hb, Option.bind_some, if_neg (by simp [hs])]
  rw [hl, Option.bind_some, if_neg Bool.false_ne_true, h, Option.bind_some, hr, Option.bind_some]
theorem rsub_ge (k : Nat) (x y : Int) (x0 : 0 ≤ x) (x1 : x ≤ 9223372036854775808) (y0 : 0 ≤ y) (y1 : y ≤ 9223372036854775808) (h : y ≤ x) : ∃ b, overfallref01_Sub.f (k + 20) 0 x 0 y = some (0, x - y, b) := by
  have S := rsubf k 0 x 0 y (by omega) (by omega) x0 (by omega) (by omega) (by omega) y0 (by omega)
  rw [if_neg (show ¬ x < y by omega), Int.emod_eq_of_lt (show 0 ≤ x - y by omega) (show x - y < 18446744073709551616 by omega)] at S
  exact ⟨_, S⟩
theorem radd2f (k : Nat) (a b : Int) (a0 : -9223372036854775808 ≤ a) (a1 : a < 9223372036854775808) (b0 : -9223372036854775808 ≤ b) (b1 : b < 9223372036854775808) : overfallref02_Add.f (k + 20) a b = some (sat (a + b)) := by
  have A := rsizef a a0 a1
  have B := rsizef b b0 b1
  have Ab := ab_bd a0 a1
  have Bb := ab_bd b0 b1
  have L := lessf 0 (ab a) 0 (ab b) Ab.1 (by omega) Bb.1 (by omega)
  by_cases c : a < 0
  · have ea : ab a = -a := by unfold ab; rw [if_pos c]
    rw [decide_eq_true c] at A
    by_cases d : b < 0
    · have eb : ab b = -b := by unfold ab; rw [if_pos d]
      rw [decide_eq_true d] at B
      have S := raddf k 0 (ab a) 0 (ab b) (by omega) (by omega) Ab.1 (by omega) (by omega) (by omega) Bb.1 (by omega)
      have R := rbackf (k + 19) ((0 + 0 + (ab a + ab b) / 18446744073709551616) % 18446744073709551616) ((ab a + ab b) % 18446744073709551616) true (by omega) (by omega) (by omega)
      rw [sg_tf, show -V ((0 + 0 + (ab a + ab b) / 18446744073709551616) % 18446744073709551616) ((ab a + ab b) % 18446744073709551616) = a + b by unfold V; omega] at R
      exact radd_same _ a b _ _ _ _ _ _ _ A B S R
    · have eb : ab b = b := by unfold ab; rw [if_neg d]
      rw [decide_eq_false d] at B
      by_cases l : V 0 (ab a) < V 0 (ab b)
      · rw [decide_eq_true l] at L
        obtain ⟨z, S⟩ := rsub_ge k (ab b) (ab a) Bb.1 Bb.2 Ab.1 Ab.2 (by unfold V at l; omega)
        have R := rbackf (k + 19) 0 (ab b - ab a) false (by omega) (by unfold V at l; omega) (by omega)
        rw [sg_f, show V 0 (ab b - ab a) = a + b by unfold V; omega] at R
        exact radd_less _ a b _ _ _ _ _ _ _ _ rfl A B L S R
      · rw [decide_eq_false l] at L
        obtain ⟨z, S⟩ := rsub_ge k (ab a) (ab b) Ab.1 Ab.2 Bb.1 Bb.2 (by unfold V at l; omega)
        have R := rbackf (k + 19) 0 (ab a - ab b) true (by omega) (by unfold V at l; omega) (by omega)
        rw [sg_tf, show -V 0 (ab a - ab b) = a + b by unfold V; omega] at R
        exact radd_more _ a b _ _ _ _ _ _ _ _ rfl A B L S R
  · have ea : ab a = a := by unfold ab; rw [if_neg c]
    rw [decide_eq_false c] at A
    by_cases d : b < 0
    · have eb : ab b = -b := by unfold ab; rw [if_pos d]
      rw [decide_eq_true d] at B
      by_cases l : V 0 (ab a) < V 0 (ab b)
      · rw [decide_eq_true l] at L
        obtain ⟨z, S⟩ := rsub_ge k (ab b) (ab a) Bb.1 Bb.2 Ab.1 Ab.2 (by unfold V at l; omega)
        have R := rbackf (k + 19) 0 (ab b - ab a) true (by omega) (by unfold V at l; omega) (by omega)
        rw [sg_tf, show -V 0 (ab b - ab a) = a + b by unfold V; omega] at R
        exact radd_less _ a b _ _ _ _ _ _ _ _ rfl A B L S R
      · rw [decide_eq_false l] at L
        obtain ⟨z, S⟩ := rsub_ge k (ab a) (ab b) Ab.1 Ab.2 Bb.1 Bb.2 (by unfold V at l; omega)
        have R := rbackf (k + 19) 0 (ab a - ab b) false (by omega) (by unfold V at l; omega) (by omega)
        rw [sg_f, show V 0 (ab a - ab b) = a + b by unfold V; omega] at R
        exact radd_more _ a b _ _ _ _ _ _ _ _ rfl A B L S R
    · have eb : ab b = b := by unfold ab; rw [if_neg d]
      rw [decide_eq_false d] at B
      have S := raddf k 0 (ab a) 0 (ab b) (by omega) (by omega) Ab.1 (by omega) (by omega) (by omega) Bb.1 (by omega)
      have R := rbackf (k + 19) ((0 + 0 + (ab a + ab b) / 18446744073709551616) % 18446744073709551616) ((ab a + ab b) % 18446744073709551616) false (by omega) (by omega) (by omega)
      rw [sg_f, show V ((0 + 0 + (ab a + ab b) / 18446744073709551616) % 18446744073709551616) ((ab a + ab b) % 18446744073709551616) = a + b by unfold V; omega] at R
      exact radd_same _ a b _ _ _ _ _ _ _ A B S R
theorem rsub2f (k : Nat) (a b : Int) (a0 : -9223372036854775808 ≤ a) (a1 : a < 9223372036854775808) (b0 : -9223372036854775808 ≤ b) (b1 : b < 9223372036854775808) : overfallref02_Sub.f (k + 20) a b = some (sat (a - b)) := by
  rw [overfallref02_Sub.f]
  by_cases c : b = -9223372036854775808
  · rw [if_pos c]
    by_cases d : a ≥ 0
    · rw [if_pos d, sat_hi (by omega)]
    · rw [if_neg d, sat_in (by omega) (by omega), w64 (by omega) (by omega)]
  · rw [if_neg c, w64 (x := -b) (by omega) (by omega), radd2f k a (-b) a0 a1 (by omega) (by omega), Option.bind_some, Int.sub_eq_add_neg]
theorem rmul_abs (k : Nat) (a b x y n1 n2 r : Int) (s t : Bool) (ha : overfallref02_Size.f a = some (0, x, s)) (hb : overfallref02_Size.f b = some (0, y, t)) (h : overfallref01_Mul.f k x y = some (n1, n2)) (hr : overfallref02_Back.f k n1 n2 (s != t) = some r) : overfallref02_Mul.f k a b = some r := by
  rw [overfallref02_Mul.f, ha, Option.bind_some, hb, Option.bind_some]
  rw [h, Option.bind_some, hr, Option.bind_some]
theorem sg_mul (a b : Int) : sg (ab a * ab b) (decide (a < 0) != decide (b < 0)) false = sat (a * b) := by
  rw [← sgn_mul a b]
  cases (decide (a < 0) != decide (b < 0))
  · rw [sg_f, if_neg Bool.false_ne_true]
  · rw [sg_tf, if_pos (rfl : true = true)]
theorem rmul2f (k : Nat) (a b : Int) (a0 : -9223372036854775808 ≤ a) (a1 : a < 9223372036854775808) (b0 : -9223372036854775808 ≤ b) (b1 : b < 9223372036854775808) : overfallref02_Mul.f (k + 40) a b = some (sat (a * b)) := by
  have A := ab_bd a0 a1
  have B := ab_bd b0 b1
  have P := ab_mul_bd a0 a1 b0 b1
  have R := rbackf (k + 39) (ab a * ab b / 18446744073709551616) (ab a * ab b % 18446744073709551616) (decide (a < 0) != decide (b < 0)) (by omega) (by omega) (by omega)
  rw [V_of, sg_mul] at R
  exact rmul_abs _ a b _ _ _ _ _ _ _ (rsizef a a0 a1) (rsizef b b0 b1) (rmulf k _ _ A.1 (by omega) B.1 (by omega)) R
end Go.Proofs.Ytiiffgmbkajkhaa.Lib

/- Numbers in parts: products, quotients, floors; program and reference. -/
import Derived.Test.YthmapfhemiamhaaSFb
import Derived.Test.YthmapfhemiamhaaSWi
import Derived.Test.YthmapfhemiamhaaSWj
import Derived.Test.YthmapfhemiamhaaSx5
import Derived.Test.YthmapfhemiamhaaSx11
namespace Go.Proofs.Ythmapfhemiamhaa.Lib
set_option linter.unusedVariables false
set_option linter.unusedSimpArgs false
open Go.RowKit Go.Proofs.Ythmapfhemiamhaa.S Go.Proofs.YthmapfhemiamhaaW.PrintWords Go.Proofs.YthmapfhemiamhaaW.PrintLast Go.Proofs.YthmapfhemiamhaaW.PrintMore

theorem sg_fl (P : Int) (p0 : 0 ≤ P) (below : Bool) : sg (P / 4294967296) below (P % 4294967296 != 0) = sat ((if below = true then -P else P) / 4294967296) := by
  cases below
  · rw [sg_f, if_neg Bool.false_ne_true]
  · rw [if_pos (rfl : true = true)]
    by_cases c : P % 4294967296 = 0
    · rw [show (P % 4294967296 != 0) = false by rw [c]; rfl, sg_tf, show -(P / 4294967296) = -P / 4294967296 by omega]
    · rw [show (P % 4294967296 != 0) = true by simpa using c, sg_tt, show -(P / 4294967296 + 1) = -P / 4294967296 by omega]
/-- Parts times a number, downwards. -/
def ofv (q n : Int) : Int := sat (q * n / 4294967296)
theorem sg_of (q n : Int) : sg (ab q * ab n / 4294967296) (decide (q < 0) != decide (n < 0)) (ab q * ab n % 4294967296 != 0) = ofv q n := by
  have h : 0 ≤ ab q * ab n := Int.mul_nonneg (by unfold ab; split <;> omega) (by unfold ab; split <;> omega)
  rw [sg_fl _ h, sgn_mul]; rfl
theorem p32 : (2 : Int) ^ (min (32 : Int) 128).toNat = 4294967296 := by decide
theorem left_is (P : Int) (p0 : 0 ≤ P) (p1 : P < 18446744073709551616 * 18446744073709551616) :
    (!(P / 4294967296 * 4294967296 / 18446744073709551616 % 18446744073709551616 == P / 18446744073709551616) || !(P / 4294967296 * 4294967296 % 18446744073709551616 == P % 18446744073709551616)) = (P % 4294967296 != 0) := by
  by_cases c : P % 4294967296 = 0
  · have e : P / 4294967296 * 4294967296 = P := by omega
    rw [e, c, Int.emod_eq_of_lt (by omega) (by omega), beq_self_eq_true, beq_self_eq_true]; rfl
  · have e : (P % 4294967296 != 0) = true := by simpa using c
    rw [e]
    by_cases h : P / 4294967296 * 4294967296 % 18446744073709551616 = P % 18446744073709551616
    · omega
    · have : (P / 4294967296 * 4294967296 % 18446744073709551616 == P % 18446744073709551616) = false := by simpa using h
      rw [this, Bool.not_false, Bool.or_true]
theorem qof_abs (k : Nat) (q n x y p1 p2 w1 w2 l1 l2 r : Int) (lf : Bool) (h1 : fix_size.f q = some x) (h2 : fix_size.f n = some y) (h3 : wide_Mul.f x y = some (p1, p2)) (h4 : wide_Num_Right.f p1 p2 32 = some (w1, w2)) (h5 : wide_Num_Left.f w1 w2 32 = some (l1, l2)) (hl : (!(l1 == p1) || (!(l2 == p2))) = lf) (h6 : fix_signed.f k w1 w2 (decide (q < 0) != decide (n < 0)) lf = some r) : fix_Q_Of.f k q n = some r := by
  rw [fix_Q_Of.f, h1, Option.bind_some, h2, Option.bind_some, h3, Option.bind_some]
  rw [h4, Option.bind_some]
  rw [h5, Option.bind_some]
  rw [hl, h6, Option.bind_some]
theorem qoff (k : Nat) (a b : Int) (a0 : -9223372036854775808 ≤ a) (a1 : a < 9223372036854775808) (b0 : -9223372036854775808 ≤ b) (b1 : b < 9223372036854775808) : fix_Q_Of.f (k + 7) a b = some (ofv a b) := by
  have A := ab_bd a0 a1
  have B := ab_bd b0 b1
  have P := ab_mul_bd a0 a1 b0 b1
  have M := mulf (ab a) (ab b) A.1 (by omega) B.1 (by omega)
  have so := sg_of a b
  generalize ab a * ab b = p at *
  have R := rightf (p / 18446744073709551616) (p % 18446744073709551616) 32 (by omega) (by omega) (by omega) (by omega) (by omega)
  rw [p32, V_of] at R
  have L := leftf (p / 4294967296 / 18446744073709551616) (p / 4294967296 % 18446744073709551616) 32 (by omega) (by omega) (by omega) (by omega) (by omega)
  rw [p32, V_of] at L
  have S := signedf k (p / 4294967296 / 18446744073709551616) (p / 4294967296 % 18446744073709551616) (decide (a < 0) != decide (b < 0)) (p % 4294967296 != 0) (by omega) (by omega) (by omega) (by omega)
  rw [V_of, so] at S
  exact qof_abs _ a b _ _ _ _ _ _ _ _ _ _ (fsizef a a0 a1) (fsizef b b0 b1) M R L (left_is p (by omega) (by omega)) S
theorem rof_abs (k : Nat) (q n x y p1 p2 w1 w2 r rs : Int) (s t : Bool) (h1 : overfallref02_Size.f q = some (0, x, s)) (h2 : overfallref02_Size.f n = some (0, y, t)) (h3 : overfallref01_Mul.f k x y = some (p1, p2)) (h4 : overfallref01_Div.f k p1 p2 4294967296 = some (w1, w2, r)) (h6 : overfallref02_down.f k w1 w2 (decide (r > 0)) (s != t) = some rs) : overfallref02_Of.f k q n = some rs := by
  rw [overfallref02_Of.f, h1, Option.bind_some, h2, Option.bind_some]
  rw [h3, Option.bind_some]
  rw [h4, Option.bind_some]
  rw [h6, Option.bind_some]
theorem pos_ne (x : Int) (h : 0 ≤ x) : decide (x > 0) = (x != 0) := by
  by_cases c : x = 0
  · subst c; rfl
  · rw [decide_eq_true (by omega)]; symm; simpa using c
theorem rofqf (k : Nat) (a b : Int) (a0 : -9223372036854775808 ≤ a) (a1 : a < 9223372036854775808) (b0 : -9223372036854775808 ≤ b) (b1 : b < 9223372036854775808) : overfallref02_Of.f (k + 290) a b = some (ofv a b) := by
  have A := ab_bd a0 a1
  have B := ab_bd b0 b1
  have P := ab_mul_bd a0 a1 b0 b1
  have M := rmulf (k + 250) (ab a) (ab b) A.1 (by omega) B.1 (by omega)
  have so := sg_of a b
  generalize ab a * ab b = p at *
  have D := rdivf k (p / 18446744073709551616) (p % 18446744073709551616) 4294967296 (by omega) (by omega) (by omega) (by omega) (by omega) (by omega)
  rw [V_of] at D
  have S := rdownf (k + 269) (p / 4294967296 / 18446744073709551616) (p / 4294967296 % 18446744073709551616) (p % 4294967296 != 0) (decide (a < 0) != decide (b < 0)) (by omega) (by omega) (by omega) (by omega)
  rw [V_of, so, ← pos_ne _ (by omega)] at S
  exact rof_abs _ a b _ _ _ _ _ _ _ _ _ _ (rsizef a a0 a1) (rsizef b b0 b1) M D S
theorem rfl_abs (k : Nat) (q x w1 w2 r rs : Int) (s : Bool) (h1 : overfallref02_Size.f q = some (0, x, s)) (h4 : overfallref01_Div.f k 0 x 4294967296 = some (w1, w2, r)) (h6 : overfallref02_down.f k w1 w2 (decide (r > 0)) s = some rs) : overfallref02_Floor.f k q = some rs := by
  rw [overfallref02_Floor.f, h1, Option.bind_some]
  rw [h4, Option.bind_some]
  rw [h6, Option.bind_some]
theorem rfloorf (k : Nat) (a : Int) (a0 : -9223372036854775808 ≤ a) (a1 : a < 9223372036854775808) : overfallref02_Floor.f (k + 290) a = some (a / 4294967296) := by
  have A := ab_bd a0 a1
  have D := rdivf k 0 (ab a) 4294967296 (by omega) (by omega) A.1 (by omega) (by omega) (by omega)
  rw [show V 0 (ab a) = ab a by unfold V; omega] at D
  have S := rdownf (k + 269) (ab a / 4294967296 / 18446744073709551616) (ab a / 4294967296 % 18446744073709551616) (ab a % 4294967296 != 0) (decide (a < 0)) (by omega) (by omega) (by omega) (by omega)
  have e : (if decide (a < 0) = true then -ab a else ab a) = a := by
    unfold ab
    by_cases c : a < 0 <;> simp [c]
  rw [V_of, sg_fl _ A.1, e, sat_in (by omega) (by omega), ← pos_ne _ (by omega)] at S
  exact rfl_abs _ a _ _ _ _ _ _ (rsizef a a0 a1) D S
/-- A quotient, in parts. -/
def rat (a b : Int) : Int := if b = 0 then (if a = 0 then 0 else if a < 0 then -9223372036854775808 else 9223372036854775807) else sg (ab a * 4294967296 / ab b) ((decide (a < 0) != decide (b < 0)) && (a != 0)) (ab a * 4294967296 % ab b != 0)
end Go.Proofs.Ythmapfhemiamhaa.Lib

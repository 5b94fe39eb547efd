/- Numbers in parts: products, quotients, floors; program and reference. -/
import Derived.Test.YtjgjmeefieikaaaRFb
import Derived.Test.YtjgjmeefieikaaaRWi
import Derived.Test.YtjgjmeefieikaaaRWj
import Derived.Test.YtjgjmeefieikaaaRx4
import Derived.Test.YtjgjmeefieikaaaRx10
import Derived.Test.YtjgjmeefieikaaaRx2
import Derived.Test.YtjgjmeefieikaaaRx9
namespace Go.Proofs.Ytjgjmeefieikaaa.Lib
set_option linter.unusedVariables false
set_option linter.unusedSimpArgs false
open Go.RowKit Go.Proofs.Ytjgjmeefieikaaa.R Go.Proofs.YtjgjmeefieikaaaW.PrintWords Go.Proofs.YtjgjmeefieikaaaW.PrintLast Go.Proofs.YtjgjmeefieikaaaW.PrintMore

theorem sg_fl (P : Int) (p0 : 0 ≤ P) (below : Bool) : sg (P / 4294967296) below (P % 4294967296 != 0) = sat ((if below = true then -P else P) / 4294967296) := by
  cases below
  · rw [sg_f, if_neg Bool.false_ne_true]
  · rw [if_pos (rfl : true = true)]
    by_cases c : P % 4294967296 = 0
    · rw [show (P % 4294967296 != 0) = false by rw [c]; rfl, sg_tf, show -(P / 4294967296) = -P / 4294967296 by omega]
    · rw [show (P % 4294967296 != 0) = true by simpa using c, sg_tt, show -(P / 4294967296 + 1) = -P / 4294967296 by omega]
/-- Parts times a number, downwards. -/
def ofv (q n : Int) : Int := sat (q * n / 4294967296)
theorem sg_of (q n : Int) : sg (ab q * ab n / 4294967296) (decide (q < 0) != decide (n < 0)) (ab q * ab n % 4294967296 != 0) = ofv q n := by
  have h : 0 ≤ ab q * ab n := Int.mul_nonneg (by unfold ab; split <;> omega) (by unfold ab; split <;> omega)
  rw [sg_fl _ h, sgn_mul]; rfl
theorem p32 : (2 : Int) ^ (min (32 : Int) 128).toNat = 4294967296 := by decide
theorem left_is (P : Int) (p0 : 0 ≤ P) (p1 : P < 18446744073709551616 * 18446744073709551616) :
    (!(P / 4294967296 * 4294967296 / 18446744073709551616 % 18446744073709551616 == P / 18446744073709551616) || !(P / 4294967296 * 4294967296 % 18446744073709551616 == P % 18446744073709551616)) = (P % 4294967296 != 0) := by
  by_cases c : P % 4294967296 = 0
  · have e : P / 4294967296 * 4294967296 = P := by omega
    rw [e, c, Int.emod_eq_of_lt (by omega) (by omega), beq_self_eq_true, beq_self_eq_true]; rfl
  · have e : (P % 4294967296 != 0) = true := by simpa using c
    rw [e]
    by_cases h : P / 4294967296 * 4294967296 % 18446744073709551616 = P % 18446744073709551616
    · omega
    · have : (P / 4294967296 * 4294967296 % 18446744073709551616 == P % 18446744073709551616) = false := by simpa using h
      rw [this, Bool.not_false, Bool.or_true]
theorem pos_ne (x : Int) (h : 0 ≤ x) : decide (x > 0) = (x != 0) := by
  by_cases c : x = 0
  · subst c; rfl
  · rw [decide_eq_true (by omega)]; symm; simpa using c
theorem rfl_abs (k : Nat) (q x w1 w2 r rs : Int) (s : Bool) (h1 : overfallref02_Size.f q = some (0, x, s)) (h4 : overfallref01_Div.f k 0 x 4294967296 = some (w1, w2, r)) (h6 : overfallref02_down.f k w1 w2 (decide (r > 0)) s = some rs) : overfallref02_Floor.f k q = some rs := by
  rw [overfallref02_Floor.f, h1, Option.bind_some]
  rw [h4, Option.bind_some]
  rw [h6, Option.bind_some]
theorem rfloorf (k : Nat) (a : Int) (a0 : -9223372036854775808 ≤ a) (a1 : a < 9223372036854775808) : overfallref02_Floor.f (k + 290) a = some (a / 4294967296) := by
  have A := ab_bd a0 a1
  have D := rdivf k 0 (ab a) 4294967296 (by omega) (by omega) A.1 (by omega) (by omega) (by omega)
  rw [show V 0 (ab a) = ab a by unfold V; omega] at D
  have S := rdownf (k + 269) (ab a / 4294967296 / 18446744073709551616) (ab a / 4294967296 % 18446744073709551616) (ab a % 4294967296 != 0) (decide (a < 0)) (by omega) (by omega) (by omega) (by omega)
  have e : (if decide (a < 0) = true then -ab a else ab a) = a := by
    unfold ab
    by_cases c : a < 0 <;> simp [c]
  rw [V_of, sg_fl _ A.1, e, sat_in (by omega) (by omega), ← pos_ne _ (by omega)] at S
  exact rfl_abs _ a _ _ _ _ _ _ (rsizef a a0 a1) D S
/-- A quotient, in parts. -/
def rat (a b : Int) : Int := if b = 0 then (if a = 0 then 0 else if a < 0 then -9223372036854775808 else 9223372036854775807) else sg (ab a * 4294967296 / ab b) ((decide (a < 0) != decide (b < 0)) && (a != 0)) (ab a * 4294967296 % ab b != 0)
end Go.Proofs.Ytjgjmeefieikaaa.Lib

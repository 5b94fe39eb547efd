/- Numbers in parts: products, quotients, floors; program and reference. -/
import Derived.Test.YtiiffgmbkajkhaaAFb
import Derived.Test.YtiiffgmbkajkhaaAWi
namespace Go.Proofs.Ytiiffgmbkajkhaa.Lib
set_option linter.unusedVariables false
set_option linter.unusedSimpArgs false
open Go.RowKit Go.Proofs.Ytiiffgmbkajkhaa.A Go.Proofs.YtiiffgmbkajkhaaW.PrintWords Go.Proofs.YtiiffgmbkajkhaaW.PrintLast Go.Proofs.YtiiffgmbkajkhaaW.PrintMore

theorem sg_fl (P : Int) (p0 : 0 ≤ P) (below : Bool) : sg (P / 4294967296) below (P % 4294967296 != 0) = sat ((if below = true then -P else P) / 4294967296) := by
  cases below
  · rw [sg_f, if_neg Bool.false_ne_true]
  · rw [if_pos (rfl : true = true)]
    by_cases c : P % 4294967296 = 0
    · rw [show (P % 4294967296 != 0) = false by rw [c]; rfl, sg_tf, show -(P / 4294967296) = -P / 4294967296 by omega]
    · rw [show (P % 4294967296 != 0) = true by simpa using c, sg_tt, show -(P / 4294967296 + 1) = -P / 4294967296 by omega]
/-- Parts times a number, downwards. -/
def ofv (q n : Int) : Int := sat (q * n / 4294967296)
theorem sg_of (q n : Int) : sg (ab q * ab n / 4294967296) (decide (q < 0) != decide (n < 0)) (ab q * ab n % 4294967296 != 0) = ofv q n := by
  have h : 0 ≤ ab q * ab n := Int.mul_nonneg (by unfold ab; split <;> omega) (by unfold ab; split <;> omega)
  rw [sg_fl _ h, sgn_mul]; rfl
theorem p32 : (2 : Int) ^ (min (32 : Int) 128).toNat = 4294967296 := by decide
theorem left_is (P : Int) (p0 : 0 ≤ P) (p1 : P < 18446744073709551616 * 18446744073709551616) :
    (!(P / 4294967296 * 4294967296 / 18446744073709551616 % 18446744073709551616 == P / 18446744073709551616) || !(P / 4294967296 * 4294967296 % 18446744073709551616 == P % 18446744073709551616)) = (P % 4294967296 != 0) := by
  by_cases c : P % 4294967296 = 0
  · have e : P / 4294967296 * 4294967296 = P := by omega
    rw [e, c, Int.emod_eq_of_lt (by omega) (by omega), beq_self_eq_true, beq_self_eq_true]; rfl
  · have e : (P % 4294967296 != 0) = true := by simpa using c
    rw [e]
    by_cases h : P / 4294967296 * 4294967296 % 18446744073709551616 = P % 18446744073709551616
    · omega
    · have : (P / 4294967296 * 4294967296 % 18446744073709551616 == P % 18446744073709551616) = false := by simpa using h
      rw [this, Bool.not_false, Bool.or_true]
theorem pos_ne (x : Int) (h : 0 ≤ x) : decide (x > 0) = (x != 0) := by
  by_cases c : x = 0
  · subst c; rfl
  · rw [decide_eq_true (by omega)]; symm; simpa using c
/-- A quotient, in parts. -/
def rat (a b : Int) : Int := if b = 0 then (if a = 0 then 0 else if a < 0 then -9223372036854775808 else 9223372036854775807) else sg (ab a * 4294967296 / ab b) ((decide (a < 0) != decide (b < 0)) && (a != 0)) (ab a * 4294967296 % ab b != 0)
end Go.Proofs.Ytiiffgmbkajkhaa.Lib

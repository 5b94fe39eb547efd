/- The program's numbers that don't go over: sums, differences, sizes, signs. -/
import Derived.Test.YtiiffgmbkajkhaaLWv
import Derived.Test.YtiiffgmbkajkhaaLx2
import Derived.Test.YtiiffgmbkajkhaaLx4
import Derived.Test.YtiiffgmbkajkhaaLx5
namespace Go.Proofs.Ytiiffgmbkajkhaa.Lib
set_option linter.unusedVariables false
set_option linter.unusedSimpArgs false
open Go.RowKit Go.Proofs.Ytiiffgmbkajkhaa.L Go.Proofs.YtiiffgmbkajkhaaW.PrintWords Go.Proofs.YtiiffgmbkajkhaaW.PrintLast Go.Proofs.YtiiffgmbkajkhaaW.PrintMore

def sat (x : Int) : Int := if x < -9223372036854775808 then -9223372036854775808 else if x ≥ 9223372036854775808 then 9223372036854775807 else x
def ab (x : Int) : Int := if x < 0 then -x else x
theorem wr_lo {x : Int} (h0 : -18446744073709551616 ≤ x) (h : x < -9223372036854775808) : wrap64 x = x + 18446744073709551616 := by unfold wrap64; omega
theorem wr_hi {x : Int} (h0 : 9223372036854775808 ≤ x) (h : x < 18446744073709551616 + 9223372036854775808) : wrap64 x = x - 18446744073709551616 := by unfold wrap64; omega
theorem wr_in {x : Int} (h0 : -9223372036854775808 ≤ x) (h : x < 9223372036854775808) : wrap64 x = x := by unfold wrap64; omega
theorem sat_bd (x : Int) : -9223372036854775808 ≤ sat x ∧ sat x < 9223372036854775808 := by unfold sat; (repeat' split) <;> omega
theorem sat_in {x : Int} (h0 : -9223372036854775808 ≤ x) (h : x < 9223372036854775808) : sat x = x := by unfold sat; rw [if_neg (by omega), if_neg (by omega)]
theorem sat_lo {x : Int} (h : x < -9223372036854775808) : sat x = -9223372036854775808 := by unfold sat; rw [if_pos h]
theorem sat_hi {x : Int} (h : 9223372036854775808 ≤ x) : sat x = 9223372036854775807 := by unfold sat; rw [if_neg (by omega), if_pos h]
theorem faddf (a b : Int) (a0 : -9223372036854775808 ≤ a) (a1 : a < 9223372036854775808) (b0 : -9223372036854775808 ≤ b) (b1 : b < 9223372036854775808) : fix_Add.f a b = some (sat (a + b)) := by
  unfold fix_Add.f fix_end.f
  by_cases l : a + b < -9223372036854775808
  · rw [wr_lo (by omega) l, sat_lo l, decide_eq_true (show a < 0 by omega), decide_eq_true (show b < 0 by omega), decide_eq_false (show ¬ a + b + 18446744073709551616 < 0 by omega)]; rfl
  · by_cases h : 9223372036854775808 ≤ a + b
    · rw [wr_hi h (by omega), sat_hi h, decide_eq_false (show ¬ a < 0 by omega), decide_eq_false (show ¬ b < 0 by omega), decide_eq_true (show a + b - 18446744073709551616 < 0 by omega)]; rfl
    · rw [wr_in (by omega) (by omega), sat_in (by omega) (by omega)]
      by_cases c : a < 0 <;> by_cases d : b < 0 <;> by_cases e : a + b < 0 <;> first | omega | simp [c, d, e]
theorem fsubf (a b : Int) (a0 : -9223372036854775808 ≤ a) (a1 : a < 9223372036854775808) (b0 : -9223372036854775808 ≤ b) (b1 : b < 9223372036854775808) : fix_Sub.f a b = some (sat (a - b)) := by
  unfold fix_Sub.f fix_end.f
  by_cases l : a - b < -9223372036854775808
  · rw [wr_lo (by omega) l, sat_lo l, decide_eq_true (show a < 0 by omega), decide_eq_false (show ¬ b < 0 by omega), decide_eq_false (show ¬ a - b + 18446744073709551616 < 0 by omega)]; rfl
  · by_cases h : 9223372036854775808 ≤ a - b
    · rw [wr_hi h (by omega), sat_hi h, decide_eq_false (show ¬ a < 0 by omega), decide_eq_true (show b < 0 by omega), decide_eq_true (show a - b - 18446744073709551616 < 0 by omega)]; rfl
    · rw [wr_in (by omega) (by omega), sat_in (by omega) (by omega)]
      by_cases c : a < 0 <;> by_cases d : b < 0 <;> by_cases e : a - b < 0 <;> first | omega | simp [c, d, e]
theorem wu_neg {x : Int} (h0 : -18446744073709551616 ≤ x) (h : x < 0) : IntKind.u64.wrap x = x + 18446744073709551616 := by
  have e : IntKind.u64.wrap x = x % 18446744073709551616 := rfl
  rw [e]; omega
theorem fsizef (a : Int) (a0 : -9223372036854775808 ≤ a) (a1 : a < 9223372036854775808) : fix_size.f a = some (ab a) := by
  unfold fix_size.f ab
  by_cases c : a < 0
  · rw [if_pos c, if_pos c, wu_neg (x := a) (by omega) c, wu_neg (x := -(a + 18446744073709551616)) (by omega) (by omega)]
    congr 1; omega
  · rw [if_neg c, if_neg c, wu_in (by omega) (by omega)]
theorem ab_bd {a : Int} (a0 : -9223372036854775808 ≤ a) (a1 : a < 9223372036854775808) : 0 ≤ ab a ∧ ab a ≤ 9223372036854775808 := by unfold ab; split <;> omega
theorem cmp_pos (a b : Int) : sgn a b > 0 ↔ b < a := by unfold sgn; (repeat' split) <;> omega
theorem signed_j2f (k : Nat) (hi lo : Int) (h0 : 0 ≤ hi) (h1 : hi < 18446744073709551616) (l0 : 0 ≤ lo) (l1 : lo < 18446744073709551616) :
    fix_signed.j2 (k + 5) false 9223372036854775807 hi lo = some (sat (V hi lo)) := by
  rw [fix_signed.j2, off, Option.bind_some]
  rw [cmpf k hi lo 0 9223372036854775807 l0 l1 (by omega) (by omega), Option.bind_some, if_neg Bool.false_ne_true]
  by_cases c : V 0 9223372036854775807 < V hi lo
  · rw [if_pos ((cmp_pos _ _).2 c)]
    unfold V at *
    rw [sat_hi (by omega)]; rfl
  · rw [if_neg (fun h => c ((cmp_pos _ _).1 h))]
    unfold V at *
    rw [sat_in (by omega) (by omega), wr_in (by omega) (by omega)]
    congr 1; omega
theorem wr_neg {lo : Int} (h : 0 < lo) (h1 : lo ≤ 9223372036854775808) : wrap64 (IntKind.u64.wrap (-lo)) = -lo := by
  rw [wu_neg (x := -lo) (by omega) (by omega)]
  unfold wrap64; omega
theorem wr_neg0 : wrap64 (IntKind.u64.wrap (-0)) = 0 := by
  have e : IntKind.u64.wrap (-0) = 0 := rfl
  rw [e]; unfold wrap64; omega
theorem signed_j2t (k : Nat) (hi lo : Int) (h0 : 0 ≤ hi) (h1 : hi < 18446744073709551616) (l0 : 0 ≤ lo) (l1 : lo < 18446744073709551616) :
    fix_signed.j2 (k + 5) true 9223372036854775808 hi lo = some (sat (-(V hi lo))) := by
  rw [fix_signed.j2, off, Option.bind_some]
  rw [cmpf k hi lo 0 9223372036854775808 l0 l1 (by omega) (by omega), Option.bind_some, if_pos (rfl : true = true)]
  by_cases c : V 0 9223372036854775808 < V hi lo
  · rw [if_pos ((cmp_pos _ _).2 c)]
    unfold V at *
    rw [sat_lo (by omega)]; rfl
  · rw [if_neg (fun h => c ((cmp_pos _ _).1 h))]
    unfold V at *
    rw [sat_in (by omega) (by omega)]
    have hz : hi = 0 := by omega
    subst hz
    by_cases z : lo = 0
    · subst z; rw [wr_neg0]; rfl
    · rw [wr_neg (by omega) (by omega)]
      congr 1; omega
theorem signed_j1f (k : Nat) (hi lo : Int) (h0 : 0 ≤ hi) (h1 : hi < 18446744073709551616) (l0 : 0 ≤ lo) (l1 : lo < 18446744073709551616) :
    fix_signed.j1 (k + 6) false hi lo = some (sat (V hi lo)) := by
  rw [fix_signed.j1, if_neg Bool.false_ne_true]; exact signed_j2f k hi lo h0 h1 l0 l1
theorem signed_j1t (k : Nat) (hi lo : Int) (h0 : 0 ≤ hi) (h1 : hi < 18446744073709551616) (l0 : 0 ≤ lo) (l1 : lo < 18446744073709551616) :
    fix_signed.j1 (k + 6) true hi lo = some (sat (-(V hi lo))) := by
  rw [fix_signed.j1, if_pos (rfl : true = true)]; exact signed_j2t k hi lo h0 h1 l0 l1
def sg (v : Int) (below left : Bool) : Int := sat (if below = true then -(v + if left = true then 1 else 0) else v)
theorem sg_f (v : Int) (left : Bool) : sg v false left = sat v := rfl
theorem sg_tf (v : Int) : sg v true false = sat (-v) := by unfold sg; rw [if_pos (rfl : true = true), if_neg Bool.false_ne_true, Int.add_zero]
theorem sg_tt (v : Int) : sg v true true = sat (-(v + 1)) := by unfold sg; rw [if_pos (rfl : true = true), if_pos (rfl : true = true)]
theorem add_one_abs (k : Nat) (hi lo s t : Int) (b : Bool) (h : wide_Num_Add.f hi lo 0 1 = some (s, t, b)) : fix_signed.j0 (k + 1) true true hi lo = fix_signed.j1 k true s t := by
  rw [fix_signed.j0, if_pos (rfl : true = true), off, Option.bind_some, h, Option.bind_some]
theorem signedf (k : Nat) (hi lo : Int) (below left : Bool) (h0 : 0 ≤ hi) (h1 : hi < 9223372036854775808) (l0 : 0 ≤ lo) (l1 : lo < 18446744073709551616) :
    fix_signed.f (k + 7) hi lo below left = some (sg (V hi lo) below left) := by
  rw [fix_signed.f]
  cases below
  · rw [if_neg Bool.false_ne_true, fix_signed.j0, if_neg Bool.false_ne_true, signed_j1f k hi lo h0 (by omega) l0 l1]; rfl
  · rw [if_pos (rfl : true = true)]
    cases left
    · rw [fix_signed.j0, if_neg Bool.false_ne_true, signed_j1t k hi lo h0 (by omega) l0 l1, sg_tf]
    · have A := addf hi lo 0 1 h0 (by omega) l0 l1 (by omega) (by omega) (by omega) (by omega)
      rw [add_one_abs _ hi lo _ _ _ A, signed_j1t k _ _ (by omega) (by omega) (by omega) (by omega), sg_tt]
      congr 3
      unfold V; omega
theorem sgn_mul (a b : Int) : (if ((decide (a < 0)) != (decide (b < 0))) = true then -(ab a * ab b) else ab a * ab b) = a * b := by
  unfold ab
  by_cases c : a < 0 <;> by_cases d : b < 0 <;> simp [c, d, Int.neg_mul, Int.mul_neg]
theorem ab_mul_bd {a b : Int} (a0 : -9223372036854775808 ≤ a) (a1 : a < 9223372036854775808) (b0 : -9223372036854775808 ≤ b) (b1 : b < 9223372036854775808) : 0 ≤ ab a * ab b ∧ ab a * ab b ≤ 85070591730234615865843651857942052864 := by
  have A := ab_bd a0 a1
  have B := ab_bd b0 b1
  refine ⟨Int.mul_nonneg A.1 B.1, ?_⟩
  have := Int.mul_le_mul A.2 B.2 B.1 (by omega)
  omega
theorem fmulf (k : Nat) (a b : Int) (a0 : -9223372036854775808 ≤ a) (a1 : a < 9223372036854775808) (b0 : -9223372036854775808 ≤ b) (b1 : b < 9223372036854775808) : fix_Mul.f (k + 7) a b = some (sat (a * b)) := by
  have A := ab_bd a0 a1
  have B := ab_bd b0 b1
  have P := ab_mul_bd a0 a1 b0 b1
  rw [fix_Mul.f, fsizef a a0 a1, Option.bind_some, fsizef b b0 b1, Option.bind_some, mulf _ _ A.1 (by omega) B.1 (by omega), Option.bind_some, signedf k _ _ _ _ (by omega) (by omega) (by omega) (by omega), Option.bind_some, V_of]
  rw [← sgn_mul a b]
  cases (decide (a < 0) != decide (b < 0))
  · rw [sg_f, if_neg Bool.false_ne_true]
  · rw [sg_tf, if_pos (rfl : true = true)]
end Go.Proofs.Ytiiffgmbkajkhaa.Lib

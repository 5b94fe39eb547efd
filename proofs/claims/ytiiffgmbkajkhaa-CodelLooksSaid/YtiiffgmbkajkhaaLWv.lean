/- Pairs as numbers; the comparisons, the reference's and the program's. -/
import Derived.Test.YtiiffgmbkajkhaaLWd
import Derived.Test.YtiiffgmbkajkhaaLx8
import Derived.Test.YtiiffgmbkajkhaaLx4
namespace Go.Proofs.Ytiiffgmbkajkhaa.Lib
set_option linter.unusedVariables false
set_option linter.unusedSimpArgs false
open Go.RowKit Go.Proofs.Ytiiffgmbkajkhaa.L Go.Proofs.YtiiffgmbkajkhaaW.PrintWords Go.Proofs.YtiiffgmbkajkhaaW.PrintLast Go.Proofs.YtiiffgmbkajkhaaW.PrintMore
def V (hi lo : Int) : Int := hi * 18446744073709551616 + lo
theorem V_bd {hi lo : Int} (h0 : 0 ≤ hi) (h1 : hi < 18446744073709551616) (l0 : 0 ≤ lo) (l1 : lo < 18446744073709551616) : 0 ≤ V hi lo ∧ V hi lo < 18446744073709551616 * 18446744073709551616 := by unfold V; omega
theorem V_of (v : Int) : V (v / 18446744073709551616) (v % 18446744073709551616) = v := by unfold V; omega
theorem lessf (a b c d : Int) (b0 : 0 ≤ b) (b1 : b < 18446744073709551616) (d0 : 0 ≤ d) (d1 : d < 18446744073709551616) : overfallref01_Less.f a b c d = some (decide (V a b < V c d)) := by
  unfold V
  rw [overfallref01_Less.f]
  by_cases h : a < c
  · rw [if_pos h]; congr 1; symm; rw [decide_eq_true_iff]; omega
  · rw [if_neg h]
    by_cases e : a = c
    · rw [if_pos e]; congr 1; rw [decide_eq_decide]; omega
    · rw [if_neg e]; congr 1; symm; rw [decide_eq_false_iff_not]; omega

def sgn (a b : Int) : Int := if a < b then -1 else if b < a then 1 else 0
theorem comparef (a b : Int) : cmp_Compare_uint64.f a b = some (sgn a b) := by
  unfold sgn
  simp [cmp_Compare_uint64.f, cmp_isNaN_uint64.f]
  split
  · rfl
  · split <;> rfl
theorem orf (k : Nat) (a b : Int) : cmp_Or_int.f (k + 4) [a, b] = some (if a = 0 then b else a) := by
  have w1 : wrap64 (0 + 1) = 1 := by unfold wrap64; omega
  have w2 : wrap64 (1 + 1) = 2 := by unfold wrap64; omega
  rw [cmp_Or_int.f]
  simp only [List.length_cons, List.length_nil]
  rw [cmp_Or_int.l0, if_pos (by decide), if_pos (by decide), if_pos (by simp)]
  have r0 : rd [a, b] 0 = a := rfl
  have r1 : rd [a, b] 1 = b := rfl
  rw [r0]
  by_cases h : a = 0
  · rw [if_pos h, if_pos h, w1, cmp_Or_int.l0, if_pos (by decide), if_pos (by decide), if_pos (by simp), r1]
    by_cases h2 : b = 0
    · rw [if_pos h2, w2, cmp_Or_int.l0, if_neg (by decide), h2]
    · rw [if_neg h2]
  · rw [if_neg h, if_neg h]
theorem cmpf (k : Nat) (a b c d : Int) (b0 : 0 ≤ b) (b1 : b < 18446744073709551616) (d0 : 0 ≤ d) (d1 : d < 18446744073709551616) : wide_Num_Cmp.f (k + 4) a b c d = some (sgn (V a b) (V c d)) := by
  rw [wide_Num_Cmp.f, comparef, comparef]
  simp only [Option.bind_some]
  rw [orf]
  simp only [Option.bind_some]
  congr 1
  unfold sgn V
  repeat' split
  all_goals omega

end Go.Proofs.Ytiiffgmbkajkhaa.Lib

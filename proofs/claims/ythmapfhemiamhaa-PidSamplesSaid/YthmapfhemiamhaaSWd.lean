/- Lemmas of this claim's session over the printed functions (plain Lean, no condition beyond those each theorem names). -/
import Derived.Test.YthmapfhemiamhaaSWc
import Derived.Test.YthmapfhemiamhaaSx3
import Derived.Test.YthmapfhemiamhaaSx7
import Derived.Test.YthmapfhemiamhaaSx11
namespace Go.Proofs.Ythmapfhemiamhaa.Lib
set_option linter.unusedVariables false
set_option linter.unusedSimpArgs false
open Go.RowKit Go.Proofs.Ythmapfhemiamhaa.S Go.Proofs.YthmapfhemiamhaaW.PrintWords Go.Proofs.YthmapfhemiamhaaW.PrintLast Go.Proofs.YthmapfhemiamhaaW.PrintMore
set_option linter.unusedVariables false

theorem off (x : Int) : wide_Of.f x = some (0, x) := rfl
theorem addf (a b c d : Int) (a0 : 0 ≤ a) (a1 : a < 18446744073709551616) (b0 : 0 ≤ b) (b1 : b < 18446744073709551616) (c0 : 0 ≤ c) (c1 : c < 18446744073709551616) (d0 : 0 ≤ d) (d1 : d < 18446744073709551616) :
    wide_Num_Add.f a b c d = some ((a + c + (b + d) / 18446744073709551616) % 18446744073709551616, (b + d) % 18446744073709551616, decide (18446744073709551616 ≤ a + c + (b + d) / 18446744073709551616)) := by
  rw [wide_Num_Add.f, if_pos (by omega)]
  congr 3
  rw [decide_eq_decide]
  omega
/-! the reference's digits -/
def dg (x : Int) (i : Nat) : Int := x / 65536 ^ i % 65536
def digs (hi lo : Int) : List Int := [lo % 65536, lo / 65536 % 65536, lo / 4294967296 % 65536, lo / 281474976710656, hi % 65536, hi / 65536 % 65536, hi / 4294967296 % 65536, hi / 281474976710656]
theorem digitsf (k : Nat) (hi lo : Int) (h0 : 0 ≤ hi) (h1 : hi < 18446744073709551616) (l0 : 0 ≤ lo) (l1 : lo < 18446744073709551616) : overfallref01_Digits.f (k + 10) hi lo = some (digs hi lo) := by
  have e0 : ∀ x : Int, 0 ≤ x → x < 18446744073709551616 → wrap64 (Int.tmod (shr .u64 x 0) 65536) = x % 65536 := fun x a b => by
    rw [shr_u x 0 (by omega) (by omega), tmod_nn (by simpa using a), w64 (by simp; omega) (by simp; omega)]
    simp
  have e1 : ∀ x : Int, 0 ≤ x → x < 18446744073709551616 → wrap64 (Int.tmod (shr .u64 x 16) 65536) = x / 65536 % 65536 := fun x a b => by
    rw [shr_u x 16 (by omega) (by omega)]
    simp only [Int.reduceToNat, Int.reducePow]
    rw [tmod_nn (by omega), w64 (by omega) (by omega)]
  have e2 : ∀ x : Int, 0 ≤ x → x < 18446744073709551616 → wrap64 (Int.tmod (shr .u64 x 32) 65536) = x / 4294967296 % 65536 := fun x a b => by
    rw [shr_u x 32 (by omega) (by omega)]
    simp only [Int.reduceToNat, Int.reducePow]
    rw [tmod_nn (by omega), w64 (by omega) (by omega)]
  have e3 : ∀ x : Int, 0 ≤ x → x < 18446744073709551616 → wrap64 (Int.tmod (shr .u64 x 48) 65536) = x / 281474976710656 := fun x a b => by
    rw [shr_u x 48 (by omega) (by omega)]
    simp only [Int.reduceToNat, Int.reducePow]
    rw [tmod_nn (by omega), w64 (by omega) (by omega)]
    omega
  have w : ∀ x : Int, 0 ≤ x → x < 1000 → wrap64 x = x := fun x a b => w64 (by omega) (by omega)
  rw [overfallref01_Digits.f]
  simp only [overfallref01_Digits.l0, overfallref01_Digits.l1, List.length_nil, List.length_append, List.length_cons]
  simp [w, e0 lo l0 l1, e1 lo l0 l1, e2 lo l0 l1, e3 lo l0 l1, e0 hi h0 h1, e1 hi h0 h1, e2 hi h0 h1, e3 hi h0 h1, digs]
end Go.Proofs.Ythmapfhemiamhaa.Lib

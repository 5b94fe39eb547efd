/- Lemmas of this claim's session over the printed functions (plain Lean, no condition beyond those each theorem names). -/
import Derived.Test.YtdgbehbiigggmaaYWc
import Derived.Test.YtdgbehbiigggmaaYx4
import Derived.Test.YtdgbehbiigggmaaYx6
import Derived.Test.YtdgbehbiigggmaaYx7
namespace Go.Proofs.Ytdgbehbiigggmaa.Lib
set_option linter.unusedVariables false
set_option linter.unusedSimpArgs false
open Go.RowKit Go.Proofs.Ytdgbehbiigggmaa.Y Go.Proofs.YtdgbehbiigggmaaW.PrintWords Go.Proofs.YtdgbehbiigggmaaW.PrintLast Go.Proofs.YtdgbehbiigggmaaW.PrintMore
set_option linter.unusedVariables false

theorem divf (hi lo y : Int) (h0 : 0 ≤ hi) (h1 : hi < 18446744073709551616) (l0 : 0 ≤ lo) (l1 : lo < 18446744073709551616) (y0 : 0 < y) (y1 : y < 18446744073709551616) :
    ∃ K, ∀ k, K ≤ k → wide_Num_Div.f k hi lo y = some ((hi * 18446744073709551616 + lo) / y / 18446744073709551616, (hi * 18446744073709551616 + lo) / y % 18446744073709551616, (hi * 18446744073709551616 + lo) % y) := by
  have r0 := Int.emod_nonneg hi (show y ≠ 0 by omega)
  have r1 := Int.emod_lt_of_pos hi y0
  have d0 : 0 ≤ hi / y := Int.ediv_nonneg h0 (by omega)
  have d1 : hi / y ≤ hi := Int.ediv_le_self y h0
  have e : hi * 18446744073709551616 + lo = (hi % y * 18446744073709551616 + lo) + y * (hi / y * 18446744073709551616) := by
    have : y * (hi / y) + hi % y = hi := Int.mul_ediv_add_emod _ _
    have h : hi * 18446744073709551616 = (y * (hi / y) + hi % y) * 18446744073709551616 := by rw [this]
    rw [h, Int.add_mul, Int.mul_assoc]
    omega
  obtain ⟨k, hk⟩ := div64 (hi % y) lo y r0 r1 l0 l1 y1
  refine Ev.of (g := fun k => wide_Num_Div.f k hi lo y) (fun k => wide_Num_Div.mono _ _ _ k) (k := k) ?_
  show wide_Num_Div.f k hi lo y = _
  have q0 : 0 ≤ (hi % y * 18446744073709551616 + lo) / y := Int.ediv_nonneg (by omega) (by omega)
  have q1 : (hi % y * 18446744073709551616 + lo) / y < 18446744073709551616 := by
    rw [Int.ediv_lt_iff_lt_mul y0]
    omega
  rw [wide_Num_Div.f, if_neg (by omega), tmod_nn h0, hk]
  simp only [Option.bind_some]
  rw [tdiv_nn h0, wu_in d0 (by omega), e, Int.add_mul_ediv_left _ _ (by omega), Int.add_mul_emod_self_left]
  generalize (hi % y * 18446744073709551616 + lo) / y = Q at *
  rw [show (Q + hi / y * 18446744073709551616) / 18446744073709551616 = hi / y by omega, show (Q + hi / y * 18446744073709551616) % 18446744073709551616 = Q by omega]
theorem divf0 (hi lo : Int) (k : Nat) : wide_Num_Div.f k hi lo 0 = some (0, 0, 0) := by
  rw [wide_Num_Div.f, if_pos rfl]
theorem off (x : Int) : wide_Of.f x = some (0, x) := rfl
theorem ownf (x y : Int) : overfalllaw01_own.f x y = some (x, y) := rfl
theorem addf (a b c d : Int) (a0 : 0 ≤ a) (a1 : a < 18446744073709551616) (b0 : 0 ≤ b) (b1 : b < 18446744073709551616) (c0 : 0 ≤ c) (c1 : c < 18446744073709551616) (d0 : 0 ≤ d) (d1 : d < 18446744073709551616) :
    wide_Num_Add.f a b c d = some ((a + c + (b + d) / 18446744073709551616) % 18446744073709551616, (b + d) % 18446744073709551616, decide (18446744073709551616 ≤ a + c + (b + d) / 18446744073709551616)) := by
  rw [wide_Num_Add.f, if_pos (by omega)]
  congr 3
  rw [decide_eq_decide]
  omega
/-! the reference's digits -/
def dg (x : Int) (i : Nat) : Int := x / 65536 ^ i % 65536
def digs (hi lo : Int) : List Int := [lo % 65536, lo / 65536 % 65536, lo / 4294967296 % 65536, lo / 281474976710656, hi % 65536, hi / 65536 % 65536, hi / 4294967296 % 65536, hi / 281474976710656]
theorem digitsf (k : Nat) (hi lo : Int) (h0 : 0 ≤ hi) (h1 : hi < 18446744073709551616) (l0 : 0 ≤ lo) (l1 : lo < 18446744073709551616) : overfallref01_Digits.f (k + 10) hi lo = some (digs hi lo) := by
  have e0 : ∀ x : Int, 0 ≤ x → x < 18446744073709551616 → wrap64 (Int.tmod (shr .u64 x 0) 65536) = x % 65536 := fun x a b => by
    rw [shr_u x 0 (by omega) (by omega), tmod_nn (by simpa using a), w64 (by simp; omega) (by simp; omega)]
    simp
  have e1 : ∀ x : Int, 0 ≤ x → x < 18446744073709551616 → wrap64 (Int.tmod (shr .u64 x 16) 65536) = x / 65536 % 65536 := fun x a b => by
    rw [shr_u x 16 (by omega) (by omega)]
    simp only [Int.reduceToNat, Int.reducePow]
    rw [tmod_nn (by omega), w64 (by omega) (by omega)]
  have e2 : ∀ x : Int, 0 ≤ x → x < 18446744073709551616 → wrap64 (Int.tmod (shr .u64 x 32) 65536) = x / 4294967296 % 65536 := fun x a b => by
    rw [shr_u x 32 (by omega) (by omega)]
    simp only [Int.reduceToNat, Int.reducePow]
    rw [tmod_nn (by omega), w64 (by omega) (by omega)]
  have e3 : ∀ x : Int, 0 ≤ x → x < 18446744073709551616 → wrap64 (Int.tmod (shr .u64 x 48) 65536) = x / 281474976710656 := fun x a b => by
    rw [shr_u x 48 (by omega) (by omega)]
    simp only [Int.reduceToNat, Int.reducePow]
    rw [tmod_nn (by omega), w64 (by omega) (by omega)]
    omega
  have w : ∀ x : Int, 0 ≤ x → x < 1000 → wrap64 x = x := fun x a b => w64 (by omega) (by omega)
  rw [overfallref01_Digits.f]
  simp only [overfallref01_Digits.l0, overfallref01_Digits.l1, List.length_nil, List.length_append, List.length_cons]
  simp [w, e0 lo l0 l1, e1 lo l0 l1, e2 lo l0 l1, e3 lo l0 l1, e0 hi h0 h1, e1 hi h0 h1, e2 hi h0 h1, e3 hi h0 h1, digs]
end Go.Proofs.Ytdgbehbiigggmaa.Lib

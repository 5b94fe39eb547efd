import Derived.Test.YtjgjmeefieikaaaMWd
namespace Go.Proofs.Ytjgjmeefieikaaa.Lib
open Go.RowKit Go.Proofs.Ytjgjmeefieikaaa.M Go.Proofs.YtjgjmeefieikaaaW.PrintWords Go.Proofs.YtjgjmeefieikaaaW.PrintLast Go.Proofs.YtjgjmeefieikaaaW.PrintMore
set_option linter.unusedVariables false
set_option linter.unusedSimpArgs false

theorem digs_split (hi lo : Int) (h0 : 0 ≤ hi) (h1 : hi < 18446744073709551616) (l0 : 0 ≤ lo) (l1 : lo < 18446744073709551616) : ∃ x0 x1 x2 x3 x4 x5 x6 x7 : Int, digs hi lo = [x0, x1, x2, x3, x4, x5, x6, x7] ∧ lo = x0 + 65536 * x1 + 4294967296 * x2 + 281474976710656 * x3 ∧ hi = x4 + 65536 * x5 + 4294967296 * x6 + 281474976710656 * x7 ∧ 0 ≤ x0 ∧ x0 < 65536 ∧ 0 ≤ x1 ∧ x1 < 65536 ∧ 0 ≤ x2 ∧ x2 < 65536 ∧ 0 ≤ x3 ∧ x3 < 65536 ∧ 0 ≤ x4 ∧ x4 < 65536 ∧ 0 ≤ x5 ∧ x5 < 65536 ∧ 0 ≤ x6 ∧ x6 < 65536 ∧ 0 ≤ x7 ∧ x7 < 65536 :=
  ⟨_, _, _, _, _, _, _, _, rfl, by omega, by omega, by omega, by omega, by omega, by omega, by omega, by omega, by omega, by omega, by omega, by omega, by omega, by omega, by omega, by omega, by omega, by omega⟩
theorem rd0 (a : Int) (l : List Int) : rd (a :: l) 0 = a := rfl
theorem rdS (a : Int) (l : List Int) (i : Int) (h : 0 < i) : rd (a :: l) i = rd l (i - 1) := by
  obtain ⟨n, rfl⟩ := Int.eq_ofNat_of_zero_le (Int.le_of_lt h)
  obtain ⟨m, rfl⟩ : ∃ m, n = m + 1 := ⟨n - 1, by omega⟩
  unfold rd
  have : ((m + 1 : Nat) : Int) - 1 = (m : Int) := by omega
  rw [this]
  simp

theorem valuef (k : Nat) (x0 x1 x2 x3 x4 x5 x6 x7 : Int) (hx00 : 0 ≤ x0) (hx01 : x0 < 65536) (hx10 : 0 ≤ x1) (hx11 : x1 < 65536) (hx20 : 0 ≤ x2) (hx21 : x2 < 65536) (hx30 : 0 ≤ x3) (hx31 : x3 < 65536) (hx40 : 0 ≤ x4) (hx41 : x4 < 65536) (hx50 : 0 ≤ x5) (hx51 : x5 < 65536) (hx60 : 0 ≤ x6) (hx61 : x6 < 65536) (hx70 : 0 ≤ x7) (hx71 : x7 < 65536) : overfallref01_Value.f (k + 6) [x0, x1, x2, x3, x4, x5, x6, x7] = some (x4 + 65536 * x5 + 4294967296 * x6 + 281474976710656 * x7, x0 + 65536 * x1 + 4294967296 * x2 + 281474976710656 * x3) := by
  rw [overfallref01_Value.f]
  have w : ∀ x : Int, -1000 ≤ x → x < 1000 → wrap64 x = x := fun x a b => w64 (by omega) (by omega)
  simp only [overfallref01_Value.l0]
  simp [w, rd]
  constructor <;> (simp only [wu]; omega)
theorem add_dig (x y c : Int) (a0 : 0 ≤ x) (a1 : x < 65536) (b0 : 0 ≤ y) (b1 : y < 65536) (c0 : 0 ≤ c) (c1 : c ≤ 1) : ∃ z c' : Int, x + y + c = z + 65536 * c' ∧ 0 ≤ z ∧ z < 65536 ∧ 0 ≤ c' ∧ c' ≤ 1 ∧ (x + y + c) % 65536 = z ∧ (x + y + c) / 65536 = c' := ⟨_, _, by omega, by omega, by omega, by omega, by omega, rfl, rfl⟩
theorem sub_dig (x y c : Int) (a0 : 0 ≤ x) (a1 : x < 65536) (b0 : 0 ≤ y) (b1 : y < 65536) (c0 : 0 ≤ c) (c1 : c ≤ 1) : ∃ z c' : Int, x - y - c = z - 65536 * c' ∧ 0 ≤ z ∧ z < 65536 ∧ 0 ≤ c' ∧ c' ≤ 1 ∧ (x - y - c) % 65536 = z ∧ (if x - y - c < 0 then 1 else 0) = c' := ⟨(x - y - c) % 65536, (if x - y - c < 0 then 1 else 0), by split <;> omega, by omega, by omega, by split <;> omega, by split <;> omega, rfl, rfl⟩
theorem chain_add (x0 x1 x2 x3 y0 y1 y2 y3 z0 z1 z2 z3 c0 c1 c2 c3 c4 : Int) (e0 : x0 + y0 + c0 = z0 + 65536 * c1) (e1 : x1 + y1 + c1 = z1 + 65536 * c2) (e2 : x2 + y2 + c2 = z2 + 65536 * c3) (e3 : x3 + y3 + c3 = z3 + 65536 * c4) : x0 + 65536 * x1 + 4294967296 * x2 + 281474976710656 * x3 + (y0 + 65536 * y1 + 4294967296 * y2 + 281474976710656 * y3) + c0 = z0 + 65536 * z1 + 4294967296 * z2 + 281474976710656 * z3 + 18446744073709551616 * c4 := by omega
theorem chain_sub (x0 x1 x2 x3 y0 y1 y2 y3 z0 z1 z2 z3 c0 c1 c2 c3 c4 : Int) (e0 : x0 - y0 - c0 = z0 - 65536 * c1) (e1 : x1 - y1 - c1 = z1 - 65536 * c2) (e2 : x2 - y2 - c2 = z2 - 65536 * c3) (e3 : x3 - y3 - c3 = z3 - 65536 * c4) : x0 + 65536 * x1 + 4294967296 * x2 + 281474976710656 * x3 - (y0 + 65536 * y1 + 4294967296 * y2 + 281474976710656 * y3) - c0 = z0 + 65536 * z1 + 4294967296 * z2 + 281474976710656 * z3 - 18446744073709551616 * c4 := by omega
theorem lin_bd (z0 z1 z2 z3 : Int) (hz00 : 0 ≤ z0) (hz01 : z0 < 65536) (hz10 : 0 ≤ z1) (hz11 : z1 < 65536) (hz20 : 0 ≤ z2) (hz21 : z2 < 65536) (hz30 : 0 ≤ z3) (hz31 : z3 < 65536) : 0 ≤ z0 + 65536 * z1 + 4294967296 * z2 + 281474976710656 * z3 ∧ z0 + 65536 * z1 + 4294967296 * z2 + 281474976710656 * z3 < 18446744073709551616 := by omega
end Go.Proofs.Ytjgjmeefieikaaa.Lib

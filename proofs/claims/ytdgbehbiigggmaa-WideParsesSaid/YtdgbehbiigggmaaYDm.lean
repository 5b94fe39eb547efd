/- Division by one digit, school method: plain arithmetic. -/
import Derived.Laws.MathBits
namespace Go.Proofs.Ytdgbehbiigggmaa.Lib
/-- One digit of the school division. -/
structure Dig (y1 y0 un u1 q r : Int) : Prop where
  y1l : 2147483648 ≤ y1
  y1h : y1 < 4294967296
  y0l : 0 ≤ y0
  y0h : y0 < 4294967296
  unl : 0 ≤ un
  unh : un < y1 * 4294967296 + y0
  u1l : 0 ≤ u1
  u1h : u1 < 4294967296
  ql : 0 ≤ q
  qh : q ≤ 4294967297
  rl : 0 ≤ r
  rh : r < 4294967296
  sum : q * y1 + r = un
  big : un * 4294967296 + u1 < (q + 1) * (y1 * 4294967296 + y0)

theorem mulY (q y1 y0 : Int) : q * (y1 * 4294967296 + y0) = q * y1 * 4294967296 + q * y0 := by
  rw [Int.mul_add, Int.mul_assoc]

theorem Dig.init {y1 y0 un u1 : Int} (y1l : 2147483648 ≤ y1) (y1h : y1 < 4294967296) (y0l : 0 ≤ y0) (y0h : y0 < 4294967296) (unl : 0 ≤ un) (unh : un < y1 * 4294967296 + y0) (u1l : 0 ≤ u1) (u1h : u1 < 4294967296) :
    Dig y1 y0 un u1 (un / y1) (un - un / y1 * y1) := by
  have h1 : un / y1 * y1 + un % y1 = un := by rw [Int.mul_comm]; exact Int.mul_ediv_add_emod un y1
  have h2 := Int.emod_nonneg un (show y1 ≠ 0 by omega)
  have h3 := Int.emod_lt_of_pos un (show 0 < y1 by omega)
  have h4 : 0 ≤ un / y1 := Int.ediv_nonneg unl (by omega)
  have h5 : un / y1 < 4294967298 := by
    rw [Int.ediv_lt_iff_lt_mul (by omega)]
    omega
  refine ⟨y1l, y1h, y0l, y0h, unl, unh, u1l, u1h, h4, by omega, by omega, by omega, by omega, ?_⟩
  rw [mulY]
  simp only [Int.add_mul]
  have h6 : 0 ≤ un / y1 * y0 := Int.mul_nonneg h4 y0l
  omega

variable {y1 y0 un u1 q r : Int}
theorem Dig.bounds (h : Dig y1 y0 un u1 q r) : 0 ≤ q * y0 ∧ q * y0 < 18446744073709551616 ∧ 0 ≤ q * y1 := by
  obtain ⟨a1, a2, a3, a4, a5, a6, a7, a8, a9, a10, a11, a12, a13, a14⟩ := h
  refine ⟨Int.mul_nonneg a9 a3, ?_, Int.mul_nonneg a9 (by omega)⟩
  have := Int.mul_le_mul a10 (show y0 ≤ 4294967295 by omega) a3 (by omega)
  omega
theorem Dig.no (h : Dig y1 y0 un u1 q r) (c : q * y0 ≤ 4294967296 * r + u1) : (un * 4294967296 + u1) / (y1 * 4294967296 + y0) = q := by
  obtain ⟨a1, a2, a3, a4, a5, a6, a7, a8, a9, a10, a11, a12, a13, a14⟩ := h
  have hY : 0 < y1 * 4294967296 + y0 := by omega
  refine Int.le_antisymm ?_ ?_
  · have := (Int.ediv_lt_iff_lt_mul hY).2 a14
    omega
  · rw [Int.le_ediv_iff_mul_le hY, mulY]
    omega
theorem Dig.yes (h : Dig y1 y0 un u1 q r) (c : 4294967296 ≤ q ∨ 4294967296 * r + u1 < q * y0) : un * 4294967296 + u1 < q * (y1 * 4294967296 + y0) ∧ 1 ≤ q := by
  obtain ⟨a1, a2, a3, a4, a5, a6, a7, a8, a9, a10, a11, a12, a13, a14⟩ := h
  have key : un * 4294967296 + u1 < q * (y1 * 4294967296 + y0) := by
    rcases c with c | c
    · have := Int.mul_le_mul_of_nonneg_right c (show 0 ≤ y1 * 4294967296 + y0 by omega)
      omega
    · rw [mulY]
      omega
  refine ⟨key, ?_⟩
  have : q ≠ 0 := by
    intro e
    subst e
    simp at key
    omega
  omega
theorem Dig.step (h : Dig y1 y0 un u1 q r) (c : 4294967296 ≤ q ∨ 4294967296 * r + u1 < q * y0) (hr : r + y1 < 4294967296) : Dig y1 y0 un u1 (q - 1) (r + y1) := by
  have k := h.yes c
  obtain ⟨a1, a2, a3, a4, a5, a6, a7, a8, a9, a10, a11, a12, a13, a14⟩ := h
  refine ⟨a1, a2, a3, a4, a5, a6, a7, a8, by omega, by omega, by omega, hr, ?_, ?_⟩
  · rw [Int.sub_mul]; omega
  · rw [Int.sub_add_cancel]; exact k.1
theorem Dig.last (h : Dig y1 y0 un u1 q r) (c : 4294967296 ≤ q ∨ 4294967296 * r + u1 < q * y0) (hr : 4294967296 ≤ r + y1) : (un * 4294967296 + u1) / (y1 * 4294967296 + y0) = q - 1 := by
  have k := h.yes c
  obtain ⟨a1, a2, a3, a4, a5, a6, a7, a8, a9, a10, a11, a12, a13, a14⟩ := h
  have hY : 0 < y1 * 4294967296 + y0 := by omega
  have hs : (q - 1) * y1 + (r + y1) = un := by rw [Int.sub_mul]; omega
  have hq : q - 1 < 4294967296 := by
    refine Int.lt_of_mul_lt_mul_right (a := y1) ?_ (by omega)
    omega
  have hm : (q - 1) * y0 ≤ 4294967295 * y0 := Int.mul_le_mul_of_nonneg_right (by omega) a3
  refine Int.le_antisymm ?_ ?_
  · have := (Int.ediv_lt_iff_lt_mul hY).2 k.1
    omega
  · rw [Int.le_ediv_iff_mul_le hY, mulY]
    omega
end Go.Proofs.Ytdgbehbiigggmaa.Lib

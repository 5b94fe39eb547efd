/- RootRises' pure statement: roots rise; that of a product of squares is the product of the roots; both widths tell the same. -/
import Derived.Test.YtbpjgkidhlkiiaaRa
import Derived.Test.YtbpjgkidhlkiiaaGx3
import Derived.Test.YtbpjgkidhlkiiaaGx6
namespace Go.Proofs.Ytbpjgkidhlkiiaa.Pure
set_option linter.unusedVariables false
set_option linter.unusedSimpArgs false
open Go.RowKit Go.Proofs.Ytbpjgkidhlkiiaa.G Go.Proofs.YtbpjgkidhlkiiaaW.PrintWords Go.Proofs.YtbpjgkidhlkiiaaW.PrintLast Go.Proofs.YtbpjgkidhlkiiaaW.PrintMore
open Go.Proofs.Ytbpjgkidhlkiiaa.Lib

theorem awake_at : overfalllaw03_awake.f 200 = some true := by decide +kernel
theorem awakef : ∃ K, ∀ k, K ≤ k → overfalllaw03_awake.f k = some true := Ev.of (g := fun k => overfalllaw03_awake.f k) (fun k => overfalllaw03_awake.mono k) awake_at
theorem most_sq (x : Int) (h0 : 0 ≤ x) (h1 : x < 18446744073709551616) : Most x 1 (x * x) := by
  refine ⟨h0, h1, by omega, fun _ => ?_⟩
  have : (x + 1) * (x + 1) = x * x + 2 * x + 1 := by grind
  omega
theorem rises_j0 (a b x y : Int) (a0 : 0 ≤ a) (a1 : a < 18446744073709551616) (b0 : 0 ≤ b) (b1 : b < 18446744073709551616) (x0 : 0 ≤ x) (x1 : x < 65536) (y0 : 0 ≤ y) (y1 : y < 65536) (h : a ≤ b) : ∀ k, overfalllaw03_RootRises.j0 (k + 71) a b x y = some true := by
  have xx0 : 0 ≤ x * x := Int.mul_nonneg x0 x0
  have xx1 : x * x ≤ 4294836225 := by
    have := Int.mul_le_mul (show x ≤ 65535 by omega) (show x ≤ 65535 by omega) x0 (by omega)
    omega
  have xy0 : 0 ≤ x * y := Int.mul_nonneg x0 y0
  have xy1 : x * y ≤ 4294836225 := by
    have := Int.mul_le_mul (show x ≤ 65535 by omega) (show y ≤ 65535 by omega) y0 (by omega)
    omega
  have p0 : 0 ≤ x * x * y := Int.mul_nonneg xx0 y0
  have p1 : x * x * y ≤ 281462092005375 := by
    have := Int.mul_le_mul xx1 (show y ≤ 65535 by omega) y0 (by omega)
    omega
  have q0 : 0 ≤ x * x * y * y := Int.mul_nonneg p0 y0
  have q1 : x * x * y * y < 18446744073709551616 := by
    have := Int.mul_le_mul p1 (show y ≤ 65535 by omega) y0 (by omega)
    omega
  obtain ⟨r1, e1, m1, s1⟩ := sqrtf a a0 a1
  obtain ⟨r2, e2, m2, s2⟩ := sqrtf b b0 b1
  obtain ⟨r3, e3, m3⟩ := widef 0 a (by omega) (by omega) a0 a1
  obtain ⟨r4, e4, m4, s4⟩ := sqrtf (x * x * y * y) q0 q1
  have aa0 : 0 ≤ a * a := Int.mul_nonneg a0 a0
  have aa1 : a * a < 18446744073709551616 * 18446744073709551616 := by
    have := Int.mul_le_mul (show a ≤ 18446744073709551615 by omega) (show a ≤ 18446744073709551615 by omega) a0 (by omega)
    omega
  obtain ⟨r5, e5, m5⟩ := widef (a * a / 18446744073709551616) (a * a % 18446744073709551616) (by omega) (by omega) (by omega) (by omega)
  rw [V_of] at m5
  rw [show V 0 a = a by unfold V; omega] at m3
  have h12 : r1 ≤ r2 := Most.mono (by omega) m1 m2 h
  have h31 : r3 = r1 := Most.uniq (by omega) m3 m1
  have h4 : r4 = x * y := Most.uniq (by omega) m4 (by
    have := most_sq (x * y) xy0 (by omega)
    rw [show x * y * (x * y) = x * x * y * y by grind] at this
    exact this)
  have h5 : r5 = a := Most.uniq (by omega) m5 (most_sq a a0 a1)
  intro k
  rw [overfalllaw03_RootRises.j0]
  rw [e1 k, Option.bind_some, e2 k, Option.bind_some, if_pos h12, off', Option.bind_some, e3 k, Option.bind_some, Option.bind_some, if_pos h31, wu_in x0 (by omega), wu_in y0 (by omega), wu_in xx0 (by omega), wu_in p0 (by omega), wu_in q0 q1, e4 k, Option.bind_some, wu_in xy0 (by omega), if_pos h4, mulf a a a0 a1 a0 a1, Option.bind_some, e5 k, Option.bind_some, h5, beq_self_eq_true]
theorem RootRises : ∀ (a0 : Int) (a1 : Int) (a2 : Int) (a3 : Int), (Lit.int .u64 a0).wf = true → (Lit.int .u64 a1).wf = true → (Lit.int .u16 a2).wf = true → (Lit.int .u16 a3).wf = true → ∃ k, overfalllaw03_RootRises.f k a0 a1 a2 a3 = some true := by
  intro a b x y ha hb hx hy
  have A := wf_u64 ha
  have B := wf_u64 hb
  have X := bounds_u16 hx
  have Y := bounds_u16 hy
  obtain ⟨K0, h0⟩ := awakef
  refine ⟨K0 + 71, ?_⟩
  rw [overfalllaw03_RootRises.f, h0 _ (by omega), Option.bind_some, if_pos rfl]
  by_cases c : a > b
  · rw [if_pos c]
    exact rises_j0 b a x y B.1 B.2 A.1 A.2 X.1 (by omega) Y.1 (by omega) (by omega) K0
  · rw [if_neg c]
    exact rises_j0 a b x y A.1 A.2 B.1 B.2 X.1 (by omega) Y.1 (by omega) (by omega) K0
end Go.Proofs.Ytbpjgkidhlkiiaa.Pure

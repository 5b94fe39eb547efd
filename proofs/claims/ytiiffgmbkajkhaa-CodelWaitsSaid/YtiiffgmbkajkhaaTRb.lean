/- The reference's roots, by halving what may be: the same greatest number. -/
import Derived.Test.YtiiffgmbkajkhaaTRa
namespace Go.Proofs.Ytiiffgmbkajkhaa.Lib
set_option linter.unusedVariables false
set_option linter.unusedSimpArgs false
open Go.RowKit Go.Proofs.Ytiiffgmbkajkhaa.T Go.Proofs.YtiiffgmbkajkhaaW.PrintWords Go.Proofs.YtiiffgmbkajkhaaW.PrintLast Go.Proofs.YtiiffgmbkajkhaaW.PrintMore

theorem sq_bd {v : Int} (v0 : 0 ≤ v) (v1 : v < 18446744073709551616) : 0 ≤ v * v ∧ v * v < 18446744073709551616 * 18446744073709551616 := by
  refine ⟨Int.mul_nonneg v0 v0, ?_⟩
  have := Int.mul_le_mul (show v ≤ 18446744073709551615 by omega) (show v ≤ 18446744073709551615 by omega) v0 (by omega)
  omega
/-- A law's answer. -/
structure LawIs (i n r : Int) : Prop where
  l : 0 ≤ r
  neg : i < 0 → r = 0
  most : 0 ≤ i → Most r (n1 n) (i * i) ∧ r ≤ i
theorem LawIs.uniq {i n r s : Int} (a : LawIs i n r) (b : LawIs i n s) : r = s := by
  by_cases h : i < 0
  · rw [a.neg h, b.neg h]
  · have p : 0 ≤ n1 n := by unfold n1; split <;> omega
    exact Most.uniq p (a.most (by omega)).1 (b.most (by omega)).1
theorem plaw (i n : Int) (i0 : -9223372036854775808 ≤ i) (i1 : i < 9223372036854775808) (n0 : 0 ≤ n) (n1' : n < 18446744073709551616) : ∃ r K, (∀ k, K ≤ k → root_Law.f k i n = some r) ∧ LawIs i n r := by
  by_cases h : i < 0
  · exact ⟨0, 0, fun k _ => lawf_neg k i n h, by omega, fun _ => rfl, fun h0 => by omega⟩
  · obtain ⟨r, K, hr, hm, hl⟩ := lawf i n (by omega) i1 n0 n1'
    exact ⟨r, K, hr, hm.l, fun h0 => by omega, fun _ => ⟨hm, hl⟩⟩
theorem most_le {r n i : Int} (i0 : 0 ≤ i) (h : Most r (n1 n) (i * i)) : r ≤ i := by
  by_cases c : r ≤ i
  · exact c
  · have h2 := sq_mono (show 0 ≤ i + 1 by omega) (show i + 1 ≤ r by omega)
    have h3 := h.fits
    have h4 : (i + 1) * (i + 1) = i * i + 2 * i + 1 := by grind
    have p : 1 ≤ n1 n := by unfold n1; split <;> omega
    have h5 := Int.mul_le_mul_of_nonneg_left p (Int.mul_nonneg h.l h.l)
    omega
end Go.Proofs.Ytiiffgmbkajkhaa.Lib

/- RootSquares' pure statement: the root of 64 bits is the reference's and the greatest whose square fits; a square is told as one. -/
import Derived.Test.YtbpjgkidhlkiiaaRb
import Derived.Test.YtbpjgkidhlkiiaaGx3
import Derived.Test.YtbpjgkidhlkiiaaGx8
namespace Go.Proofs.Ytbpjgkidhlkiiaa.Pure
set_option linter.unusedVariables false
set_option linter.unusedSimpArgs false
open Go.RowKit Go.Proofs.Ytbpjgkidhlkiiaa.G Go.Proofs.YtbpjgkidhlkiiaaW.PrintWords Go.Proofs.YtbpjgkidhlkiiaaW.PrintLast Go.Proofs.YtbpjgkidhlkiiaaW.PrintMore
open Go.Proofs.Ytbpjgkidhlkiiaa.Lib

theorem awake_at : overfalllaw03_awake.f 200 = some true := by decide +kernel
theorem awakef : ∃ K, ∀ k, K ≤ k → overfalllaw03_awake.f k = some true := Ev.of (g := fun k => overfalllaw03_awake.f k) (fun k => overfalllaw03_awake.mono k) awake_at
theorem most_sq (x : Int) (h0 : 0 ≤ x) (h1 : x < 18446744073709551616) : Most x 1 (x * x) := by
  refine ⟨h0, h1, by omega, fun _ => ?_⟩
  have : (x + 1) * (x + 1) = x * x + 2 * x + 1 := by grind
  omega
theorem squaref (k : Nat) (n r : Int) (h : root_Sqrt.f k n = some r) : root_Square.f k n = some (IntKind.u64.wrap (r * r) == n) := by
  rw [root_Square.f, h, Option.bind_some]
theorem squares_abs (k : Nat) (n r : Int) (ha : overfalllaw03_awake.f k = some true) (h1 : root_Sqrt.f k n = some r) (h2 : overfallref03_Sqrt.f k 0 n = some r) (h3 : overfallref03_Fits.f k r 1 0 n = some true) (h4 : overfallref03_Fits.f k (IntKind.u64.wrap (r + 1)) 1 0 n = some false)
    (h5 : ¬ n ≥ 4294967296 → root_Sqrt.f k (IntKind.u64.wrap (n * n)) = some n ∧ IntKind.u64.wrap (n * n) = n * n) : overfalllaw03_RootSquares.f k n = some true := by
  rw [overfalllaw03_RootSquares.f, ha, Option.bind_some, if_pos rfl, h1, Option.bind_some, h2, Option.bind_some, if_pos rfl, h3, Option.bind_some, if_pos rfl, h4, Option.bind_some, if_neg (by decide), squaref k n r h1, Option.bind_some, if_pos (by rw [beq_self_eq_true])]
  by_cases c : n ≥ 4294967296
  · rw [if_pos c]
  · rw [if_neg c, (h5 c).1, Option.bind_some, if_pos rfl, squaref k _ n (h5 c).1, Option.bind_some, beq_self_eq_true]
theorem RootSquares : ∀ (a0 : Int), (Lit.int .u64 a0).wf = true → ∃ k, overfalllaw03_RootSquares.f k a0 = some true := by
  intro n hn
  have B := wf_u64 hn
  obtain ⟨K0, h0⟩ := awakef
  obtain ⟨r, h1, m1, rs⟩ := sqrtf n B.1 B.2
  obtain ⟨s, K2, h2, m2⟩ := rsqrtf 0 n (by omega) (by omega) B.1 B.2
  have eV : V 0 n = n := by unfold V; omega
  rw [eV] at m2
  have e : r = s := Most.uniq (by omega) m1 m2
  subst e
  have en : n1 1 = 1 := by decide
  have r0 := m1.l
  have nx := m1.next (by omega)
  have g1 := m1.fits
  have f1 := fun k => fitsf k r 1 0 n m1.l m1.h (by omega) (by omega) (by omega) (by omega) B.1 B.2
  have f2 := fun k => fitsf k (r + 1) 1 0 n (by omega) (by omega) (by omega) (by omega) (by omega) (by omega) B.1 B.2
  rw [en, eV] at f1
  rw [en, eV] at f2
  refine ⟨K0 + K2 + 30 + 40, squares_abs _ n r (h0 _ (by omega)) (h1 (K0 + K2)) (h2 _ (by omega)) ?_ ?_ ?_⟩
  · rw [f1, decide_eq_true g1]
  · rw [wu_in (x := r + 1) (by omega) (by omega), f2, decide_eq_false (by omega)]
  · intro c
    have p0 : 0 ≤ n * n := Int.mul_nonneg B.1 B.1
    have p1 : n * n < 18446744073709551616 := by
      have := Int.mul_le_mul (show n ≤ 4294967295 by omega) (show n ≤ 4294967295 by omega) B.1 (by omega)
      omega
    obtain ⟨q, h3, m3, _⟩ := sqrtf (n * n) p0 p1
    have e3 : n = q := Eq.symm <| Most.uniq (by omega) m3 (most_sq n B.1 B.2)
    rw [wu_in p0 p1]
    subst e3
    exact ⟨h3 (K0 + K2), rfl⟩
end Go.Proofs.Ytbpjgkidhlkiiaa.Pure

/- RootWides' pure statement: the program's root of 128 bits is the reference's, and the greatest whose square fits. -/
import Derived.Test.YtbpjgkidhlkiiaaRb
import Derived.Test.YtbpjgkidhlkiiaaGx3
import Derived.Test.YtbpjgkidhlkiiaaGx6
namespace Go.Proofs.Ytbpjgkidhlkiiaa.Pure
set_option linter.unusedVariables false
set_option linter.unusedSimpArgs false
open Go.RowKit Go.Proofs.Ytbpjgkidhlkiiaa.G Go.Proofs.YtbpjgkidhlkiiaaW.PrintWords Go.Proofs.YtbpjgkidhlkiiaaW.PrintLast Go.Proofs.YtbpjgkidhlkiiaaW.PrintMore
open Go.Proofs.Ytbpjgkidhlkiiaa.Lib

theorem awake_at : overfalllaw03_awake.f 200 = some true := by decide +kernel
theorem awakef : ∃ K, ∀ k, K ≤ k → overfalllaw03_awake.f k = some true := Ev.of (g := fun k => overfalllaw03_awake.f k) (fun k => overfalllaw03_awake.mono k) awake_at
theorem RootWides : ∀ (a0_0 : Int) (a0_1 : Int), (Lit.int .u64 a0_0).wf = true → (Lit.int .u64 a0_1).wf = true → ∃ k, overfalllaw03_RootWides.f k a0_0 a0_1 = some true := by
  intro hi lo hh hl
  have A := wf_u64 hh
  have B := wf_u64 hl
  obtain ⟨K0, h0⟩ := awakef
  obtain ⟨r, h1, m1⟩ := widef hi lo A.1 A.2 B.1 B.2
  obtain ⟨s, K2, h2, m2⟩ := rsqrtf hi lo A.1 A.2 B.1 B.2
  have e : r = s := Most.uniq (by omega) m1 m2
  subst e
  have en : n1 1 = 1 := by decide
  have f1 := fun k => fitsf k r 1 hi lo m1.l m1.h (by omega) (by omega) A.1 A.2 B.1 B.2
  rw [en] at f1
  have g1 := m1.fits
  refine ⟨K0 + K2 + 70, ?_⟩
  rw [overfalllaw03_RootWides.f, h0 _ (by omega), Option.bind_some, if_pos rfl, h1 (K0 + K2), Option.bind_some, h2 _ (by omega), Option.bind_some, if_pos rfl, show K0 + K2 + 70 = K0 + K2 + 30 + 40 by omega, f1, Option.bind_some, if_pos (decide_eq_true g1)]
  by_cases c : r = 18446744073709551615
  · rw [if_pos c]
  · have rh := m1.h
    have r0 := m1.l
    have nx := m1.next (by omega)
    have f2 := fun k => fitsf k (r + 1) 1 hi lo (by omega) (by omega) (by omega) (by omega) A.1 A.2 B.1 B.2
    rw [en] at f2
    rw [if_neg c, wu_in (x := r + 1) (by omega) (by omega), f2, Option.bind_some, decide_eq_false (by omega)]
    rfl
end Go.Proofs.Ytbpjgkidhlkiiaa.Pure

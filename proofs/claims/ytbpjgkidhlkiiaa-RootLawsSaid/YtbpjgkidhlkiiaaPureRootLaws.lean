/- RootLaws' pure statement: the control law is the reference's, and exact. -/
import Derived.Test.YtbpjgkidhlkiiaaRb
import Derived.Test.YtbpjgkidhlkiiaaGx3
import Derived.Test.YtbpjgkidhlkiiaaGx6
namespace Go.Proofs.Ytbpjgkidhlkiiaa.Pure
set_option linter.unusedVariables false
set_option linter.unusedSimpArgs false
open Go.RowKit Go.Proofs.Ytbpjgkidhlkiiaa.G Go.Proofs.YtbpjgkidhlkiiaaW.PrintWords Go.Proofs.YtbpjgkidhlkiiaaW.PrintLast Go.Proofs.YtbpjgkidhlkiiaaW.PrintMore
open Go.Proofs.Ytbpjgkidhlkiiaa.Lib

theorem awake_at : overfalllaw03_awake.f 200 = some true := by decide +kernel
theorem awakef : ∃ K, ∀ k, K ≤ k → overfalllaw03_awake.f k = some true := Ev.of (g := fun k => overfalllaw03_awake.f k) (fun k => overfalllaw03_awake.mono k) awake_at
theorem laws_abs (k : Nat) (i n v : Int) (b : Bool) (ha : overfalllaw03_awake.f k = some true) (h1 : root_Law.f k i n = some v) (h2 : overfallref03_Law.f k i n = some v) (h3 : decide (v < 0) = b) (h : overfalllaw03_RootLaws.j0 k i n v b = some true) : overfalllaw03_RootLaws.f k i n = some true := by
  rw [overfalllaw03_RootLaws.f, ha, Option.bind_some, if_pos rfl, h1, Option.bind_some, h2, Option.bind_some, if_pos rfl, h3, h]
theorem laws_j0 (k : Nat) (i n v m1 m2 : Int) (i0 : 0 ≤ i) (hm : overfallref01_Mul.f k (IntKind.u64.wrap i) (IntKind.u64.wrap i) = some (m1, m2)) (h1 : overfallref03_Fits.f k (IntKind.u64.wrap v) n m1 m2 = some true) (h2 : overfallref03_Fits.f k (IntKind.u64.wrap (IntKind.u64.wrap v + 1)) n m1 m2 = some false) (hv : v ≤ i) : overfalllaw03_RootLaws.j0 (k + 1) i n v false = some true := by
  rw [overfalllaw03_RootLaws.j0, if_neg (by decide), if_neg (by omega), hm, Option.bind_some]
  rw [h1, Option.bind_some, if_pos rfl, h2, Option.bind_some, if_neg (by decide), decide_eq_true hv]
theorem RootLaws : ∀ (a0 : Int) (a1 : Int), (Lit.int .i64 a0).wf = true → (Lit.int .u64 a1).wf = true → ∃ k, overfalllaw03_RootLaws.f k a0 a1 = some true := by
  intro i n hi hn
  have I := bounds_i64 hi
  have B := wf_u64 hn
  have I2 : i < 9223372036854775808 := by omega
  obtain ⟨K0, h0⟩ := awakef
  obtain ⟨r, K1, h1, m1⟩ := plaw i n I.1 I2 B.1 B.2
  obtain ⟨s, K2, h2, m2⟩ := rlaw i n I.1 I2 B.1 B.2
  have e : r = s := m1.uniq m2
  subst e
  have r0 := m1.l
  refine ⟨K0 + K1 + K2 + 40 + 1, laws_abs _ i n r false (h0 _ (by omega)) (h1 _ (by omega)) (h2 _ (by omega)) (decide_eq_false (by omega)) ?_⟩
  by_cases c : i < 0
  · have rz := m1.neg c
    rw [overfalllaw03_RootLaws.j0, if_neg (by decide), if_pos c, rz]
    rfl
  · obtain ⟨hm, hl⟩ := m1.most (by omega)
    have sb := sq_bd (v := i) (by omega) (by omega)
    have mul := rmulf (K0 + K1 + K2) i i (by omega) (by omega) (by omega) (by omega)
    have nx := hm.next (by omega)
    have g1 := hm.fits
    have f1 := fitsf (K0 + K1 + K2) r n (i * i / 18446744073709551616) (i * i % 18446744073709551616) r0 hm.h B.1 B.2 (by omega) (by omega) (by omega) (by omega)
    have f2 := fitsf (K0 + K1 + K2) (r + 1) n (i * i / 18446744073709551616) (i * i % 18446744073709551616) (by omega) (by omega) B.1 B.2 (by omega) (by omega) (by omega) (by omega)
    rw [V_of, decide_eq_true g1] at f1
    rw [V_of, decide_eq_false (by omega)] at f2
    refine laws_j0 _ i n r _ _ (by omega) (by rw [wu_in (x := i) (by omega) (by omega)]; exact mul) ?_ ?_ hl
    · rw [wu_in (x := r) (by omega) (by omega)]; exact f1
    · rw [wu_in (x := r) (by omega) (by omega), wu_in (x := r + 1) (by omega) (by omega)]; exact f2
end Go.Proofs.Ytbpjgkidhlkiiaa.Pure

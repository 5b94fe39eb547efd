/- FixRatios' pure statement: quotients are exact, saturated, downwards. -/
import Derived.Test.YtjgjmeefieikaaaRFd
import Derived.Test.YtjgjmeefieikaaaRx5
import Derived.Test.YtjgjmeefieikaaaRx10
import Derived.Test.YtjgjmeefieikaaaRx2
namespace Go.Proofs.Ytjgjmeefieikaaa.Pure
set_option linter.unusedVariables false
set_option linter.unusedSimpArgs false
open Go.RowKit Go.Proofs.Ytjgjmeefieikaaa.R Go.Proofs.YtjgjmeefieikaaaW.PrintWords Go.Proofs.YtjgjmeefieikaaaW.PrintLast Go.Proofs.YtjgjmeefieikaaaW.PrintMore
open Go.Proofs.Ytjgjmeefieikaaa.Lib

theorem awake_at : overfalllaw02_awake.f 200 = some true := by decide +kernel
theorem awakef : ∃ K, ∀ k, K ≤ k → overfalllaw02_awake.f k = some true := Ev.of (g := fun k => overfalllaw02_awake.f k) (fun k => overfalllaw02_awake.mono k) awake_at
theorem ratios_abs (k : Nat) (a b r : Int) (ha : overfalllaw02_awake.f k = some true) (h1 : fix_Ratio.f k a b = some r) (h2 : overfallref02_Ratio.f k a b = some r) (h3 : overfallref02_Floor.f k r = some (r / 4294967296)) : overfalllaw02_FixRatios.f k a b = some true := by
  rw [overfalllaw02_FixRatios.f, ha, Option.bind_some, if_pos (rfl : true = true), h1, Option.bind_some, h2, Option.bind_some, if_pos (rfl : r = r), fix_Q_Floor.f, Option.bind_some, h3, Option.bind_some, if_pos (rfl : r / 4294967296 = r / 4294967296), fix_Q_Over.f, h1, Option.bind_some, Option.bind_some, beq_self_eq_true]
theorem FixRatios : ∀ (a0 : Int) (a1 : Int), (Lit.int .i64 a0).wf = true → (Lit.int .i64 a1).wf = true → ∃ k, overfalllaw02_FixRatios.f k a0 a1 = some true := by
  intro a b ha hb
  have A := bounds_i64 ha
  have B := bounds_i64 hb
  obtain ⟨K0, h0⟩ := awakef
  obtain ⟨K1, h1⟩ := ratiof a b A.1 (by omega) B.1 (by omega)
  exact ⟨K0 + K1 + 290, ratios_abs _ a b _ (h0 _ (by omega)) (h1 _ (by omega)) (rratiof _ a b A.1 (by omega) B.1 (by omega)) (rfloorf _ _ (rat_bd a b).1 (rat_bd a b).2)⟩
end Go.Proofs.Ytjgjmeefieikaaa.Pure

/- FixTimes' pure statement: products of parts are exact, saturated, downwards. -/
import Derived.Test.YtjgjmeefieikaaaTFc
import Derived.Test.YtjgjmeefieikaaaTx6
import Derived.Test.YtjgjmeefieikaaaTx11
import Derived.Test.YtjgjmeefieikaaaTx3
namespace Go.Proofs.Ytjgjmeefieikaaa.Pure
set_option linter.unusedVariables false
set_option linter.unusedSimpArgs false
open Go.RowKit Go.Proofs.Ytjgjmeefieikaaa.T Go.Proofs.YtjgjmeefieikaaaW.PrintWords Go.Proofs.YtjgjmeefieikaaaW.PrintLast Go.Proofs.YtjgjmeefieikaaaW.PrintMore
open Go.Proofs.Ytjgjmeefieikaaa.Lib

theorem awake_at : overfalllaw02_awake.f 200 = some true := by decide +kernel
theorem awakef : ∃ K, ∀ k, K ≤ k → overfalllaw02_awake.f k = some true := Ev.of (g := fun k => overfalllaw02_awake.f k) (fun k => overfalllaw02_awake.mono k) awake_at
theorem times_abs (k : Nat) (a b r : Int) (ha : overfalllaw02_awake.f k = some true) (h1 : overfallref02_Of.f k a b = some r) (h2 : fix_Q_Of.f k a b = some r) (h3 : fix_Q_Of.f k b a = some r) (h4 : fix_Q_Of.f k 4294967296 b = some b) (h5 : overfallref02_Floor.f k a = some (a / 4294967296)) : overfalllaw02_FixTimes.f k a b = some true := by
  rw [overfalllaw02_FixTimes.f, ha, Option.bind_some, if_pos (rfl : true = true), h1, Option.bind_some, h2, Option.bind_some, if_pos (rfl : r = r), fix_Q_Times.f, h2, Option.bind_some, Option.bind_some, if_pos (rfl : r = r), fix_Q_Times.f, h3, Option.bind_some, Option.bind_some, if_pos (rfl : r = r), h4, Option.bind_some, if_pos (rfl : b = b), fix_Q_Floor.f, Option.bind_some, h5, Option.bind_some, beq_self_eq_true]
theorem FixTimes : ∀ (a0 : Int) (a1 : Int), (Lit.int .i64 a0).wf = true → (Lit.int .i64 a1).wf = true → ∃ k, overfalllaw02_FixTimes.f k a0 a1 = some true := by
  intro a b ha hb
  have A := bounds_i64 ha
  have B := bounds_i64 hb
  obtain ⟨K0, h0⟩ := awakef
  have e1 : ofv b a = ofv a b := by unfold ofv; rw [Int.mul_comm]
  have e2 : ofv 4294967296 b = b := by unfold ofv; rw [Int.mul_ediv_cancel_left b (by decide), sat_in B.1 (by omega)]
  refine ⟨K0 + 283 + 7, times_abs _ a b (ofv a b) (h0 _ (by omega)) (rofqf K0 a b A.1 (by omega) B.1 (by omega)) (qoff _ a b A.1 (by omega) B.1 (by omega)) ?_ ?_ (rfloorf K0 a A.1 (by omega))⟩
  · rw [qoff _ b a B.1 (by omega) A.1 (by omega), e1]
  · rw [qoff _ 4294967296 b (by omega) (by omega) B.1 (by omega), e2]
end Go.Proofs.Ytjgjmeefieikaaa.Pure

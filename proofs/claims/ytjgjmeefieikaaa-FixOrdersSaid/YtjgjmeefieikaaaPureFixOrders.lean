/- FixOrders' pure statement: what is greater stays no less. -/
import Derived.Test.YtjgjmeefieikaaaOFc
import Derived.Test.YtjgjmeefieikaaaOx6
import Derived.Test.YtjgjmeefieikaaaOx7
import Derived.Test.YtjgjmeefieikaaaOx3
namespace Go.Proofs.Ytjgjmeefieikaaa.Pure
set_option linter.unusedVariables false
set_option linter.unusedSimpArgs false
open Go.RowKit Go.Proofs.Ytjgjmeefieikaaa.O Go.Proofs.YtjgjmeefieikaaaW.PrintWords Go.Proofs.YtjgjmeefieikaaaW.PrintLast Go.Proofs.YtjgjmeefieikaaaW.PrintMore
open Go.Proofs.Ytjgjmeefieikaaa.Lib

theorem awake_at : overfalllaw02_awake.f 200 = some true := by decide +kernel
theorem awakef : ∃ K, ∀ k, K ≤ k → overfalllaw02_awake.f k = some true := Ev.of (g := fun k => overfalllaw02_awake.f k) (fun k => overfalllaw02_awake.mono k) awake_at
theorem orders_j1 (k : Nat) (x y z : Int) (x0 : -9223372036854775808 ≤ x) (x1 : x < 9223372036854775808) (y0 : -9223372036854775808 ≤ y) (y1 : y < 9223372036854775808) (z0 : -9223372036854775808 ≤ z) (z1 : z < 9223372036854775808) (h : x ≤ y) : overfalllaw02_FixOrders.j1 (k + 8) x y z false = some true := by
  rw [overfalllaw02_FixOrders.j1, if_neg Bool.false_ne_true]
  by_cases c : z < 0
  · rw [if_pos c]
  · have m : x * z ≤ y * z := Int.mul_le_mul_of_nonneg_right h (by omega)
    have m2 : sat (x * z) ≤ sat (y * z) := sat_mono m
    have m3 : ofv z x ≤ ofv z y := by
      unfold ofv
      refine sat_mono ?_
      rw [Int.mul_comm z x, Int.mul_comm z y]
      exact Int.ediv_le_ediv (by decide) m
    rw [if_neg c, fmulf k x z x0 x1 z0 z1, Option.bind_some, fmulf k y z y0 y1 z0 z1, Option.bind_some, if_pos m2, qoff k z x z0 z1 x0 x1, Option.bind_some, qoff k z y z0 z1 y0 y1, Option.bind_some, decide_eq_true m3]
theorem orders_j0 (k : Nat) (x y z : Int) (x0 : -9223372036854775808 ≤ x) (x1 : x < 9223372036854775808) (y0 : -9223372036854775808 ≤ y) (y1 : y < 9223372036854775808) (z0 : -9223372036854775808 ≤ z) (z1 : z < 9223372036854775808) (h : x ≤ y) : overfalllaw02_FixOrders.j0 (k + 9) x y z = some true := by
  have a1 : ¬ sat (x + z) > sat (y + z) := by have := sat_mono (show x + z ≤ y + z by omega); omega
  have a2 : ¬ sat (x - z) > sat (y - z) := by have := sat_mono (show x - z ≤ y - z by omega); omega
  have a3 : ¬ sat (-x) < sat (-y) := by have := sat_mono (show -y ≤ -x by omega); omega
  rw [overfalllaw02_FixOrders.j0, faddf x z x0 x1 z0 z1, Option.bind_some, faddf y z y0 y1 z0 z1, Option.bind_some, if_neg a1, fsubf x z x0 x1 z0 z1, Option.bind_some, fsubf y z y0 y1 z0 z1, Option.bind_some, if_neg a2, fnegf x x0 x1, Option.bind_some, fnegf y y0 y1, Option.bind_some, decide_eq_false a3]
  exact orders_j1 k x y z x0 x1 y0 y1 z0 z1 h
theorem FixOrders : ∀ (a0 : Int) (a1 : Int) (a2 : Int), (Lit.int .i64 a0).wf = true → (Lit.int .i64 a1).wf = true → (Lit.int .i64 a2).wf = true → ∃ k, overfalllaw02_FixOrders.f k a0 a1 a2 = some true := by
  intro a b c ha hb hc
  have A := bounds_i64 ha
  have B := bounds_i64 hb
  have C := bounds_i64 hc
  obtain ⟨K0, h0⟩ := awakef
  refine ⟨K0 + 9, ?_⟩
  rw [overfalllaw02_FixOrders.f, h0 _ (by omega), Option.bind_some, if_pos (rfl : true = true)]
  by_cases d : a > b
  · rw [if_pos d]
    exact orders_j0 K0 b a c B.1 (by omega) A.1 (by omega) C.1 (by omega) (by omega)
  · rw [if_neg d]
    exact orders_j0 K0 a b c A.1 (by omega) B.1 (by omega) C.1 (by omega) (by omega)
end Go.Proofs.Ytjgjmeefieikaaa.Pure

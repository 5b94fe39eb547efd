/- FixMuls' pure statement: products are exact and saturated. -/
import Derived.Test.YtjgjmeefieikaaaMFb
import Derived.Test.YtjgjmeefieikaaaMx5
import Derived.Test.YtjgjmeefieikaaaMx6
import Derived.Test.YtjgjmeefieikaaaMx2
namespace Go.Proofs.Ytjgjmeefieikaaa.Pure
set_option linter.unusedVariables false
set_option linter.unusedSimpArgs false
open Go.RowKit Go.Proofs.Ytjgjmeefieikaaa.M Go.Proofs.YtjgjmeefieikaaaW.PrintWords Go.Proofs.YtjgjmeefieikaaaW.PrintLast Go.Proofs.YtjgjmeefieikaaaW.PrintMore
open Go.Proofs.Ytjgjmeefieikaaa.Lib

theorem awake_at : overfalllaw02_awake.f 200 = some true := by decide +kernel

theorem muls_abs (k : Nat) (a b p w : Int) (ha : overfalllaw02_awake.f k = some true) (h1 : fix_Mul.f k a b = some p) (h2 : overfallref02_Mul.f k a b = some p) (h3 : fix_Mul.f k b a = some p) (h4 : fix_Mul.f k a 4294967296 = some w) (h5 : overfallref02_Mul.f k a 4294967296 = some w) (h6 : ¬ a > 1073741824 → ¬ a < -1073741824 → w / 4294967296 = a) : overfalllaw02_FixMuls.f k a b = some true := by
  rw [overfalllaw02_FixMuls.f, ha, Option.bind_some, if_pos (rfl : true = true), h1, Option.bind_some, h2, Option.bind_some, if_pos (rfl : p = p), h3, Option.bind_some, Option.bind_some, if_pos (rfl : p = p), fix_Whole.f, h4, Option.bind_some, Option.bind_some, overfallref02_Whole.f, h5, Option.bind_some, Option.bind_some, if_pos (rfl : w = w)]
  by_cases c : a > 1073741824
  · rw [if_pos c]
  · rw [if_neg c]
    by_cases d : a < -1073741824
    · rw [if_pos d]
    · rw [if_neg d, Option.bind_some, fix_Q_Floor.f, Option.bind_some, h6 c d, beq_self_eq_true]
theorem FixMuls : ∀ (a0 : Int) (a1 : Int), (Lit.int .i64 a0).wf = true → (Lit.int .i64 a1).wf = true → ∃ k, overfalllaw02_FixMuls.f k a0 a1 = some true := by
  intro a b ha hb
  have A := bounds_i64 ha
  have B := bounds_i64 hb
  refine ⟨200, muls_abs 200 a b _ _ awake_at (fmulf 193 a b A.1 (by omega) B.1 (by omega)) (rmul2f 160 a b A.1 (by omega) B.1 (by omega)) (by rw [fmulf 193 b a B.1 (by omega) A.1 (by omega), Int.mul_comm]) (fmulf 193 a 4294967296 A.1 (by omega) (by omega) (by omega)) (rmul2f 160 a 4294967296 A.1 (by omega) (by omega) (by omega)) (fun c d => ?_)⟩
  rw [sat_in (by omega) (by omega)]
  omega
end Go.Proofs.Ytjgjmeefieikaaa.Pure

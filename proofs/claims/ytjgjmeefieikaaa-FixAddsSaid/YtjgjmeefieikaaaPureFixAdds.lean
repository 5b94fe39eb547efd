/- FixAdds' pure statement: sums and differences are exact and saturated. -/
import Derived.Test.YtjgjmeefieikaaaFb
import Derived.Test.YtjgjmeefieikaaaGx5
import Derived.Test.YtjgjmeefieikaaaGx8
import Derived.Test.YtjgjmeefieikaaaGx7
import Derived.Test.YtjgjmeefieikaaaGx2
namespace Go.Proofs.Ytjgjmeefieikaaa.Pure
set_option linter.unusedVariables false
set_option linter.unusedSimpArgs false
open Go.RowKit Go.Proofs.Ytjgjmeefieikaaa.G Go.Proofs.YtjgjmeefieikaaaW.PrintWords Go.Proofs.YtjgjmeefieikaaaW.PrintLast Go.Proofs.YtjgjmeefieikaaaW.PrintMore
open Go.Proofs.Ytjgjmeefieikaaa.Lib

theorem awake_at : overfalllaw02_awake.f 200 = some true := by decide +kernel

theorem adds_abs (k : Nat) (a b s d n : Int) (ha : overfalllaw02_awake.f k = some true) (h1 : fix_Add.f a b = some s) (h2 : overfallref02_Add.f k a b = some s) (h3 : fix_Sub.f a b = some d) (h4 : overfallref02_Sub.f k a b = some d) (h5 : fix_Neg.f a = some n) (h6 : overfallref02_Neg.f k a = some n) (h7 : fix_Add.f b a = some s) : overfalllaw02_FixAdds.f k a b = some true := by
  rw [overfalllaw02_FixAdds.f, ha, Option.bind_some, if_pos (rfl : true = true), h1, Option.bind_some, h2, Option.bind_some, if_pos (rfl : s = s), h3, Option.bind_some, h4, Option.bind_some, if_pos (rfl : d = d), h5, Option.bind_some, h6, Option.bind_some, if_pos (rfl : n = n), h7, Option.bind_some, Option.bind_some, if_pos (rfl : s = s), fix_Q_Plus.f, h1, Option.bind_some, Option.bind_some, Option.bind_some, if_pos (rfl : s = s), fix_Q_Less.f, h3, Option.bind_some, Option.bind_some, Option.bind_some, beq_self_eq_true]
theorem FixAdds : ∀ (a0 : Int) (a1 : Int), (Lit.int .i64 a0).wf = true → (Lit.int .i64 a1).wf = true → ∃ k, overfalllaw02_FixAdds.f k a0 a1 = some true := by
  intro a b ha hb
  have A := bounds_i64 ha
  have B := bounds_i64 hb
  exact ⟨200, adds_abs 200 a b _ _ _ awake_at (faddf a b A.1 (by omega) B.1 (by omega)) (radd2f 180 a b A.1 (by omega) B.1 (by omega)) (fsubf a b A.1 (by omega) B.1 (by omega)) (rsub2f 180 a b A.1 (by omega) B.1 (by omega)) (fnegf a A.1 (by omega)) (rnegf 199 a A.1 (by omega)) (by rw [faddf b a B.1 (by omega) A.1 (by omega), Int.add_comm])⟩
end Go.Proofs.Ytjgjmeefieikaaa.Pure

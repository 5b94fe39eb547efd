/- FixClamps' pure statement: what is clamped lies within its bounds, and stays. -/
import Derived.Test.YtjgjmeefieikaaaGx6
import Derived.Test.YtjgjmeefieikaaaGx12
namespace Go.Proofs.Ytjgjmeefieikaaa.Pure
set_option linter.unusedVariables false
set_option linter.unusedSimpArgs false
open Go.RowKit Go.Proofs.Ytjgjmeefieikaaa.G Go.Proofs.YtjgjmeefieikaaaW.PrintWords Go.Proofs.YtjgjmeefieikaaaW.PrintLast Go.Proofs.YtjgjmeefieikaaaW.PrintMore

theorem awake_at : overfalllaw02_awake.f 200 = some true := by decide +kernel
def cl (x l h : Int) : Int := if x < l then l else if x > h then h else x
theorem clampf (x l h : Int) : fix_Clamp.f x l h = some (cl x l h) := by
  unfold fix_Clamp.f cl; split
  · rfl
  · split <;> rfl
theorem rclampf (x l h : Int) : overfallref02_Clamp.f x l h = some (cl x l h) := by
  unfold overfallref02_Clamp.f cl; split
  · rfl
  · split <;> rfl
theorem FixClamps : ∀ (a0 : Int) (a1 : Int) (a2 : Int), (Lit.int .i64 a0).wf = true → (Lit.int .i64 a1).wf = true → (Lit.int .i64 a2).wf = true → ∃ k, overfalllaw02_FixClamps.f k a0 a1 a2 = some true := by
  intro x l h _ _ _
  refine ⟨200, ?_⟩
  rw [overfalllaw02_FixClamps.f, awake_at, Option.bind_some, if_pos rfl, clampf, Option.bind_some, rclampf, Option.bind_some, if_pos rfl]
  by_cases c : l > h
  · rw [if_pos c]
  · have e0 : cl x l h ≥ l := by unfold cl; (repeat' split) <;> omega
    have e1 : cl x l h ≤ h := by unfold cl; (repeat' split) <;> omega
    have e2 : cl (cl x l h) l h = cl x l h := by rw [show cl (cl x l h) l h = if cl x l h < l then l else if cl x l h > h then h else cl x l h from rfl, if_neg (by omega), if_neg (by omega)]
    rw [if_neg c, if_pos e0, if_pos e1, clampf, e2, Option.bind_some, beq_self_eq_true]
    by_cases g : x < l
    · rw [if_pos g]
    · by_cases g2 : x > h
      · rw [if_neg g, if_pos g2]
      · rw [if_neg g, if_neg g2, if_pos (by unfold cl; rw [if_neg g, if_neg g2])]
end Go.Proofs.Ytjgjmeefieikaaa.Pure

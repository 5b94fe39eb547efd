/- WideShifts' pure statement: shifts are the reference's doublings and halvings, for every number and every count. -/
import Derived.Test.YtdgbehbiigggmaaWg
import Derived.Test.YtdgbehbiigggmaaWi
import Derived.Test.YtdgbehbiigggmaaGx12
namespace Go.Proofs.Ytdgbehbiigggmaa.Pure
set_option linter.unusedVariables false
set_option linter.unusedSimpArgs false
open Go.RowKit Go.Proofs.Ytdgbehbiigggmaa.G Go.Proofs.YtdgbehbiigggmaaW.PrintWords Go.Proofs.YtdgbehbiigggmaaW.PrintLast Go.Proofs.YtdgbehbiigggmaaW.PrintMore
open Go.Proofs.Ytdgbehbiigggmaa.Lib

theorem WideShifts : ∀ (a0_0 : Int) (a0_1 : Int) (a1 : Int), (Lit.int .u64 a0_0).wf = true → (Lit.int .u64 a0_1).wf = true → (Lit.int .i64 a1).wf = true → ∃ k, overfalllaw01_WideShifts.f k a0_0 a0_1 a1 = some true := by
  intro a b n ha hb hn
  have A := wf_u64 ha
  have B := wf_u64 hb
  have Nb := bounds_i64 hn
  obtain ⟨K1, h1⟩ := awakef
  refine ⟨K1 + 150, ?_⟩
  rw [overfalllaw01_WideShifts.f, h1 _ (by omega)]
  simp only [Option.bind_some, if_true, ownf, leftf a b n A.1 A.2 B.1 B.2 Nb.2, rightf a b n A.1 A.2 B.1 B.2 Nb.2, rleftf K1 a b n A.1 A.2 B.1 B.2, rrightf K1 a b n A.1 A.2 B.1 B.2]
  simp
end Go.Proofs.Ytdgbehbiigggmaa.Pure

/- WideAdds' pure statement: sums and differences are the reference's, with what goes over, for any two numbers. -/
import Derived.Test.YtdgbehbiigggmaaWg
import Derived.Test.YtdgbehbiigggmaaWe
import Derived.Test.YtdgbehbiigggmaaGx13
namespace Go.Proofs.Ytdgbehbiigggmaa.Pure
set_option linter.unusedVariables false
set_option linter.unusedSimpArgs false
open Go.RowKit Go.Proofs.Ytdgbehbiigggmaa.G Go.Proofs.YtdgbehbiigggmaaW.PrintWords Go.Proofs.YtdgbehbiigggmaaW.PrintLast Go.Proofs.YtdgbehbiigggmaaW.PrintMore
open Go.Proofs.Ytdgbehbiigggmaa.Lib

theorem WideAdds : ∀ (a0_0 : Int) (a0_1 : Int) (a1_0 : Int) (a1_1 : Int), (Lit.int .u64 a0_0).wf = true → (Lit.int .u64 a0_1).wf = true → (Lit.int .u64 a1_0).wf = true → (Lit.int .u64 a1_1).wf = true → ∃ k, overfalllaw01_WideAdds.f k a0_0 a0_1 a1_0 a1_1 = some true := by
  intro a b c d ha hb hc hd
  have A := wf_u64 ha
  have B := wf_u64 hb
  have C := wf_u64 hc
  have D := wf_u64 hd
  obtain ⟨K1, h1⟩ := awakef
  refine ⟨K1 + 20, ?_⟩
  rw [overfalllaw01_WideAdds.f, h1 _ (by omega)]
  simp only [Option.bind_some, if_true, ownf, addf a b c d A.1 A.2 B.1 B.2 C.1 C.2 D.1 D.2, subf a b c d A.1 A.2 B.1 B.2 C.1 C.2 D.1 D.2, raddf K1 a b c d A.1 A.2 B.1 B.2 C.1 C.2 D.1 D.2, rsubf K1 a b c d A.1 A.2 B.1 B.2 C.1 C.2 D.1 D.2]
  rw [subf _ _ c d (by omega) (by omega) (by omega) (by omega) C.1 C.2 D.1 D.2]
  simp only [Option.bind_some, beq_self_eq_true, Bool.and_self, if_true]
  have e2 : ((b + d) % 18446744073709551616 - d) % 18446744073709551616 = b := by omega
  have e1 : ((a + c + (b + d) / 18446744073709551616) % 18446744073709551616 - c - (if (b + d) % 18446744073709551616 < d then 1 else 0)) % 18446744073709551616 = a := by
    split <;> omega
  rw [e1, e2]
  simp
end Go.Proofs.Ytdgbehbiigggmaa.Pure

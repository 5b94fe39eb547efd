/- WideOrders' pure statement: which number is more, and how many bits one has, is the reference's. -/
import Derived.Test.YtdgbehbiigggmaaWg
import Derived.Test.YtdgbehbiigggmaaWk
import Derived.Test.YtdgbehbiigggmaaGx19
namespace Go.Proofs.Ytdgbehbiigggmaa.Pure
set_option linter.unusedVariables false
set_option linter.unusedSimpArgs false
open Go.RowKit Go.Proofs.Ytdgbehbiigggmaa.G Go.Proofs.YtdgbehbiigggmaaW.PrintWords Go.Proofs.YtdgbehbiigggmaaW.PrintLast Go.Proofs.YtdgbehbiigggmaaW.PrintMore
open Go.Proofs.Ytdgbehbiigggmaa.Lib

theorem WideOrders : ∀ (a0_0 : Int) (a0_1 : Int) (a1_0 : Int) (a1_1 : Int), (Lit.int .u64 a0_0).wf = true → (Lit.int .u64 a0_1).wf = true → (Lit.int .u64 a1_0).wf = true → (Lit.int .u64 a1_1).wf = true → ∃ k, overfalllaw01_WideOrders.f k a0_0 a0_1 a1_0 a1_1 = some true := by
  intro a b c d ha hb hc hd
  have A := wf_u64 ha
  have B := wf_u64 hb
  have C := wf_u64 hc
  have D := wf_u64 hd
  have vb := V_bd A.1 A.2 B.1 B.2
  obtain ⟨K1, h1⟩ := awakef
  have bl2 := bl_le128 _ vb.1 vb.2
  have last : wide_Num_Right.f a b (bl (V a b)) = some (0, 0) := by
    rw [rightf a b _ A.1 A.2 B.1 B.2 (by omega), bl_shift_out _ vb.1 vb.2]
    rfl
  have J1 : ∀ (k : Nat) (x : Int), x = sgn (V a b) (V c d) → overfalllaw01_WideOrders.j1 (k + 141) x a b c d = some true := by
    intro k x hx
    have e0 : wrap64 (-x) = sgn (V c d) (V a b) := by
      rw [hx]; unfold sgn wrap64; repeat' split
      all_goals omega
    have e1 : (x == 0) = (a == c && (b == d)) := by
      rw [Bool.eq_iff_iff]
      simp only [beq_iff_eq, Bool.and_eq_true]
      rw [hx]
      unfold sgn V
      constructor
      · intro h
        repeat' split at h
        all_goals omega
      · rintro ⟨rfl, rfl⟩
        simp
    rw [show k + 141 = (k + 136 + 4) + 1 by omega, overfalllaw01_WideOrders.j1, cmpf _ a b c d B.1 B.2 D.1 D.2]
    simp only [Option.bind_some]
    rw [if_pos hx.symm, cmpf _ c d a b D.1 D.2 B.1 B.2]
    simp only [Option.bind_some]
    rw [if_pos e0.symm, e1, if_pos (by simp), show k + 136 + 4 = (k + 139) + 1 by omega, pbitsf _ a b A.1 A.2 B.1 B.2]
    simp only [Option.bind_some, ownf]
    rw [show k + 139 + 1 = k + 140 by omega, rbitsf k a b A.1 A.2 B.1 B.2]
    simp only [Option.bind_some, if_true]
    rw [last]
    rfl
  refine ⟨K1 + 150, ?_⟩
  rw [overfalllaw01_WideOrders.f, h1 _ (by omega)]
  simp only [Option.bind_some, if_true, ownf, lessf a b c d B.1 B.2 D.1 D.2]
  have J0 : ∀ (x : Int), (x = if V a b < V c d then -1 else 0) → overfalllaw01_WideOrders.j0 (K1 + 150) x a b c d = some true := by
    intro x hx
    rw [show K1 + 150 = (K1 + 8 + 141) + 1 by omega, overfalllaw01_WideOrders.j0]
    simp only [Option.bind_some, ownf, lessf c d a b D.1 D.2 B.1 B.2]
    by_cases h : V c d < V a b
    · rw [if_pos (by simpa using h)]
      exact J1 _ 1 (by unfold sgn; rw [if_neg (by omega), if_pos h])
    · rw [if_neg (by simpa using h)]
      exact J1 _ x (by rw [hx]; unfold sgn; split <;> simp [h])
  by_cases h : V a b < V c d
  · rw [if_pos (by simpa using h)]
    exact J0 _ (by rw [if_pos h])
  · rw [if_neg (by simpa using h)]
    exact J0 _ (by rw [if_neg h])
end Go.Proofs.Ytdgbehbiigggmaa.Pure

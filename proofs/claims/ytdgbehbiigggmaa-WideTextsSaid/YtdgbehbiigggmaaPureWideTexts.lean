/- WideTexts' pure statement: any number's digits are the document's, of which it is read again. -/
import Derived.Test.YtdgbehbiigggmaaXTb
import Derived.Test.YtdgbehbiigggmaaXx4
import Derived.Test.YtdgbehbiigggmaaXx9
namespace Go.Proofs.Ytdgbehbiigggmaa.Pure
set_option linter.unusedVariables false
set_option linter.unusedSimpArgs false
open Go.RowKit Go.Proofs.Ytdgbehbiigggmaa.X Go.Proofs.YtdgbehbiigggmaaW.PrintWords Go.Proofs.YtdgbehbiigggmaaW.PrintLast Go.Proofs.YtdgbehbiigggmaaW.PrintMore
open Go.Proofs.Ytdgbehbiigggmaa.Lib

theorem awake_at : overfalllaw01_awake.f 100 = some true := by decide +kernel
theorem awakef : ∃ K, ∀ k, K ≤ k → overfalllaw01_awake.f k = some true := Ev.of (g := fun k => overfalllaw01_awake.f k) (fun k => overfalllaw01_awake.mono k) awake_at
theorem texts_abs (k : Nat) (a b : Int) (t : ByteArray) (ha : overfalllaw01_awake.f k = some true) (h1 : wide_Num_Text.f k a b = some t) (h2 : wide_Parse.f k t = some (a, b, 0)) (h3 : overfallref01_Text.f k a b = some t) : overfalllaw01_WideTexts.f k a b = some true := by
  rw [overfalllaw01_WideTexts.f, ha, Option.bind_some, if_pos (rfl : true = true), h1, Option.bind_some, h2, Option.bind_some, overfalllaw01_own.f, Option.bind_some]
  dsimp only
  rw [h3, Option.bind_some, if_pos (rfl : t.toList = t.toList), if_pos (rfl : (0 : Int) = 0), beq_self_eq_true, beq_self_eq_true]; rfl
theorem WideTexts : ∀ (a0_0 : Int) (a0_1 : Int), (Lit.int .u64 a0_0).wf = true → (Lit.int .u64 a0_1).wf = true → ∃ k, overfalllaw01_WideTexts.f k a0_0 a0_1 = some true := by
  intro a b ha hb
  have A := wf_u64 ha
  have B := wf_u64 hb
  obtain ⟨K0, h0⟩ := awakef
  obtain ⟨K1, h1⟩ := ptextf a b A.1 A.2 B.1 B.2
  have vb := V_bd A.1 A.2 B.1 B.2
  have ev : V a b = a * 18446744073709551616 + b := rfl
  have p : (18446744073709551616 * 18446744073709551616 : Int) ≤ 10 ^ (39 + 1) := by decide
  have h2 := parsef (V a b) vb.1 vb.2
  rw [show V a b / 18446744073709551616 = a by omega, show V a b % 18446744073709551616 = b by omega] at h2
  have h3 := rtextf 39 a b A.1 A.2 B.1 B.2 (by omega) (by omega) (K0 + K1 + 60)
  exact ⟨K0 + K1 + 60 + 291 + 39, texts_abs _ a b _ (h0 _ (by omega)) (h1 _ (by omega)) (h2 _ (by omega)) h3⟩
end Go.Proofs.Ytdgbehbiigggmaa.Pure

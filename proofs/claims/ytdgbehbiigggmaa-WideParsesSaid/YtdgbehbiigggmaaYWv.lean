/- Pairs as numbers; the comparisons, the reference's and the program's. -/
import Derived.Test.YtdgbehbiigggmaaYWd
namespace Go.Proofs.Ytdgbehbiigggmaa.Lib
set_option linter.unusedVariables false
set_option linter.unusedSimpArgs false
open Go.RowKit Go.Proofs.Ytdgbehbiigggmaa.Y Go.Proofs.YtdgbehbiigggmaaW.PrintWords Go.Proofs.YtdgbehbiigggmaaW.PrintLast Go.Proofs.YtdgbehbiigggmaaW.PrintMore
/-! pairs -/
def V (hi lo : Int) : Int := hi * 18446744073709551616 + lo
theorem V_bd {hi lo : Int} (h0 : 0 ≤ hi) (h1 : hi < 18446744073709551616) (l0 : 0 ≤ lo) (l1 : lo < 18446744073709551616) : 0 ≤ V hi lo ∧ V hi lo < 18446744073709551616 * 18446744073709551616 := by unfold V; omega
theorem V_of (v : Int) : V (v / 18446744073709551616) (v % 18446744073709551616) = v := by unfold V; omega
theorem V_inj {a b c d : Int} (b0 : 0 ≤ b) (b1 : b < 18446744073709551616) (d0 : 0 ≤ d) (d1 : d < 18446744073709551616) (h : V a b = V c d) : a = c ∧ b = d := by unfold V at h; omega
theorem pair_lt {v : Int} (h0 : 0 ≤ v) (h : v < 18446744073709551616 * 18446744073709551616) : 0 ≤ v / 18446744073709551616 ∧ v / 18446744073709551616 < 18446744073709551616 ∧ 0 ≤ v % 18446744073709551616 ∧ v % 18446744073709551616 < 18446744073709551616 := by omega

end Go.Proofs.Ytdgbehbiigggmaa.Lib

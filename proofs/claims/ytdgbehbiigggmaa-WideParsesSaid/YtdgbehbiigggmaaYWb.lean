/- Lemmas of this claim's session over the printed functions (plain Lean, no condition beyond those each theorem names). -/
import Derived.Test.YtdgbehbiigggmaaYWa
import Derived.Test.YtdgbehbiigggmaaYDm
namespace Go.Proofs.Ytdgbehbiigggmaa.Lib
set_option linter.unusedVariables false
set_option linter.unusedVariables false
set_option linter.unusedSimpArgs false
open Go.RowKit Go.Proofs.Ytdgbehbiigggmaa.Y Go.Proofs.YtdgbehbiigggmaaW.PrintWords Go.Proofs.YtdgbehbiigggmaaW.PrintLast Go.Proofs.YtdgbehbiigggmaaW.PrintMore

theorem tdiv_nn {a b : Int} (h : 0 ≤ a) : Int.tdiv a b = a / b := Int.tdiv_eq_ediv_of_nonneg h
theorem tmod_nn {a b : Int} (h : 0 ≤ a) : Int.tmod a b = a % b := Int.tmod_eq_emod_of_nonneg h

/-- The second digit's loop, to the end. -/
theorem div_l1 (Y s Q1 y1 y0 un u1 : Int) (hY : Y = y1 * 4294967296 + y0) (hs : 0 ≤ s) (d : Nat) : ∀ (q r : Int), Dig y1 y0 un u1 q r → (q - (un * 4294967296 + u1) / Y).toNat ≤ d →
    ∃ k, bits_Div64.l1 k Y s y1 y0 u1 Q1 r un q = some (IntKind.u64.wrap (IntKind.u64.wrap (Q1 * 4294967296) + (un * 4294967296 + u1) / Y), shr .u64 ((un * 4294967296 + u1) % Y) s) := by
  subst hY
  have fin : ∀ (q r : Int), Dig y1 y0 un u1 q r → ∀ Q, Q = (un * 4294967296 + u1) / (y1 * 4294967296 + y0) → IntKind.u64.wrap (IntKind.u64.wrap (IntKind.u64.wrap (un * 4294967296) + u1) - IntKind.u64.wrap (Q * (y1 * 4294967296 + y0))) = (un * 4294967296 + u1) % (y1 * 4294967296 + y0) := by
    intro q r h Q hQ
    subst hQ
    have hYp : 0 < y1 * 4294967296 + y0 := by have := h.y1l; have := h.y0l; omega
    have e1 : (un * 4294967296 + u1) / (y1 * 4294967296 + y0) * (y1 * 4294967296 + y0) + (un * 4294967296 + u1) % (y1 * 4294967296 + y0) = un * 4294967296 + u1 := by
      rw [Int.mul_comm]; exact Int.mul_ediv_add_emod _ _
    have e2 := Int.emod_nonneg (un * 4294967296 + u1) (show y1 * 4294967296 + y0 ≠ 0 by omega)
    have e3 := Int.emod_lt_of_pos (un * 4294967296 + u1) hYp
    have := h.y1h; have := h.y0h; have := h.unl; have := h.u1l
    simp only [wu]
    generalize (un * 4294967296 + u1) / (y1 * 4294967296 + y0) * (y1 * 4294967296 + y0) = P at *
    generalize (un * 4294967296 + u1) % (y1 * 4294967296 + y0) = R at *
    omega
  induction d with
  | zero =>
    intro q r h hd
    have hb := h.bounds
    have F := fin q r h
    by_cases c : 4294967296 ≤ q ∨ 4294967296 * r + u1 < q * y0
    · exfalso
      have k := (h.yes c).1
      have hYp : 0 < y1 * 4294967296 + y0 := by have := h.y1l; have := h.y0l; omega
      have := (Int.ediv_lt_iff_lt_mul hYp).2 k
      omega
    · have e := h.no (by omega)
      refine ⟨2, ?_⟩
      have q0 := h.ql; have q1 := h.qh; have r0 := h.rl; have r1 := h.rh; have u0 := h.u1l; have u1' := h.u1h
      have w1 : IntKind.u64.wrap (q * y0) = q * y0 := wu_in hb.1 hb.2.1
      have w2 : IntKind.u64.wrap (IntKind.u64.wrap (4294967296 * r) + u1) = 4294967296 * r + u1 := by rw [wu_in (x := 4294967296 * r) (by omega) (by omega), wu_in (by omega) (by omega)]
      rw [bits_Div64.l1, if_neg (by omega), w1, w2, show decide (q * y0 > 4294967296 * r + u1) = false from decide_eq_false (by omega)]
      rw [bits_Div64.j4, if_neg (by simp), if_pos hs, F q e.symm, e]
  | succ d ih =>
    intro q r h hd
    have hb := h.bounds
    have F := fin q r h
    have q0 := h.ql; have q1 := h.qh; have r0 := h.rl; have r1 := h.rh; have u0 := h.u1l; have u1' := h.u1h; have y1l := h.y1l; have y1h := h.y1h
    have w1 : IntKind.u64.wrap (q * y0) = q * y0 := wu_in hb.1 hb.2.1
    have w2 : IntKind.u64.wrap (IntKind.u64.wrap (4294967296 * r) + u1) = 4294967296 * r + u1 := by rw [wu_in (x := 4294967296 * r) (by omega) (by omega), wu_in (by omega) (by omega)]
    have w3 : IntKind.u64.wrap (r + y1) = r + y1 := wu_in (by omega) (by omega)
    by_cases c : 4294967296 ≤ q ∨ 4294967296 * r + u1 < q * y0
    · have hq1 := (h.yes c).2
      have w4 : IntKind.u64.wrap (q - 1) = q - 1 := wu_in (by omega) (by omega)
      have top : ∀ k, bits_Div64.l1 (k + 1) (y1 * 4294967296 + y0) s y1 y0 u1 Q1 r un q = bits_Div64.j4 k (y1 * 4294967296 + y0) s y1 y0 u1 Q1 r un q true := by
        intro k
        rw [bits_Div64.l1]
        by_cases c1 : 4294967296 ≤ q
        · rw [if_pos c1]
        · rw [if_neg c1, w1, w2, show decide (q * y0 > 4294967296 * r + u1) = true from decide_eq_true (by omega)]
      by_cases hr : 4294967296 ≤ r + y1
      · have e := h.last c hr
        refine ⟨2, ?_⟩
        rw [top, bits_Div64.j4, if_pos rfl, w3, if_pos hr, if_pos hs, w4, F (q - 1) e.symm, e]
      · have e := h.step c (by omega)
        have hYp : 0 < y1 * 4294967296 + y0 := by have := h.y0l; omega
        have := (Int.ediv_lt_iff_lt_mul hYp).2 (h.yes c).1
        obtain ⟨k, hk⟩ := ih (q - 1) (r + y1) e (by omega)
        refine ⟨k + 2, ?_⟩
        rw [top, bits_Div64.j4, if_pos rfl, w3, if_neg hr, w4]
        exact hk
    · have e := h.no (by omega)
      refine ⟨2, ?_⟩
      rw [bits_Div64.l1, if_neg (by omega), w1, w2, show decide (q * y0 > 4294967296 * r + u1) = false from decide_eq_false (by omega)]
      rw [bits_Div64.j4, if_neg (by simp), if_pos hs, F q e.symm, e]

theorem div_j2 (Y s y1 y0 un u1 u0 : Int) (hY : Y = y1 * 4294967296 + y0) (hs : 0 ≤ s) (y1l : 2147483648 ≤ y1) (y1h : y1 < 4294967296) (y0l : 0 ≤ y0) (y0h : y0 < 4294967296) (unl : 0 ≤ un) (unh : un < Y) (u1l : 0 ≤ u1) (u1h : u1 < 4294967296) (u0l : 0 ≤ u0) (u0h : u0 < 4294967296) :
    ∃ k, bits_Div64.j2 k Y s y1 y0 un u1 u0 ((un * 4294967296 + u1) / Y) =
      some (IntKind.u64.wrap (IntKind.u64.wrap ((un * 4294967296 + u1) / Y * 4294967296) + ((un * 4294967296 + u1) % Y * 4294967296 + u0) / Y), shr .u64 (((un * 4294967296 + u1) % Y * 4294967296 + u0) % Y) s) := by
  have hYp : 0 < Y := by omega
  have e1 : (un * 4294967296 + u1) / Y * Y + (un * 4294967296 + u1) % Y = un * 4294967296 + u1 := by
    rw [Int.mul_comm]; exact Int.mul_ediv_add_emod _ _
  have e2 := Int.emod_nonneg (un * 4294967296 + u1) (show Y ≠ 0 by omega)
  have e3 := Int.emod_lt_of_pos (un * 4294967296 + u1) hYp
  have w1 : IntKind.u64.wrap (IntKind.u64.wrap (IntKind.u64.wrap (un * 4294967296) + u1) - IntKind.u64.wrap ((un * 4294967296 + u1) / Y * Y)) = (un * 4294967296 + u1) % Y := by
    simp only [wu]
    generalize (un * 4294967296 + u1) / Y * Y = P at *
    generalize (un * 4294967296 + u1) % Y = R at *
    omega
  generalize hR : (un * 4294967296 + u1) % Y = R at *
  subst hY
  have D := Dig.init (u1 := u0) y1l y1h y0l y0h e2 e3 u0l u0h
  have q0 := D.ql
  have q1 := D.qh
  have r0 := D.rl
  have r1 := D.rh
  have hb := D.bounds.2.2
  have hsum := D.sum
  obtain ⟨k, hk⟩ := div_l1 _ s ((un * 4294967296 + u1) / (y1 * 4294967296 + y0)) y1 y0 R u0 rfl hs _ _ _ D (Nat.le_refl _)
  refine ⟨k + 1, ?_⟩
  rw [bits_Div64.j2, if_neg (by omega), w1, tdiv_nn e2, wu_in (x := R / y1) q0 (by omega), wu_in (x := R / y1 * y1) hb (by omega), wu_in (x := R - R / y1 * y1) r0 (by omega)]
  exact hk

theorem div_l0 (Y s y1 y0 un u1 U0 : Int) (hY : Y = y1 * 4294967296 + y0) (hs : 0 ≤ s) (u0l : 0 ≤ U0) (u0h : U0 < 4294967296) (d : Nat) : ∀ (q r : Int), Dig y1 y0 un u1 q r → (q - (un * 4294967296 + u1) / Y).toNat ≤ d →
    ∃ k, bits_Div64.l0 k Y s y1 y0 un u1 U0 q r =
      some (IntKind.u64.wrap (IntKind.u64.wrap ((un * 4294967296 + u1) / Y * 4294967296) + ((un * 4294967296 + u1) % Y * 4294967296 + U0) / Y), shr .u64 (((un * 4294967296 + u1) % Y * 4294967296 + U0) % Y) s) := by
  have J : ∀ (q r : Int), Dig y1 y0 un u1 q r → ∀ Q, (un * 4294967296 + u1) / Y = Q → ∃ k, bits_Div64.j2 k Y s y1 y0 un u1 U0 Q =
      some (IntKind.u64.wrap (IntKind.u64.wrap ((un * 4294967296 + u1) / Y * 4294967296) + ((un * 4294967296 + u1) % Y * 4294967296 + U0) / Y), shr .u64 (((un * 4294967296 + u1) % Y * 4294967296 + U0) % Y) s) := by
    intro q r h Q hQ
    rw [← hQ]
    exact div_j2 Y s y1 y0 un u1 U0 hY hs h.y1l h.y1h h.y0l h.y0h h.unl (by rw [hY]; exact h.unh) h.u1l h.u1h u0l u0h
  subst hY
  induction d with
  | zero =>
    intro q r h hd
    have hb := h.bounds
    by_cases c : 4294967296 ≤ q ∨ 4294967296 * r + u1 < q * y0
    · exfalso
      have k := (h.yes c).1
      have hYp : 0 < y1 * 4294967296 + y0 := by have := h.y1l; have := h.y0l; omega
      have := (Int.ediv_lt_iff_lt_mul hYp).2 k
      omega
    · have e := h.no (by omega)
      obtain ⟨k, hk⟩ := J q r h q e
      refine ⟨k + 2, ?_⟩
      have q0 := h.ql; have q1 := h.qh; have r0 := h.rl; have r1 := h.rh; have u0 := h.u1l; have u1' := h.u1h
      have w1 : IntKind.u64.wrap (q * y0) = q * y0 := wu_in hb.1 hb.2.1
      have w2 : IntKind.u64.wrap (IntKind.u64.wrap (4294967296 * r) + u1) = 4294967296 * r + u1 := by rw [wu_in (x := 4294967296 * r) (by omega) (by omega), wu_in (by omega) (by omega)]
      rw [bits_Div64.l0, if_neg (by omega), w1, w2, show decide (q * y0 > 4294967296 * r + u1) = false from decide_eq_false (by omega)]
      rw [bits_Div64.j1, if_neg (by simp)]
      exact hk
  | succ d ih =>
    intro q r h hd
    have hb := h.bounds
    have q0 := h.ql; have q1 := h.qh; have r0 := h.rl; have r1 := h.rh; have u0 := h.u1l; have u1' := h.u1h; have y1l := h.y1l; have y1h := h.y1h
    have w1 : IntKind.u64.wrap (q * y0) = q * y0 := wu_in hb.1 hb.2.1
    have w2 : IntKind.u64.wrap (IntKind.u64.wrap (4294967296 * r) + u1) = 4294967296 * r + u1 := by rw [wu_in (x := 4294967296 * r) (by omega) (by omega), wu_in (by omega) (by omega)]
    have w3 : IntKind.u64.wrap (r + y1) = r + y1 := wu_in (by omega) (by omega)
    by_cases c : 4294967296 ≤ q ∨ 4294967296 * r + u1 < q * y0
    · have hq1 := (h.yes c).2
      have w4 : IntKind.u64.wrap (q - 1) = q - 1 := wu_in (by omega) (by omega)
      have top : ∀ k, bits_Div64.l0 (k + 1) (y1 * 4294967296 + y0) s y1 y0 un u1 U0 q r = bits_Div64.j1 k (y1 * 4294967296 + y0) s y1 y0 un u1 U0 q r true := by
        intro k
        rw [bits_Div64.l0]
        by_cases c1 : 4294967296 ≤ q
        · rw [if_pos c1]
        · rw [if_neg c1, w1, w2, show decide (q * y0 > 4294967296 * r + u1) = true from decide_eq_true (by omega)]
      by_cases hr : 4294967296 ≤ r + y1
      · have e := h.last c hr
        obtain ⟨k, hk⟩ := J q r h _ e
        refine ⟨k + 2, ?_⟩
        rw [top, bits_Div64.j1, if_pos rfl, w3, if_pos hr, w4]
        exact hk
      · have e := h.step c (by omega)
        have hYp : 0 < y1 * 4294967296 + y0 := by have := h.y0l; omega
        have := (Int.ediv_lt_iff_lt_mul hYp).2 (h.yes c).1
        obtain ⟨k, hk⟩ := ih (q - 1) (r + y1) e (by omega)
        refine ⟨k + 2, ?_⟩
        rw [top, bits_Div64.j1, if_pos rfl, w3, if_neg hr, w4]
        exact hk
    · have e := h.no (by omega)
      obtain ⟨k, hk⟩ := J q r h q e
      refine ⟨k + 2, ?_⟩
      rw [bits_Div64.l0, if_neg (by omega), w1, w2, show decide (q * y0 > 4294967296 * r + u1) = false from decide_eq_false (by omega)]
      rw [bits_Div64.j1, if_neg (by simp)]
      exact hk
end Go.Proofs.Ytdgbehbiigggmaa.Lib

/- Quotients in parts: program and reference. -/
import Derived.Test.YtjgjmeefieikaaaRFc
namespace Go.Proofs.Ytjgjmeefieikaaa.Lib
set_option linter.unusedVariables false
set_option linter.unusedSimpArgs false
open Go.RowKit Go.Proofs.Ytjgjmeefieikaaa.R Go.Proofs.YtjgjmeefieikaaaW.PrintWords Go.Proofs.YtjgjmeefieikaaaW.PrintLast Go.Proofs.YtjgjmeefieikaaaW.PrintMore

theorem sg_bd (v : Int) (s t : Bool) : -9223372036854775808 ≤ sg v s t ∧ sg v s t < 9223372036854775808 := sat_bd _
theorem rat_bd (a b : Int) : -9223372036854775808 ≤ rat a b ∧ rat a b < 9223372036854775808 := by
  unfold rat
  split
  · split
    · omega
    · split <;> omega
  · exact sg_bd _ _ _
theorem ab_pos {b : Int} (h : b ≠ 0) : 0 < ab b := by unfold ab; split <;> omega
theorem ratio_abs (k : Nat) (a b x y t1 t2 w1 w2 r rs : Int) (s : Bool) (hb : b ≠ 0) (h1 : fix_size.f a = some x) (h2 : wide_Num_Left.f 0 x 32 = some (t1, t2)) (h3 : fix_size.f b = some y) (h4 : wide_Num_Div.f k t1 t2 y = some (w1, w2, r)) (h5 : fix_signed.f k w1 w2 (s && (a != 0)) (r != 0) = some rs) : fix_Ratio.j0 (k + 1) a b s false = some rs := by
  rw [fix_Ratio.j0, if_neg Bool.false_ne_true, if_neg hb, h1, Option.bind_some, off, Option.bind_some]
  rw [h2, Option.bind_some, h3, Option.bind_some]
  rw [h4, Option.bind_some]
  cases s
  · rw [if_neg Bool.false_ne_true]
    rw [Bool.false_and] at h5
    rw [h5, Option.bind_some]
  · rw [if_pos (rfl : true = true)]
    rw [Bool.true_and] at h5
    rw [h5, Option.bind_some]
theorem div_small {T y : Int} (t0 : 0 ≤ T) (t1 : T ≤ 39614081257132168796771975168) (y0 : 0 < y) : 0 ≤ T / y ∧ T / y ≤ 39614081257132168796771975168 := by
  refine ⟨Int.ediv_nonneg t0 (by omega), ?_⟩
  have h := Int.ediv_le_self y t0
  omega
theorem ratiof (a b : Int) (a0 : -9223372036854775808 ≤ a) (a1 : a < 9223372036854775808) (b0 : -9223372036854775808 ≤ b) (b1 : b < 9223372036854775808) : ∃ K, ∀ k, K ≤ k → fix_Ratio.f k a b = some (rat a b) := by
  have A := ab_bd a0 a1
  have B := ab_bd b0 b1
  by_cases c : b = 0
  · refine ⟨1, fun k hk => ?_⟩
    obtain ⟨k, rfl⟩ : ∃ j, k = j + 1 := ⟨k - 1, by omega⟩
    rw [fix_Ratio.f, if_pos c, fix_Ratio.j0]
    have hr : rat a b = if a = 0 then 0 else if a < 0 then -9223372036854775808 else 9223372036854775807 := by unfold rat; rw [if_pos c]
    rw [hr]
    by_cases d : a = 0
    · subst d; rfl
    · rw [show (a == 0) = false by simpa using d, if_neg Bool.false_ne_true, if_pos c, if_neg d]
      unfold fix_end.f
      by_cases e : a < 0
      · rw [decide_eq_true e, if_pos (rfl : true = true), if_pos e, Option.bind_some]
      · rw [decide_eq_false e, if_neg Bool.false_ne_true, if_neg e, Option.bind_some]
  · have yp := ab_pos c
    have L := leftf 0 (ab a) 32 (by omega) (by omega) A.1 (by omega) (by omega)
    rw [p32, show V 0 (ab a) = ab a by unfold V; omega] at L
    have hr : rat a b = sg (ab a * 4294967296 / ab b) ((decide (a < 0) != decide (b < 0)) && (a != 0)) (ab a * 4294967296 % ab b != 0) := by unfold rat; rw [if_neg c]
    rw [hr]
    have ts := fsizef a a0 a1
    have us := fsizef b b0 b1
    obtain ⟨T, hT⟩ : ∃ T, T = ab a * 4294967296 := ⟨_, rfl⟩
    rw [← hT] at L ⊢
    have Tb : 0 ≤ T ∧ T ≤ 39614081257132168796771975168 := by omega
    obtain ⟨K, D⟩ := divf (T / 18446744073709551616 % 18446744073709551616) (T % 18446744073709551616) (ab b) (by omega) (by omega) (by omega) (by omega) yp (by omega)
    rw [show T / 18446744073709551616 % 18446744073709551616 * 18446744073709551616 + T % 18446744073709551616 = T by omega] at D
    have Qb := div_small Tb.1 Tb.2 yp
    generalize T / ab b = Q at *
    generalize T % ab b = R at *
    refine ⟨K + 8, fun k hk => ?_⟩
    obtain ⟨k, rfl⟩ : ∃ j, k = j + 7 + 1 := ⟨k - 8, by omega⟩
    rw [fix_Ratio.f, if_neg c]
    have S := signedf k (Q / 18446744073709551616) (Q % 18446744073709551616) ((decide (a < 0) != decide (b < 0)) && (a != 0)) (R != 0) (by omega) (by omega) (by omega) (by omega)
    rw [V_of] at S
    exact ratio_abs _ a b _ _ _ _ _ _ _ _ _ c ts L us (D _ (by omega)) S
theorem rratio_abs (k : Nat) (a b x y t1 t2 w1 w2 r rs : Int) (s t : Bool) (hb : b ≠ 0) (h1 : overfallref02_Size.f a = some (0, x, s)) (h2 : overfallref02_Size.f b = some (0, y, t)) (h3 : overfallref01_Left.f k 0 x 32 = some (t1, t2)) (h4 : overfallref01_Div.f k t1 t2 y = some (w1, w2, r)) (h5 : overfallref02_down.f k w1 w2 (decide (r > 0)) ((s != t) && (a != 0)) = some rs) : overfallref02_Ratio.f k a b = some rs := by
  rw [overfallref02_Ratio.f, h1, Option.bind_some, h2, Option.bind_some, if_neg hb]
  rw [h3, Option.bind_some]
  rw [h4, Option.bind_some]
  by_cases c : (s != t) = true
  · rw [c, Bool.true_and] at h5
    rw [if_pos c, h5, Option.bind_some]
  · rw [Bool.not_eq_true] at c
    rw [c, Bool.false_and] at h5
    rw [if_neg (by rw [c]; decide), h5, Option.bind_some]
theorem rratio0_abs (k : Nat) (a b x y rs : Int) (s t : Bool) (hb : b = 0) (ha : a ≠ 0) (h1 : overfallref02_Size.f a = some (0, x, s)) (h2 : overfallref02_Size.f b = some (0, y, t)) (h3 : overfallref02_Back.f k 1 0 s = some rs) : overfallref02_Ratio.f k a b = some rs := by
  rw [overfallref02_Ratio.f, h1, Option.bind_some, h2, Option.bind_some, if_pos hb, if_neg ha]
  rw [h3, Option.bind_some]
theorem rratiof (k : Nat) (a b : Int) (a0 : -9223372036854775808 ≤ a) (a1 : a < 9223372036854775808) (b0 : -9223372036854775808 ≤ b) (b1 : b < 9223372036854775808) : overfallref02_Ratio.f (k + 290) a b = some (rat a b) := by
  have A := ab_bd a0 a1
  have B := ab_bd b0 b1
  have ts := rsizef a a0 a1
  have us := rsizef b b0 b1
  by_cases c : b = 0
  · unfold rat
    rw [if_pos c]
    by_cases d : a = 0
    · rw [overfallref02_Ratio.f, ts, Option.bind_some, us, Option.bind_some, if_pos c, if_pos d, if_pos d]
    · have R := rbackf (k + 289) 1 0 (decide (a < 0)) (by omega) (by omega) (by omega)
      rw [if_neg d]
      refine rratio0_abs _ a b _ _ _ _ _ c d ts us (R.trans ?_)
      by_cases e : a < 0
      · rw [decide_eq_true e, sg_tf, sat_lo (by unfold V; omega), if_pos e]
      · rw [decide_eq_false e, sg_f, sat_hi (by unfold V; omega), if_neg e]
  · have yp := ab_pos c
    have L := rleftf (k + 140) 0 (ab a) 32 (by omega) (by omega) A.1 (by omega)
    rw [p32, show V 0 (ab a) = ab a by unfold V; omega] at L
    have hr : rat a b = sg (ab a * 4294967296 / ab b) ((decide (a < 0) != decide (b < 0)) && (a != 0)) (ab a * 4294967296 % ab b != 0) := by unfold rat; rw [if_neg c]
    rw [hr]
    obtain ⟨T, hT⟩ : ∃ T, T = ab a * 4294967296 := ⟨_, rfl⟩
    rw [← hT] at L ⊢
    have Tb : 0 ≤ T ∧ T ≤ 39614081257132168796771975168 := by omega
    have D := rdivf k (T / 18446744073709551616 % 18446744073709551616) (T % 18446744073709551616) (ab b) (by omega) (by omega) (by omega) (by omega) yp (by omega)
    rw [show V (T / 18446744073709551616 % 18446744073709551616) (T % 18446744073709551616) = T by unfold V; omega] at D
    have Qb := div_small Tb.1 Tb.2 yp
    have Rb := Int.emod_nonneg T (show ab b ≠ 0 by omega)
    generalize T / ab b = Q at *
    generalize T % ab b = R at *
    have S := rdownf (k + 269) (Q / 18446744073709551616) (Q % 18446744073709551616) (R != 0) ((decide (a < 0) != decide (b < 0)) && (a != 0)) (by omega) (by omega) (by omega) (by omega)
    rw [V_of, ← pos_ne R Rb] at S
    have S2 := rratio_abs _ a b _ _ _ _ _ _ _ _ _ _ c ts us L D S
    rw [S2, pos_ne R Rb]
end Go.Proofs.Ytjgjmeefieikaaa.Lib

/- FixBack's pure statement: what was done is undone, wherever nothing was saturated. -/
import Derived.Test.YtjgjmeefieikaaaBFd
import Derived.Test.YtjgjmeefieikaaaBx6
import Derived.Test.YtjgjmeefieikaaaBx7
import Derived.Test.YtjgjmeefieikaaaBx3
namespace Go.Proofs.Ytjgjmeefieikaaa.Pure
set_option linter.unusedVariables false
set_option linter.unusedSimpArgs false
open Go.RowKit Go.Proofs.Ytjgjmeefieikaaa.B Go.Proofs.YtjgjmeefieikaaaW.PrintWords Go.Proofs.YtjgjmeefieikaaaW.PrintLast Go.Proofs.YtjgjmeefieikaaaW.PrintMore
open Go.Proofs.Ytjgjmeefieikaaa.Lib

theorem awake_at : overfalllaw02_awake.f 200 = some true := by decide +kernel
theorem awakef : ∃ K, ∀ k, K ≤ k → overfalllaw02_awake.f k = some true := Ev.of (g := fun k => overfalllaw02_awake.f k) (fun k => overfalllaw02_awake.mono k) awake_at
/-- A quotient of small numbers, turned back: with the divisor's size. -/
theorem rat_parts (a b : Int) (a0 : -1073741824 ≤ a) (a1 : a ≤ 1073741824) (hb : b ≠ 0) :
    ∃ Q R : Int, ab a * 4294967296 = ab b * Q + R ∧ 0 ≤ R ∧ R < ab b ∧ 0 ≤ Q ∧ Q ≤ 4611686018427387904 ∧ rat a b = if ((decide (a < 0) != decide (b < 0)) && (a != 0)) = true then -(Q + if R = 0 then 0 else 1) else Q := by
  have yp := ab_pos hb
  have ta : 0 ≤ ab a ∧ ab a ≤ 1073741824 := by unfold ab; split <;> omega
  have hr : rat a b = sg (ab a * 4294967296 / ab b) ((decide (a < 0) != decide (b < 0)) && (a != 0)) (ab a * 4294967296 % ab b != 0) := by unfold rat; rw [if_neg hb]
  obtain ⟨T, hT⟩ : ∃ T, T = ab a * 4294967296 := ⟨_, rfl⟩
  rw [← hT] at hr ⊢
  have Tb : 0 ≤ T ∧ T ≤ 4611686018427387904 := by omega
  have e := Int.mul_ediv_add_emod T (ab b)
  have r0 := Int.emod_nonneg T (show ab b ≠ 0 by omega)
  have r1 := Int.emod_lt_of_pos T yp
  have q0 : 0 ≤ T / ab b := Int.ediv_nonneg Tb.1 (by omega)
  have q1 : T / ab b ≤ T := Int.ediv_le_self _ Tb.1
  refine ⟨T / ab b, T % ab b, e.symm, r0, r1, q0, by omega, ?_⟩
  rw [hr]
  generalize T / ab b = Q at *
  generalize T % ab b = R at *
  cases ((decide (a < 0) != decide (b < 0)) && (a != 0))
  · rw [sg_f, if_neg Bool.false_ne_true, sat_in (by omega) (by omega)]
  · rw [if_pos (rfl : true = true)]
    by_cases c : R = 0
    · rw [show (R != 0) = false by rw [c]; rfl, sg_tf, if_pos c, Int.add_zero, sat_in (by omega) (by omega)]
    · rw [show (R != 0) = true by simpa using c, sg_tt, if_neg c, sat_in (by omega) (by omega)]
theorem rat_back (a b : Int) (a0 : -1073741824 ≤ a) (a1 : a ≤ 1073741824) (hb : b ≠ 0) :
    -4611686018427387906 ≤ rat a b ∧ rat a b ≤ 4611686018427387906 ∧ (0 < b → rat a b * b ≤ a * 4294967296 ∧ a * 4294967296 < (rat a b + 1) * b) ∧ (b < 0 → a * 4294967296 ≤ rat a b * b ∧ (rat a b + 1) * b < a * 4294967296) := by
  obtain ⟨Q, R, e, r0, r1, q0, q1, hr⟩ := rat_parts a b a0 a1 hb
  have hrr : -4611686018427387906 ≤ rat a b ∧ rat a b ≤ 4611686018427387906 := by rw [hr]; repeat' split
                                                                                  all_goals omega
  refine ⟨hrr.1, hrr.2, ?_, ?_⟩
  · intro bp
    have eb : ab b = b := by unfold ab; rw [if_neg (by omega)]
    rw [eb] at e r1
    have d0 : decide (b < 0) = false := decide_eq_false (by omega)
    rw [d0] at hr
    rw [Int.add_mul, Int.one_mul]
    have e2 : b * Q = Q * b := Int.mul_comm _ _
    by_cases c : a < 0
    · have ea : ab a = -a := by unfold ab; rw [if_pos c]
      rw [ea] at e
      rw [decide_eq_true c, show (a != 0) = true by simp; omega] at hr
      simp only [Bool.true_bne, Bool.not_false, Bool.and_self, if_true] at hr
      by_cases z : R = 0
      · rw [if_pos z, Int.add_zero] at hr
        rw [hr, Int.neg_mul]; omega
      · rw [if_neg z] at hr
        rw [hr, Int.neg_mul, Int.add_mul, Int.one_mul]; omega
    · have ea : ab a = a := by unfold ab; rw [if_neg c]
      rw [ea] at e
      rw [decide_eq_false c] at hr
      simp only [bne_self_eq_false, Bool.false_and, Bool.false_eq_true, if_false] at hr
      rw [hr]; omega
  · intro bn
    have eb : ab b = -b := by unfold ab; rw [if_pos bn]
    rw [eb, Int.neg_mul] at e
    rw [eb] at r1
    have d0 : decide (b < 0) = true := decide_eq_true bn
    rw [d0] at hr
    rw [Int.add_mul, Int.one_mul]
    have e2 : b * Q = Q * b := Int.mul_comm _ _
    by_cases c : a < 0
    · have ea : ab a = -a := by unfold ab; rw [if_pos c]
      rw [ea] at e
      rw [decide_eq_true c] at hr
      simp only [bne_self_eq_false, Bool.false_and, Bool.false_eq_true, if_false] at hr
      rw [hr]; omega
    · have ea : ab a = a := by unfold ab; rw [if_neg c]
      rw [ea] at e
      rw [decide_eq_false c] at hr
      by_cases za : a = 0
      · subst za
        have hq : Q * b = R := by omega
        simp only [Bool.false_bne, bne_self_eq_false, Bool.and_false, Bool.false_eq_true, if_false] at hr
        rw [hr]; omega
      · rw [show (a != 0) = true by simpa using za] at hr
        simp only [Bool.false_bne, Bool.and_self, if_true] at hr
        by_cases z : R = 0
        · rw [if_pos z, Int.add_zero] at hr
          rw [hr, Int.neg_mul]; omega
        · rw [if_neg z] at hr
          rw [hr, Int.neg_mul, Int.add_mul, Int.one_mul]; omega
theorem rat_one (q : Int) (q0 : -9223372036854775808 ≤ q) (q1 : q < 9223372036854775808) : rat q 4294967296 = q := by
  have eb : ab 4294967296 = 4294967296 := by decide
  unfold rat
  rw [if_neg (by decide), eb, Int.mul_ediv_cancel _ (by decide), Int.mul_emod_left]
  have d : decide ((4294967296 : Int) < 0) = false := by decide
  rw [d, show ((0 : Int) != 0) = false from rfl]
  by_cases c : q < 0
  · have ea : ab q = -q := by unfold ab; rw [if_pos c]
    rw [decide_eq_true c, show (q != 0) = true by simp; omega, ea]
    rw [show ((true != false) && true) = true from rfl, sg_tf, Int.neg_neg, sat_in q0 q1]
  · have ea : ab q = q := by unfold ab; rw [if_neg c]
    rw [decide_eq_false c, ea, show ((false != false) && (q != 0)) = false from rfl, sg_f, sat_in q0 q1]
theorem of_one (q : Int) (q0 : -9223372036854775808 ≤ q) (q1 : q < 9223372036854775808) : ofv q 4294967296 = q := by
  unfold ofv; rw [Int.mul_ediv_cancel _ (by decide), sat_in q0 q1]
theorem back_j1 (q x : Int) (q0 : -9223372036854775808 ≤ q) (q1 : q < 9223372036854775808) (x0 : -1073741824 ≤ x) (x1 : x ≤ 1073741824) : ∃ K, ∀ k, K ≤ k → overfalllaw02_FixBack.j1 (k + 1) q x = some true := by
  obtain ⟨K, hK⟩ := ratiof q 4294967296 q0 q1 (by omega) (by omega)
  refine ⟨K + 7, fun k hk => ?_⟩
  obtain ⟨k, rfl⟩ : ∃ j, k = j + 7 := ⟨k - 7, by omega⟩
  have o1 := qoff k q 4294967296 q0 q1 (by omega) (by omega)
  rw [of_one q q0 q1] at o1
  have r1 := hK (k + 7) (by omega)
  rw [rat_one q q0 q1] at r1
  have w := fmulf k x 4294967296 (by omega) (by omega) (by omega) (by omega)
  rw [sat_in (by omega) (by omega)] at w
  rw [overfalllaw02_FixBack.j1, fix_Whole.f, w, Option.bind_some, Option.bind_some, fix_Q_Floor.f, Option.bind_some, Int.mul_ediv_cancel _ (by decide), if_pos (rfl : x = x), fix_Q_Times.f, o1, Option.bind_some, Option.bind_some, if_pos (rfl : q = q), fix_Q_Over.f, r1, Option.bind_some, Option.bind_some, beq_self_eq_true]
theorem back_j0 (q x y : Int) (q0 : -9223372036854775808 ≤ q) (q1 : q < 9223372036854775808) (x0 : -1073741824 ≤ x) (x1 : x ≤ 1073741824) (y0 : -2147483648 ≤ y) (y1 : y < 2147483648) : ∃ K, ∀ k, K ≤ k → overfalllaw02_FixBack.j0 (k + 2) q x y false = some true := by
  obtain ⟨K1, J⟩ := back_j1 q x q0 q1 x0 x1
  obtain ⟨K2, hK⟩ := ratiof x y (by omega) (by omega) (by omega) (by omega)
  refine ⟨K1 + K2 + 7, fun k hk => ?_⟩
  have J1 := J k (by omega)
  rw [overfalllaw02_FixBack.j0, if_neg Bool.false_ne_true]
  by_cases c : y = 0
  · rw [if_pos c]; exact J1
  · obtain ⟨b0, b1, bp, bn⟩ := rat_back x y x0 x1 c
    have R := hK (k + 1) (by omega)
    generalize rat x y = r at *
    obtain ⟨k, rfl⟩ : ∃ j, k = j + 6 := ⟨k - 6, by omega⟩
    have o1 := qoff k r y (by omega) (by omega) (by omega) (by omega)
    have o2 := qoff k (r + 1) y (by omega) (by omega) (by omega) (by omega)
    rw [if_neg c, R, Option.bind_some, o1, Option.bind_some, wr_in (x := r + 1) (by omega) (by omega), o2, Option.bind_some]
    unfold ofv
    generalize r * y = u at *
    generalize (r + 1) * y = v at *
    by_cases d : y < 0
    · obtain ⟨h1, h2⟩ := bn d
      rw [if_pos d, if_neg (by unfold sat; repeat' split <;> omega), if_neg (by unfold sat; repeat' split <;> omega)]
      exact J1
    · obtain ⟨h1, h2⟩ := bp (by omega)
      rw [if_neg d, if_neg (by unfold sat; repeat' split <;> omega), if_neg (by unfold sat; repeat' split <;> omega)]
      exact J1
theorem back_abs (k : Nat) (a0 a1 q x y : Int) (hx : wrap64 (Int.tdiv (wrap64 a0) 2) = x) (hy : wrap64 a1 = y) (ha : overfalllaw02_awake.f k = some true) (h1 : fix_Add.f x y = some (x + y)) (w1 : wrap64 (x + y) = x + y) (h2 : fix_Sub.f (x + y) y = some x) (h3 : fix_Mul.f k x y = some (x * y)) (w3 : wrap64 (x * y) = x * y) (h4 : fix_Neg.f x = some (-x)) (h5 : fix_Neg.f (-x) = some x) (hj : overfalllaw02_FixBack.j0 k q x y false = some true) : overfalllaw02_FixBack.f k a0 a1 q = some true := by
  rw [overfalllaw02_FixBack.f, hx, hy, ha, Option.bind_some, if_pos (rfl : true = true), h1, Option.bind_some, h2, Option.bind_some, if_pos (rfl : x = x), Option.bind_some, w1, if_pos (rfl : x + y = x + y), h3, Option.bind_some, w3, if_pos (rfl : x * y = x * y), h4, Option.bind_some, h5, Option.bind_some, show (x != x) = false by simp, hj]
theorem half_bd (a : Int) (a0 : -2147483648 ≤ a) (a1 : a < 2147483648) : -1073741824 ≤ Int.tdiv a 2 ∧ Int.tdiv a 2 ≤ 1073741824 := by
  by_cases c : 0 ≤ a
  · rw [tdiv_nn c]; omega
  · obtain ⟨n, rfl⟩ : ∃ n, a = -n := ⟨-a, by omega⟩
    rw [Int.neg_tdiv, tdiv_nn (by omega)]; omega
theorem mul_bd (x y : Int) (x0 : -1073741824 ≤ x) (x1 : x ≤ 1073741824) (y0 : -2147483648 ≤ y) (y1 : y < 2147483648) : -2305843009213693952 ≤ x * y ∧ x * y ≤ 2305843009213693952 := by
  have X : 0 ≤ ab x ∧ ab x ≤ 1073741824 := by unfold ab; split <;> omega
  have Y : 0 ≤ ab y ∧ ab y ≤ 2147483648 := by unfold ab; split <;> omega
  have p0 : 0 ≤ ab x * ab y := Int.mul_nonneg X.1 Y.1
  have p1 := Int.mul_le_mul X.2 Y.2 Y.1 (by omega)
  have e := sgn_mul x y
  rw [← e]
  generalize ab x * ab y = p at *
  split <;> omega
theorem FixBack : ∀ (a0 : Int) (a1 : Int) (a2 : Int), (Lit.int .i32 a0).wf = true → (Lit.int .i32 a1).wf = true → (Lit.int .i64 a2).wf = true → ∃ k, overfalllaw02_FixBack.f k a0 a1 a2 = some true := by
  intro a b q ha hb hq
  have A := bounds_i32 ha
  have B := bounds_i32 hb
  have Q := bounds_i64 hq
  obtain ⟨K0, h0⟩ := awakef
  have hx : wrap64 (Int.tdiv (wrap64 a) 2) = Int.tdiv a 2 := by
    have := half_bd a A.1 (by omega)
    rw [wr_in (x := a) (by omega) (by omega), wr_in (by omega) (by omega)]
  have X := half_bd a A.1 (by omega)
  generalize Int.tdiv a 2 = x at *
  have M := mul_bd x b X.1 X.2 B.1 (by omega)
  obtain ⟨K1, J⟩ := back_j0 q x b Q.1 (by omega) X.1 X.2 B.1 (by omega)
  refine ⟨K0 + K1 + 2 + 7, back_abs _ a b q x b hx (wr_in (by omega) (by omega)) (h0 _ (by omega)) ?_ (wr_in (by omega) (by omega)) ?_ ?_ (wr_in (by omega) (by omega)) ?_ ?_ (J (K0 + K1 + 7) (by omega))⟩
  · rw [faddf x b (by omega) (by omega) (by omega) (by omega), sat_in (by omega) (by omega)]
  · rw [fsubf (x + b) b (by omega) (by omega) (by omega) (by omega), sat_in (by omega) (by omega), Int.add_sub_cancel]
  · rw [fmulf (K0 + K1 + 2) x b (by omega) (by omega) (by omega) (by omega), sat_in (by omega) (by omega)]
  · rw [fnegf x (by omega) (by omega), sat_in (by omega) (by omega)]
  · rw [fnegf (-x) (by omega) (by omega), sat_in (by omega) (by omega), Int.neg_neg]
end Go.Proofs.Ytjgjmeefieikaaa.Pure

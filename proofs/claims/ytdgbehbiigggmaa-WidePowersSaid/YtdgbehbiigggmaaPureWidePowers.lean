/- WidePowers' pure statement: shifting is multiplying, and dividing, by a power of two. -/
import Derived.Test.YtdgbehbiigggmaaWg
import Derived.Test.YtdgbehbiigggmaaWk
import Derived.Test.YtdgbehbiigggmaaGx15
namespace Go.Proofs.Ytdgbehbiigggmaa.Pure
set_option linter.unusedVariables false
set_option linter.unusedSimpArgs false
open Go.RowKit Go.Proofs.Ytdgbehbiigggmaa.G Go.Proofs.YtdgbehbiigggmaaW.PrintWords Go.Proofs.YtdgbehbiigggmaaW.PrintLast Go.Proofs.YtdgbehbiigggmaaW.PrintMore
open Go.Proofs.Ytdgbehbiigggmaa.Lib

theorem vpair (z : Int) : V (z / 18446744073709551616 % 18446744073709551616) (z % 18446744073709551616) = z % (18446744073709551616 * 18446744073709551616) := by
  unfold V
  omega
theorem pow_back (v p r q a b : Int) (hv : v = a * 18446744073709551616 + b) (b0 : 0 ≤ b) (b1 : b < 18446744073709551616) (a0 : 0 ≤ a) (a1 : a < 18446744073709551616) (hq0 : 0 ≤ q) (hs : q + r = v) (r0 : 0 ≤ r) (r1 : r < 18446744073709551616) :
    ((q / 18446744073709551616 % 18446744073709551616 + 0 + (q % 18446744073709551616 + r) / 18446744073709551616) % 18446744073709551616 == a && (q % 18446744073709551616 + r) % 18446744073709551616 == b) = true := by
  simp only [Bool.and_eq_true, beq_iff_eq]
  omega
theorem pow_pair (y1 y2 : Int) (h : y1 % (18446744073709551616 * 18446744073709551616) = y2 % (18446744073709551616 * 18446744073709551616)) :
    (y1 / 18446744073709551616 % 18446744073709551616 == y2 / 18446744073709551616 % 18446744073709551616 && y1 % 18446744073709551616 == y2 % 18446744073709551616) = true := by
  simp only [Bool.and_eq_true, beq_iff_eq]
  omega
theorem eq_pair (x y : Int) : (x == x && y == y) = true := by simp
theorem pow_small (y : Int) (h0 : 0 ≤ y) (h1 : y < 18446744073709551616 * 18446744073709551616) : (y / 18446744073709551616 == y / 18446744073709551616 % 18446744073709551616 && y % 18446744073709551616 == y % 18446744073709551616) = true := by
  rw [Int.emod_eq_of_lt (a := y / 18446744073709551616) (by omega) (by omega)]
  exact eq_pair _ _
theorem pow_mod (v p pp : Int) (h : p * p = pp) : v * p % (18446744073709551616 * 18446744073709551616) * p % (18446744073709551616 * 18446744073709551616) = v * pp % (18446744073709551616 * 18446744073709551616) := by
  rw [Int.mul_emod, Int.emod_emod, ← Int.mul_emod, Int.mul_assoc, h]
theorem pow_abs (a b J p : Int) (k : Nat) (j0 : 0 ≤ J) (es : shl .u64 1 J = p) (ew : wrap64 (2 * J) = J + J) (qh ql R l1 l2 s1 s2 : Int) (s3 : Bool) (b1 b2 y1 y2 v1 v2 w1 w2 x1 x2 r1 r2 z1 z2 : Int)
    (h2 : wide_Num_Div.f k a b p = some (qh, ql, R)) (hl : wide_Num_Left.f qh ql J = some (l1, l2)) (ha : wide_Num_Add.f l1 l2 0 R = some (s1, s2, s3)) (hr : wide_Num_Right.f a b J = some (qh, ql)) (hk : (s1 == a && s2 == b) = true)
    (hm : wide_Mul.f b p = some (b1, b2)) (hlb : wide_Num_Left.f 0 b J = some (y1, y2)) (hks : (b1 == y1 && b2 == y2) = true) (hla : wide_Num_Left.f a b J = some (v1, v2)) (hll : wide_Num_Left.f v1 v2 J = some (w1, w2))
    (hl2 : wide_Num_Left.f a b (J + J) = some (x1, x2)) (hkk : (w1 == x1 && w2 == x2) = true) (hrr : wide_Num_Right.f qh ql J = some (r1, r2)) (hr2 : wide_Num_Right.f a b (J + J) = some (z1, z2)) (hkr : (r1 == z1 && r2 == z2) = true) :
    overfalllaw01_WidePowers.j0 (k + 1) J false a b = some true := by
  rw [overfalllaw01_WidePowers.j0, if_neg (by simp), if_pos j0, es, h2]
  simp only [Option.bind_some, off, hl, ha, hr, hm, hlb, hla, hll, ew, hl2, hrr, hr2, hk, hks, hkk, hkr, if_true, eq_pair]
theorem pow_j0 (a b : Int) (A0 : 0 ≤ a) (A1 : a < 18446744073709551616) (B0 : 0 ≤ b) (B1 : b < 18446744073709551616) (j : Nat) (hj63 : j ≤ 63) (p pp : Int) (hp : (2 : Int) ^ j = p) (hpp : (2 : Int) ^ (j + j) = pp) (p0 : 0 < p) (pM : p < 18446744073709551616)
    (k : Nat) (h2 : wide_Num_Div.f k a b p = some (V a b / p / 18446744073709551616, V a b / p % 18446744073709551616, V a b % p)) : overfalllaw01_WidePowers.j0 (k + 1) j false a b = some true := by
  have epp : p * p = pp := by rw [← hp, ← hpp, pow_mul_pow]
  have es : shl .u64 1 (j : Int) = p := by
    rw [shl_u 1 j (by omega) (by omega), Int.toNat_natCast, Int.one_mul, hp, wu_in (by omega) pM]
  have m1 : (min (j : Int) 128).toNat = j := by omega
  have m2 : (min ((j : Int) + j) 128).toNat = j + j := by omega
  have ew : wrap64 (2 * (j : Int)) = j + j := by rw [w64 (by omega) (by omega)]; omega
  have vb := V_bd A0 A1 B0 B1
  have Lf : ∀ x y : Int, 0 ≤ x → x < 18446744073709551616 → 0 ≤ y → y < 18446744073709551616 → wide_Num_Left.f x y j = some (V x y * p / 18446744073709551616 % 18446744073709551616, V x y * p % 18446744073709551616) := fun x y x0 x1 y0 y1 => by
    rw [leftf x y j x0 x1 y0 y1 (by omega), m1, hp]
  have Rf : ∀ x y : Int, 0 ≤ x → x < 18446744073709551616 → 0 ≤ y → y < 18446744073709551616 → wide_Num_Right.f x y j = some (V x y / p / 18446744073709551616, V x y / p % 18446744073709551616) := fun x y x0 x1 y0 y1 => by
    rw [rightf x y j x0 x1 y0 y1 (by omega), m1, hp]
  have L2 : wide_Num_Left.f a b ((j : Int) + j) = some (V a b * pp / 18446744073709551616 % 18446744073709551616, V a b * pp % 18446744073709551616) := by
    rw [leftf a b _ A0 A1 B0 B1 (by omega), m2, hpp]
  have R2 : wide_Num_Right.f a b ((j : Int) + j) = some (V a b / pp / 18446744073709551616, V a b / pp % 18446744073709551616) := by
    rw [rightf a b _ A0 A1 B0 B1 (by omega), m2, hpp]
  have j0 : (0 : Int) ≤ j := by omega
  generalize (j : Int) = J at *
  clear hp hpp m1 m2
  have s : p * (V a b / p) + V a b % p = V a b := Int.mul_ediv_add_emod _ _
  have r0 := Int.emod_nonneg (V a b) (show p ≠ 0 by omega)
  have r1 := Int.emod_lt_of_pos (V a b) p0
  have Q0 : 0 ≤ V a b / p := Int.ediv_nonneg vb.1 (by omega)
  have Q1 : V a b / p ≤ V a b := Int.ediv_le_self _ vb.1
  have QP0 : 0 ≤ V a b / p * p := Int.mul_nonneg Q0 (by omega)
  have P0 : 0 ≤ b * p := Int.mul_nonneg B0 (by omega)
  have P1 : b * p < 18446744073709551616 * 18446744073709551616 := by
    have := Int.mul_le_mul (show b ≤ 18446744073709551615 by omega) (show p ≤ 18446744073709551615 by omega) (by omega) (by omega)
    omega
  have er : V a b / p / p = V a b / pp := by rw [Int.ediv_ediv_of_nonneg (by omega), epp]
  have v0 : V 0 b = b := by unfold V; omega
  have Ra := Rf a b A0 A1 B0 B1
  have La := Lf a b A0 A1 B0 B1
  have Lb : wide_Num_Left.f 0 b J = some (b * p / 18446744073709551616 % 18446744073709551616, b * p % 18446744073709551616) := by
    have := Lf 0 b (by omega) (by omega) B0 B1
    rw [v0] at this
    exact this
  have hV : V a b = a * 18446744073709551616 + b := rfl
  have Lq := Lf (V a b / p / 18446744073709551616) (V a b / p % 18446744073709551616) (by omega) (by omega) (by omega) (by omega)
  rw [V_of] at Lq
  have Rq := Rf (V a b / p / 18446744073709551616) (V a b / p % 18446744073709551616) (by omega) (by omega) (by omega) (by omega)
  rw [V_of, er] at Rq
  have Ll := Lf (V a b * p / 18446744073709551616 % 18446744073709551616) (V a b * p % 18446744073709551616) (by omega) (by omega) (by omega) (by omega)
  rw [vpair] at Ll
  have kk := pow_pair _ _ (pow_mod (V a b) p pp epp)
  have kb := pow_back (V a b) p (V a b % p) (V a b / p * p) a b hV B0 B1 A0 A1 QP0 (by rw [Int.mul_comm]; exact s) r0 (by omega)
  have ks := pow_small _ P0 P1
  have mb := mulf b p B0 B1 (by omega) pM
  have ad := addf (V a b / p * p / 18446744073709551616 % 18446744073709551616) (V a b / p * p % 18446744073709551616) 0 (V a b % p) (by omega) (by omega) (by omega) (by omega) (by omega) (by omega) (by omega) (by omega)
  exact pow_abs a b J p k j0 es ew _ _ _ _ _ _ _ _ _ _ _ _ _ _ _ _ _ _ _ _ _ _ h2 Lq ad Ra kb mb Lb ks La Ll L2 kk Rq R2 (eq_pair _ _)

theorem pow_first (v p bn : Int) (j : Nat) (hp : (2 : Int) ^ j = p) (v0 : 0 ≤ v) (v1 : v < 18446744073709551616 * 18446744073709551616) (hb : bl v + j ≤ 128) : v * p < 18446744073709551616 * 18446744073709551616 := by
  have h5 : (2 : Int) ^ 128 = 18446744073709551616 * 18446744073709551616 := by decide
  have pj := pow_pos' j
  by_cases z : v = 0
  · rw [z]; omega
  · have sp := (bl_spec v (by omega)).2.1
    have h3 := Int.mul_lt_mul_of_pos_right sp pj
    have nn := bl_nonneg v
    rw [pow_mul_pow, hp] at h3
    obtain ⟨n, hn, hn2⟩ : ∃ n : Nat, (bl v).toNat + j = n ∧ n ≤ 128 := ⟨_, rfl, by omega⟩
    rw [hn] at h3
    have h4 : (2 : Nat) ^ n ≤ 2 ^ 128 := Nat.pow_le_pow_right (by omega) hn2
    have h6 : (2 : Int) ^ n ≤ 2 ^ 128 := by exact_mod_cast h4
    rw [h5] at h6
    omega

theorem WidePowers : ∀ (a0_0 : Int) (a0_1 : Int) (a1 : Int), (Lit.int .u64 a0_0).wf = true → (Lit.int .u64 a0_1).wf = true → (Lit.int .u8 a1).wf = true → ∃ k, overfalllaw01_WidePowers.f k a0_0 a0_1 a1 = some true := by
  intro a b x ha hb hx
  have A := wf_u64 ha
  have B := wf_u64 hb
  have X := bounds_u8 hx
  have vb := V_bd A.1 A.2 B.1 B.2
  obtain ⟨K1, h1⟩ := awakef
  obtain ⟨j, hj, hj63⟩ : ∃ j : Nat, wrap64 (Int.tmod x 64) = (j : Int) ∧ j ≤ 63 := ⟨(x % 64).toNat, by rw [tmod_nn X.1, w64 (by omega) (by omega)]; omega, by omega⟩
  obtain ⟨p, hp⟩ : ∃ p : Int, (2 : Int) ^ j = p := ⟨_, rfl⟩
  have p0 : 0 < p := by rw [← hp]; exact pow_pos' j
  have pM : p < 18446744073709551616 := by
    rw [← hp, ← pow64]
    have h4 : (2 : Nat) ^ j < 2 ^ 64 := Nat.pow_lt_pow_right (by omega) (by omega)
    exact_mod_cast h4
  obtain ⟨K2, h2⟩ := divf a b p A.1 A.2 B.1 B.2 p0 pM
  have J0 : ∀ k, K2 ≤ k → overfalllaw01_WidePowers.j0 (k + 1) j false a b = some true := fun k hk =>
    pow_j0 a b A.1 A.2 B.1 B.2 j hj63 p _ hp rfl p0 pM k (h2 k hk)
  refine ⟨K1 + K2 + 1, ?_⟩
  rw [overfalllaw01_WidePowers.f, h1 _ (by omega), pbitsf (K1 + K2) a b A.1 A.2 B.1 B.2, hj]
  rw [Option.bind_some, if_pos rfl, Option.bind_some]
  by_cases c : wrap64 (bl (V a b) + j) ≤ 128
  · have b128 := bl_le128 _ vb.1 vb.2
    have bn := bl_nonneg (V a b)
    rw [if_pos c]
    rw [w64 (by omega) (by omega)] at c
    have lt := pow_first (V a b) p 0 j hp vb.1 vb.2 c
    have nn : 0 ≤ V a b * p := Int.mul_nonneg vb.1 (by omega)
    have m1 : (min (j : Int) 128).toNat = j := by omega
    have Lf := leftf a b j A.1 A.2 B.1 B.2 (by omega)
    rw [m1, hp] at Lf
    have Rf := rightf (V a b * p / 18446744073709551616 % 18446744073709551616) (V a b * p % 18446744073709551616) j (by omega) (by omega) (by omega) (by omega) (by omega)
    rw [m1, hp, vpair, Int.emod_eq_of_lt nn lt, Int.mul_ediv_cancel _ (by omega)] at Rf
    generalize V a b * p = VP at *
    rw [Lf, Option.bind_some, Rf, Option.bind_some]
    have e1 : V a b / 18446744073709551616 = a := by unfold V; omega
    have e2 : V a b % 18446744073709551616 = b := by unfold V; omega
    have bb : (!(a == a) || (!(b == b))) = false := by simp
    rw [e1, e2, bb]
    exact J0 _ (by omega)
  · rw [if_neg c]
    exact J0 _ (by omega)
end Go.Proofs.Ytdgbehbiigggmaa.Pure

/- The reference's roots, by halving what may be: the same greatest number. -/
import Derived.Test.YtiiffgmbkajkhaaLWf
import Derived.Test.YtiiffgmbkajkhaaLRa
import Derived.Test.YtiiffgmbkajkhaaLx11
import Derived.Test.YtiiffgmbkajkhaaLx12
namespace Go.Proofs.Ytiiffgmbkajkhaa.Lib
set_option linter.unusedVariables false
set_option linter.unusedSimpArgs false
open Go.RowKit Go.Proofs.Ytiiffgmbkajkhaa.L Go.Proofs.YtiiffgmbkajkhaaW.PrintWords Go.Proofs.YtiiffgmbkajkhaaW.PrintLast Go.Proofs.YtiiffgmbkajkhaaW.PrintMore

theorem sq_bd {v : Int} (v0 : 0 ≤ v) (v1 : v < 18446744073709551616) : 0 ≤ v * v ∧ v * v < 18446744073709551616 * 18446744073709551616 := by
  refine ⟨Int.mul_nonneg v0 v0, ?_⟩
  have := Int.mul_le_mul (show v ≤ 18446744073709551615 by omega) (show v ≤ 18446744073709551615 by omega) v0 (by omega)
  omega
theorem fits_abs (v n hi lo : Int) (k : Nat) (sh sl l1 l2 p1 p2 s1 s2 : Int) (s3 b : Bool) (hn : n > 1) (h1 : overfallref01_Mul.f k v v = some (sh, sl)) (h2 : overfallref01_Mul.f k sl n = some (l1, l2)) (h3 : overfallref01_Mul.f k sh n = some (p1, p2)) (h4 : overfallref01_Add.f k l1 l2 p2 0 = some (s1, s2, s3)) (h5 : overfallref01_Less.f hi lo s1 s2 = some b) :
    overfallref03_Fits.f k v n hi lo = some (if p1 > 0 then false else if s3 = true then false else !b) := by
  rw [overfallref03_Fits.f, h1, Option.bind_some, if_pos hn]
  simp only [h2, h3, h4, h5, Option.bind_some]
  split
  · rfl
  · split <;> rfl
theorem fitsf (k : Nat) (v n hi lo : Int) (v0 : 0 ≤ v) (v1 : v < 18446744073709551616) (n0 : 0 ≤ n) (nh : n < 18446744073709551616) (h0 : 0 ≤ hi) (h1 : hi < 18446744073709551616) (l0 : 0 ≤ lo) (l1 : lo < 18446744073709551616) :
    overfallref03_Fits.f (k + 40) v n hi lo = some (decide (v * v * n1 n ≤ V hi lo)) := by
  have sb := sq_bd v0 v1
  have vb := V_bd h0 h1 l0 l1
  have m1 := rmulf k v v v0 v1 v0 v1
  by_cases c : n > 1
  · have en : n1 n = n := by unfold n1; rw [if_neg (by omega)]
    have a0 : 0 ≤ v * v / 18446744073709551616 ∧ v * v / 18446744073709551616 < 18446744073709551616 ∧ 0 ≤ v * v % 18446744073709551616 ∧ v * v % 18446744073709551616 < 18446744073709551616 := by omega
    have m2 := rmulf k (v * v % 18446744073709551616) n a0.2.2.1 a0.2.2.2 n0 nh
    have m3 := rmulf k (v * v / 18446744073709551616) n a0.1 a0.2.1 n0 nh
    have L0 : 0 ≤ v * v % 18446744073709551616 * n := Int.mul_nonneg a0.2.2.1 n0
    have L1 : v * v % 18446744073709551616 * n < 18446744073709551616 * 18446744073709551616 := by
      have := Int.mul_le_mul (show v * v % 18446744073709551616 ≤ 18446744073709551615 by omega) (show n ≤ 18446744073709551615 by omega) n0 (by omega)
      omega
    have P0 : 0 ≤ v * v / 18446744073709551616 * n := Int.mul_nonneg a0.1 n0
    have P1 : v * v / 18446744073709551616 * n < 18446744073709551616 * 18446744073709551616 := by
      have := Int.mul_le_mul (show v * v / 18446744073709551616 ≤ 18446744073709551615 by omega) (show n ≤ 18446744073709551615 by omega) n0 (by omega)
      omega
    have es : v * v * n = v * v % 18446744073709551616 * n + 18446744073709551616 * (v * v / 18446744073709551616 * n) := by
      have e : v * v = v * v % 18446744073709551616 + 18446744073709551616 * (v * v / 18446744073709551616) := by omega
      have h : v * v * n = (v * v % 18446744073709551616 + 18446744073709551616 * (v * v / 18446744073709551616)) * n := by rw [← e]
      rw [h, Int.add_mul, Int.mul_assoc]
    rw [en, es]
    generalize v * v % 18446744073709551616 * n = L at *
    generalize v * v / 18446744073709551616 * n = P at *
    have ad := raddf (k + 20) (L / 18446744073709551616) (L % 18446744073709551616) (P % 18446744073709551616) 0 (by omega) (by omega) (by omega) (by omega) (by omega) (by omega) (by omega) (by omega)
    have ls := lessf hi lo ((L / 18446744073709551616 + P % 18446744073709551616 + (L % 18446744073709551616 + 0) / 18446744073709551616) % 18446744073709551616) ((L % 18446744073709551616 + 0) % 18446744073709551616) l0 l1 (by omega) (by omega)
    rw [fits_abs v n hi lo (k + 40) _ _ _ _ _ _ _ _ _ _ c m1 m2 m3 ad ls]
    congr 1
    unfold V at *
    by_cases h : P / 18446744073709551616 > 0
    · rw [if_pos h]; symm; rw [decide_eq_false_iff_not]; omega
    · rw [if_neg h]
      by_cases g : 18446744073709551616 ≤ L / 18446744073709551616 + P % 18446744073709551616 + (L % 18446744073709551616 + 0) / 18446744073709551616
      · rw [if_pos (decide_eq_true g)]; symm; rw [decide_eq_false_iff_not]; omega
      · rw [if_neg (by rw [decide_eq_false g]; simp), ← decide_not, decide_eq_decide]
        omega
  · have en : n1 n = 1 := by unfold n1; split <;> omega
    have ls := lessf hi lo (v * v / 18446744073709551616) (v * v % 18446744073709551616) l0 l1 (by omega) (by omega)
    rw [overfallref03_Fits.f, m1, Option.bind_some, if_neg c, ls, Option.bind_some, V_of, en, Int.mul_one, ← decide_not]
    congr 1
    rw [decide_eq_decide]
    omega

theorem mid_eq (a b : Int) (a0 : 0 ≤ a) (h : a < b) (b1 : b < 18446744073709551616) :
    IntKind.u64.wrap (IntKind.u64.wrap (a + IntKind.u64.wrap (Int.tdiv (IntKind.u64.wrap (b - a)) 2)) + Int.tmod (IntKind.u64.wrap (b - a)) 2) = (a + b + 1) / 2 := by
  rw [wu_in (x := b - a) (by omega) (by omega), tdiv_nn (by omega), tmod_nn (by omega), wu_in (x := (b - a) / 2) (by omega) (by omega), wu_in (x := a + (b - a) / 2) (by omega) (by omega), wu_in (by omega) (by omega)]
  omega
theorem most_loop (n hi lo : Int) (n0 : 0 ≤ n) (nh : n < 18446744073709551616) (h0 : 0 ≤ hi) (h1 : hi < 18446744073709551616) (l0 : 0 ≤ lo) (l1 : lo < 18446744073709551616) (d : Nat) : ∀ (a b : Int), (b - a).toNat ≤ d → 0 ≤ a → a ≤ b → b < 18446744073709551616 → a * a * n1 n ≤ V hi lo → (b + 1 < 18446744073709551616 → V hi lo < (b + 1) * (b + 1) * n1 n) →
    ∃ r K, (∀ k, K ≤ k → overfallref03_Most.l0 k n a b hi lo = some r) ∧ Most r (n1 n) (V hi lo) := by
  induction d with
  | zero =>
    intro a b hd a0 ab b1 fa fb
    have : a = b := by omega
    subst this
    refine ⟨a, 1, fun k hk => ?_, a0, b1, fa, fb⟩
    obtain ⟨k, rfl⟩ : ∃ m, k = m + 1 := ⟨k - 1, by omega⟩
    rw [overfallref03_Most.l0, if_neg (by omega)]
  | succ d ih =>
    intro a b hd a0 ab b1 fa fb
    by_cases c : a < b
    · have me := mid_eq a b a0 c b1
      have m0 : a < (a + b + 1) / 2 := by omega
      have m1 : (a + b + 1) / 2 ≤ b := by omega
      generalize (a + b + 1) / 2 = m at *
      by_cases f : m * m * n1 n ≤ V hi lo
      · obtain ⟨r, K, hr, hm⟩ := ih m b (by omega) (by omega) m1 b1 f fb
        refine ⟨r, K + 41, fun k hk => ?_, hm⟩
        obtain ⟨k, rfl⟩ : ∃ j, k = j + 40 + 1 := ⟨k - 41, by omega⟩
        rw [overfallref03_Most.l0, if_pos c, me, fitsf k m n hi lo (by omega) (by omega) n0 nh h0 h1 l0 l1, Option.bind_some, if_pos (decide_eq_true f)]
        exact hr _ (by omega)
      · obtain ⟨r, K, hr, hm⟩ := ih a (m - 1) (by omega) a0 (by omega) (by omega) fa (fun _ => by rw [Int.sub_add_cancel]; omega)
        refine ⟨r, K + 41, fun k hk => ?_, hm⟩
        obtain ⟨k, rfl⟩ : ∃ j, k = j + 40 + 1 := ⟨k - 41, by omega⟩
        rw [overfallref03_Most.l0, if_pos c, me, fitsf k m n hi lo (by omega) (by omega) n0 nh h0 h1 l0 l1, Option.bind_some, if_neg (by rw [decide_eq_false f]; simp), wu_in (x := m - 1) (by omega) (by omega)]
        exact hr _ (by omega)
    · have : a = b := by omega
      subst this
      refine ⟨a, 1, fun k hk => ?_, a0, b1, fa, fb⟩
      obtain ⟨k, rfl⟩ : ∃ m, k = m + 1 := ⟨k - 1, by omega⟩
      rw [overfallref03_Most.l0, if_neg (by omega)]
theorem mostf (n hi lo : Int) (n0 : 0 ≤ n) (nh : n < 18446744073709551616) (h0 : 0 ≤ hi) (h1 : hi < 18446744073709551616) (l0 : 0 ≤ lo) (l1 : lo < 18446744073709551616) : ∃ r K, (∀ k, K ≤ k → overfallref03_Most.f k n hi lo = some r) ∧ Most r (n1 n) (V hi lo) := by
  have vb := V_bd h0 h1 l0 l1
  obtain ⟨r, K, hr, hm⟩ := most_loop n hi lo n0 nh h0 h1 l0 l1 18446744073709551616 0 18446744073709551615 (by omega) (by omega) (by omega) (by omega) (by simpa using vb.1) (fun h => by omega)
  exact ⟨r, K, fun k hk => by rw [overfallref03_Most.f]; exact hr k hk, hm⟩
structure LawIs (i n r : Int) : Prop where
  l : 0 ≤ r
  neg : i < 0 → r = 0
  most : 0 ≤ i → Most r (n1 n) (i * i) ∧ r ≤ i
theorem plaw (i n : Int) (i0 : -9223372036854775808 ≤ i) (i1 : i < 9223372036854775808) (n0 : 0 ≤ n) (n1' : n < 18446744073709551616) : ∃ r K, (∀ k, K ≤ k → root_Law.f k i n = some r) ∧ LawIs i n r := by
  by_cases h : i < 0
  · exact ⟨0, 0, fun k _ => lawf_neg k i n h, by omega, fun _ => rfl, fun h0 => by omega⟩
  · obtain ⟨r, K, hr, hm, hl⟩ := lawf i n (by omega) i1 n0 n1'
    exact ⟨r, K, hr, hm.l, fun h0 => by omega, fun _ => ⟨hm, hl⟩⟩
theorem most_le {r n i : Int} (i0 : 0 ≤ i) (h : Most r (n1 n) (i * i)) : r ≤ i := by
  by_cases c : r ≤ i
  · exact c
  · have h2 := sq_mono (show 0 ≤ i + 1 by omega) (show i + 1 ≤ r by omega)
    have h3 := h.fits
    have h4 : (i + 1) * (i + 1) = i * i + 2 * i + 1 := by grind
    have p : 1 ≤ n1 n := by unfold n1; split <;> omega
    have h5 := Int.mul_le_mul_of_nonneg_left p (Int.mul_nonneg h.l h.l)
    omega
theorem rlaw (i n : Int) (i0 : -9223372036854775808 ≤ i) (i1 : i < 9223372036854775808) (n0 : 0 ≤ n) (n1' : n < 18446744073709551616) : ∃ r K, (∀ k, K ≤ k → overfallref03_Law.f k i n = some r) ∧ LawIs i n r := by
  by_cases h : i ≤ 0
  · refine ⟨0, 0, fun k _ => by rw [overfallref03_Law.f, if_pos h], by omega, fun _ => rfl, fun h0 => ?_⟩
    have : i = 0 := by omega
    subst this
    have p : 1 ≤ n1 n := by unfold n1; split <;> omega
    exact ⟨⟨by omega, by omega, by omega, fun _ => by omega⟩, by omega⟩
  · have sb := sq_bd (v := i) (by omega) (by omega)
    obtain ⟨r, K, hr, hm⟩ := mostf n (i * i / 18446744073709551616) (i * i % 18446744073709551616) n0 n1' (by omega) (by omega) (by omega) (by omega)
    rw [V_of] at hm
    have rl := most_le (by omega) hm
    have r0 := hm.l
    refine ⟨r, K + 40, fun k hk => ?_, r0, fun h0 => by omega, fun _ => ⟨hm, rl⟩⟩
    obtain ⟨k, rfl⟩ : ∃ j, k = j + 40 := ⟨k - 40, by omega⟩
    rw [overfallref03_Law.f, if_neg h, wu_in (x := i) (by omega) (by omega), rmulf k i i (by omega) (by omega) (by omega) (by omega), Option.bind_some, hr _ (by omega), Option.bind_some, w64 (by omega) (by omega)]
end Go.Proofs.Ytiiffgmbkajkhaa.Lib

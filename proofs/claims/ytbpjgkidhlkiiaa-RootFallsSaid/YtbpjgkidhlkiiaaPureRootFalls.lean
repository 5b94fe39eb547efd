/- RootFalls' pure statement: the law falls with the count, rises with the interval; of a square's count it is the interval divided by its root. -/
import Derived.Test.YtbpjgkidhlkiiaaRa
import Derived.Test.YtbpjgkidhlkiiaaGx3
import Derived.Test.YtbpjgkidhlkiiaaGx5
namespace Go.Proofs.Ytbpjgkidhlkiiaa.Pure
set_option linter.unusedVariables false
set_option linter.unusedSimpArgs false
open Go.RowKit Go.Proofs.Ytbpjgkidhlkiiaa.G Go.Proofs.YtbpjgkidhlkiiaaW.PrintWords Go.Proofs.YtbpjgkidhlkiiaaW.PrintLast Go.Proofs.YtbpjgkidhlkiiaaW.PrintMore
open Go.Proofs.Ytbpjgkidhlkiiaa.Lib

theorem awake_at : overfalllaw03_awake.f 200 = some true := by decide +kernel
theorem awakef : ∃ K, ∀ k, K ≤ k → overfalllaw03_awake.f k = some true := Ev.of (g := fun k => overfalllaw03_awake.f k) (fun k => overfalllaw03_awake.mono k) awake_at
theorem law_any (i n : Int) (i0 : -9223372036854775808 ≤ i) (i1 : i < 9223372036854775808) (n0 : 0 ≤ n) (n1' : n < 18446744073709551616) : ∃ r K, (∀ k, K ≤ k → root_Law.f k i n = some r) ∧ (i < 0 → r = 0) ∧ (0 ≤ i → Most r (n1 n) (i * i) ∧ r ≤ i) ∧ 0 ≤ r := by
  by_cases h : i < 0
  · exact ⟨0, 0, fun k _ => lawf_neg k i n h, fun _ => rfl, fun h0 => by omega, by omega⟩
  · obtain ⟨r, K, hr, hm, hl⟩ := lawf i n (by omega) i1 n0 n1'
    exact ⟨r, K, hr, fun h0 => by omega, fun _ => ⟨hm, hl⟩, hm.l⟩
theorem n1_le {n m : Int} (h : n ≤ m) : n1 n ≤ n1 m := by unfold n1; split <;> split <;> omega
theorem n1_pos (n : Int) : 0 < n1 n := by unfold n1; split <;> omega
theorem falls_j1 (i n m more kk : Int) (i0 : -9223372036854775808 ≤ i) (i1 : i < 9223372036854775808) (n0 : 0 ≤ n) (n1' : n < 18446744073709551616) (m0 : 0 ≤ m) (m1 : m < 18446744073709551616) (e0 : -9223372036854775808 ≤ more) (e1 : more < 9223372036854775808) (k0 : 0 ≤ kk) (k1 : kk < 4294967296) (hnm : n ≤ m) (him : i ≤ more) :
    ∃ K, ∀ k, K ≤ k → overfalllaw03_RootFalls.j1 (k + 1) i n m more kk = some true := by
  have kk0 : 0 ≤ kk * kk := Int.mul_nonneg k0 k0
  have kk1 : kk * kk < 18446744073709551616 := by
    have := Int.mul_le_mul (show kk ≤ 4294967295 by omega) (show kk ≤ 4294967295 by omega) k0 (by omega)
    omega
  obtain ⟨r1, K1, h1, a1, b1, c1⟩ := law_any i n i0 i1 n0 n1'
  obtain ⟨r2, K2, h2, a2, b2, c2⟩ := law_any i m i0 i1 m0 m1
  obtain ⟨r3, K3, h3, a3, b3, c3⟩ := law_any more n e0 e1 n0 n1'
  obtain ⟨r4, K4, h4, a4, b4, c4⟩ := law_any i (kk * kk) i0 i1 kk0 kk1
  refine ⟨K1 + K2 + K3 + K4, fun k hk => ?_⟩
  have l1 : ¬ r1 < r2 := by
    by_cases h : i < 0
    · have := a1 h; have := a2 h; omega
    · have x1 := (b1 (by omega)).1
      have x2 := (b2 (by omega)).1
      have hle : r2 * r2 * n1 n ≤ r2 * r2 * n1 m := Int.mul_le_mul_of_nonneg_left (n1_le hnm) (Int.mul_nonneg c2 c2)
      have := x1.le (Int.le_of_lt (n1_pos n)) c2 x2.h (Int.le_trans hle x2.fits)
      omega
  have l2 : ¬ r1 > r3 := by
    by_cases h : i < 0
    · have := a1 h; omega
    · have := Most.mono (Int.le_of_lt (n1_pos n)) (b1 (by omega)).1 (b3 (by omega)).1 (sq_mono (by omega) him)
      omega
  have w0 : IntKind.u64.wrap kk = kk := wu_in k0 (by omega)
  have w1 : IntKind.u64.wrap (kk * kk) = kk * kk := wu_in kk0 kk1
  have w2 : wrap64 kk = kk := w64 (by omega) (by omega)
  rw [overfalllaw03_RootFalls.j1, h1 k (by omega), Option.bind_some, h2 k (by omega), Option.bind_some, if_neg l1, Option.bind_some, h3 k (by omega), Option.bind_some, if_neg l2]
  by_cases z : kk = 0
  · rw [if_pos z]
  · rw [if_neg z]
    by_cases h : i < 0
    · rw [if_pos h]
    · rw [if_neg h, w0, w1, h4 k (by omega), Option.bind_some, w2, if_neg z, tdiv_nn (by omega)]
      have d0 : 0 ≤ i / kk := Int.ediv_nonneg (by omega) k0
      have d1 : i / kk ≤ i := Int.ediv_le_self _ (by omega)
      rw [w64 (by omega) (by omega)]
      have en : n1 (kk * kk) = kk * kk := by
        unfold n1
        rw [if_neg]
        have := Int.mul_pos (show 0 < kk by omega) (show 0 < kk by omega)
        omega
      have x4 := (b4 (by omega)).1
      rw [en] at x4
      have s : kk * (i / kk) + i % kk = i := Int.mul_ediv_add_emod _ _
      have t0 := Int.emod_nonneg i z
      have t1 := Int.emod_lt_of_pos i (show 0 < kk by omega)
      have hmost : Most (i / kk) (kk * kk) (i * i) := by
        refine ⟨d0, by omega, ?_, fun _ => ?_⟩
        · rw [show i / kk * (i / kk) * (kk * kk) = kk * (i / kk) * (kk * (i / kk)) by grind]
          exact sq_mono (Int.mul_nonneg k0 d0) (by omega)
        · rw [show (i / kk + 1) * (i / kk + 1) * (kk * kk) = (kk * (i / kk) + kk) * (kk * (i / kk) + kk) by grind]
          have h5 := sq_mono (show 0 ≤ i + 1 by omega) (show i + 1 ≤ kk * (i / kk) + kk by omega)
          have h6 : (i + 1) * (i + 1) = i * i + 2 * i + 1 := by grind
          omega
      rw [Most.uniq kk0 x4 hmost, beq_self_eq_true]
theorem RootFalls : ∀ (a0 : Int) (a1 : Int) (a2 : Int) (a3 : Int) (a4 : Int), (Lit.int .i64 a0).wf = true → (Lit.int .u64 a1).wf = true → (Lit.int .u64 a2).wf = true → (Lit.int .i64 a3).wf = true → (Lit.int .u32 a4).wf = true → ∃ k, overfalllaw03_RootFalls.f k a0 a1 a2 a3 a4 = some true := by
  intro i n m more kk hi hn hm hmo hk
  have I := bounds_i64 hi
  have Nn := wf_u64 hn
  have Mm := wf_u64 hm
  have E := bounds_i64 hmo
  have Kk := bounds_u32 hk
  obtain ⟨K0, h0⟩ := awakef
  have J0 : ∀ n m : Int, 0 ≤ n → n < 18446744073709551616 → 0 ≤ m → m < 18446744073709551616 → n ≤ m → ∃ K, ∀ k, K ≤ k → overfalllaw03_RootFalls.j0 (k + 2) i n m more kk = some true := by
    intro n m n0 n1 m0 m1 hnm
    by_cases c : i > more
    · obtain ⟨K, hK⟩ := falls_j1 more n m i kk E.1 (by omega) n0 n1 m0 m1 I.1 (by omega) Kk.1 (by omega) hnm (by omega)
      exact ⟨K, fun k hk => by rw [overfalllaw03_RootFalls.j0, if_pos c]; exact hK k hk⟩
    · obtain ⟨K, hK⟩ := falls_j1 i n m more kk I.1 (by omega) n0 n1 m0 m1 E.1 (by omega) Kk.1 (by omega) hnm (by omega)
      exact ⟨K, fun k hk => by rw [overfalllaw03_RootFalls.j0, if_neg c]; exact hK k hk⟩
  by_cases c : n > m
  · obtain ⟨K, hK⟩ := J0 m n Mm.1 Mm.2 Nn.1 Nn.2 (by omega)
    refine ⟨K0 + K + 2, ?_⟩
    rw [overfalllaw03_RootFalls.f, h0 _ (by omega), Option.bind_some, if_pos rfl, if_pos c]
    exact hK (K0 + K) (by omega)
  · obtain ⟨K, hK⟩ := J0 n m Nn.1 Nn.2 Mm.1 Mm.2 (by omega)
    refine ⟨K0 + K + 2, ?_⟩
    rw [overfalllaw03_RootFalls.f, h0 _ (by omega), Option.bind_some, if_pos rfl, if_neg c]
    exact hK (K0 + K) (by omega)
end Go.Proofs.Ytbpjgkidhlkiiaa.Pure

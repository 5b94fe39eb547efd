/- bits.Len64. -/
import Derived.Test.YtfnnoecdpolbfaaTls
namespace Go.Proofs.Ytfnnoecdpolbfaa.Z
open Go.RowKit Go.Proofs.YtfnnoecdpolbfaaW.PrintWords Go.Proofs.YtfnnoecdpolbfaaW.PrintLast Go.Proofs.YtfnnoecdpolbfaaW.PrintMore
set_option linter.unusedVariables false
set_option linter.unusedSimpArgs false
/-- How many times a number can be halved. -/
def lenF : Nat → Nat → Nat
  | 0, _ => 0
  | f + 1, n => if n = 0 then 0 else lenF f (n / 2) + 1
theorem lenF_shift : ∀ (k f n : Nat), 2 ^ k ≤ n → lenF (f + k) n = k + lenF f (n / 2 ^ k)
  | 0, f, n, _ => by simp
  | k + 1, f, n, h => by
    have h2 : 2 ^ (k + 1) = 2 ^ k * 2 := Nat.pow_succ 2 k
    have hp : 0 < 2 ^ k := Nat.two_pow_pos k
    have ih := lenF_shift k f (n / 2) (by omega)
    show lenF (f + k + 1) n = _
    rw [lenF, if_neg (by omega), ih, Nat.div_div_eq_div_mul, Nat.mul_comm 2, ← h2]
    omega
theorem lenF_more : ∀ (f d n : Nat), n < 2 ^ f → lenF (f + d) n = lenF f n
  | 0, d, n, h => by
    have : n = 0 := by simpa using h
    subst this
    cases d with
    | zero => rfl
    | succ d => show lenF (0 + d + 1) 0 = 0; rw [lenF, if_pos rfl]
  | f + 1, d, n, h => by
    have h2 : 2 ^ (f + 1) = 2 ^ f * 2 := Nat.pow_succ 2 f
    have ih := lenF_more f d (n / 2) (by omega)
    show lenF (f + 1 + d) n = _
    rw [show f + 1 + d = f + d + 1 by omega, lenF, lenF, ih]
def tabF : ByteArray := ({ data := #[0, 1, 2, 2, 3, 3, 3, 3, 4, 4, 4, 4, 4, 4, 4, 4, 5, 5, 5, 5, 5, 5, 5, 5, 5, 5, 5, 5, 5, 5, 5, 5, 6, 6, 6, 6, 6, 6, 6, 6, 6, 6, 6, 6, 6, 6, 6, 6, 6, 6, 6, 6, 6, 6, 6, 6, 6, 6, 6, 6, 6, 6, 6, 6, 7, 7, 7, 7, 7, 7, 7, 7, 7, 7, 7, 7, 7, 7, 7, 7, 7, 7, 7, 7, 7, 7, 7, 7, 7, 7, 7, 7, 7, 7, 7, 7, 7, 7, 7, 7, 7, 7, 7, 7, 7, 7, 7, 7, 7, 7, 7, 7, 7, 7, 7, 7, 7, 7, 7, 7, 7, 7, 7, 7, 7, 7, 7, 7, 8, 8, 8, 8, 8, 8, 8, 8, 8, 8, 8, 8, 8, 8, 8, 8, 8, 8, 8, 8, 8, 8, 8, 8, 8, 8, 8, 8, 8, 8, 8, 8, 8, 8, 8, 8, 8, 8, 8, 8, 8, 8, 8, 8, 8, 8, 8, 8, 8, 8, 8, 8, 8, 8, 8, 8, 8, 8, 8, 8, 8, 8, 8, 8, 8, 8, 8, 8, 8, 8, 8, 8, 8, 8, 8, 8, 8, 8, 8, 8, 8, 8, 8, 8, 8, 8, 8, 8, 8, 8, 8, 8, 8, 8, 8, 8, 8, 8, 8, 8, 8, 8, 8, 8, 8, 8, 8, 8, 8, 8, 8, 8, 8, 8, 8, 8, 8, 8, 8, 8, 8, 8, 8, 8, 8, 8, 8, 8] } : ByteArray)
set_option maxRecDepth 1000000 in
theorem tab_len : ∀ i : Fin 256, (tabF.data.getD i.val 0).toNat = lenF 8 i.val := by decide
theorem lenF_le : ∀ (f n : Nat), lenF f n ≤ f
  | 0, _ => Nat.le_refl _
  | f + 1, n => by
    rw [lenF]
    split
    · omega
    · have := lenF_le f (n / 2); omega
theorem get_at (d : Array UInt8) (i : Nat) (h : i < d.size) : d[i] = d.getD i 0 := by
  rw [Array.getD_eq_getD_getElem?, Array.getElem?_eq_getElem h]
  rfl
set_option maxRecDepth 1000000 in
theorem tab_size : tabF.size = 256 := by decide
theorem tab_key (i : Nat) (h : i < tabF.size) : (tabF[i]'h).toNat = lenF 8 i := by
  have hs := tab_size
  have h2 := tab_len ⟨i, by omega⟩
  exact (congrArg UInt8.toNat (get_at tabF.data i h)).trans h2
theorem len_end (r : Nat) (x : Int) (hx0 : 0 ≤ x) (hx : x < 256) (hr : r ≤ 100) (h : x.toNat < tabF.size) : wrap64 ((r : Int) + wrap64 ((tabF[x.toNat]'h).toNat : Int)) = ((r + lenF 8 x.toNat : Nat) : Int) := by
  rw [tab_key]
  have := lenF_le 8 x.toNat
  unfold wrap64
  omega
theorem len_end0 (x : Int) (hx0 : 0 ≤ x) (hx : x < 256) (h : x.toNat < tabF.size) : wrap64 (wrap64 ((tabF[x.toNat]'h).toNat : Int)) = ((lenF 8 x.toNat : Nat) : Int) := by
  rw [tab_key]
  have := lenF_le 8 x.toNat
  unfold wrap64
  omega
set_option maxHeartbeats 4000000 in
set_option maxRecDepth 1000000 in
theorem len_000 (n : Int) (w : World) (h0 : 0 ≤ n) (hn : n < 18446744073709551616) (c0 : ¬ 4294967296 ≤ n) (c1 : ¬ 65536 ≤ n) (c2 : ¬ 256 ≤ n) :
    Calls Try.prog 26 #[.int .u64 n] w fun e w' => e = .returned (.int .i64 ((0 + lenF 8 (n).toNat : Nat) : Int)) ∧ w = w' := by
  have k0 : 0 ≤ n := by omega
  have k1 : n < 256 := by omega
  have ks : (n).toNat < tabF.size := by rw [tab_size]; omega
  have hend := len_end0 (n) k0 k1 ks
  unfold tabF at hend
  have HE := Aside0.mk hend
  clear hend
  go_enter Try.func26, Try.ntmps26
  go_upto_region 10 with (fail)
  go_wp2
  refine bodyPost_ret (results_tmp rfl _ _ _) rfl ?_
  refine ⟨?_, rfl⟩
  have hend := HE.out
  first | exact congrArg (fun z => Ending.returned (Value.int .i64 z)) hend | (simp only [Nat.zero_add]; exact congrArg (fun z => Ending.returned (Value.int .i64 z)) hend)
set_option maxHeartbeats 4000000 in
set_option maxRecDepth 1000000 in
theorem len_001 (n : Int) (w : World) (h0 : 0 ≤ n) (hn : n < 18446744073709551616) (c0 : ¬ 4294967296 ≤ n) (c1 : ¬ 65536 ≤ n) (c2 : 256 ≤ n) :
    Calls Try.prog 26 #[.int .u64 n] w fun e w' => e = .returned (.int .i64 ((8 + lenF 8 (n / 256).toNat : Nat) : Int)) ∧ w = w' := by
  have k0 : 0 ≤ n / 256 := by omega
  have k1 : n / 256 < 256 := by omega
  have ks : (n / 256).toNat < tabF.size := by rw [tab_size]; omega
  have hend := len_end 8 (n / 256) k0 k1 (by omega) ks
  unfold tabF at hend
  have HE := Aside0.mk hend
  clear hend
  go_enter Try.func26, Try.ntmps26
  go_upto_region 10 with (fail)
  go_wp2
  refine bodyPost_ret (results_tmp rfl _ _ _) rfl ?_
  refine ⟨?_, rfl⟩
  have hend := HE.out
  first | exact congrArg (fun z => Ending.returned (Value.int .i64 z)) hend | (simp only [Nat.zero_add]; exact congrArg (fun z => Ending.returned (Value.int .i64 z)) hend)
set_option maxHeartbeats 4000000 in
set_option maxRecDepth 1000000 in
theorem len_010 (n : Int) (w : World) (h0 : 0 ≤ n) (hn : n < 18446744073709551616) (c0 : ¬ 4294967296 ≤ n) (c1 : 65536 ≤ n) (c2 : ¬ 256 ≤ n / 65536) :
    Calls Try.prog 26 #[.int .u64 n] w fun e w' => e = .returned (.int .i64 ((16 + lenF 8 (n / 65536).toNat : Nat) : Int)) ∧ w = w' := by
  have k0 : 0 ≤ n / 65536 := by omega
  have k1 : n / 65536 < 256 := by omega
  have ks : (n / 65536).toNat < tabF.size := by rw [tab_size]; omega
  have hend := len_end 16 (n / 65536) k0 k1 (by omega) ks
  unfold tabF at hend
  have HE := Aside0.mk hend
  clear hend
  go_enter Try.func26, Try.ntmps26
  go_upto_region 10 with (fail)
  go_wp2
  refine bodyPost_ret (results_tmp rfl _ _ _) rfl ?_
  refine ⟨?_, rfl⟩
  have hend := HE.out
  first | exact congrArg (fun z => Ending.returned (Value.int .i64 z)) hend | (simp only [Nat.zero_add]; exact congrArg (fun z => Ending.returned (Value.int .i64 z)) hend)
set_option maxHeartbeats 4000000 in
set_option maxRecDepth 1000000 in
theorem len_011 (n : Int) (w : World) (h0 : 0 ≤ n) (hn : n < 18446744073709551616) (c0 : ¬ 4294967296 ≤ n) (c1 : 65536 ≤ n) (c2 : 256 ≤ n / 65536) :
    Calls Try.prog 26 #[.int .u64 n] w fun e w' => e = .returned (.int .i64 ((24 + lenF 8 ((n / 65536) / 256).toNat : Nat) : Int)) ∧ w = w' := by
  have k0 : 0 ≤ (n / 65536) / 256 := by omega
  have k1 : (n / 65536) / 256 < 256 := by omega
  have ks : ((n / 65536) / 256).toNat < tabF.size := by rw [tab_size]; omega
  have hend := len_end 24 ((n / 65536) / 256) k0 k1 (by omega) ks
  unfold tabF at hend
  have HE := Aside0.mk hend
  clear hend
  go_enter Try.func26, Try.ntmps26
  go_upto_region 10 with (fail)
  go_wp2
  refine bodyPost_ret (results_tmp rfl _ _ _) rfl ?_
  refine ⟨?_, rfl⟩
  have hend := HE.out
  first | exact congrArg (fun z => Ending.returned (Value.int .i64 z)) hend | (simp only [Nat.zero_add]; exact congrArg (fun z => Ending.returned (Value.int .i64 z)) hend)
set_option maxHeartbeats 4000000 in
set_option maxRecDepth 1000000 in
theorem len_100 (n : Int) (w : World) (h0 : 0 ≤ n) (hn : n < 18446744073709551616) (c0 : 4294967296 ≤ n) (c1 : ¬ 65536 ≤ n / 4294967296) (c2 : ¬ 256 ≤ n / 4294967296) :
    Calls Try.prog 26 #[.int .u64 n] w fun e w' => e = .returned (.int .i64 ((32 + lenF 8 (n / 4294967296).toNat : Nat) : Int)) ∧ w = w' := by
  have k0 : 0 ≤ n / 4294967296 := by omega
  have k1 : n / 4294967296 < 256 := by omega
  have ks : (n / 4294967296).toNat < tabF.size := by rw [tab_size]; omega
  have hend := len_end 32 (n / 4294967296) k0 k1 (by omega) ks
  unfold tabF at hend
  have HE := Aside0.mk hend
  clear hend
  go_enter Try.func26, Try.ntmps26
  go_upto_region 10 with (fail)
  go_wp2
  refine bodyPost_ret (results_tmp rfl _ _ _) rfl ?_
  refine ⟨?_, rfl⟩
  have hend := HE.out
  first | exact congrArg (fun z => Ending.returned (Value.int .i64 z)) hend | (simp only [Nat.zero_add]; exact congrArg (fun z => Ending.returned (Value.int .i64 z)) hend)
set_option maxHeartbeats 4000000 in
set_option maxRecDepth 1000000 in
theorem len_101 (n : Int) (w : World) (h0 : 0 ≤ n) (hn : n < 18446744073709551616) (c0 : 4294967296 ≤ n) (c1 : ¬ 65536 ≤ n / 4294967296) (c2 : 256 ≤ n / 4294967296) :
    Calls Try.prog 26 #[.int .u64 n] w fun e w' => e = .returned (.int .i64 ((40 + lenF 8 ((n / 4294967296) / 256).toNat : Nat) : Int)) ∧ w = w' := by
  have k0 : 0 ≤ (n / 4294967296) / 256 := by omega
  have k1 : (n / 4294967296) / 256 < 256 := by omega
  have ks : ((n / 4294967296) / 256).toNat < tabF.size := by rw [tab_size]; omega
  have hend := len_end 40 ((n / 4294967296) / 256) k0 k1 (by omega) ks
  unfold tabF at hend
  have HE := Aside0.mk hend
  clear hend
  go_enter Try.func26, Try.ntmps26
  go_upto_region 10 with (fail)
  go_wp2
  refine bodyPost_ret (results_tmp rfl _ _ _) rfl ?_
  refine ⟨?_, rfl⟩
  have hend := HE.out
  first | exact congrArg (fun z => Ending.returned (Value.int .i64 z)) hend | (simp only [Nat.zero_add]; exact congrArg (fun z => Ending.returned (Value.int .i64 z)) hend)
set_option maxHeartbeats 4000000 in
set_option maxRecDepth 1000000 in
theorem len_110 (n : Int) (w : World) (h0 : 0 ≤ n) (hn : n < 18446744073709551616) (c0 : 4294967296 ≤ n) (c1 : 65536 ≤ n / 4294967296) (c2 : ¬ 256 ≤ (n / 4294967296) / 65536) :
    Calls Try.prog 26 #[.int .u64 n] w fun e w' => e = .returned (.int .i64 ((48 + lenF 8 ((n / 4294967296) / 65536).toNat : Nat) : Int)) ∧ w = w' := by
  have k0 : 0 ≤ (n / 4294967296) / 65536 := by omega
  have k1 : (n / 4294967296) / 65536 < 256 := by omega
  have ks : ((n / 4294967296) / 65536).toNat < tabF.size := by rw [tab_size]; omega
  have hend := len_end 48 ((n / 4294967296) / 65536) k0 k1 (by omega) ks
  unfold tabF at hend
  have HE := Aside0.mk hend
  clear hend
  go_enter Try.func26, Try.ntmps26
  go_upto_region 10 with (fail)
  go_wp2
  refine bodyPost_ret (results_tmp rfl _ _ _) rfl ?_
  refine ⟨?_, rfl⟩
  have hend := HE.out
  first | exact congrArg (fun z => Ending.returned (Value.int .i64 z)) hend | (simp only [Nat.zero_add]; exact congrArg (fun z => Ending.returned (Value.int .i64 z)) hend)
set_option maxHeartbeats 4000000 in
set_option maxRecDepth 1000000 in
theorem len_111 (n : Int) (w : World) (h0 : 0 ≤ n) (hn : n < 18446744073709551616) (c0 : 4294967296 ≤ n) (c1 : 65536 ≤ n / 4294967296) (c2 : 256 ≤ (n / 4294967296) / 65536) :
    Calls Try.prog 26 #[.int .u64 n] w fun e w' => e = .returned (.int .i64 ((56 + lenF 8 (((n / 4294967296) / 65536) / 256).toNat : Nat) : Int)) ∧ w = w' := by
  have k0 : 0 ≤ ((n / 4294967296) / 65536) / 256 := by omega
  have k1 : ((n / 4294967296) / 65536) / 256 < 256 := by omega
  have ks : (((n / 4294967296) / 65536) / 256).toNat < tabF.size := by rw [tab_size]; omega
  have hend := len_end 56 (((n / 4294967296) / 65536) / 256) k0 k1 (by omega) ks
  unfold tabF at hend
  have HE := Aside0.mk hend
  clear hend
  go_enter Try.func26, Try.ntmps26
  go_upto_region 10 with (fail)
  go_wp2
  refine bodyPost_ret (results_tmp rfl _ _ _) rfl ?_
  refine ⟨?_, rfl⟩
  have hend := HE.out
  first | exact congrArg (fun z => Ending.returned (Value.int .i64 z)) hend | (simp only [Nat.zero_add]; exact congrArg (fun z => Ending.returned (Value.int .i64 z)) hend)
theorem len_step (k n : Nat) : lenF (k + k) n = if 2 ^ k ≤ n then k + lenF k (n / 2 ^ k) else lenF k n := by
  split
  · exact lenF_shift k k n (by assumption)
  · exact lenF_more k k n (by omega)
theorem len64_ok (N : Nat) (w : World) (hN : N < 18446744073709551616) :
    Calls Try.prog 26 #[.int .u64 (N : Int)] w fun e w' => e = .returned (.int .i64 (lenF 64 N : Nat)) ∧ w = w' := by
  have s1 := len_step 32 N
  have s2 := fun x => len_step 16 x
  have s3 := fun x => len_step 8 x
  simp only [Nat.reducePow, Nat.reduceAdd] at s1 s2 s3
  by_cases c0 : 4294967296 ≤ N
  · have t0 := s1
    rw [if_pos c0] at t0
    by_cases c1 : 65536 ≤ N / 4294967296
    · have t1 := s2 (N / 4294967296)
      rw [if_pos c1] at t1
      by_cases c2 : 256 ≤ (N / 4294967296) / 65536
      · have t2 := s3 ((N / 4294967296) / 65536)
        rw [if_pos c2] at t2
        have e : lenF 64 N = 56 + lenF 8 (((((N : Int) / 4294967296) / 65536) / 256 : Int)).toNat := by
          rw [show (((((N : Int) / 4294967296) / 65536) / 256 : Int)).toNat = ((N / 4294967296) / 65536) / 256 by omega]; omega
        rw [e]
        exact len_111 N w (by omega) (by omega) (by omega) (by omega) (by omega)
      · have t2 := s3 ((N / 4294967296) / 65536)
        rw [if_neg c2] at t2
        have e : lenF 64 N = 48 + lenF 8 ((((N : Int) / 4294967296) / 65536 : Int)).toNat := by
          rw [show ((((N : Int) / 4294967296) / 65536 : Int)).toNat = (N / 4294967296) / 65536 by omega]; omega
        rw [e]
        exact len_110 N w (by omega) (by omega) (by omega) (by omega) (by omega)
    · have t1 := s2 (N / 4294967296)
      rw [if_neg c1] at t1
      by_cases c2 : 256 ≤ N / 4294967296
      · have t2 := s3 (N / 4294967296)
        rw [if_pos c2] at t2
        have e : lenF 64 N = 40 + lenF 8 ((((N : Int) / 4294967296) / 256 : Int)).toNat := by
          rw [show ((((N : Int) / 4294967296) / 256 : Int)).toNat = (N / 4294967296) / 256 by omega]; omega
        rw [e]
        exact len_101 N w (by omega) (by omega) (by omega) (by omega) (by omega)
      · have t2 := s3 (N / 4294967296)
        rw [if_neg c2] at t2
        have e : lenF 64 N = 32 + lenF 8 (((N : Int) / 4294967296 : Int)).toNat := by
          rw [show (((N : Int) / 4294967296 : Int)).toNat = N / 4294967296 by omega]; omega
        rw [e]
        exact len_100 N w (by omega) (by omega) (by omega) (by omega) (by omega)
  · have t0 := s1
    rw [if_neg c0] at t0
    by_cases c1 : 65536 ≤ N
    · have t1 := s2 (N)
      rw [if_pos c1] at t1
      by_cases c2 : 256 ≤ N / 65536
      · have t2 := s3 (N / 65536)
        rw [if_pos c2] at t2
        have e : lenF 64 N = 24 + lenF 8 ((((N : Int) / 65536) / 256 : Int)).toNat := by
          rw [show ((((N : Int) / 65536) / 256 : Int)).toNat = (N / 65536) / 256 by omega]; omega
        rw [e]
        exact len_011 N w (by omega) (by omega) (by omega) (by omega) (by omega)
      · have t2 := s3 (N / 65536)
        rw [if_neg c2] at t2
        have e : lenF 64 N = 16 + lenF 8 (((N : Int) / 65536 : Int)).toNat := by
          rw [show (((N : Int) / 65536 : Int)).toNat = N / 65536 by omega]; omega
        rw [e]
        exact len_010 N w (by omega) (by omega) (by omega) (by omega) (by omega)
    · have t1 := s2 (N)
      rw [if_neg c1] at t1
      by_cases c2 : 256 ≤ N
      · have t2 := s3 (N)
        rw [if_pos c2] at t2
        have e : lenF 64 N = 8 + lenF 8 (((N : Int) / 256 : Int)).toNat := by
          rw [show (((N : Int) / 256 : Int)).toNat = N / 256 by omega]; omega
        rw [e]
        exact len_001 N w (by omega) (by omega) (by omega) (by omega) (by omega)
      · have t2 := s3 (N)
        rw [if_neg c2] at t2
        have e : lenF 64 N = 0 + lenF 8 ((N : Int)).toNat := by
          rw [show ((N : Int)).toNat = N by omega]; omega
        rw [e]
        exact len_000 N w (by omega) (by omega) (by omega) (by omega) (by omega)
end Go.Proofs.Ytfnnoecdpolbfaa.Z

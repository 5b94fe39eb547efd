/- Floats that are whole numbers: sums, products, orders of such are exact. -/
import Derived.Laws.ComplexArith
namespace Go.Proofs.Ytahmogobaanklaa.Z
open Go
set_option linter.unusedVariables false
set_option linter.unusedSimpArgs false
theorem cut_exact (s : Bool) (q d : Nat) (hq : q ≠ 0) : Ieee.Toward.even.cut s (q * 2 ^ d) d = q := by
  have h2 : 0 < 2 ^ d := Nat.two_pow_pos d
  have hne : q * 2 ^ d ≠ 0 := Nat.mul_ne_zero hq (by omega)
  have hl : d ≤ (q * 2 ^ d).log2 := (Nat.le_log2 hne).2 (Nat.le_mul_of_pos_left _ (Nat.pos_of_ne_zero hq))
  have hm : min d ((q * 2 ^ d).log2 + 2) = d := by omega
  unfold Ieee.Toward.cut
  simp only [hm, Nat.one_shiftLeft, Nat.mul_div_cancel _ h2, Nat.mul_mod_left]
  have h3 : ¬ (2 ^ d < 2 * 0) := by omega
  have h4 : (2 ^ d == 2 * 0) = false := by rw [beq_eq_false_iff_ne]; omega
  simp [h3, h4]
theorem read_rung (s : Bool) (e q : Nat) (he : e ≤ 52) (h1 : 4503599627370496 ≤ q) (h2 : q < 9007199254740992) :
    Ieee.double.read (Ieee.double.word s (min ((e + 1022) * 4503599627370496 + q) 9218868437227405312)) = .number s q (-((52 - e : Nat) : Int)) := by
  have b1 : Ieee.double.signWeight = 9223372036854775808 := by decide
  have b2 : Ieee.double.binade = 4503599627370496 := by decide
  have b3 : Ieee.double.infRung = 9218868437227405312 := by decide
  have b4 : Ieee.double.leastPlace = -1074 := by decide
  obtain ⟨R, hR⟩ : ∃ R, R = (e + 1022) * 4503599627370496 + q := ⟨_, rfl⟩
  have hlt : R < 9218868437227405312 := by omega
  rw [← hR, Nat.min_eq_left (by omega)]
  have hw : Ieee.double.word s R / 9223372036854775808 % 2 = (if s then 1 else 0) ∧ Ieee.double.word s R % 9223372036854775808 = R := by
    unfold Ieee.Format.word
    rw [b1]
    cases s
    · simp; omega
    · simp; omega
  unfold Ieee.Format.read
  rw [b1, b2, b3, b4]
  simp only [hw.1, hw.2]
  rw [if_neg (by omega), if_pos hlt]
  have e1 : 4503599627370496 + R % 4503599627370496 = q := by omega
  have e2 : (-1074 : Int) + ((R / 4503599627370496 - 1 : Nat) : Int) = -((52 - e : Nat) : Int) := by omega
  rw [e1, e2]
  cases s <;> rfl
theorem log2_of {m e : Nat} (h1 : 2 ^ e ≤ m) (h2 : m < 2 ^ (e + 1)) : m.log2 = e := by
  have hne : m ≠ 0 := by have := Nat.two_pow_pos e; omega
  have a := (Nat.le_log2 hne (k := e)).2 h1
  have b := (Nat.log2_lt hne (k := e + 1)).2 h2
  omega
/-- What is exact is written as it is. -/
theorem nearest_whole (s : Bool) (N mag k : Nat) (hm : mag = N * 2 ^ k) (hN : N < 9007199254740992) :
    ∃ m k' : Nat, Ieee.double.read (Ieee.double.nearest s mag (-(k : Int))) = .number s m (-(k' : Int)) ∧ m = N * 2 ^ k' := by
  have b2 : Ieee.double.binade = 4503599627370496 := by decide
  have b3 : Ieee.double.infRung = 9218868437227405312 := by decide
  have b4 : Ieee.double.leastPlace = -1074 := by decide
  have b5 : Ieee.double.fractionBits = 52 := rfl
  by_cases h0 : mag = 0
  · have hN0 : N = 0 := by
      rcases Nat.eq_zero_or_pos N with h | h
      · exact h
      · have := Nat.mul_pos h (Nat.two_pow_pos k); omega
    subst hN0
    obtain ⟨K, hK⟩ : ∃ K : Nat, K = 1074 := ⟨_, rfl⟩
    refine ⟨0, K, ?_, by rw [Nat.zero_mul]⟩
    rw [hK]
    unfold Ieee.Format.nearest
    rw [if_pos h0]
    cases s <;> decide
  · have hN0 : N ≠ 0 := fun h => h0 (by rw [hm, h, Nat.zero_mul])
    obtain ⟨e, he⟩ : ∃ e, e = N.log2 := ⟨_, rfl⟩
    have l1 : 2 ^ e ≤ N := (Nat.le_log2 hN0).1 (by omega)
    have l2 : N < 2 ^ (e + 1) := (Nat.log2_lt hN0).1 (by omega)
    have he52 : e ≤ 52 := by
      rcases Nat.lt_or_ge 52 e with h | h
      · have : 2 ^ 53 ≤ 2 ^ e := Nat.pow_le_pow_right (by omega) h
        have h53 : (2 : Nat) ^ 53 = 9007199254740992 := by decide
        omega
      · exact h
    have lm : mag.log2 = e + k := by
      apply log2_of
      · rw [hm, Nat.pow_add]; exact Nat.mul_le_mul_right _ l1
      · rw [hm, show e + k + 1 = (e + 1) + k from by omega, Nat.pow_add]
        exact Nat.mul_lt_mul_of_pos_right l2 (Nat.two_pow_pos k)
    obtain ⟨q, hq⟩ : ∃ q, q = N * 2 ^ (52 - e) := ⟨_, rfl⟩
    have q1 : 4503599627370496 ≤ q := by
      have : 2 ^ e * 2 ^ (52 - e) ≤ q := by rw [hq]; exact Nat.mul_le_mul_right _ l1
      rw [← Nat.pow_add, show e + (52 - e) = 52 from by omega] at this
      have h52 : (2 : Nat) ^ 52 = 4503599627370496 := by decide
      omega
    have q2 : q < 9007199254740992 := by
      have : q < 2 ^ (e + 1) * 2 ^ (52 - e) := by rw [hq]; exact Nat.mul_lt_mul_of_pos_right l2 (Nat.two_pow_pos _)
      rw [← Nat.pow_add, show e + 1 + (52 - e) = 53 from by omega] at this
      have h53 : (2 : Nat) ^ 53 = 9007199254740992 := by decide
      omega
    refine ⟨q, 52 - e, ?_, hq⟩
    rw [← read_rung s e q he52 q1 q2]
    unfold Ieee.Format.nearest
    rw [if_neg h0]
    simp only [b2, b3, b4, b5, lm]
    have hlast : max (-(k : Int) + ((e + k : Nat) : Int) - ((52 : Nat) : Int)) (-1074) = (e : Int) - 52 := by omega
    rw [hlast]
    have hpl : ((e : Int) - 52 - -1074).toNat = e + 1022 := by omega
    rw [hpl]
    have hkept : Ieee.Toward.even.cut s (mag <<< (-(k : Int) - ((e : Int) - 52)).toNat) ((e : Int) - 52 - -(k : Int)).toNat = q := by
      by_cases hek : e + k ≤ 52
      · have c1 : (-(k : Int) - ((e : Int) - 52)).toNat = 52 - e - k := by omega
        have c2 : ((e : Int) - 52 - -(k : Int)).toNat = 0 := by omega
        rw [c1, c2, Nat.shiftLeft_eq]
        have c3 : mag * 2 ^ (52 - e - k) = q * 2 ^ 0 := by
          rw [hm, hq, Nat.mul_assoc, ← Nat.pow_add, show k + (52 - e - k) = 52 - e from by omega]; simp
        rw [c3]
        exact cut_exact s q 0 (by omega)
      · have c1 : (-(k : Int) - ((e : Int) - 52)).toNat = 0 := by omega
        have c2 : ((e : Int) - 52 - -(k : Int)).toNat = e + k - 52 := by omega
        rw [c1, c2, Nat.shiftLeft_zero]
        have c3 : mag = q * 2 ^ (e + k - 52) := by
          rw [hm, hq, Nat.mul_assoc, ← Nat.pow_add, show 52 - e + (e + k - 52) = k from by omega]
        rw [c3]
        exact cut_exact s q _ (by omega)
    rw [hkept]
/-- The word b stands for the whole number n. -/
def FI (b : Nat) (n : Int) : Prop := ∃ (s : Bool) (m k : Nat), Ieee.double.read b = .number s m (-(k : Int)) ∧ Ieee.signed s m 0 = n * 2 ^ k
theorem signed_up (s : Bool) (m u : Nat) : Ieee.signed s m u = Ieee.signed s m 0 * 2 ^ u := by
  unfold Ieee.signed
  rw [Nat.shiftLeft_eq, Nat.shiftLeft_zero]
  cases s
  · simp
  · simp [Int.neg_mul]
theorem signed_abs (s : Bool) (m : Nat) : (Ieee.signed s m 0).natAbs = m := by
  unfold Ieee.signed
  rw [Nat.shiftLeft_zero]
  cases s <;> simp
theorem pow_pos' (k : Nat) : (0 : Int) < 2 ^ k := Int.pow_pos (by omega)
theorem write_FI {s : Bool} {m k : Nat} {n : Int} (h : Ieee.signed s m 0 = n * 2 ^ k) (hn : n.natAbs < 9007199254740992) : FI (Ieee.double.write (.number s m (-(k : Int)))) n := by
  have hm : m = n.natAbs * 2 ^ k := by
    have := signed_abs s m
    rw [h, Int.natAbs_mul, Int.natAbs_pow] at this
    exact this.symm
  obtain ⟨m', k', h1, h2⟩ := nearest_whole s n.natAbs m k hm hn
  refine ⟨s, m', k', h1, ?_⟩
  have hp := pow_pos' k
  unfold Ieee.signed at h ⊢
  rw [Nat.shiftLeft_zero] at h ⊢
  cases s
  · simp only [Bool.false_eq_true, if_false] at h ⊢
    have h0 : 0 ≤ n := by
      rcases Int.lt_or_le n 0 with hl | hl
      · have := Int.mul_neg_of_neg_of_pos hl hp
        omega
      · exact hl
    rw [h2]
    push_cast
    rw [Int.natAbs_of_nonneg h0]
  · simp only [if_true] at h ⊢
    have h0 : n ≤ 0 := by
      rcases Int.lt_or_le 0 n with hl | hl
      · have := Int.mul_pos hl hp
        omega
      · exact hl
    rw [h2]
    push_cast
    rw [Int.ofNat_natAbs_of_nonpos h0, Int.neg_mul, Int.neg_neg]
theorem sum_whole {s t : Bool} {m n k j : Nat} {x y : Int} (hx : Ieee.signed s m 0 = x * 2 ^ k) (hy : Ieee.signed t n 0 = y * 2 ^ j) (hb : (x + y).natAbs < 9007199254740992) :
    ∃ r, ((Ieee.Datum.number s m (-(k : Int))).sum (.number t n (-(j : Int)))).map Ieee.double.write = some r ∧ FI r (x + y) := by
  obtain ⟨K, hK⟩ : ∃ K, K = max k j := ⟨_, rfl⟩
  have hbase : min (-(k : Int)) (-(j : Int)) = -(K : Int) := by omega
  have e1 : (-(k : Int) - -(K : Int)).toNat = K - k := by omega
  have e2 : (-(j : Int) - -(K : Int)).toNat = K - j := by omega
  unfold Ieee.Datum.sum
  simp only [hbase, e1, e2]
  refine ⟨_, rfl, ?_⟩
  have ht : Ieee.signed s m (K - k) + Ieee.signed t n (K - j) = (x + y) * 2 ^ K := by
    rw [signed_up s m (K - k), signed_up t n (K - j), hx, hy, Int.mul_assoc, Int.mul_assoc, ← Int.pow_add, ← Int.pow_add, show k + (K - k) = K from by omega, show j + (K - j) = K from by omega, Int.add_mul]
  rw [ht]
  refine write_FI ?_ hb
  unfold Ieee.signed
  rw [Nat.shiftLeft_zero]
  obtain ⟨T, hT⟩ : ∃ T, T = (x + y) * 2 ^ K := ⟨_, rfl⟩
  rw [← hT]
  by_cases h0 : T = 0
  · rw [if_pos h0, h0]; cases s <;> cases t <;> rfl
  · rw [if_neg h0]
    by_cases hn : T < 0
    · rw [if_pos (by simpa using hn)]; omega
    · rw [if_neg (by simpa using hn)]; omega
theorem FI.add {a b : Nat} {x y : Int} (ha : FI a x) (hb : FI b y) (h : (x + y).natAbs < 9007199254740992) : ∃ r, floatBits .add .f64 a b = some r ∧ FI r (x + y) := by
  obtain ⟨s, m, k, r1, v1⟩ := ha
  obtain ⟨t, n, j, r2, v2⟩ := hb
  obtain ⟨r, hr, hf⟩ := sum_whole v1 v2 h
  refine ⟨r, ?_, hf⟩
  show Ieee.Format.add Ieee.double a b = some r
  unfold Ieee.Format.add
  rw [r1, r2]; exact hr
theorem signed_not (s : Bool) (m : Nat) : Ieee.signed (!s) m 0 = -Ieee.signed s m 0 := by
  unfold Ieee.signed
  cases s <;> simp
theorem FI.sub {a b : Nat} {x y : Int} (ha : FI a x) (hb : FI b y) (h : (x - y).natAbs < 9007199254740992) : ∃ r, floatBits .sub .f64 a b = some r ∧ FI r (x - y) := by
  obtain ⟨s, m, k, r1, v1⟩ := ha
  obtain ⟨t, n, j, r2, v2⟩ := hb
  obtain ⟨r, hr, hf⟩ := sum_whole (y := -y) (t := !t) v1 (by rw [signed_not, v2, Int.neg_mul]) h
  refine ⟨r, ?_, hf⟩
  show Ieee.Format.sub Ieee.double a b = some r
  unfold Ieee.Format.sub
  rw [r1, r2]; exact hr
theorem FI.mul {a b : Nat} {x y : Int} (ha : FI a x) (hb : FI b y) (h : (x * y).natAbs < 9007199254740992) : ∃ r, floatBits .mul .f64 a b = some r ∧ FI r (x * y) := by
  obtain ⟨s, m, k, r1, v1⟩ := ha
  obtain ⟨t, n, j, r2, v2⟩ := hb
  refine ⟨_, ?_, write_FI (s := s ^^ t) (m := m * n) (k := k + j) ?_ h⟩
  · show Ieee.Format.mul Ieee.double a b = _
    unfold Ieee.Format.mul
    rw [r1, r2]
    show some _ = _
    congr 3
    push_cast
    omega
  · rw [Int.pow_add, show x * y * (2 ^ k * 2 ^ j) = (x * 2 ^ k) * (y * 2 ^ j) from by
      rw [Int.mul_assoc, Int.mul_assoc]; congr 1; rw [← Int.mul_assoc, ← Int.mul_assoc, Int.mul_comm y], ← v1, ← v2]
    unfold Ieee.signed
    simp only [Nat.shiftLeft_zero]
    cases s <;> cases t <;> simp [Int.neg_mul, Int.mul_neg]
theorem FI.neg {a : Nat} {x : Int} (ha : FI a x) : FI (Op.negFloat .f64 a) (-x) := by
  obtain ⟨s, m, k, r1, v1⟩ := ha
  refine ⟨!s, m, k, ?_, by rw [signed_not, v1, Int.neg_mul]⟩
  have b1 : Ieee.double.signWeight = 2 ^ 63 := by decide
  have hq : Op.negFloat .f64 a = a ^^^ 2 ^ 63 := rfl
  have e1 : (a ^^^ 2 ^ 63) % 2 ^ 63 = a % 2 ^ 63 := by
    rw [Nat.xor_mod_two_pow, Nat.mod_self, Nat.xor_zero]
  have e2 : (a ^^^ 2 ^ 63) / 2 ^ 63 % 2 = 1 - a / 2 ^ 63 % 2 := by
    rw [Nat.xor_div_two_pow, Nat.div_self (by decide)]
    have := Nat.xor_mod_two_pow (a := a / 2 ^ 63) (b := 1) (n := 1)
    rw [Nat.pow_one] at this
    rw [this]
    have h2 : a / 2 ^ 63 % 2 < 2 := Nat.mod_lt _ (by decide)
    match a / 2 ^ 63 % 2, h2 with
    | 0, _ => rfl
    | 1, _ => rfl
  rw [hq]
  unfold Ieee.Format.read at r1 ⊢
  rw [b1] at r1 ⊢
  rw [e1, e2]
  have h2 : a / 2 ^ 63 % 2 < 2 := Nat.mod_lt _ (by decide)
  have e3 : ((1 - a / 2 ^ 63 % 2 == 1) : Bool) = !(a / 2 ^ 63 % 2 == 1) := by
    match a / 2 ^ 63 % 2, h2 with
    | 0, _ => rfl
    | 1, _ => rfl
  rw [e3]
  dsimp only at r1 ⊢
  split at r1
  · rename_i h; rw [if_pos h]; injection r1 with a1 a2 a3; rw [a1, a2, a3]
  · rename_i h
    rw [if_neg h]
    split at r1
    · rename_i h'; rw [if_pos h']; injection r1 with a1 a2 a3; rw [a1, a2, a3]
    · split at r1 <;> cases r1
theorem cmp_int (x y : Int) : compare x y = if x < y then .lt else if x = y then .eq else .gt := rfl
theorem compare_mul {x y p : Int} (hp : 0 < p) : compare (x * p) (y * p) = compare x y := by
  rw [cmp_int, cmp_int]
  rcases Int.lt_trichotomy x y with h | h | h
  · rw [if_pos (Int.mul_lt_mul_of_pos_right h hp), if_pos h]
  · subst h; simp
  · have := Int.mul_lt_mul_of_pos_right h hp
    rw [if_neg (by omega), if_neg (by omega), if_neg (by omega), if_neg (by omega)]
theorem FI.order {a b : Nat} {x y : Int} (ha : FI a x) (hb : FI b y) : FloatKind.f64.format.order a b = some (compare x y) := by
  obtain ⟨s, m, k, r1, v1⟩ := ha
  obtain ⟨t, n, j, r2, v2⟩ := hb
  obtain ⟨K, hK⟩ : ∃ K, K = max k j := ⟨_, rfl⟩
  have hbase : min (-(k : Int)) (-(j : Int)) = -(K : Int) := by omega
  have e1 : (-(k : Int) - -(K : Int)).toNat = K - k := by omega
  have e2 : (-(j : Int) - -(K : Int)).toNat = K - j := by omega
  show Ieee.Format.order Ieee.double a b = _
  unfold Ieee.Format.order
  rw [r1, r2]
  unfold Ieee.Datum.order
  simp only [hbase, e1, e2]
  rw [signed_up s m (K - k), signed_up t n (K - j), v1, v2, Int.mul_assoc, Int.mul_assoc, ← Int.pow_add, ← Int.pow_add, show k + (K - k) = K from by omega, show j + (K - j) = K from by omega, compare_mul (pow_pos' K)]
theorem FI.toInt {a : Nat} {x : Int} (ha : FI a x) : (FloatKind.f64.decode a).toInt .zero = some x := by
  obtain ⟨s, m, k, r1, v1⟩ := ha
  show (Ieee.double.read a).toInt .zero = _
  rw [r1]
  have hm : m = x.natAbs * 2 ^ k := by
    have := signed_abs s m
    rw [v1, Int.natAbs_mul, Int.natAbs_pow] at this
    exact this.symm
  have h2 : 0 < 2 ^ k := Nat.two_pow_pos k
  have hc : Ieee.Toward.zero.cut s (m <<< (-(k : Int)).toNat) (- -(k : Int)).toNat = x.natAbs := by
    have c1 : (-(k : Int)).toNat = 0 := by omega
    have c2 : (- -(k : Int)).toNat = k := by omega
    rw [c1, c2, Nat.shiftLeft_zero]
    unfold Ieee.Toward.cut
    simp only [Bool.toNat_false, Nat.add_zero]
    by_cases h0 : x = 0
    · subst h0; simp [hm]
    · have h1 : 1 ≤ x.natAbs := by omega
      have hne : x.natAbs * 2 ^ k ≠ 0 := Nat.mul_ne_zero (by omega) (by omega)
      have hl : k ≤ (x.natAbs * 2 ^ k).log2 := (Nat.le_log2 hne).2 (Nat.le_mul_of_pos_left _ h1)
      rw [hm, Nat.min_eq_left (by omega), Nat.one_shiftLeft, Nat.mul_div_cancel _ h2]
  unfold Ieee.Datum.toInt Ieee.Datum.integral
  simp only [hc]
  have hp := pow_pos' k
  unfold Ieee.signed at v1 ⊢
  rw [Nat.shiftLeft_zero] at v1 ⊢
  cases s
  · simp only [Bool.false_eq_true, if_false] at v1 ⊢
    have h0 : 0 ≤ x := by
      rcases Int.lt_or_le x 0 with hl | hl
      · have := Int.mul_neg_of_neg_of_pos hl hp
        omega
      · exact hl
    rw [Int.natAbs_of_nonneg h0]
  · simp only [if_true] at v1 ⊢
    have h0 : x ≤ 0 := by
      rcases Int.lt_or_le 0 x with hl | hl
      · have := Int.mul_pos hl hp
        omega
      · exact hl
    rw [Int.ofNat_natAbs_of_nonpos h0, Int.neg_neg]
theorem FI.whole {a : Nat} {x : Int} (ha : FI a x) (h0 : -9223372036854775808 ≤ x) (h1 : x ≤ 9223372036854775807) : floatToIntVal .f64 a .i64 = some x := by
  unfold floatToIntVal
  rw [ha.toInt]
  exact if_pos ⟨h0, h1⟩
theorem FI.unique {a : Nat} {x y : Int} (h : FI a x) (k : FI a y) : x = y := by
  have := h.toInt
  rw [k.toInt] at this
  injection this with this
  exact this.symm
theorem FI.ofInt {n : Int} (h : n.natAbs < 9007199254740992) : FI (floatOfInt .f64 n) n := by
  show FI (Ieee.double.write (.number (n < 0) n.natAbs 0)) n
  have : (0 : Int) = -((0 : Nat) : Int) := rfl
  rw [this]
  refine write_FI ?_ h
  unfold Ieee.signed
  rw [Nat.shiftLeft_zero]
  by_cases hn : n < 0
  · rw [if_pos (by simpa using hn)]; omega
  · rw [if_neg (by simpa using hn)]; omega
/-- The number that a word stands for. -/
def fval (b : Nat) : Int := ((FloatKind.f64.decode b).toInt .zero).getD 0
theorem FI.val {a : Nat} {x : Int} (h : FI a x) : fval a = x := by unfold fval; rw [h.toInt]; rfl
/-- A word that stands for a whole number of at most B. -/
def Fits (B : Nat) (b : Nat) : Prop := FI b (fval b) ∧ (fval b).natAbs ≤ B
theorem FI.fits {a B : Nat} {x : Int} (h : FI a x) (hb : x.natAbs ≤ B) : Fits B a := by
  unfold Fits; rw [h.val]; exact ⟨h, hb⟩
theorem FI.zero : FI 0 0 := by
  obtain ⟨K, hK⟩ : ∃ K : Nat, K = 1074 := ⟨_, rfl⟩
  refine ⟨false, 0, K, ?_, by rw [Int.zero_mul]; rfl⟩
  rw [hK]; decide
theorem FI.one : FI 4607182418800017408 1 := ⟨false, 4503599627370496, 52, by decide, by decide⟩
theorem FI.two : FI 4611686018427387904 2 := ⟨false, 4503599627370496, 51, by decide, by decide⟩
end Go.Proofs.Ytahmogobaanklaa.Z

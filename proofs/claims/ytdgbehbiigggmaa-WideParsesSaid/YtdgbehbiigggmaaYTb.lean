/- Digits that are told are read again; the document's digits. -/
import Derived.Test.YtdgbehbiigggmaaYTa
import Derived.Lib.Strings
namespace Go.Proofs.Ytdgbehbiigggmaa.Lib
set_option linter.unusedVariables false
set_option linter.unusedSimpArgs false
open Go.RowKit Go.Proofs.Ytdgbehbiigggmaa.Y Go.Proofs.YtdgbehbiigggmaaW.PrintWords Go.Proofs.YtdgbehbiigggmaaW.PrintLast Go.Proofs.YtdgbehbiigggmaaW.PrintMore

theorem str_app (xs ys : List Int) : strOfNums xs ++ strOfNums ys = strOfNums (xs ++ ys) := by
  apply ByteArray.ext
  rw [ByteArray.data_append]
  simp [strOfNums]
theorem dig_at (r : Int) (h0 : 0 ≤ r) (h1 : r < 10) : (⟨#[48, 49, 50, 51, 52, 53, 54, 55, 56, 57]⟩ : ByteArray).extract r.toNat (r + 1).toNat = strOfNums [48 + r] := by
  have : r = 0 ∨ r = 1 ∨ r = 2 ∨ r = 3 ∨ r = 4 ∨ r = 5 ∨ r = 6 ∨ r = 7 ∨ r = 8 ∨ r = 9 := by omega
  rcases this with rfl | rfl | rfl | rfl | rfl | rfl | rfl | rfl | rfl | rfl <;> decide +kernel
theorem bt_str {xs : List Int} (h : ∀ n ∈ xs, 48 ≤ n ∧ n ≤ 57) (i : Int) : bt (strOfNums xs) i = rd xs i := by
  rw [← rd_bytesOf]
  have e : bytesOf (strOfNums xs) = xs := by
    unfold bytesOf
    rw [strOfNums_data, List.map_map]
    conv => rhs; rw [← List.map_id xs]
    refine List.map_congr_left fun n hn => ?_
    have b := h n hn
    show ((UInt8.ofNat n.toNat).toNat : Int) = n
    rw [UInt8.toNat_ofNat']
    omega
  rw [e]
theorem timesf (n0 n1 d : Int) (a0 : 0 ≤ n0) (a1 : n0 < 18446744073709551616) (b0 : 0 ≤ n1) (b1 : n1 < 18446744073709551616) (d0 : 0 ≤ d) (d1 : d < 10) (hv : V n0 n1 * 10 + d < 18446744073709551616 * 18446744073709551616) :
    wide_Num_times.f n0 n1 d = some ((V n0 n1 * 10 + d) / 18446744073709551616, (V n0 n1 * 10 + d) % 18446744073709551616, false) := by
  have ev : V n0 n1 = n0 * 18446744073709551616 + n1 := rfl
  rw [ev] at hv ⊢
  have M1 := mulf n1 10 b0 b1 (by omega) (by omega)
  have M2 := mulf n0 10 a0 a1 (by omega) (by omega)
  have q0 : n0 * 10 / 18446744073709551616 = 0 := by omega
  have q1 : n0 * 10 % 18446744073709551616 = n0 * 10 := by omega
  rw [q0, q1] at M2
  obtain ⟨l1, hl1⟩ : ∃ l, l = n1 * 10 / 18446744073709551616 := ⟨_, rfl⟩
  obtain ⟨l2, hl2⟩ : ∃ l, l = n1 * 10 % 18446744073709551616 := ⟨_, rfl⟩
  rw [← hl1, ← hl2] at M1
  have A1 := addf (n0 * 10) 0 l1 l2 (by omega) (by omega) (by omega) (by omega) (by omega) (by omega) (by omega) (by omega)
  rw [show (0 + l2) / 18446744073709551616 = 0 by omega, show (0 + l2) % 18446744073709551616 = l2 by omega, Int.add_zero, show (n0 * 10 + l1) % 18446744073709551616 = n0 * 10 + l1 by omega, decide_eq_false (show ¬ 18446744073709551616 ≤ n0 * 10 + l1 by omega)] at A1
  have A2 := addf (n0 * 10 + l1) l2 0 d (by omega) (by omega) (by omega) (by omega) (by omega) (by omega) (by omega) (by omega)
  rw [decide_eq_false (show ¬ 18446744073709551616 ≤ n0 * 10 + l1 + 0 + (l2 + d) / 18446744073709551616 by omega)] at A2
  rw [wide_Num_times.f, M1, Option.bind_some, M2, Option.bind_some]
  dsimp only
  rw [A1, Option.bind_some, wu_in (x := d) (by omega) (by omega), off, Option.bind_some]
  dsimp only
  rw [A2, Option.bind_some]
  dsimp only
  rw [if_pos (rfl : (0 : Int) = 0), if_neg Bool.false_ne_true, show (n0 * 10 + l1 + 0 + (l2 + d) / 18446744073709551616) % 18446744073709551616 = ((n0 * 18446744073709551616 + n1) * 10 + d) / 18446744073709551616 by omega, show (l2 + d) % 18446744073709551616 = ((n0 * 18446744073709551616 + n1) * 10 + d) % 18446744073709551616 by omega]
theorem parse_loop (v : Int) (xs : List Int) (v0 : 0 ≤ v) (v1 : v < 18446744073709551616 * 18446744073709551616) (hb : ∀ n ∈ xs, 48 ≤ n ∧ n ≤ 57) (hl : xs.length < 1000) (hg : ∀ (i : Nat), i < xs.length → rd xs (i : Int) = 48 + v / 10 ^ (xs.length - 1 - i) % 10) : ∀ (d i : Nat), i + d = xs.length → ∀ (p0 p1 : Int), 0 ≤ p0 → p0 < 18446744073709551616 → 0 ≤ p1 → p1 < 18446744073709551616 → V p0 p1 = v / 10 ^ d → ∀ k, d + 1 ≤ k → wide_Parse.l0 k (strOfNums xs) false (xs.length : Int) (i : Int) p0 p1 = some (v / 18446744073709551616, v % 18446744073709551616, 0) := by
  intro d
  induction d with
  | zero =>
    intro i hi p0 p1 a0 a1 b0 b1 hv k hk
    obtain ⟨k, rfl⟩ : ∃ j, k = j + 1 := ⟨k - 1, by omega⟩
    rw [Int.pow_zero, Int.ediv_one] at hv
    have ev : V p0 p1 = p0 * 18446744073709551616 + p1 := rfl
    rw [wide_Parse.l0, if_neg (by omega), if_neg Bool.false_ne_true]
    congr 2
    · omega
    · congr 1; omega
  | succ d ih =>
    intro i hi p0 p1 a0 a1 b0 b1 hv k hk
    obtain ⟨k, rfl⟩ : ∃ j, k = j + 1 := ⟨k - 1, by omega⟩
    have g := hg i (by omega)
    rw [show xs.length - 1 - i = d by omega] at g
    have e : (10 : Int) ^ (d + 1) = 10 ^ d * 10 := Int.pow_succ 10 d
    have p : 0 < (10 : Int) ^ d := Int.pow_pos (by omega)
    have q : V p0 p1 = v / 10 ^ d / 10 := by rw [hv, e, edd _ _ _ p]
    have vb : v / 10 ^ d ≤ v := Int.ediv_le_self _ v0
    have v2 : 0 ≤ v / 10 ^ d := Int.ediv_nonneg v0 (by omega)
    generalize v / 10 ^ d = u at *
    have T := timesf p0 p1 (u % 10) a0 a1 b0 b1 (by omega) (by omega) (by omega)
    have eu : V p0 p1 * 10 + u % 10 = u := by omega
    rw [eu] at T
    have J := ih (i + 1) (by omega) (u / 18446744073709551616) (u % 18446744073709551616) (by omega) (by omega) (by omega) (by omega) (V_of u) k (by omega)
    rw [wide_Parse.l0, if_pos (by omega), if_pos (by omega), if_pos (by rw [strOfNums_size]; omega), bt_str hb, g, if_neg (by omega), if_neg (by omega), show (48 + u % 10 - 48) % 256 = u % 10 by omega, T, Option.bind_some, if_neg Bool.false_ne_true, w64 (by omega) (by omega)]
    exact J
theorem txt_get (v : Int) (v0 : 0 ≤ v) (i : Nat) (h : i < (txt v).length) : rd (txt v) (i : Int) = 48 + v / 10 ^ ((txt v).length - 1 - i) % 10 := by
  have hl : i < (lsd 40 v).length := by unfold txt at h; simpa using h
  have e : (txt v).length = (lsd 40 v).length := by unfold txt; simp
  have e2 : (txt v)[i]'h = ((lsd 40 v).reverse)[i]'(by simpa using hl) := rfl
  unfold rd
  rw [Int.toNat_natCast, List.getD_eq_getElem?_getD, List.getElem?_eq_getElem h, Option.getD_some, e2, List.getElem_reverse, lsd_get 40 v v0, e]
theorem parsef (v : Int) (v0 : 0 ≤ v) (v1 : v < 18446744073709551616 * 18446744073709551616) : ∀ k, 60 ≤ k → wide_Parse.f k (strOfNums (txt v)) = some (v / 18446744073709551616, v % 18446744073709551616, 0) := by
  intro k hk
  have ll := lsd_len 40 v
  have lp := lsd_pos 39 v
  have p40 : v < 10 ^ 40 := by
    have p : (18446744073709551616 * 18446744073709551616 : Int) ≤ 10 ^ 40 := by decide
    omega
  have e : (txt v).length = (lsd 40 v).length := by unfold txt; simp
  have bd : ∀ n ∈ txt v, 48 ≤ n ∧ n ≤ 57 := fun n hn => lsd_bd 40 v v0 n (by unfold txt at hn; simpa using hn)
  obtain ⟨t1, t2⟩ := lsd_top 40 v v0 p40
  rw [← e] at t1 t2 ll lp
  have L := parse_loop v (txt v) v0 v1 bd (by omega) (fun i hi => txt_get v v0 i hi) (txt v).length 0 (by omega) 0 0 (by omega) (by omega) (by omega) (by omega) (by rw [Int.ediv_eq_zero_of_lt v0 t1]; rfl)
  have ne : ¬ (strOfNums (txt v)).toList = ([] : List UInt8) := by
    intro h
    rw [ByteArray.toList_eq, strOfNums_data] at h
    have h2 := congrArg List.length h
    simp only [List.length_map, List.length_nil] at h2
    omega
  obtain ⟨k, rfl⟩ : ∃ j, k = j + 1 := ⟨k - 1, by omega⟩
  rw [wide_Parse.f, if_neg ne, strOfNums_size]
  by_cases c : ((txt v).length : Int) > 1
  · have g := txt_get v v0 0 (by omega)
    rw [Nat.sub_zero] at g
    have h2 := t2 (by omega)
    obtain ⟨m, hm⟩ : ∃ m, (txt v).length = m + 1 := ⟨(txt v).length - 1, by omega⟩
    rw [hm] at t1 h2 g
    rw [show m + 1 - 1 = m from rfl] at h2 g
    have em : (10 : Int) ^ (m + 1) = 10 ^ m * 10 := Int.pow_succ 10 m
    have pm : 0 < (10 : Int) ^ m := Int.pow_pos (by omega)
    have q1 : v / 10 ^ m < 10 := (Int.ediv_lt_iff_lt_mul pm).2 (by rw [em] at t1; rw [Int.mul_comm]; exact t1)
    have q2 : 1 ≤ v / 10 ^ m := (Int.le_ediv_iff_mul_le pm).2 (by omega)
    have z : (bt (strOfNums (txt v)) 0 == 48) = false := by
      rw [bt_str bd, show (0 : Int) = ((0 : Nat) : Int) from rfl, g, beq_eq_false_iff_ne]
      omega
    rw [if_pos c, if_pos (by omega), z, wide_Parse.j0, if_neg Bool.false_ne_true, strOfNums_size]
    exact L k (by omega)
  · rw [if_neg c, wide_Parse.j0, if_neg Bool.false_ne_true, strOfNums_size]
    exact L k (by omega)
end Go.Proofs.Ytdgbehbiigggmaa.Lib

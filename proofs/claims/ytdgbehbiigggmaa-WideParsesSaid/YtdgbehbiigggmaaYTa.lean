/- Digits: how a number is told, and read again. -/
import Derived.Test.YtdgbehbiigggmaaYWi
import Derived.Test.YtdgbehbiigggmaaYx4
import Derived.Test.YtdgbehbiigggmaaYx5
import Derived.Test.YtdgbehbiigggmaaYx6
namespace Go.Proofs.Ytdgbehbiigggmaa.Lib
set_option linter.unusedVariables false
set_option linter.unusedSimpArgs false
open Go.RowKit Go.Proofs.Ytdgbehbiigggmaa.Y Go.Proofs.YtdgbehbiigggmaaW.PrintWords Go.Proofs.YtdgbehbiigggmaaW.PrintLast Go.Proofs.YtdgbehbiigggmaaW.PrintMore

theorem edd (a b c : Int) (hb : 0 < b) : a / b / c = a / (b * c) := by
  rw [Int.ediv_ediv, if_neg (fun h => absurd h.1 (by omega)), Int.sub_zero]
/-- The digits, the last one first. -/
def lsd : Nat → Int → List Int
  | 0, _ => []
  | f + 1, v => (48 + v % 10) :: (if v / 10 = 0 then [] else lsd f (v / 10))
theorem lsd_len : ∀ (f : Nat) (v : Int), (lsd f v).length ≤ f := by
  intro f
  induction f with
  | zero => intro v; exact Nat.le_refl _
  | succ f ih =>
    intro v
    unfold lsd
    split
    · simp
    · have := ih (v / 10); simp only [List.length_cons]; omega
theorem lsd_pos (f : Nat) (v : Int) : 1 ≤ (lsd (f + 1) v).length := by unfold lsd; simp
theorem lsd_bd : ∀ (f : Nat) (v : Int), 0 ≤ v → ∀ n ∈ lsd f v, 48 ≤ n ∧ n ≤ 57 := by
  intro f
  induction f with
  | zero => intro v _ n hn; cases hn
  | succ f ih =>
    intro v hv n hn
    unfold lsd at hn
    rcases List.mem_cons.1 hn with rfl | h
    · omega
    · split at h
      · cases h
      · exact ih (v / 10) (by omega) n h
theorem lsd_get : ∀ (f : Nat) (v : Int), 0 ≤ v → ∀ (j : Nat) (h : j < (lsd f v).length), (lsd f v)[j] = 48 + v / 10 ^ j % 10 := by
  intro f
  induction f with
  | zero => intro v _ j h; exact absurd h (Nat.not_lt_zero _)
  | succ f ih =>
    intro v hv j h
    unfold lsd at h ⊢
    cases j with
    | zero => simp
    | succ j =>
      rw [List.getElem_cons_succ]
      by_cases c : v / 10 = 0
      · exfalso
        rw [if_pos c] at h
        simp at h
      · simp only [if_neg c] at h ⊢
        rw [ih (v / 10) (by omega) j (by simpa using h), edd _ _ _ (by omega), Int.pow_succ, Int.mul_comm (10 ^ j) 10]
theorem lsd_top : ∀ (f : Nat) (v : Int), 0 ≤ v → v < 10 ^ f → v < 10 ^ (lsd f v).length ∧ (2 ≤ (lsd f v).length → 10 ^ ((lsd f v).length - 1) ≤ v) := by
  intro f
  induction f with
  | zero => intro v hv h; exact ⟨h, fun z => absurd (show 2 ≤ 0 from z) (by decide)⟩
  | succ f ih =>
    intro v hv h
    have e : (10 : Int) ^ (f + 1) = 10 ^ f * 10 := Int.pow_succ 10 f
    unfold lsd
    by_cases c : v / 10 = 0
    · rw [if_pos c]
      exact ⟨by show v < 10 ^ 1; omega, fun z => absurd (show 2 ≤ 1 from z) (by decide)⟩
    · rw [if_neg c]
      have hb : v / 10 < 10 ^ f := by
        have : 0 < (10 : Int) ^ f := Int.pow_pos (by omega)
        omega
      obtain ⟨i1, i2⟩ := ih (v / 10) (by omega) hb
      obtain ⟨m, hm⟩ : ∃ m, m = (lsd f (v / 10)).length := ⟨_, rfl⟩
      rw [← hm] at i1 i2
      rw [List.length_cons, ← hm]
      have e1 : (10 : Int) ^ (m + 1) = 10 ^ m * 10 := Int.pow_succ 10 m
      refine ⟨by rw [e1]; omega, fun _ => ?_⟩
      show (10 : Int) ^ m ≤ v
      by_cases g : 2 ≤ m
      · have := i2 g
        obtain ⟨p, rfl⟩ : ∃ p, m = p + 1 := ⟨m - 1, by omega⟩
        have e2 : (10 : Int) ^ (p + 1) = 10 ^ p * 10 := Int.pow_succ 10 p
        have e3 : (10 : Int) ^ (p + 1 - 1) = 10 ^ p := rfl
        rw [e3] at this
        rw [e2]; omega
      · have h1 : m = 0 ∨ m = 1 := by omega
        rcases h1 with rfl | rfl
        · show (1 : Int) ≤ v; omega
        · show (10 : Int) ^ 1 ≤ v; omega
theorem text_loop : ∀ (f : Nat) (x : List Int) (n0 n1 : Int), 0 ≤ n0 → n0 < 18446744073709551616 → 0 ≤ n1 → n1 < 18446744073709551616 → V n0 n1 < 10 ^ (f + 1) → x.length + f < 1000 → ∃ K, ∀ k, K ≤ k → wide_Num_Text.l0 k x n0 n1 = some (x ++ lsd (f + 1) (V n0 n1)) := by
  intro f
  induction f with
  | zero =>
    intro x n0 n1 a0 a1 b0 b1 hv hx
    have vb := V_bd a0 a1 b0 b1
    obtain ⟨K, D⟩ := divf n0 n1 10 a0 a1 b0 b1 (by omega) (by omega)
    rw [show n0 * 18446744073709551616 + n1 = V n0 n1 from rfl] at D
    refine ⟨K + 1, fun k hk => ?_⟩
    obtain ⟨k, rfl⟩ : ∃ m, k = m + 1 := ⟨k - 1, by omega⟩
    have hz : V n0 n1 / 10 = 0 := by have : (10 : Int) ^ (0 + 1) = 10 := rfl
                                     omega
    rw [wide_Num_Text.l0, D _ (by omega), Option.bind_some, if_pos (by omega)]
    dsimp only
    rw [if_pos ⟨by omega, by omega⟩]
    unfold lsd
    rw [if_pos hz, Int.emod_eq_of_lt (by omega) (by omega)]
  | succ f ih =>
    intro x n0 n1 a0 a1 b0 b1 hv hx
    have vb := V_bd a0 a1 b0 b1
    obtain ⟨K, D⟩ := divf n0 n1 10 a0 a1 b0 b1 (by omega) (by omega)
    rw [show n0 * 18446744073709551616 + n1 = V n0 n1 from rfl] at D
    by_cases hz : V n0 n1 / 10 = 0
    · refine ⟨K + 1, fun k hk => ?_⟩
      obtain ⟨k, rfl⟩ : ∃ m, k = m + 1 := ⟨k - 1, by omega⟩
      rw [wide_Num_Text.l0, D _ (by omega), Option.bind_some, if_pos (by omega)]
      dsimp only
      rw [if_pos ⟨by omega, by omega⟩]
      unfold lsd
      rw [if_pos hz, Int.emod_eq_of_lt (by omega) (by omega)]
    · have e : (10 : Int) ^ (f + 1 + 1) = 10 ^ (f + 1) * 10 := Int.pow_succ 10 (f + 1)
      have p : 0 < (10 : Int) ^ (f + 1) := Int.pow_pos (by omega)
      obtain ⟨K2, J⟩ := ih (x ++ [48 + V n0 n1 % 10]) (V n0 n1 / 10 / 18446744073709551616) (V n0 n1 / 10 % 18446744073709551616) (by omega) (by omega) (by omega) (by omega) (by rw [V_of]; omega) (by simp only [List.length_append, List.length_cons, List.length_nil]; omega)
      rw [V_of] at J
      refine ⟨K + K2 + 1, fun k hk => ?_⟩
      obtain ⟨k, rfl⟩ : ∃ m, k = m + 1 := ⟨k - 1, by omega⟩
      rw [wide_Num_Text.l0, D _ (by omega), Option.bind_some, if_pos (by omega)]
      dsimp only
      rw [if_neg (by omega), show (48 + V n0 n1 % 10) % 256 = 48 + V n0 n1 % 10 by omega, J _ (by omega), List.append_assoc]
      conv => rhs; rw [show lsd (f + 1 + 1) (V n0 n1) = (48 + V n0 n1 % 10) :: (if V n0 n1 / 10 = 0 then [] else lsd (f + 1) (V n0 n1 / 10)) from rfl, if_neg hz]
      rfl
theorem set_mid {α : Type} (a : List α) (x y : α) (b : List α) : (a ++ x :: b).set a.length y = a ++ y :: b := by
  induction a with
  | nil => rfl
  | cons c a ih => simp [ih]
theorem get_mid (a : List Int) (x : Int) (b : List Int) : rd (a ++ x :: b) (a.length : Int) = x := by
  unfold rd
  rw [Int.toNat_natCast, List.getD_eq_getElem?_getD, List.getElem?_append_right (Nat.le_refl _), Nat.sub_self]; rfl
theorem rev_loop : ∀ (n : Nat) (a m b : List Int), m.length ≤ n → a.length + m.length + b.length < 1000 → ∀ k, n + 1 ≤ k → slices_Reverse_byte_byte.l0 k (a ++ (m ++ b)) (a.length : Int) ((a.length : Int) + m.length - 1) = some (a ++ (m.reverse ++ b)) := by
  intro n
  induction n using Nat.strongRecOn with
  | _ n ih =>
    intro a m b hm hl k hk
    obtain ⟨k, rfl⟩ : ∃ j, k = j + 1 := ⟨k - 1, by omega⟩
    rw [slices_Reverse_byte_byte.l0]
    by_cases c : 2 ≤ m.length
    · obtain ⟨x, m1, rfl⟩ : ∃ x m1, m = x :: m1 := by
        cases m with
        | nil => simp at c
        | cons x m1 => exact ⟨x, m1, rfl⟩
      have hm1 : m1 ≠ [] := by rintro rfl; simp at c
      obtain ⟨m2, y, rfl⟩ : ∃ m2 y, m1 = m2 ++ [y] := ⟨m1.dropLast, m1.getLast hm1, (List.dropLast_concat_getLast hm1).symm⟩
      simp only [List.length_cons, List.length_append, List.length_nil] at hm hl c
      have e0 : a ++ ((x :: (m2 ++ [y])) ++ b) = a ++ x :: (m2 ++ y :: b) := by simp
      have e1 : a ++ x :: (m2 ++ y :: b) = (a ++ x :: m2) ++ y :: b := by simp
      have l1 : ((a ++ x :: m2).length : Int) = (a.length : Int) + m2.length + 1 := by simp only [List.length_append, List.length_cons]; omega
      have ej : (a.length : Int) + ((x :: (m2 ++ [y])).length : Nat) - 1 = ((a ++ x :: m2).length : Int) := by rw [l1]; simp only [List.length_cons, List.length_append, List.length_nil]; omega
      have g1 : rd (a ++ x :: (m2 ++ y :: b)) (a.length : Int) = x := get_mid _ _ _
      have g2 : rd (a ++ x :: (m2 ++ y :: b)) ((a ++ x :: m2).length : Int) = y := by rw [e1]; exact get_mid _ _ _
      have s1 : (a ++ x :: (m2 ++ y :: b)).set a.length y = a ++ y :: (m2 ++ y :: b) := set_mid _ _ _ _
      have s2 : (a ++ y :: (m2 ++ y :: b)).set (a ++ x :: m2).length x = a ++ y :: (m2 ++ x :: b) := by
        simp
      have J := ih (n - 2) (by omega) (a ++ [y]) m2 (x :: b) (by omega) (by simp only [List.length_cons, List.length_append, List.length_nil]; omega) k (by omega)
      have tl : ((a ++ x :: (m2 ++ y :: b)).length : Int) = (a.length : Int) + m2.length + b.length + 2 := by simp only [List.length_append, List.length_cons]; omega
      rw [e0, ej, if_pos (by omega), if_pos (by omega), if_pos (by omega), if_pos (by omega), if_pos (by omega), g1, g2, Int.toNat_natCast, Int.toNat_natCast, s1, s2, w64 (by omega) (by omega), w64 (by omega) (by omega)]
      have q1 : (a ++ [y]) ++ (m2 ++ x :: b) = a ++ y :: (m2 ++ x :: b) := by simp
      have q2 : ((a ++ [y]).length : Int) = (a.length : Int) + 1 := by simp
      rw [q1, q2, show (a.length : Int) + 1 + m2.length - 1 = ((a ++ x :: m2).length : Int) - 1 by rw [l1]; omega] at J
      rw [J]
      simp
    · rw [if_neg (by omega)]
      have : m.reverse = m := by
        cases m with
        | nil => rfl
        | cons x m1 =>
          cases m1 with
          | nil => rfl
          | cons y m2 => exact absurd (by simp : 2 ≤ (x :: y :: m2).length) c
      rw [this]
theorem revf (l : List Int) (h : l.length < 1000) (k : Nat) (hk : l.length + 1 ≤ k) : slices_Reverse_byte_byte.f k l = some l.reverse := by
  have J := rev_loop l.length [] l [] (Nat.le_refl _) (by simpa using h) k hk
  rw [slices_Reverse_byte_byte.f, w64 (by omega) (by omega)]
  simpa using J
/-- A number's text. -/
def txt (v : Int) : List Int := (lsd 40 v).reverse
theorem ptextf (n0 n1 : Int) (a0 : 0 ≤ n0) (a1 : n0 < 18446744073709551616) (b0 : 0 ≤ n1) (b1 : n1 < 18446744073709551616) : ∃ K, ∀ k, K ≤ k → wide_Num_Text.f k n0 n1 = some (strOfNums (txt (V n0 n1))) := by
  have vb := V_bd a0 a1 b0 b1
  have p : (18446744073709551616 * 18446744073709551616 : Int) ≤ 10 ^ (39 + 1) := by decide
  obtain ⟨K, h⟩ := text_loop 39 [] n0 n1 a0 a1 b0 b1 (by omega) (by decide)
  have ll := lsd_len (39 + 1) (V n0 n1)
  refine ⟨K + 60, fun k hk => ?_⟩
  rw [wide_Num_Text.f, h _ (by omega), Option.bind_some, List.nil_append, revf _ (by omega) _ (by omega), Option.bind_some]
  rfl
end Go.Proofs.Ytdgbehbiigggmaa.Lib

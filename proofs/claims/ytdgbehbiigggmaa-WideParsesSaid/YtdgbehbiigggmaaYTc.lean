/- Texts of digits, and the numbers that they tell. -/
import Derived.Test.YtdgbehbiigggmaaYTb
import Derived.Test.YtdgbehbiigggmaaYx9
namespace Go.Proofs.Ytdgbehbiigggmaa.Lib
set_option linter.unusedVariables false
set_option linter.unusedSimpArgs false
open Go.RowKit Go.Proofs.Ytdgbehbiigggmaa.Y Go.Proofs.YtdgbehbiigggmaaW.PrintWords Go.Proofs.YtdgbehbiigggmaaW.PrintLast Go.Proofs.YtdgbehbiigggmaaW.PrintMore

def Digs (l : List Int) : Prop := ∀ n ∈ l, 48 ≤ n ∧ n ≤ 57
def val (l : List Int) : Int := l.foldl (fun a d => a * 10 + (d - 48)) 0
theorem fold_split : ∀ (b : List Int) (c : Int), b.foldl (fun a d => a * 10 + (d - 48)) c = c * 10 ^ b.length + val b := by
  intro b
  induction b with
  | nil => intro c; simp [val]
  | cons x b ih =>
    intro c
    have e : (10 : Int) ^ (b.length + 1) = 10 ^ b.length * 10 := Int.pow_succ 10 _
    have h1 := ih (c * 10 + (x - 48))
    have h2 := ih (0 * 10 + (x - 48))
    show b.foldl _ (c * 10 + (x - 48)) = c * 10 ^ (b.length + 1) + b.foldl _ (0 * 10 + (x - 48))
    rw [h1, h2, e, Int.add_mul, Int.zero_mul, Int.zero_add, Int.mul_assoc, Int.mul_comm 10]
    omega
theorem val_app (a b : List Int) : val (a ++ b) = val a * 10 ^ b.length + val b := by
  show (a ++ b).foldl _ 0 = _
  rw [List.foldl_append, fold_split]; rfl
theorem val_snoc (a : List Int) (d : Int) : val (a ++ [d]) = val a * 10 + (d - 48) := by
  show (a ++ [d]).foldl _ 0 = _
  rw [List.foldl_append]; rfl
theorem val_one (d : Int) : val [d] = d - 48 := by show 0 * 10 + (d - 48) = _; omega
theorem val_cons (x : Int) (b : List Int) : val (x :: b) = (x - 48) * 10 ^ b.length + val b := by
  have h := val_app [x] b
  rw [val_one] at h
  exact h
theorem p10 (n : Nat) : 0 < (10 : Int) ^ n := Int.pow_pos (by omega)
theorem val_bd : ∀ (b : List Int), Digs b → 0 ≤ val b ∧ val b < 10 ^ b.length := by
  intro b
  induction b with
  | nil => intro _; exact ⟨by decide, by decide⟩
  | cons x b ih =>
    intro h
    have hb := ih (fun n hn => h n (List.mem_cons_of_mem _ hn))
    have hx := h x (List.mem_cons_self ..)
    have e : (10 : Int) ^ (b.length + 1) = 10 ^ b.length * 10 := Int.pow_succ 10 _
    have q1 : 0 ≤ (x - 48) * 10 ^ b.length := Int.mul_nonneg (by omega) (Int.le_of_lt (p10 _))
    have q2 : (x - 48) * 10 ^ b.length ≤ 9 * 10 ^ b.length := Int.mul_le_mul_of_nonneg_right (by omega) (Int.le_of_lt (p10 _))
    rw [val_cons, List.length_cons, e]
    omega
theorem val_ge (a b : List Int) (ha : 0 ≤ val a) (hb : Digs b) : val a ≤ val (a ++ b) := by
  have h := val_bd b hb
  have p : val a * 1 ≤ val a * 10 ^ b.length := Int.mul_le_mul_of_nonneg_left (p10 _) ha
  rw [val_app]; omega
/-- A first digit that isn't 0 makes it great. -/
theorem val_lead (x : Int) (b : List Int) (hx : 49 ≤ x) (hb : Digs b) : 10 ^ b.length ≤ val (x :: b) := by
  have h := val_bd b hb
  have q : 1 * 10 ^ b.length ≤ (x - 48) * 10 ^ b.length := Int.mul_le_mul_of_nonneg_right (by omega) (Int.le_of_lt (p10 _))
  rw [val_cons]; omega
def M2 : Int := 18446744073709551616 * 18446744073709551616
theorem bt_strg {xs : List Int} (h : ∀ n ∈ xs, 0 ≤ n ∧ n ≤ 255) (i : Int) : bt (strOfNums xs) i = rd xs i := by
  rw [← rd_bytesOf]
  have e : bytesOf (strOfNums xs) = xs := by
    unfold bytesOf
    rw [strOfNums_data, List.map_map]
    conv => rhs; rw [← List.map_id xs]
    refine List.map_congr_left fun n hn => ?_
    have b := h n hn
    show ((UInt8.ofNat n.toNat).toNat : Int) = n
    rw [UInt8.toNat_ofNat']
    omega
  rw [e]
theorem str_of (s : ByteArray) : strOfNums (bytesOf s) = s := by
  apply ByteArray.ext
  unfold strOfNums bytesOf
  rw [List.map_map]
  have e : s.data.toList.map ((fun n : Int => UInt8.ofNat n.toNat) ∘ fun b : UInt8 => (b.toNat : Int)) = s.data.toList := by
    conv => rhs; rw [← List.map_id s.data.toList]
    refine List.map_congr_left fun b _ => ?_
    show UInt8.ofNat ((b.toNat : Int)).toNat = b
    rw [Int.toNat_natCast, UInt8.ofNat_toNat]
  rw [e]
theorem bytes_bd (s : ByteArray) : ∀ n ∈ bytesOf s, 0 ≤ n ∧ n ≤ 255 := by
  intro n hn
  obtain ⟨b, _, rfl⟩ := List.mem_map.1 hn
  have := b.toNat_lt
  omega
theorem timesg (n0 n1 d : Int) (a0 : 0 ≤ n0) (a1 : n0 < 18446744073709551616) (b0 : 0 ≤ n1) (b1 : n1 < 18446744073709551616) (d0 : 0 ≤ d) (d1 : d < 10) :
    ∃ r0 r1 f, wide_Num_times.f n0 n1 d = some (r0, r1, f) ∧ 0 ≤ r0 ∧ r0 < 18446744073709551616 ∧ 0 ≤ r1 ∧ r1 < 18446744073709551616 ∧ (V n0 n1 * 10 + d < M2 → V r0 r1 = V n0 n1 * 10 + d ∧ f = false) ∧ (M2 ≤ V n0 n1 * 10 + d → f = true) := by
  by_cases c : V n0 n1 * 10 + d < M2
  · have vb := V_bd a0 a1 b0 b1
    have T := timesf n0 n1 d a0 a1 b0 b1 d0 d1 c
    unfold M2 at *
    exact ⟨_, _, _, T, by omega, by omega, by omega, by omega, fun _ => ⟨V_of _, rfl⟩, fun h => by omega⟩
  · have ev : V n0 n1 = n0 * 18446744073709551616 + n1 := rfl
    unfold M2 at *
    have M1 := mulf n1 10 b0 b1 (by omega) (by omega)
    have M2 := mulf n0 10 a0 a1 (by omega) (by omega)
    obtain ⟨l1, hl1⟩ : ∃ l, l = n1 * 10 / 18446744073709551616 := ⟨_, rfl⟩
    obtain ⟨l2, hl2⟩ : ∃ l, l = n1 * 10 % 18446744073709551616 := ⟨_, rfl⟩
    obtain ⟨m1, hm1⟩ : ∃ l, l = n0 * 10 / 18446744073709551616 := ⟨_, rfl⟩
    obtain ⟨m2, hm2⟩ : ∃ l, l = n0 * 10 % 18446744073709551616 := ⟨_, rfl⟩
    rw [← hl1, ← hl2] at M1
    rw [← hm1, ← hm2] at M2
    have A1 := addf m2 0 l1 l2 (by omega) (by omega) (by omega) (by omega) (by omega) (by omega) (by omega) (by omega)
    rw [show (0 + l2) / 18446744073709551616 = 0 by omega, show (0 + l2) % 18446744073709551616 = l2 by omega, Int.add_zero] at A1
    obtain ⟨s1, hs1⟩ : ∃ s, s = (m2 + l1) % 18446744073709551616 := ⟨_, rfl⟩
    rw [← hs1] at A1
    have A2 := addf s1 l2 0 d (by omega) (by omega) (by omega) (by omega) (by omega) (by omega) (by omega) (by omega)
    refine ⟨(s1 + 0 + (l2 + d) / 18446744073709551616) % 18446744073709551616, (l2 + d) % 18446744073709551616, true, ?_, by omega, by omega, by omega, by omega, fun h => absurd h c, fun _ => rfl⟩
    rw [wide_Num_times.f, M1, Option.bind_some, M2, Option.bind_some]
    dsimp only
    rw [A1, Option.bind_some, wu_in (x := d) (by omega) (by omega), off, Option.bind_some]
    dsimp only
    rw [A2, Option.bind_some]
    dsimp only
    by_cases g : m1 = 0
    · rw [if_pos g]
      by_cases h : 18446744073709551616 ≤ m2 + l1
      · rw [decide_eq_true h, if_pos (rfl : true = true)]
      · rw [decide_eq_false h, if_neg Bool.false_ne_true, decide_eq_true (by omega)]
    · rw [if_neg g]
/-- What reading digits leaves. -/
def got (v : Int) : Int × Int × Int := if v < M2 then (v / 18446744073709551616, v % 18446744073709551616, 0) else (0, 0, 8)
theorem pl : ∀ (b a : List Int) (past : Bool) (p0 p1 : Int), 0 ≤ p0 → p0 < 18446744073709551616 → 0 ≤ p1 → p1 < 18446744073709551616 → Digs (a ++ b) → (a ++ b).length < 1000 → ((past = false ∧ V p0 p1 = val a ∧ val a < M2) ∨ (past = true ∧ M2 ≤ val a)) → ∀ k, b.length + 1 ≤ k → wide_Parse.l0 k (strOfNums (a ++ b)) past ((a ++ b).length : Int) (a.length : Int) p0 p1 = some (got (val (a ++ b))) := by
  intro b
  induction b with
  | nil =>
    intro a past p0 p1 a0 a1 b0 b1 hd hl hp k hk
    obtain ⟨k, rfl⟩ : ∃ j, k = j + 1 := ⟨k - 1, by omega⟩
    rw [List.append_nil, wide_Parse.l0, if_neg (by omega)]
    unfold got
    rcases hp with ⟨rfl, h1, h2⟩ | ⟨rfl, h1⟩
    · have ev : V p0 p1 = p0 * 18446744073709551616 + p1 := rfl
      rw [if_neg Bool.false_ne_true, if_pos h2, show val a / 18446744073709551616 = p0 by omega, show val a % 18446744073709551616 = p1 by omega]
    · rw [if_pos (rfl : true = true), if_neg (by omega)]
  | cons d b ih =>
    intro a past p0 p1 a0 a1 b0 b1 hd hl hp k hk
    obtain ⟨k, rfl⟩ : ∃ j, k = j + 1 := ⟨k - 1, by simp only [List.length_cons] at hk; omega⟩
    have dd := hd d (List.mem_append.2 (.inr (List.mem_cons_self ..)))
    have da : Digs a := fun n hn => hd n (List.mem_append.2 (.inl hn))
    have va := (val_bd a da).1
    have e : a ++ d :: b = (a ++ [d]) ++ b := by simp
    have vs := val_snoc a d
    obtain ⟨r0, r1, f, T, c0, c1, c2, c3, t1, t2⟩ := timesg p0 p1 (d - 48) a0 a1 b0 b1 (by omega) (by omega)
    have g : bt (strOfNums (a ++ d :: b)) (a.length : Int) = d := by rw [bt_str hd]; exact get_mid _ _ _
    have ln : (a.length : Int) < ((a ++ d :: b).length : Int) := by simp only [List.length_append, List.length_cons]; omega
    have l1 : ((a ++ [d]).length : Int) = (a.length : Int) + 1 := by simp
    have hk2 : b.length + 1 ≤ k := by simp only [List.length_cons] at hk; omega
    rw [wide_Parse.l0, if_pos ln, if_pos (by omega), if_pos (by rw [strOfNums_size]; exact ln), g, if_neg (by omega), if_neg (by omega), show (d - 48) % 256 = d - 48 by omega, T, Option.bind_some, w64 (by omega) (by omega)]
    dsimp only
    rcases hp with ⟨rfl, h1, h2⟩ | ⟨rfl, h1⟩
    · rw [if_neg Bool.false_ne_true]
      have J := ih (a ++ [d]) f r0 r1 c0 c1 c2 c3 (by rw [← e]; exact hd) (by rw [← e]; exact hl) (by
        rw [vs]
        by_cases z : V p0 p1 * 10 + (d - 48) < M2
        · obtain ⟨y1, y2⟩ := t1 z
          exact .inl ⟨y2, by omega, by omega⟩
        · exact .inr ⟨t2 (by omega), by omega⟩) k hk2
      rw [← e, l1] at J
      exact J
    · rw [if_pos (rfl : true = true)]
      have J := ih (a ++ [d]) true r0 r1 c0 c1 c2 c3 (by rw [← e]; exact hd) (by rw [← e]; exact hl) (.inr ⟨rfl, by rw [vs]; omega⟩) k hk2
      rw [← e, l1] at J
      exact J
end Go.Proofs.Ytdgbehbiigggmaa.Lib

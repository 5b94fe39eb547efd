/- The document's reading of digits, and the order of texts. -/
import Derived.Test.YtdgbehbiigggmaaYTc
import Derived.Lib.Strings
namespace Go.Proofs.Ytdgbehbiigggmaa.Lib
set_option linter.unusedVariables false
set_option linter.unusedSimpArgs false
open Go.RowKit Go.Proofs.Ytdgbehbiigggmaa.Y Go.Proofs.YtdgbehbiigggmaaW.PrintWords Go.Proofs.YtdgbehbiigggmaaW.PrintLast Go.Proofs.YtdgbehbiigggmaaW.PrintMore

/-- One that is no digit is an error of the text. -/
theorem pn : ∀ (b a : List Int) (past : Bool) (p0 p1 : Int), 0 ≤ p0 → p0 < 18446744073709551616 → 0 ≤ p1 → p1 < 18446744073709551616 → (∀ n ∈ a ++ b, 0 ≤ n ∧ n ≤ 255) → (a ++ b).length < 1000 → ¬ Digs b → ∀ k, b.length + 1 ≤ k → wide_Parse.l0 k (strOfNums (a ++ b)) past ((a ++ b).length : Int) (a.length : Int) p0 p1 = some (0, 0, 9) := by
  intro b
  induction b with
  | nil => intro a past p0 p1 a0 a1 b0 b1 hd hl hn; exact absurd (fun n h => by cases h) hn
  | cons d b ih =>
    intro a past p0 p1 a0 a1 b0 b1 hd hl hn k hk
    obtain ⟨k, rfl⟩ : ∃ j, k = j + 1 := ⟨k - 1, by simp only [List.length_cons] at hk; omega⟩
    have e : a ++ d :: b = (a ++ [d]) ++ b := by simp
    have g : bt (strOfNums (a ++ d :: b)) (a.length : Int) = d := by rw [bt_strg hd]; exact get_mid _ _ _
    have ln : (a.length : Int) < ((a ++ d :: b).length : Int) := by simp only [List.length_append, List.length_cons]; omega
    have l1 : ((a ++ [d]).length : Int) = (a.length : Int) + 1 := by simp
    have hk2 : b.length + 1 ≤ k := by simp only [List.length_cons] at hk; omega
    rw [wide_Parse.l0, if_pos ln, if_pos (by omega), if_pos (by rw [strOfNums_size]; exact ln), g]
    by_cases c : d < 48
    · rw [if_pos c]
    · rw [if_neg c]
      by_cases c2 : d > 57
      · rw [if_pos c2]
      · obtain ⟨r0, r1, f, T, c0, c1, c3, c4, t1, t2⟩ := timesg p0 p1 (d - 48) a0 a1 b0 b1 (by omega) (by omega)
        have hb : ¬ Digs b := fun h => hn (fun n hm => by
          rcases List.mem_cons.1 hm with rfl | h2
          · omega
          · exact h n h2)
        have J := fun q => ih (a ++ [d]) q r0 r1 c0 c1 c3 c4 (by rw [← e]; exact hd) (by rw [← e]; exact hl) hb k hk2
        rw [← e, l1] at J
        rw [if_neg c2, show (d - 48) % 256 = d - 48 by omega, T, Option.bind_some, w64 (by omega) (by omega)]
        dsimp only
        cases past
        · rw [if_neg Bool.false_ne_true]; exact J f
        · rw [if_pos (rfl : true = true)]; exact J true
/-- What the document's tests leave behind its look at each byte. -/
def rtest (k : Nat) (s : ByteArray) : Option (Int × Int × Int) := if (s.size : Int) = 0 then overfallref01_Parse.j1 k s true else (if (s.size : Int) > 1 then (if 0 < (s.size : Int) then overfallref01_Parse.j1 k s ((bt s 0) == 48) else none) else overfallref01_Parse.j1 k s false)
theorem rl0 : ∀ (b a : List Int), Digs (a ++ b) → (a ++ b).length < 1000 → ∀ k, overfallref01_Parse.l0 (k + b.length + 1) (strOfNums (a ++ b)) (a.length : Int) = rtest k (strOfNums (a ++ b)) := by
  intro b
  induction b with
  | nil =>
    intro a hd hl k
    rw [List.append_nil, List.length_nil, Nat.add_zero, overfallref01_Parse.l0, if_neg (by rw [strOfNums_size]; omega)]; rfl
  | cons d b ih =>
    intro a hd hl k
    have dd := hd d (List.mem_append.2 (.inr (List.mem_cons_self ..)))
    have e : a ++ d :: b = (a ++ [d]) ++ b := by simp
    have g : bt (strOfNums (a ++ d :: b)) (a.length : Int) = d := by rw [bt_str hd]; exact get_mid _ _ _
    have ln : (a.length : Int) < ((a ++ d :: b).length : Int) := by simp only [List.length_append, List.length_cons]; omega
    have l1 : ((a ++ [d]).length : Int) = (a.length : Int) + 1 := by simp
    have J := ih (a ++ [d]) (by rw [← e]; exact hd) (by rw [← e]; exact hl) k
    rw [← e, l1] at J
    rw [List.length_cons, show k + (b.length + 1) + 1 = (k + b.length + 1) + 1 by omega, overfallref01_Parse.l0, if_pos (by rw [strOfNums_size]; exact ln), if_pos (by omega), g, if_neg (by omega), if_neg (by omega), w64 (by omega) (by omega)]
    exact J
theorem rl0n : ∀ (b a : List Int), (∀ n ∈ a ++ b, 0 ≤ n ∧ n ≤ 255) → (a ++ b).length < 1000 → ¬ Digs b → ∀ k, overfallref01_Parse.l0 (k + b.length + 1) (strOfNums (a ++ b)) (a.length : Int) = some (0, 0, 9) := by
  intro b
  induction b with
  | nil => intro a hd hl hn; exact absurd (fun n h => by cases h) hn
  | cons d b ih =>
    intro a hd hl hn k
    have e : a ++ d :: b = (a ++ [d]) ++ b := by simp
    have g : bt (strOfNums (a ++ d :: b)) (a.length : Int) = d := by rw [bt_strg hd]; exact get_mid _ _ _
    have ln : (a.length : Int) < ((a ++ d :: b).length : Int) := by simp only [List.length_append, List.length_cons]; omega
    have l1 : ((a ++ [d]).length : Int) = (a.length : Int) + 1 := by simp
    rw [List.length_cons, show k + (b.length + 1) + 1 = (k + b.length + 1) + 1 by omega, overfallref01_Parse.l0, if_pos (by rw [strOfNums_size]; exact ln), if_pos (by omega), g]
    by_cases c : d < 48
    · rw [if_pos c]
    · rw [if_neg c]
      by_cases c2 : d > 57
      · rw [if_pos c2]
      · have hb : ¬ Digs b := fun h => hn (fun n hm => by
          rcases List.mem_cons.1 hm with rfl | h2
          · omega
          · exact h n h2)
        have J := ih (a ++ [d]) (by rw [← e]; exact hd) (by rw [← e]; exact hl) hb k
        rw [← e, l1] at J
        rw [if_neg c2, w64 (by omega) (by omega)]
        exact J
theorem rl1 : ∀ (b a : List Int) (p0 p1 : Int), 0 ≤ p0 → p0 < 18446744073709551616 → 0 ≤ p1 → p1 < 18446744073709551616 → Digs (a ++ b) → (a ++ b).length < 1000 → V p0 p1 = val a → val (a ++ b) < M2 → ∀ k, overfallref01_Parse.l1 (k + b.length + 200) (strOfNums (a ++ b)) (a.length : Int) p0 p1 = some (val (a ++ b) / 18446744073709551616, val (a ++ b) % 18446744073709551616, 0) := by
  intro b
  induction b with
  | nil =>
    intro a p0 p1 a0 a1 b0 b1 hd hl hv hm k
    have ev : V p0 p1 = p0 * 18446744073709551616 + p1 := rfl
    rw [List.append_nil, List.length_nil, Nat.add_zero, show k + 200 = (k + 199) + 1 from rfl, overfallref01_Parse.l1, if_neg (by rw [strOfNums_size]; omega), show val a / 18446744073709551616 = p0 by omega, show val a % 18446744073709551616 = p1 by omega]
  | cons d b ih =>
    intro a p0 p1 a0 a1 b0 b1 hd hl hv hm k
    have dd := hd d (List.mem_append.2 (.inr (List.mem_cons_self ..)))
    have da : Digs a := fun n hn => hd n (List.mem_append.2 (.inl hn))
    have db : Digs b := fun n hn => hd n (List.mem_append.2 (.inr (List.mem_cons_of_mem _ hn)))
    have va := (val_bd a da).1
    have e : a ++ d :: b = (a ++ [d]) ++ b := by simp
    have vs := val_snoc a d
    have mono := val_ge (a ++ [d]) b (by omega) db
    rw [← e] at mono
    have g : bt (strOfNums (a ++ d :: b)) (a.length : Int) = d := by rw [bt_str hd]; exact get_mid _ _ _
    have ln : (a.length : Int) < ((a ++ d :: b).length : Int) := by simp only [List.length_append, List.length_cons]; omega
    have l1 : ((a ++ [d]).length : Int) = (a.length : Int) + 1 := by simp
    have ev : V p0 p1 = p0 * 18446744073709551616 + p1 := rfl
    unfold M2 at hm
    have L := rleftf (k + b.length + 50) p0 p1 3 a0 a1 b0 b1
    rw [show (2 : Int) ^ (min (3 : Int) 128).toNat = 8 by decide] at L
    have W := rtwicef (k + b.length + 180) p0 p1 a0 a1 b0 b1
    obtain ⟨v, hv2⟩ : ∃ v, v = V p0 p1 := ⟨_, rfl⟩
    rw [← ev, ← hv2] at W
    rw [← hv2] at L hv
    have A := raddf (k + b.length + 180) (v * 8 / 18446744073709551616 % 18446744073709551616) (v * 8 % 18446744073709551616) (2 * v / 18446744073709551616 % 18446744073709551616) (2 * v % 18446744073709551616) (by omega) (by omega) (by omega) (by omega) (by omega) (by omega) (by omega) (by omega)
    obtain ⟨q0, hq0⟩ : ∃ q, q = (v * 8 / 18446744073709551616 % 18446744073709551616 + 2 * v / 18446744073709551616 % 18446744073709551616 + (v * 8 % 18446744073709551616 + 2 * v % 18446744073709551616) / 18446744073709551616) % 18446744073709551616 := ⟨_, rfl⟩
    obtain ⟨q1, hq1⟩ : ∃ q, q = (v * 8 % 18446744073709551616 + 2 * v % 18446744073709551616) % 18446744073709551616 := ⟨_, rfl⟩
    rw [← hq0, ← hq1] at A
    have qv : q0 * 18446744073709551616 + q1 = v * 10 := by omega
    have A2 := raddf (k + b.length + 180) q0 q1 0 (d - 48) (by omega) (by omega) (by omega) (by omega) (by omega) (by omega) (by omega) (by omega)
    obtain ⟨r0, hr0⟩ : ∃ q, q = (q0 + 0 + (q1 + (d - 48)) / 18446744073709551616) % 18446744073709551616 := ⟨_, rfl⟩
    obtain ⟨r1, hr1⟩ : ∃ q, q = (q1 + (d - 48)) % 18446744073709551616 := ⟨_, rfl⟩
    rw [← hr0, ← hr1] at A2
    have rv : V r0 r1 = v * 10 + (d - 48) := by show r0 * 18446744073709551616 + r1 = _; omega
    have J := ih (a ++ [d]) r0 r1 (by omega) (by omega) (by omega) (by omega) (by rw [← e]; exact hd) (by rw [← e]; exact hl) (by rw [rv, vs, hv]) (by rw [← e]; exact hm) k
    rw [← e, l1] at J
    rw [List.length_cons, show k + (b.length + 1) + 200 = (k + b.length + 200) + 1 by omega, overfallref01_Parse.l1, if_pos (by rw [strOfNums_size]; exact ln), L, Option.bind_some, W, Option.bind_some]
    dsimp only
    rw [A, Option.bind_some, if_pos (by omega), g, show (d - 48) % 256 = d - 48 by omega]
    dsimp only
    rw [A2, Option.bind_some, w64 (by omega) (by omega)]
    exact J
/-- Bytes of digits, as the model orders them, are ordered as their numbers. -/
theorem less_val : ∀ (a b : List Int), Digs a → Digs b → a.length = b.length → Op.bytesLess (a.map fun n => UInt8.ofNat n.toNat) (b.map fun n => UInt8.ofNat n.toNat) = decide (val a < val b) := by
  intro a
  induction a with
  | nil =>
    intro b _ _ h
    cases b with
    | nil => rfl
    | cons y b => simp at h
  | cons x a ih =>
    intro b ha hb h
    cases b with
    | nil => simp at h
    | cons y b =>
      have hl : a.length = b.length := by simpa using h
      have hx := ha x (List.mem_cons_self ..)
      have hy := hb y (List.mem_cons_self ..)
      have da : Digs a := fun n hn => ha n (List.mem_cons_of_mem _ hn)
      have db : Digs b := fun n hn => hb n (List.mem_cons_of_mem _ hn)
      have va := val_bd a da
      have vb := val_bd b db
      have I := ih b da db hl
      have tx : (UInt8.ofNat x.toNat).toNat = x.toNat := by rw [UInt8.toNat_ofNat']; omega
      have ty : (UInt8.ofNat y.toNat).toNat = y.toNat := by rw [UInt8.toNat_ofNat']; omega
      rw [List.map_cons, List.map_cons]
      simp only [Op.bytesLess, I]
      rw [val_cons, val_cons, hl]
      rw [hl] at va
      rcases (by omega : x < y ∨ x = y ∨ y < x) with c | c | c
      · have h1 : UInt8.ofNat x.toNat < UInt8.ofNat y.toNat := by show (UInt8.ofNat x.toNat).toNat < (UInt8.ofNat y.toNat).toNat; omega
        have q : (x - 48 + 1) * 10 ^ b.length ≤ (y - 48) * 10 ^ b.length := Int.mul_le_mul_of_nonneg_right (by omega) (Int.le_of_lt (p10 _))
        rw [Int.add_mul, Int.one_mul] at q
        rw [decide_eq_true (show (x - 48) * 10 ^ b.length + val a < (y - 48) * 10 ^ b.length + val b by omega)]
        simp [h1]
      · subst c
        have h1 : ¬ UInt8.ofNat x.toNat < UInt8.ofNat x.toNat := fun z => absurd (show (UInt8.ofNat x.toNat).toNat < (UInt8.ofNat x.toNat).toNat from z) (by omega)
        simp [h1]
      · have h1 : ¬ UInt8.ofNat x.toNat < UInt8.ofNat y.toNat := fun z => absurd (show (UInt8.ofNat x.toNat).toNat < (UInt8.ofNat y.toNat).toNat from z) (by omega)
        have h2 : (UInt8.ofNat x.toNat == UInt8.ofNat y.toNat) = false := by
          rw [beq_eq_false_iff_ne]
          intro z
          have := congrArg UInt8.toNat z
          omega
        have q : (y - 48 + 1) * 10 ^ b.length ≤ (x - 48) * 10 ^ b.length := Int.mul_le_mul_of_nonneg_right (by omega) (Int.le_of_lt (p10 _))
        rw [Int.add_mul, Int.one_mul] at q
        rw [decide_eq_false (show ¬ (x - 48) * 10 ^ b.length + val a < (y - 48) * 10 ^ b.length + val b by omega)]
        simp [h1, h2]
/-- A number has just one text. -/
theorem lsd_val : ∀ (f n : Nat) (l : List Int), l.length = n → n ≤ f → 1 ≤ n → Digs l → (∀ x t, l = x :: t → x ≠ 48) → lsd f (val l) = l.reverse := by
  intro f
  induction f with
  | zero => intro n l hn h h1; omega
  | succ f ih =>
    intro n l hn h h1 hd hx
    have hne : l ≠ [] := by rintro rfl; simp at hn; omega
    obtain ⟨m, d, rfl⟩ : ∃ m d, l = m ++ [d] := ⟨l.dropLast, l.getLast hne, (List.dropLast_concat_getLast hne).symm⟩
    have dd := hd d (List.mem_append.2 (.inr (List.mem_cons_self ..)))
    have dm : Digs m := fun n hn => hd n (List.mem_append.2 (.inl hn))
    have vm := (val_bd m dm).1
    have vs := val_snoc m d
    have R : lsd (f + 1) (val (m ++ [d])) = (48 + val (m ++ [d]) % 10) :: (if val (m ++ [d]) / 10 = 0 then [] else lsd f (val (m ++ [d]) / 10)) := rfl
    rw [R, vs, show (val m * 10 + (d - 48)) / 10 = val m by omega, show 48 + (val m * 10 + (d - 48)) % 10 = d by omega, List.reverse_append]
    cases m with
    | nil => rfl
    | cons x t =>
      have hx2 := hx x (t ++ [d]) rfl
      have d1 := dm x (List.mem_cons_self ..)
      have lead := val_lead x t (by omega) (fun n hn => dm n (List.mem_cons_of_mem _ hn))
      have pp := p10 t.length
      rw [if_neg (by omega), ih (x :: t).length (x :: t) rfl (by simp only [List.length_append, List.length_cons, List.length_nil] at hn ⊢; omega) (by simp) dm (fun y u hu => by cases hu; exact hx2)]
      rfl
end Go.Proofs.Ytdgbehbiigggmaa.Lib

/- WideParses' pure statement: any text is the document's number, or its error; one that is read has just its own digits. -/
import Derived.Test.YtdgbehbiigggmaaYTd
import Derived.Test.YtdgbehbiigggmaaYx4
import Derived.Test.YtdgbehbiigggmaaYx10
namespace Go.Proofs.Ytdgbehbiigggmaa.Pure
set_option linter.unusedVariables false
set_option linter.unusedSimpArgs false
open Go.RowKit Go.Proofs.Ytdgbehbiigggmaa.Y Go.Proofs.YtdgbehbiigggmaaW.PrintWords Go.Proofs.YtdgbehbiigggmaaW.PrintLast Go.Proofs.YtdgbehbiigggmaaW.PrintMore
open Go.Proofs.Ytdgbehbiigggmaa.Lib

theorem awake_at : overfalllaw01_awake.f 100 = some true := by decide +kernel
theorem awakef : ∃ K, ∀ k, K ≤ k → overfalllaw01_awake.f k = some true := Ev.of (g := fun k => overfalllaw01_awake.f k) (fun k => overfalllaw01_awake.mono k) awake_at
theorem list_of (xs : List Int) : (strOfNums xs).toList = xs.map fun n => UInt8.ofNat n.toNat := by
  rw [ByteArray.toList_eq, strOfNums_data]
theorem list_ne {xs : List Int} (h : xs ≠ []) : ¬ (strOfNums xs).toList = ([] : List UInt8) := by
  rw [list_of]
  intro z
  exact h (List.map_eq_nil_iff.1 z)
/-- What is no text of a number. -/
def Bad (xs : List Int) : Prop := xs = [] ∨ ¬ Digs xs ∨ (xs.length > 1 ∧ rd xs 0 = 48)
theorem pf_bad (xs : List Int) (h : ∀ n ∈ xs, 0 ≤ n ∧ n ≤ 255) (hl : xs.length < 1000) (hb : Bad xs) (k : Nat) (hk : xs.length + 3 ≤ k) : wide_Parse.f k (strOfNums xs) = some (0, 0, 9) := by
  obtain ⟨k, rfl⟩ : ∃ j, k = j + 1 := ⟨k - 1, by omega⟩
  rw [wide_Parse.f]
  by_cases e : xs = []
  · subst e
    rw [if_pos (by rw [list_of]; rfl), wide_Parse.j0, if_pos (rfl : true = true)]
  · have g : bt (strOfNums xs) 0 = rd xs 0 := bt_strg h 0
    have P := fun (hd : ¬ Digs xs) => pn xs [] false 0 0 (by omega) (by omega) (by omega) (by omega) h hl hd k (by omega)
    have lp : 0 < xs.length := List.length_pos_iff.2 e
    rw [if_neg (list_ne e), strOfNums_size, g]
    by_cases c : (xs.length : Int) > 1
    · rw [if_pos c, if_pos (by omega)]
      by_cases z : rd xs 0 = 48
      · rw [z, wide_Parse.j0, if_pos (by decide)]
      · have z2 : (rd xs 0 == 48) = false := by rw [beq_eq_false_iff_ne]; exact z
        rw [z2, wide_Parse.j0, if_neg Bool.false_ne_true, strOfNums_size]
        rcases hb with hb | hb | hb
        · exact absurd hb e
        · exact P hb
        · exact absurd hb.2 z
    · rw [if_neg c, wide_Parse.j0, if_neg Bool.false_ne_true, strOfNums_size]
      rcases hb with hb | hb | hb
      · exact absurd hb e
      · exact P hb
      · omega
theorem pf_good (xs : List Int) (h : Digs xs) (hl : xs.length < 1000) (e : xs ≠ []) (hz : ¬ (xs.length > 1 ∧ rd xs 0 = 48)) (k : Nat) (hk : xs.length + 3 ≤ k) : wide_Parse.f k (strOfNums xs) = some (got (val xs)) := by
  obtain ⟨k, rfl⟩ : ∃ j, k = j + 1 := ⟨k - 1, by omega⟩
  have g : bt (strOfNums xs) 0 = rd xs 0 := bt_str h 0
  have P := pl xs [] false 0 0 (by omega) (by omega) (by omega) (by omega) h hl (.inl ⟨rfl, rfl, by unfold M2; decide⟩) k (by omega)
  rw [wide_Parse.f, if_neg (list_ne e), strOfNums_size, g]
  by_cases c : (xs.length : Int) > 1
  · have z2 : (rd xs 0 == 48) = false := by rw [beq_eq_false_iff_ne]; exact fun z => hz ⟨by omega, z⟩
    rw [if_pos c, if_pos (by omega), z2, wide_Parse.j0, if_neg Bool.false_ne_true, strOfNums_size]
    exact P
  · rw [if_neg c, wide_Parse.j0, if_neg Bool.false_ne_true, strOfNums_size]
    exact P
theorem rf_bad (xs : List Int) (h : ∀ n ∈ xs, 0 ≤ n ∧ n ≤ 255) (hl : xs.length < 1000) (hb : Bad xs) (k : Nat) : overfallref01_Parse.f (k + 1 + xs.length + 1) (strOfNums xs) = some (0, 0, 9) := by
  rw [overfallref01_Parse.f]
  by_cases d : Digs xs
  · have R := rl0 xs [] d hl (k + 1)
    rw [show ([] ++ xs) = xs from rfl, show ((([] : List Int).length : Nat) : Int) = 0 from rfl] at R
    rw [R]
    unfold rtest
    rw [strOfNums_size]
    rcases hb with hb | hb | hb
    · subst hb
      rw [if_pos (by decide), overfallref01_Parse.j1, if_pos (rfl : true = true)]
    · exact absurd d hb
    · have g : bt (strOfNums xs) 0 = rd xs 0 := bt_str d 0
      rw [if_neg (by omega), if_pos (by omega), if_pos (by omega), g, hb.2, overfallref01_Parse.j1, if_pos (by decide)]
  · have R := rl0n xs [] h hl d (k + 1)
    exact R
def most : List Int := [51, 52, 48, 50, 56, 50, 51, 54, 54, 57, 50, 48, 57, 51, 56, 52, 54, 51, 52, 54, 51, 51, 55, 52, 54, 48, 55, 52, 51, 49, 55, 54, 56, 50, 49, 49, 52, 53, 53]
theorem most_val : val most = 18446744073709551616 * 18446744073709551616 - 1 := by decide
theorem most_digs : Digs most := by unfold Digs; decide
theorem most_list : ([51, 52, 48, 50, 56, 50, 51, 54, 54, 57, 50, 48, 57, 51, 56, 52, 54, 51, 52, 54, 51, 51, 55, 52, 54, 48, 55, 52, 51, 49, 55, 54, 56, 50, 49, 49, 52, 53, 53] : List UInt8) = most.map fun n => UInt8.ofNat n.toNat := by decide
theorem rf_good (xs : List Int) (h : Digs xs) (hl : xs.length < 1000) (e : xs ≠ []) (hz : ¬ (xs.length > 1 ∧ rd xs 0 = 48)) (k : Nat) : overfallref01_Parse.f (k + xs.length + 202 + xs.length + 1) (strOfNums xs) = some (got (val xs)) := by
  have lp : 0 < xs.length := List.length_pos_iff.2 e
  have vb := val_bd xs h
  rw [overfallref01_Parse.f]
  have R := rl0 xs [] h hl (k + xs.length + 202)
  rw [show ([] ++ xs) = xs from rfl, show ((([] : List Int).length : Nat) : Int) = 0 from rfl] at R
  rw [R]
  unfold rtest
  have g : bt (strOfNums xs) 0 = rd xs 0 := bt_str h 0
  have to1 : (if (xs.length : Int) = 0 then overfallref01_Parse.j1 (k + xs.length + 202) (strOfNums xs) true else (if (xs.length : Int) > 1 then (if 0 < (xs.length : Int) then overfallref01_Parse.j1 (k + xs.length + 202) (strOfNums xs) ((bt (strOfNums xs) 0) == 48) else none) else overfallref01_Parse.j1 (k + xs.length + 202) (strOfNums xs) false)) = overfallref01_Parse.j1 (k + xs.length + 202) (strOfNums xs) false := by
    rw [if_neg (by omega), g]
    by_cases c : (xs.length : Int) > 1
    · have z2 : (rd xs 0 == 48) = false := by rw [beq_eq_false_iff_ne]; exact fun z => hz ⟨by omega, z⟩
      rw [if_pos c, if_pos (by omega), z2]
    · rw [if_neg c]
  rw [strOfNums_size, to1, overfallref01_Parse.j1, if_neg Bool.false_ne_true, strOfNums_size]
  have L := fun (hm : val xs < M2) => rl1 xs [] 0 0 (by omega) (by omega) (by omega) (by omega) h hl rfl hm k
  have J2 : ∀ q : Bool, (q = true ↔ M2 ≤ val xs) → overfallref01_Parse.j2 (k + xs.length + 201) (strOfNums xs) q = some (got (val xs)) := by
    intro q hq
    unfold got
    rw [overfallref01_Parse.j2]
    cases q
    · have hm : val xs < M2 := by
        by_cases z : val xs < M2
        · exact z
        · exact absurd (hq.2 (by omega)) Bool.false_ne_true
      rw [if_neg Bool.false_ne_true, if_pos hm]
      exact L hm
    · have := hq.1 rfl
      rw [if_pos (rfl : true = true), if_neg (by omega)]
  by_cases c : (xs.length : Int) > 39
  · rw [if_pos c]
    refine J2 true ⟨fun _ => ?_, fun _ => rfl⟩
    cases xs with
    | nil => exact absurd rfl e
    | cons x t =>
      have hx := h x (List.mem_cons_self ..)
      have h0 : rd (x :: t) 0 = x := rfl
      have x48 : ¬ x = 48 := fun z => hz ⟨by omega, by rw [h0]; exact z⟩
      have lead := val_lead x t (by omega) (fun n hn => h n (List.mem_cons_of_mem _ hn))
      obtain ⟨m, hm⟩ : ∃ m, t.length = 39 + m := ⟨t.length - 39, by simp only [List.length_cons] at c; omega⟩
      rw [hm, Int.pow_add] at lead
      have q := Int.mul_le_mul_of_nonneg_left (show (1 : Int) ≤ 10 ^ m from p10 m) (show (0 : Int) ≤ 10 ^ 39 by decide)
      have p39 : (18446744073709551616 * 18446744073709551616 : Int) ≤ 10 ^ 39 * 1 := by decide
      unfold M2
      omega
  · rw [if_neg c]
    by_cases c2 : (xs.length : Int) = 39
    · rw [if_pos c2, list_of, most_list, less_val most xs most_digs h (by show 39 = _; omega), most_val]
      refine J2 _ ?_
      rw [decide_eq_true_iff]
      unfold M2
      omega
    · rw [if_neg c2]
      refine J2 false ⟨fun z => absurd z Bool.false_ne_true, fun z => ?_⟩
      exfalso
      obtain ⟨m, hm⟩ : ∃ m, 38 = xs.length + m := ⟨38 - xs.length, by omega⟩
      have q : (10 : Int) ^ xs.length * 1 ≤ 10 ^ xs.length * 10 ^ m := Int.mul_le_mul_of_nonneg_left (p10 m) (Int.le_of_lt (p10 _))
      rw [← Int.pow_add, ← hm] at q
      have p38 : (10 : Int) ^ 38 < 18446744073709551616 * 18446744073709551616 := by decide
      unfold M2 at z
      omega
theorem parses_abs (k : Nat) (s : ByteArray) (r : Int × Int × Int) (h1 : wide_Parse.f k s = some r) (h2 : overfallref01_Parse.f k s = some r) (h3 : r.2.2 = 0 → wide_Num_Text.f k r.1 r.2.1 = some s) : overfalllaw01_WideParses.j0 (k + 1) s = some true := by
  obtain ⟨x, y, c⟩ := r
  rw [overfalllaw01_WideParses.j0, h1, Option.bind_some, h2, Option.bind_some, overfalllaw01_own.f, Option.bind_some]
  dsimp only at h3 ⊢
  rw [if_pos (by simp), if_pos (rfl : c = c)]
  by_cases z : c = 0
  · rw [if_pos z, h3 z, Option.bind_some, beq_self_eq_true]
  · rw [if_neg z]
theorem txt_val (xs : List Int) (h : Digs xs) (hl : xs.length ≤ 40) (e : xs ≠ []) (hz : ¬ (xs.length > 1 ∧ rd xs 0 = 48)) : txt (val xs) = xs := by
  have lp : 0 < xs.length := List.length_pos_iff.2 e
  unfold txt
  by_cases c : xs = [48]
  · subst c; decide
  · rw [lsd_val 40 xs.length xs rfl hl lp h, List.reverse_reverse]
    intro x t hx z
    subst hx
    subst z
    by_cases q : t = []
    · subst q; exact c rfl
    · have := List.length_pos_iff.2 q
      exact hz ⟨by simp only [List.length_cons]; omega, rfl⟩
theorem parses_core (xs : List Int) (h : ∀ n ∈ xs, 0 ≤ n ∧ n ≤ 255) (hl : xs.length ≤ 60) : ∃ K, ∀ k, K ≤ k → overfalllaw01_WideParses.j0 k (strOfNums xs) = some true := by
  by_cases b : Bad xs
  · refine ⟨xs.length + 20, fun k hk => ?_⟩
    obtain ⟨k, rfl⟩ : ∃ j, k = j + 1 + xs.length + 1 + 1 := ⟨k - xs.length - 3, by omega⟩
    exact parses_abs _ _ (0, 0, 9) (pf_bad xs h (by omega) b _ (by omega)) (rf_bad xs h (by omega) b k) (fun z => absurd (show (9 : Int) = 0 from z) (by decide))
  · have e : xs ≠ [] := fun z => b (.inl z)
    have d : Digs xs := Classical.byContradiction fun z => b (.inr (.inl z))
    have hz : ¬ (xs.length > 1 ∧ rd xs 0 = 48) := fun z => b (.inr (.inr z))
    have vb := val_bd xs d
    by_cases m : val xs < M2
    · have m2 := m
      unfold M2 at m2
      have ge : got (val xs) = (val xs / 18446744073709551616, val xs % 18446744073709551616, 0) := if_pos m
      obtain ⟨K, T⟩ := ptextf (val xs / 18446744073709551616) (val xs % 18446744073709551616) (by omega) (by omega) (by omega) (by omega)
      rw [V_of] at T
      have l40 : xs.length ≤ 40 := by
        by_cases z : xs.length ≤ 40
        · exact z
        · exfalso
          cases xs with
          | nil => exact e rfl
          | cons x t =>
            have hx := d x (List.mem_cons_self ..)
            have x48 : ¬ x = 48 := fun z2 => hz ⟨by omega, z2⟩
            have lead := val_lead x t (by omega) (fun n hn => d n (List.mem_cons_of_mem _ hn))
            obtain ⟨p, hp⟩ : ∃ p, t.length = 39 + p := ⟨t.length - 39, by simp only [List.length_cons] at z; omega⟩
            rw [hp, Int.pow_add] at lead
            have q := Int.mul_le_mul_of_nonneg_left (show (1 : Int) ≤ 10 ^ p from p10 p) (show (0 : Int) ≤ 10 ^ 39 by decide)
            have p39 : (18446744073709551616 * 18446744073709551616 : Int) ≤ 10 ^ 39 * 1 := by decide
            omega
      rw [txt_val xs d l40 e hz] at T
      refine ⟨K + 600, fun k hk => ?_⟩
      obtain ⟨k, rfl⟩ : ∃ j, k = j + xs.length + 202 + xs.length + 1 + 1 := ⟨k - 204 - 2 * xs.length, by omega⟩
      refine parses_abs _ _ (got (val xs)) (pf_good xs d (by omega) e hz _ (by omega)) (rf_good xs d (by omega) e hz k) (fun _ => ?_)
      rw [ge]
      exact T _ (by omega)
    · have ge : got (val xs) = (0, 0, 8) := if_neg m
      refine ⟨600, fun k hk => ?_⟩
      obtain ⟨k, rfl⟩ : ∃ j, k = j + xs.length + 202 + xs.length + 1 + 1 := ⟨k - 204 - 2 * xs.length, by omega⟩
      refine parses_abs _ _ (got (val xs)) (pf_good xs d (by omega) e hz _ (by omega)) (rf_good xs d (by omega) e hz k) (fun z => ?_)
      rw [ge] at z
      exact absurd (show (8 : Int) = 0 from z) (by decide)
theorem WideParses : overfalllaw01_WideParses.Pure := by
  intro s _
  obtain ⟨K0, h0⟩ := awakef
  have go : ∀ t : ByteArray, t.size ≤ 60 → ∃ K, ∀ k, K ≤ k → overfalllaw01_WideParses.j0 k t = some true := by
    intro t ht
    have := parses_core (bytesOf t) (bytes_bd t) (by rw [bytesOf_length]; exact ht)
    rw [str_of] at this
    exact this
  by_cases c : (s.size : Int) > 60
  · have e60 : (s.extract 0 60).size ≤ 60 := by simp [ByteArray.size_extract]; omega
    obtain ⟨K, J⟩ := go (s.extract 0 60) e60
    refine ⟨K0 + K, ?_⟩
    rw [overfalllaw01_WideParses.f, h0 _ (by omega), Option.bind_some, if_pos (rfl : true = true), if_pos c, if_pos (by decide), if_pos (by omega)]
    exact J _ (by omega)
  · obtain ⟨K, J⟩ := go s (by omega)
    refine ⟨K0 + K, ?_⟩
    rw [overfalllaw01_WideParses.f, h0 _ (by omega), Option.bind_some, if_pos (rfl : true = true), if_neg c]
    exact J _ (by omega)
end Go.Proofs.Ytdgbehbiigggmaa.Pure

/- The way round a box: plain laws; and slices.Reverse over complex numbers. -/
import Derived.Test.YtahmogobaanklaaSwjoins
namespace Go.Proofs.Ytahmogobaanklaa.Z
open Go.RowKit Go.Proofs.YtahmogobaanklaaW.PrintWords Go.Proofs.YtahmogobaanklaaW.PrintLast Go.Proofs.YtahmogobaanklaaW.PrintMore
attribute [local go_sem] max2_int min2_int max_two min_two max_three min_three max_four min_four unary_neg_float
set_option linter.unusedVariables false
set_option linter.unusedSimpArgs false
/-! The box -/
def boxP (p : Pt) (w h : Int) : List Pt := [p, p.add ⟨w, 0⟩, p.add ⟨w, h⟩, p.add ⟨0, h⟩]
theorem sumE4 (f : Pt → Pt → Int) (a b c d : Pt) : sumE f [a, b, c, d] 4 = f a b + f b c + f c d + f d a := by simp [sumE, step_]
theorem box_area (p : Pt) (w h : Int) : area (boxP p w h) = 2 * (w * h) ∧ area (boxP p w h).reverse = -(2 * (w * h)) := by
  constructor
  · show sumE crs [_, _, _, _] 4 = _
    rw [sumE4]; simp only [crs, Pt.add]; grind
  · show sumE crs [_, _, _, _] 4 = _
    rw [sumE4]; simp only [crs, Pt.add]; grind
theorem trn0_zero {a b : Pt} (h1 : ¬ (a.v ≤ 0 ∧ 0 < b.v ∧ 0 < crs a b)) (h2 : ¬ (0 < a.v ∧ b.v ≤ 0 ∧ crs a b < 0)) : trn0 a b = 0 := by
  unfold trn0; rw [if_neg h1, if_neg h2]
theorem trn0_up {a b : Pt} (h1 : a.v ≤ 0) (h2 : 0 < b.v) (h3 : 0 < crs a b) : trn0 a b = 1 := by
  unfold trn0; rw [if_pos ⟨h1, h2, h3⟩]
theorem trn0_down {a b : Pt} (h1 : 0 < a.v) (h2 : b.v ≤ 0) (h3 : crs a b < 0) : trn0 a b = -1 := by
  unfold trn0; rw [if_neg (by omega), if_pos ⟨h1, h2, h3⟩]
/-- The box seen from a point at (a, b) from its first corner. -/
theorem box_inside (p q : Pt) (w h a b : Int) (hq : q = p.add ⟨a, b⟩) (ha : 0 < a) (haw : a < w) (hb : 0 < b) (hbh : b < h) : turns q (boxP p w h) = 1 ∧ turns q (boxP p w h).reverse = -1 := by
  subst hq
  have m1 : 0 < (w - a) * h := Int.mul_pos (by omega) (by omega)
  have m2 : 0 < a * h := Int.mul_pos (by omega) (by omega)
  constructor
  · show sumE (trn _) [_, _, _, _] 4 = _
    rw [sumE4]
    simp only [trn, Pt.sub, Pt.add]
    rw [trn0_zero (by dsimp only; omega) (by dsimp only; omega), trn0_up (by dsimp only; omega) (by dsimp only; omega) (by simp only [crs]; grind), trn0_zero (by dsimp only; omega) (by dsimp only; omega), trn0_zero (by dsimp only; omega) (by simp only [crs]; grind)]
    rfl
  · show sumE (trn _) [_, _, _, _] 4 = _
    rw [sumE4]
    simp only [trn, Pt.sub, Pt.add]
    rw [trn0_zero (by dsimp only; omega) (by dsimp only; omega), trn0_down (by dsimp only; omega) (by dsimp only; omega) (by simp only [crs]; grind), trn0_zero (by dsimp only; omega) (by dsimp only; omega), trn0_zero (by simp only [crs]; grind) (by dsimp only; omega)]
    rfl
theorem box_outside (p q : Pt) (w h a b : Int) (hq : q = p.add ⟨a, b⟩) (hw : 0 < w) (haw : w < a) (hb : 0 ≤ b) (hbh : b < h) : turns q (boxP p w h) = 0 ∧ turns q (boxP p w h).reverse = 0 := by
  subst hq
  have m1 : 0 < (a - w) * h := Int.mul_pos (by omega) (by omega)
  have m2 : 0 < a * h := Int.mul_pos (by omega) (by omega)
  constructor
  · show sumE (trn _) [_, _, _, _] 4 = _
    rw [sumE4]
    simp only [trn, Pt.sub, Pt.add]
    rw [trn0_zero (by dsimp only; omega) (by dsimp only; omega), trn0_zero (by simp only [crs]; grind) (by dsimp only; omega), trn0_zero (by dsimp only; omega) (by dsimp only; omega), trn0_zero (by dsimp only; omega) (by simp only [crs]; grind)]
    rfl
  · show sumE (trn _) [_, _, _, _] 4 = _
    rw [sumE4]
    simp only [trn, Pt.sub, Pt.add]
    rw [trn0_zero (by dsimp only; omega) (by dsimp only; omega), trn0_zero (by dsimp only; omega) (by simp only [crs]; grind), trn0_zero (by dsimp only; omega) (by dsimp only; omega), trn0_zero (by simp only [crs]; grind) (by dsimp only; omega)]
    rfl
theorem farL_le_iff {p : Pt} (l : List Pt) (B : Int) (h0 : 0 ≤ B) (h : ∀ q ∈ l, sqr (q.sub p) ≤ B) : farL p l ≤ B := by
  induction l with
  | nil => exact h0
  | cons q l ih =>
    have e := farL_join (p := p) [q] l
    have e1 : farL p [q] = sqr (q.sub p) := by
      show farS p 0 q = _
      have hs : 0 ≤ sqr (q.sub p) := (sqr_le (A := (q.sub p).u.natAbs + (q.sub p).v.natAbs) ⟨by omega, by omega⟩).2
      unfold farS; split <;> omega
    rw [show q :: l = [q] ++ l from rfl, e, e1]
    have h1 := h q (List.mem_cons_self)
    have h2 := ih (fun x hx => h x (List.mem_cons_of_mem _ hx))
    omega
theorem farL_ge {p q : Pt} (l : List Pt) (h : q ∈ l) : sqr (q.sub p) ≤ farL p l := by
  induction l with
  | nil => cases h
  | cons x l ih =>
    have e := farL_join (p := p) [x] l
    have e1 : farL p [x] = sqr (x.sub p) := by
      show farS p 0 x = _
      have hs : 0 ≤ sqr (x.sub p) := (sqr_le (A := (x.sub p).u.natAbs + (x.sub p).v.natAbs) ⟨by omega, by omega⟩).2
      unfold farS; split <;> omega
    rw [show x :: l = [x] ++ l from rfl, e, e1]
    rcases List.mem_cons.1 h with rfl | h
    · omega
    · have := ih h; omega
theorem box_far (p : Pt) (w h : Int) (l : List Pt) (hl : ∀ q, q ∈ l ↔ q ∈ boxP p w h) : farL p l = w * w + h * h := by
  have s1 : 0 ≤ w * w := by rw [← Int.natAbs_mul_self]; exact Int.natCast_nonneg _
  have s2 : 0 ≤ h * h := by rw [← Int.natAbs_mul_self]; exact Int.natCast_nonneg _
  apply Int.le_antisymm
  · apply farL_le_iff _ _ (by omega)
    intro q hq
    have := (hl q).1 hq
    simp only [boxP, List.mem_cons, List.not_mem_nil, or_false] at this
    rcases this with rfl | rfl | rfl | rfl <;> simp only [sqr, Pt.sub, Pt.add] <;> grind
  · have := farL_ge (p := p) (q := p.add ⟨w, h⟩) l ((hl _).2 (by simp [boxP]))
    have e : sqr ((p.add ⟨w, h⟩).sub p) = w * w + h * h := by simp only [sqr, Pt.sub, Pt.add]; grind
    omega
/-! The same way gone again and again -/
def again {α : Type} (l : List α) : Nat → List α
  | 0 => []
  | n + 1 => again l n ++ l
theorem again_len {α : Type} (l : List α) (n : Nat) : (again l n).length = n * l.length := by
  induction n with
  | zero => simp [again]
  | succ n ih => rw [again, List.length_append, ih, Nat.succ_mul]
theorem again_map {α β : Type} (f : α → β) (l : List α) (n : Nat) : (again l n).map f = again (l.map f) n := by
  induction n with
  | zero => rfl
  | succ n ih => rw [again, List.map_append, ih]; rfl
theorem again_mem {α : Type} {l : List α} {n : Nat} (hn : 0 < n) (x : α) : x ∈ again l n ↔ x ∈ l := by
  induction n with
  | zero => omega
  | succ n ih =>
    rw [again, List.mem_append]
    by_cases h : 0 < n
    · rw [ih h]; exact or_self_iff
    · obtain rfl : n = 0 := by omega
      simp [again]
theorem again_sum {f : Pt → Pt → Int} {l : List Pt} {s : Pt} (hs : l[0]? = some s) (n : Nat) : sumE f (again l n) (again l n).length = n * sumE f l l.length ∧ (0 < n → (again l n)[0]? = some s) := by
  induction n with
  | zero => exact ⟨by simp [again, sumE], by omega⟩
  | succ n ih =>
    by_cases h : 0 < n
    · refine ⟨?_, fun _ => ?_⟩
      · rw [again, sumE_join (ih.2 h) hs, ih.1]
        push_cast
        grind
      · have := ih.2 h
        rw [again, List.getElem?_append_left (List.getElem?_eq_some_iff.1 this).1]
        exact this
    · obtain rfl : n = 0 := by omega
      refine ⟨?_, fun _ => ?_⟩
      · simp [again]
      · simpa [again] using hs
/-! slices.Reverse -/
def rv {α : Type} (z : α) (l : List α) (k : Nat) : List α := (List.range l.length).map fun x => if x < k ∨ l.length ≤ x + k then l.getD (l.length - 1 - x) z else l.getD x z
theorem rv_len {α : Type} (z : α) (l : List α) (k : Nat) : (rv z l k).length = l.length := by simp [rv]
theorem rv_get {α : Type} (z : α) (l : List α) (k : Nat) {x : Nat} (h : x < l.length) : (rv z l k)[x]? = some (if x < k ∨ l.length ≤ x + k then l.getD (l.length - 1 - x) z else l.getD x z) := by
  unfold rv
  rw [List.getElem?_map, List.getElem?_range h]
  rfl
theorem rv_zero {α : Type} (z : α) (l : List α) : rv z l 0 = l := by
  apply List.ext_getElem?
  intro x
  by_cases h : x < l.length
  · rw [rv_get z l 0 h, if_neg (by omega), List.getD_eq_getElem?_getD, List.getElem?_eq_getElem h]
    rfl
  · rw [List.getElem?_eq_none (by rw [rv_len]; omega), List.getElem?_eq_none (by omega)]
theorem rv_done {α : Type} (z : α) (l : List α) {k : Nat} (hk : l.length ≤ 2 * k + 1) : rv z l k = l.reverse := by
  apply List.ext_getElem?
  intro x
  by_cases h : x < l.length
  · rw [rv_get z l k h, List.getElem?_reverse h]
    have h2 : l.length - 1 - x < l.length := by omega
    by_cases hc : x < k ∨ l.length ≤ x + k
    · rw [if_pos hc, List.getD_eq_getElem?_getD, List.getElem?_eq_getElem h2]
      rfl
    · rw [if_neg hc, List.getD_eq_getElem?_getD]
      have e : l.length - 1 - x = x := by omega
      rw [e, List.getElem?_eq_getElem h]
      rfl
  · rw [List.getElem?_eq_none (by rw [rv_len]; omega), List.getElem?_eq_none (by rw [List.length_reverse]; omega)]
theorem rv_succ {α : Type} (z : α) (l : List α) {k : Nat} (hk : 2 * k + 1 < l.length) : ((rv z l k).set k (l.getD (l.length - 1 - k) z)).set (l.length - 1 - k) (l.getD k z) = rv z l (k + 1) := by
  apply List.ext_getElem?
  intro x
  by_cases h : x < l.length
  · rw [rv_get z l (k + 1) h]
    by_cases h1 : x = l.length - 1 - k
    · subst h1
      rw [List.getElem?_set_self (by rw [List.length_set, rv_len]; omega), if_pos (by omega)]
      congr 2
      omega
    · rw [List.getElem?_set_ne (Ne.symm h1)]
      by_cases h2 : x = k
      · subst h2
        rw [List.getElem?_set_self (by rw [rv_len]; omega), if_pos (by omega)]
      · rw [List.getElem?_set_ne (Ne.symm h2), rv_get z l k h]
        by_cases hc : x < k ∨ l.length ≤ x + k
        · rw [if_pos hc, if_pos (by omega)]
        · rw [if_neg hc, if_neg (by omega)]
  · rw [List.getElem?_eq_none (by rw [List.length_set, List.length_set, rv_len]; omega), List.getElem?_eq_none (by rw [rv_len]; omega)]
end Go.Proofs.Ytahmogobaanklaa.Z

/- Plain laws of the spread, of the longest, of counts. -/
import Derived.Test.YtfnnoecdpolbfaaTlm2
namespace Go.Proofs.Ytfnnoecdpolbfaa.Z
open Go.RowKit Go.Proofs.YtfnnoecdpolbfaaW.PrintWords
set_option linter.unusedVariables false
set_option linter.unusedSimpArgs false
/-- Row k has one more; rows up to it are there. -/
def padF (out : List Int) (k : Nat) : List Int := out ++ List.replicate (k + 1 - out.length) 0
def bump (out : List Int) (k : Nat) : List Int := (padF out k).set k ((padF out k).getD k 0 + 1)
theorem padF_len (out : List Int) (k : Nat) : (padF out k).length = max out.length (k + 1) := by
  unfold padF
  rw [List.length_append, List.length_replicate]
  omega
theorem bump_len (out : List Int) (k : Nat) : (bump out k).length = max out.length (k + 1) := by
  unfold bump
  rw [List.length_set, padF_len]
def rowF (o : Oc) : Nat := lenF 64 (max o.so 0).toNat
def sprF (t : Int) (l : List Oc) : List Int := (l.filter fun o => isB o t 1).foldl (fun out o => bump out (rowF o)) []
theorem sprF_snoc (t : Int) (l : List Oc) (x : Oc) : sprF t (l ++ [x]) = if isB x t 1 then bump (sprF t l) (rowF x) else sprF t l := by
  unfold sprF
  rw [List.filter_append, List.foldl_append]
  by_cases h : isB x t 1 <;> simp [List.filter, h]
/-- How many rows. -/
def mxR : List Nat → Nat
  | [] => 0
  | k :: ks => max (k + 1) (mxR ks)
theorem mxR_snoc (ks : List Nat) (k : Nat) : mxR (ks ++ [k]) = max (mxR ks) (k + 1) := by
  induction ks with
  | nil => simp [mxR]
  | cons a ks ih => simp only [List.cons_append, mxR, ih]; omega
theorem mxR_mem {ks : List Nat} {k : Nat} (h : k ∈ ks) : k < mxR ks := by
  induction ks with
  | nil => cases h
  | cons a ks ih =>
    simp only [mxR]
    rcases List.mem_cons.1 h with rfl | h
    · omega
    · have := ih h; omega
theorem count_none {ks : List Nat} {k : Nat} (h : mxR ks ≤ k) : ks.count k = 0 := by
  rw [List.count_eq_zero]
  intro hm
  have := mxR_mem hm
  omega
def cntsF (ks : List Nat) : List Int := (List.range (mxR ks)).map (fun k => (ks.count k : Int))
theorem cntsF_len (ks : List Nat) : (cntsF ks).length = mxR ks := by simp [cntsF]
theorem padF_at (ks : List Nat) (k j : Nat) (hj : j < max (mxR ks) (k + 1)) : (padF (cntsF ks) k)[j]? = some (ks.count j : Int) := by
  unfold padF
  by_cases h : j < mxR ks
  · rw [List.getElem?_append_left (by rw [cntsF_len]; exact h)]
    simp [cntsF, h]
  · rw [List.getElem?_append_right (by rw [cntsF_len]; omega), List.getElem?_replicate, if_pos (by rw [cntsF_len]; omega), count_none (by omega)]
    rfl
theorem bump_cnts (ks : List Nat) (k : Nat) : bump (cntsF ks) k = cntsF (ks ++ [k]) := by
  apply List.ext_getElem?
  intro j
  unfold bump
  by_cases hj : j < max (mxR ks) (k + 1)
  · have hp := padF_at ks k j hj
    have hpl := padF_len (cntsF ks) k
    rw [cntsF_len] at hpl
    rw [List.getElem?_set]
    have hr : (cntsF (ks ++ [k]))[j]? = some ((ks ++ [k]).count j : Int) := by
      unfold cntsF
      rw [mxR_snoc, List.getElem?_map, List.getElem?_range hj]
      rfl
    rw [hr, List.count_append]
    by_cases e : k = j
    · subst e
      rw [if_pos rfl, if_pos (by rw [hpl]; exact hj), List.getD_eq_getElem?_getD, hp]
      simp
    · rw [if_neg e, hp]
      have : List.count j [k] = 0 := by rw [List.count_eq_zero]; simp; omega
      rw [this]; rfl
  · rw [List.getElem?_eq_none (by rw [List.length_set, padF_len, cntsF_len]; omega), List.getElem?_eq_none (by rw [cntsF_len, mxR_snoc]; omega)]
theorem spr_cnts (t : Int) (l : List Oc) : sprF t l = cntsF ((l.filter fun o => isB o t 1).map rowF) := by
  induction l using snoc_ind with
  | h0 => rfl
  | h1 l x ih =>
    rw [sprF_snoc, List.filter_append, List.map_append]
    by_cases h : isB x t 1
    · rw [if_pos h, ih, bump_cnts]; simp [List.filter, h]
    · rw [if_neg h, ih]; simp [List.filter, h]
theorem sum_set (l : List Int) (k : Nat) (h : k < l.length) : (l.set k (l.getD k 0 + 1)).sum = l.sum + 1 := by
  induction l generalizing k with
  | nil => simp at h
  | cons a l ih =>
    cases k with
    | zero => simp; omega
    | succ k => 
      have := ih k (by simpa using h)
      simp at this ⊢
      omega
theorem sum_bump (out : List Int) (k : Nat) : (bump out k).sum = out.sum + 1 := by
  unfold bump
  rw [sum_set _ _ (by rw [padF_len]; omega)]
  unfold padF
  rw [List.sum_append]
  simp
theorem spr_sum (t : Int) (l : List Oc) : (sprF t l).sum = (l.filter fun o => isB o t 1).length := by
  induction l using snoc_ind with
  | h0 => rfl
  | h1 l x ih =>
    rw [sprF_snoc, List.filter_append, List.length_append]
    by_cases h : isB x t 1
    · rw [if_pos h, sum_bump, ih]; simp [List.filter, h]
    · rw [if_neg h, ih]; simp [List.filter, h]
/-- Of tier and why at once, and one after the other. -/
theorem isB_of (o : Oc) (t y : Int) : (isB o (-1) y && isB o t y) = isB o t y := by
  unfold isB
  simp
theorem filter_why (t y : Int) (l : List Oc) : (ofWhy y l).filter (fun o => isB o t y) = l.filter fun o => isB o t y := by
  unfold ofWhy
  rw [List.filter_filter]
  congr 1
  funext o
  rw [Bool.and_comm]
  exact isB_of o t y
theorem spr_why (t : Int) (l : List Oc) : sprF t (ofWhy 1 l) = sprF t l := by
  unfold sprF
  rw [filter_why]
theorem cnt_why (t y : Int) (l : List Oc) : cntB t y (ofWhy y l) = cntB t y l := by
  unfold cntB
  rw [filter_why]
/-- The longest so far, and whether there is one. -/
def lonF (t : Int) (l : List Oc) : Int × Bool := (l.filter fun o => isB o t 1).foldl (fun p o => if !p.2 || decide (o.so > p.1) then (o.so, true) else p) (0, false)
theorem lonF_snoc (t : Int) (l : List Oc) (x : Oc) : lonF t (l ++ [x]) = if isB x t 1 && (!(lonF t l).2 || decide (x.so > (lonF t l).1)) then (x.so, true) else lonF t l := by
  unfold lonF
  rw [List.filter_append, List.foldl_append]
  by_cases h : isB x t 1 <;> simp [List.filter, h]
theorem lon_why (t : Int) (l : List Oc) : lonF t (ofWhy 1 l) = lonF t l := by
  unfold lonF
  rw [filter_why]
theorem lon_law (t : Int) (l : List Oc) : ((lonF t l).2 = true ↔ (l.filter fun o => isB o t 1) ≠ []) ∧ ((lonF t l).2 = false → (lonF t l).1 = 0) ∧ ((lonF t l).2 = true → (∀ o ∈ (l.filter fun o => isB o t 1), o.so ≤ (lonF t l).1) ∧ ∃ o ∈ (l.filter fun o => isB o t 1), o.so = (lonF t l).1) := by
  induction l using snoc_ind with
  | h0 => simp [lonF]
  | h1 l x ih =>
    rw [lonF_snoc, List.filter_append]
    obtain ⟨h1, h2, h3⟩ := ih
    generalize lonF t l = p at *
    obtain ⟨f, s⟩ := p
    generalize (l.filter fun o => isB o t 1) = F at *
    by_cases h : isB x t 1
    · have e : List.filter (fun o => isB o t 1) [x] = [x] := by simp [List.filter, h]
      rw [e]
      simp only at h1 h2 h3
      cases s with
      | false =>
        have hF : F = [] := by
          by_cases hF : F = []
          · exact hF
          · have := h1.2 hF; cases this
        subst hF
        simp [h]
      | true =>
        obtain ⟨k1, o, ho, hk⟩ := h3 rfl
        by_cases hg : x.so > f
        · simp [h, hg]
          rintro o' (ho' | rfl)
          · have := k1 o' ho'
            omega
          · omega
        · simp [h, hg]
          refine ⟨?_, .inl ⟨o, ho, hk⟩⟩
          rintro o' (ho' | rfl)
          · exact k1 o' ho'
          · omega
    · have e : List.filter (fun o => isB o t 1) [x] = [] := by simp [List.filter, h]
      rw [e, List.append_nil]
      simp [h]
      exact ⟨by simpa using h1, h2, by simpa using h3⟩
theorem cnt_parts (t y : Int) (l : List Oc) (k : Nat) : cntB t y (l.take k) + cntB t y (l.drop k) = cntB t y l := by
  unfold cntB
  rw [← List.length_append, ← List.filter_append, List.take_append_drop]
end Go.Proofs.Ytfnnoecdpolbfaa.Z

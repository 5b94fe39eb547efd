/- The heap as a set of entries: who comes and goes. -/
import Derived.Test.YtifffmfbipjilaaHpd
namespace Go.Proofs.Ytifffmfbipjilaa.Z.H
open Go.RowKit Go.Proofs.YtifffmfbipjilaaW.PrintWords Go.Proofs.YtifffmfbipjilaaW.PrintLast Go.Proofs.YtifffmfbipjilaaW.PrintMore
attribute [local go_sem] max2_int min2_int max_two min_two max_three min_three max_four min_four
set_option linter.unusedVariables false
set_option maxRecDepth 100000
set_option linter.unusedSimpArgs false
/-! One more at the end -/
theorem HB.snoc {l : List En} (h : HeapL l) (e : En) : HB (fn (l ++ [e])) (l ++ [e]).length l.length := by
  have hf : fn (l ++ [e]) = upd (fn l) l.length e := by
    funext j
    unfold fn upd
    by_cases h1 : j = l.length
    · subst h1; simp
    · by_cases h2 : j < l.length
      · rw [if_neg h1]; simp [List.getElem?_append_left h2]
      · rw [if_neg h1]
        simp [List.getElem?_eq_none (show (l ++ [e]).length ≤ j by simp; omega), List.getElem?_eq_none (show l.length ≤ j by omega)]
  rw [hf, List.length_append, List.length_singleton]
  constructor
  · intro j h1 h2 h3 h4
    rw [upd_ne _ _ h3, upd_ne _ _ h4]
    exact h j h1 (by omega)
  · intro j h1 h2 h3 h4
    omega
theorem At.snoc {l : List En} {at_ : List Int} (h : At l at_) {e : En} (h0 : 0 ≤ e.i) (hi : at_[e.i.toNat]? = some (-1)) : At (l ++ [e]) (at_.set e.i.toNat l.length) := by
  have hlt : e.i.toNat < at_.length := (List.getElem?_eq_some_iff.1 hi).1
  constructor
  · intro k x hx
    by_cases hk : k < l.length
    · rw [List.getElem?_append_left hk] at hx
      have hf := h.fwd k x hx
      refine ⟨hf.1, ?_⟩
      rw [List.getElem?_set, if_neg (fun e' => ?_)]
      · exact hf.2
      · rw [← e', hi] at hf
        have := hf.2
        injection this with this
        omega
    · rw [List.getElem?_append_right (by omega)] at hx
      have hk2 : k = l.length := by
        have := (List.getElem?_eq_some_iff.1 hx).1
        simp at this
        omega
      subst hk2
      simp at hx
      subst hx
      exact ⟨h0, by rw [List.getElem?_set, if_pos rfl, if_pos hlt]⟩
  · intro i v hv
    rw [List.getElem?_set] at hv
    by_cases hie : e.i.toNat = i
    · rw [if_pos hie, if_pos hlt] at hv
      injection hv with hv
      exact .inr ⟨l.length, e, hv.symm, by simp, by omega⟩
    · rw [if_neg hie] at hv
      rcases h.back i v hv with hv | ⟨k, x, a, b, c⟩
      · exact .inl hv
      · exact .inr ⟨k, x, a, by rw [List.getElem?_append_left (List.getElem?_eq_some_iff.1 b).1]; exact b, c⟩
/-! One less: the last one is laid where that one was -/
theorem At.less {l : List En} {at_ : List Int} (h : At l at_) {k i : Nat} {x e : En} (hx : l[k]? = some x) (hxi : x.i = (i : Int)) (he : l[l.length - 1]? = some e) (hk : k ≠ l.length - 1) :
    At ((l.take (l.length - 1)).set k e) ((at_.set i (-1)).set e.i.toNat k) := by
  have hkl : k < l.length := (List.getElem?_eq_some_iff.1 hx).1
  have hfx := h.fwd k x hx
  have hfe := h.fwd _ e he
  have hxt : x.i.toNat = i := by omega
  rw [hxt] at hfx
  have hil : i < at_.length := (List.getElem?_eq_some_iff.1 hfx.2).1
  have hel : e.i.toNat < at_.length := (List.getElem?_eq_some_iff.1 hfe.2).1
  have hne : e.i.toNat ≠ i := fun e' => hk (h.inj hx he (by omega))
  constructor
  · intro j y hy
    rw [List.getElem?_set] at hy
    by_cases hjk : k = j
    · subst hjk
      rw [if_pos rfl, if_pos (by rw [List.length_take]; omega)] at hy
      injection hy with hy
      subst hy
      exact ⟨hfe.1, by rw [List.getElem?_set, if_pos rfl, if_pos (by rw [List.length_set]; exact hel)]⟩
    · rw [if_neg hjk, List.getElem?_take] at hy
      by_cases hjl : j < l.length - 1
      · rw [if_pos hjl] at hy
        have hf := h.fwd j y hy
        refine ⟨hf.1, ?_⟩
        have n1 : e.i.toNat ≠ y.i.toNat := fun e' => by have := h.inj he hy (by omega); omega
        have n2 : i ≠ y.i.toNat := fun e' => hjk (h.inj hx hy (by omega))
        rw [List.getElem?_set, if_neg n1, List.getElem?_set, if_neg n2]
        exact hf.2
      · rw [if_neg hjl] at hy; cases hy
  · intro i' v hv
    rw [List.getElem?_set] at hv
    by_cases hie : e.i.toNat = i'
    · rw [if_pos hie, if_pos (by rw [List.length_set]; exact hel)] at hv
      injection hv with hv
      exact .inr ⟨k, e, hv.symm, by rw [List.getElem?_set, if_pos rfl, if_pos (by rw [List.length_take]; omega)], by omega⟩
    · rw [if_neg hie, List.getElem?_set] at hv
      by_cases hii : i = i'
      · rw [if_pos hii, if_pos hil] at hv
        injection hv with hv
        exact .inl hv.symm
      · rw [if_neg hii] at hv
        rcases h.back i' v hv with hv | ⟨j, y, a, b, c⟩
        · exact .inl hv
        · refine .inr ⟨j, y, a, ?_, c⟩
          have hjl : j < l.length := (List.getElem?_eq_some_iff.1 b).1
          have n1 : j ≠ l.length - 1 := fun e' => by subst e'; rw [he] at b; injection b with b; subst b; omega
          have n2 : k ≠ j := fun e' => by subst e'; rw [hx] at b; injection b with b; subst b; omega
          rw [List.getElem?_set, if_neg n2, List.getElem?_take, if_pos (by omega)]
          exact b
theorem At.last {l : List En} {at_ : List Int} (h : At l at_) {i : Nat} {x : En} (hx : l[l.length - 1]? = some x) (hxi : x.i = (i : Int)) :
    At (l.take (l.length - 1)) (at_.set i (-1)) := by
  have hkl : l.length - 1 < l.length := (List.getElem?_eq_some_iff.1 hx).1
  have hfx := h.fwd _ x hx
  have hxt : x.i.toNat = i := by omega
  rw [hxt] at hfx
  have hil : i < at_.length := (List.getElem?_eq_some_iff.1 hfx.2).1
  constructor
  · intro j y hy
    rw [List.getElem?_take] at hy
    by_cases hjl : j < l.length - 1
    · rw [if_pos hjl] at hy
      have hf := h.fwd j y hy
      refine ⟨hf.1, ?_⟩
      have n2 : i ≠ y.i.toNat := fun e' => by have := h.inj hx hy (by omega); omega
      rw [List.getElem?_set, if_neg n2]
      exact hf.2
    · rw [if_neg hjl] at hy; cases hy
  · intro i' v hv
    rw [List.getElem?_set] at hv
    by_cases hii : i = i'
    · rw [if_pos hii, if_pos hil] at hv
      injection hv with hv
      exact .inl hv.symm
    · rw [if_neg hii] at hv
      rcases h.back i' v hv with hv | ⟨j, y, a, b, c⟩
      · exact .inl hv
      · refine .inr ⟨j, y, a, ?_, c⟩
        have hjl : j < l.length := (List.getElem?_eq_some_iff.1 b).1
        have n1 : j ≠ l.length - 1 := fun e' => by subst e'; rw [hx] at b; injection b with b; subst b; omega
        rw [List.getElem?_take, if_pos (by omega)]
        exact b
theorem fn_take {l : List En} {n j : Nat} (h : j < n) : fn (l.take n) j = fn l j := by
  unfold fn
  rw [List.getD_eq_getElem?_getD, List.getD_eq_getElem?_getD, List.getElem?_take, if_pos h]
theorem HeapL.take {l : List En} (h : HeapL l) (n : Nat) : HeapL (l.take n) := by
  intro j h1 h2
  rw [List.length_take] at h2
  rw [fn_take (by omega), fn_take (by omega)]
  exact h j h1 (by omega)
theorem HB.less {l : List En} (h : HeapL l) (k : Nat) (hk : k < l.length - 1) (e : En) : HB (fn ((l.take (l.length - 1)).set k e)) ((l.take (l.length - 1)).set k e).length k := by
  have h2 := h.take (l.length - 1)
  rw [fn_set _ _ _ (by rw [List.length_take]; omega), List.length_set]
  exact HB.of_heap h2 e
/-- The set of entries: no two of one member. -/
def Inj (l : List En) : Prop := l.Pairwise fun a b => a.i ≠ b.i
theorem At.injL {l : List En} {at_ : List Int} (h : At l at_) : Inj l := by
  unfold Inj
  rw [List.pairwise_iff_getElem]
  intro i j hi hj hij e
  have := h.inj (List.getElem?_eq_getElem hi) (List.getElem?_eq_getElem hj) e
  omega
theorem Inj.nodup {l : List En} (h : Inj l) : l.Nodup := List.Pairwise.imp (fun h e => h (by rw [e])) h
theorem perm_less {l : List En} {at_ : List Int} (h : At l at_) {k i : Nat} {x e : En} (hx : l[k]? = some x) (hxi : x.i = (i : Int)) (he : l[l.length - 1]? = some e) (hk : k ≠ l.length - 1) :
    ((l.take (l.length - 1)).set k e).Perm (l.filter fun y => decide (y.i ≠ (i : Int))) := by
  have hA := h.less hx hxi he hk
  rw [List.perm_ext_iff_of_nodup hA.injL.nodup (h.injL.nodup.filter _)]
  have hkl : k < l.length := (List.getElem?_eq_some_iff.1 hx).1
  intro y
  rw [List.mem_filter, decide_eq_true_iff]
  constructor
  · intro hy
    obtain ⟨j, hj⟩ := List.mem_iff_getElem?.1 hy
    rw [List.getElem?_set] at hj
    by_cases hjk : k = j
    · rw [if_pos hjk, if_pos (by rw [List.length_take]; omega)] at hj
      injection hj with hj
      subst hj
      exact ⟨List.mem_of_getElem? he, fun e' => hk (h.inj hx he (by omega))⟩
    · rw [if_neg hjk, List.getElem?_take] at hj
      by_cases hjl : j < l.length - 1
      · rw [if_pos hjl] at hj
        exact ⟨List.mem_of_getElem? hj, fun e' => hjk (h.inj hx hj (by omega))⟩
      · rw [if_neg hjl] at hj; cases hj
  · rintro ⟨hy, hyi⟩
    obtain ⟨j, hj⟩ := List.mem_iff_getElem?.1 hy
    have hjl : j < l.length := (List.getElem?_eq_some_iff.1 hj).1
    have hjk : j ≠ k := fun e' => by subst e'; rw [hx] at hj; injection hj with hj; subst hj; exact hyi hxi
    by_cases hj2 : j = l.length - 1
    · subst hj2
      rw [he] at hj
      injection hj with hj
      subst hj
      exact List.mem_of_getElem? (i := k) (by rw [List.getElem?_set, if_pos rfl, if_pos (by rw [List.length_take]; omega)])
    · exact List.mem_of_getElem? (i := j) (by rw [List.getElem?_set, if_neg (fun e => hjk e.symm), List.getElem?_take, if_pos (by omega)]; exact hj)
theorem perm_last {l : List En} {at_ : List Int} (h : At l at_) {i : Nat} {x : En} (hx : l[l.length - 1]? = some x) (hxi : x.i = (i : Int)) :
    (l.take (l.length - 1)).Perm (l.filter fun y => decide (y.i ≠ (i : Int))) := by
  have hA := h.last hx hxi
  rw [List.perm_ext_iff_of_nodup hA.injL.nodup (h.injL.nodup.filter _)]
  intro y
  rw [List.mem_filter, decide_eq_true_iff]
  constructor
  · intro hy
    obtain ⟨j, hj⟩ := List.mem_iff_getElem?.1 hy
    rw [List.getElem?_take] at hj
    by_cases hjl : j < l.length - 1
    · rw [if_pos hjl] at hj
      exact ⟨List.mem_of_getElem? hj, fun e' => by have := h.inj hx hj (by omega); omega⟩
    · rw [if_neg hjl] at hj; cases hj
  · rintro ⟨hy, hyi⟩
    obtain ⟨j, hj⟩ := List.mem_iff_getElem?.1 hy
    have hjl : j < l.length := (List.getElem?_eq_some_iff.1 hj).1
    have hj2 : j ≠ l.length - 1 := fun e' => by subst e'; rw [hx] at hj; injection hj with hj; subst hj; exact hyi hxi
    exact List.mem_of_getElem? (i := j) (by rw [List.getElem?_take, if_pos (by omega)]; exact hj)
end Go.Proofs.Ytifffmfbipjilaa.Z.H

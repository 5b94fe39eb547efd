/- Min, Key, Len, New over the set of entries; a nil heap. -/
import Derived.Test.YtifffmfbipjilaaHprm
namespace Go.Proofs.Ytifffmfbipjilaa.Z.H
open Go.RowKit Go.Proofs.YtifffmfbipjilaaW.PrintWords Go.Proofs.YtifffmfbipjilaaW.PrintLast Go.Proofs.YtifffmfbipjilaaW.PrintMore
attribute [local go_sem] max2_int min2_int max_two min_two max_three min_three max_four min_four
set_option linter.unusedVariables false
set_option maxRecDepth 100000
set_option linter.unusedSimpArgs false
def Srt (S : List En) : Prop := S.Pairwise fun a b => a.lt b
theorem min_eq {l S : List En} (h : HeapL l) (hp : l.Perm S) (hs : Srt S) : minI l = minI S ∧ (l ≠ [] ↔ S ≠ []) := by
  cases l with
  | nil => rw [List.nil_perm.1 hp]; exact ⟨rfl, Iff.rfl⟩
  | cons x l =>
    cases S with
    | nil => exact absurd hp.length_eq (by simp)
    | cons y S =>
      refine ⟨?_, by simp⟩
      have h1 : ¬ y.lt x := by
        obtain ⟨j, hj⟩ := List.mem_iff_getElem?.1 (hp.mem_iff.2 (List.mem_cons_self : y ∈ y :: S))
        have hjl := (List.getElem?_eq_some_iff.1 hj).1
        have := h.root j hjl
        rw [fn_at hj, fn_at (l := x :: l) (k := 0) (e := x) rfl] at this
        exact this
      have h2 : ¬ x.lt y := by
        have hx := hp.mem_iff.1 (List.mem_cons_self : x ∈ x :: l)
        rcases List.mem_cons.1 hx with e | hx
        · rw [e]; exact En.lt_irrefl _
        · exact En.le_of_lt ((List.pairwise_cons.1 hs).1 x hx)
      rw [En.eq_of h2 h1]
      rfl
theorem HS.len {w : World} {g ba room : Nat} {v : Value} {S : List En} (h : HS w g ba v S room) : S.length ≤ room ∧ room ≤ 1024 := by
  obtain ⟨l, a, h1, h2, h3, h4, h5⟩ := h.ex
  have := h3.len_le
  have := h4.length_eq
  have := h1.small
  omega
theorem HS.in_ {w : World} {g ba room : Nat} {v : Value} {S : List En} (h : HS w g ba v S room) {e : En} (he : e ∈ S) : 0 ≤ e.i ∧ e.i < room := by
  obtain ⟨l, a, h1, h2, h3, h4, h5⟩ := h.ex
  obtain ⟨k, hk⟩ := List.mem_iff_getElem?.1 (h4.mem_iff.2 he)
  obtain ⟨h6, h7⟩ := h3.fwd k e hk
  have := (List.getElem?_eq_some_iff.1 h7).1
  omega
theorem HS.inj {w : World} {g ba room : Nat} {v : Value} {S : List En} (h : HS w g ba v S room) : ∀ a ∈ S, ∀ b ∈ S, a.i = b.i → a = b := by
  obtain ⟨l, at_, h1, h2, h3, h4, h5⟩ := h.ex
  intro a ha b hb e
  obtain ⟨j, hj⟩ := List.mem_iff_getElem?.1 (h4.mem_iff.2 ha)
  obtain ⟨k, hk⟩ := List.mem_iff_getElem?.1 (h4.mem_iff.2 hb)
  have := h3.inj hj hk e
  subst this
  rw [hj] at hk
  injection hk
/-! A nil heap -/
theorem put_nil (i key tie : Int) (w : World) : Calls Try.prog 34 #[.pointer none, .int .i64 i, .int .i64 key, .int .u64 tie] w fun r w' => r = .returned (.int .i64 3) ∧ w = w' := by
  go_enter Try.func34, Try.ntmps34
  go_wp2_with (fail)
  go_ret
  exact ⟨rfl, rfl⟩
theorem rem_nil (i : Int) (w : World) : Calls Try.prog 39 #[.pointer none, .int .i64 i] w fun r w' => r = .returned (.int .i64 3) ∧ w = w' := by
  go_enter Try.func39, Try.ntmps39
  go_wp2_with (fail)
  go_ret
  exact ⟨rfl, rfl⟩
theorem due_nil (x : Int) (w : World) : Calls Try.prog 41 #[.pointer none, .int .i64 x] w fun r w' => r = .returned (.slice none 0 0) ∧ w = w' := by
  go_enter Try.func41, Try.ntmps41
  go_wp2_with (fail)
  go_ret
  exact ⟨rfl, rfl⟩
/-! New -/
theorem hnew_no (room : Int) (w : World) (hr : ¬ (1 ≤ room ∧ room ≤ 1024)) : Calls Try.prog 30 #[.int .i64 room] w fun r w' => r = .returned (.tuple #[.pointer none, .int .i64 1]) ∧ w = w' := by
  by_cases h1 : room < 1
  · go_enter Try.func30, Try.ntmps30
    go_wp2_with (fail)
    go_ret2
    exact ⟨rfl, rfl⟩
  · have h2 : room > 1024 := by omega
    have h3 : decide (room < 1) = false := decide_eq_false h1
    go_enter Try.func30, Try.ntmps30
    go_wp2_with (fail)
    go_ret2
    exact ⟨rfl, rfl⟩
end Go.Proofs.Ytifffmfbipjilaa.Z.H

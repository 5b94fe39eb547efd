/- Min, Key, Len, New over the set of entries; a nil heap. -/
import Derived.Test.YtphkahphpgipkaaHprm
namespace Go.Proofs.Ytphkahphpgipkaa.Z
open Go.RowKit Go.Proofs.YtphkahphpgipkaaW.PrintWords Go.Proofs.YtphkahphpgipkaaW.PrintLast Go.Proofs.YtphkahphpgipkaaW.PrintMore
attribute [local go_sem] max2_int min2_int max_two min_two max_three min_three max_four min_four
set_option linter.unusedVariables false
set_option linter.unusedSimpArgs false
def Srt (S : List En) : Prop := S.Pairwise fun a b => a.lt b
theorem min_eq {l S : List En} (h : HeapL l) (hp : l.Perm S) (hs : Srt S) : minI l = minI S ∧ (l ≠ [] ↔ S ≠ []) := by
  cases l with
  | nil => rw [List.nil_perm.1 hp]; exact ⟨rfl, Iff.rfl⟩
  | cons x l =>
    cases S with
    | nil => exact absurd hp.length_eq (by simp)
    | cons y S =>
      refine ⟨?_, by simp⟩
      have h1 : ¬ y.lt x := by
        obtain ⟨j, hj⟩ := List.mem_iff_getElem?.1 (hp.mem_iff.2 (List.mem_cons_self : y ∈ y :: S))
        have hjl := (List.getElem?_eq_some_iff.1 hj).1
        have := h.root j hjl
        rw [fn_at hj, fn_at (l := x :: l) (k := 0) (e := x) rfl] at this
        exact this
      have h2 : ¬ x.lt y := by
        have hx := hp.mem_iff.1 (List.mem_cons_self : x ∈ x :: l)
        rcases List.mem_cons.1 hx with e | hx
        · rw [e]; exact En.lt_irrefl _
        · exact En.le_of_lt ((List.pairwise_cons.1 hs).1 x hx)
      rw [En.eq_of h2 h1]
      rfl
theorem HS.len {w : World} {g ba room : Nat} {v : Value} {S : List En} (h : HS w g ba v S room) : S.length ≤ room ∧ room ≤ 1024 := by
  obtain ⟨l, a, h1, h2, h3, h4, h5⟩ := h.ex
  have := h3.len_le
  have := h4.length_eq
  have := h1.small
  omega
theorem HS.in_ {w : World} {g ba room : Nat} {v : Value} {S : List En} (h : HS w g ba v S room) {e : En} (he : e ∈ S) : 0 ≤ e.i ∧ e.i < room := by
  obtain ⟨l, a, h1, h2, h3, h4, h5⟩ := h.ex
  obtain ⟨k, hk⟩ := List.mem_iff_getElem?.1 (h4.mem_iff.2 he)
  obtain ⟨h6, h7⟩ := h3.fwd k e hk
  have := (List.getElem?_eq_some_iff.1 h7).1
  omega
theorem HS.inj {w : World} {g ba room : Nat} {v : Value} {S : List En} (h : HS w g ba v S room) : ∀ a ∈ S, ∀ b ∈ S, a.i = b.i → a = b := by
  obtain ⟨l, at_, h1, h2, h3, h4, h5⟩ := h.ex
  intro a ha b hb e
  obtain ⟨j, hj⟩ := List.mem_iff_getElem?.1 (h4.mem_iff.2 ha)
  obtain ⟨k, hk⟩ := List.mem_iff_getElem?.1 (h4.mem_iff.2 hb)
  have := h3.inj hj hk e
  subst this
  rw [hj] at hk
  injection hk
theorem len_set (g ba room : Nat) (v : Value) (S : List En) (w : World) (h : HS w g ba v S room) : Calls Try.prog 13 #[.pointer (some ⟨g, 0, none⟩)] w fun e w' => e = .returned (.int .i64 S.length) ∧ w = w' := by
  obtain ⟨l, a, h1, h2, h3, h4, h5⟩ := h.ex
  have := hlen_ok g ba v l a w h1
  rwa [h4.length_eq] at this
theorem min_set (g ba room : Nat) (v : Value) (S : List En) (w : World) (h : HS w g ba v S room) (hs : Srt S) : Calls Try.prog 15 #[.pointer (some ⟨g, 0, none⟩)] w fun e w' => e = .returned (.tuple #[.int .i64 (minI S), .bool (decide (S ≠ []))]) ∧ w = w' := by
  have hl := h.len
  obtain ⟨l, a, h1, h2, h3, h4, h5⟩ := h.ex
  have := hmin_ok g ba v l a w h1 (by rw [h4.length_eq]; omega)
  obtain ⟨e1, e2⟩ := min_eq h2 h4 hs
  rw [e1, show decide (l ≠ []) = decide (S ≠ []) from decide_eq_decide.2 e2] at this
  exact this
theorem key_no (g ba room : Nat) (v : Value) (S : List En) (i : Int) (w : World) (h : HS w g ba v S room) (hin : ∀ e ∈ S, e.i ≠ i) : Calls Try.prog 19 #[.pointer (some ⟨g, 0, none⟩), .int .i64 i] w fun e w' => e = .returned (.tuple #[.int .i64 0, .bool false]) ∧ w = w' := by
  obtain ⟨l, a, h1, h2, h3, h4, h5⟩ := h.ex
  have hm := hmem_ok g ba v l a i w h1
  by_cases hi : 0 ≤ i ∧ i < (a.length : Int)
  · rw [show (decide (0 ≤ i) && decide (i < (a.length : Int))) = true by simp; omega] at hm
    obtain ⟨n, hn⟩ : ∃ n : Nat, i = (n : Int) := ⟨i.toNat, by omega⟩
    subst hn
    have hnl : n < a.length := by omega
    obtain ⟨x, hx⟩ : ∃ x, a[n]? = some x := ⟨_, List.getElem?_eq_getElem hnl⟩
    have hxm : x = -1 := (at_none h3 hx).2 (fun y hy => hin y (h4.mem_iff.1 hy))
    subst hxm
    obtain ⟨c1, z1⟩ := h1.at_cell hx
    have c0 := h1.head.cell 1 rfl
    have n0 : (0 : Int) ≤ (n : Int) := by omega
    have n1 : (n : Int) < (a.length : Int) := by omega
    have HM := Aside0.mk hm
    clear h h1 h2 h3 h4 h5 hm hi hx hnl hin
    go_enter Try.func19, Try.ntmps19
    go_wp2_with (go_at_call 21; refine HM.out.mono ?_; rintro e w' ⟨rfl, rfl⟩)
    go_ret2
    exact ⟨rfl, rfl⟩
  · rw [show (decide (0 ≤ i) && decide (i < (a.length : Int))) = false by simp; omega] at hm
    have HM := Aside0.mk hm
    clear h h1 h2 h3 h4 h5 hm hi hin
    go_enter Try.func19, Try.ntmps19
    go_wp2_with (go_at_call 21; refine HM.out.mono ?_; rintro e w' ⟨rfl, rfl⟩)
    go_ret2
    exact ⟨rfl, rfl⟩
set_option maxHeartbeats 4000000 in
theorem key_in (g ba room : Nat) (v : Value) (S : List En) (e : En) (w : World) (h : HS w g ba v S room) (he : e ∈ S) : Calls Try.prog 19 #[.pointer (some ⟨g, 0, none⟩), .int .i64 e.i] w fun r w' => r = .returned (.tuple #[.int .i64 e.key, .bool true]) ∧ Below w.heap.size w w' := by
  obtain ⟨l, a, h1, h2, h3, h4, h5⟩ := h.ex
  obtain ⟨k, hk⟩ := List.mem_iff_getElem?.1 (h4.mem_iff.2 he)
  have hkl := (List.getElem?_eq_some_iff.1 hk).1
  obtain ⟨key, tie, i⟩ := e
  have hf := h3.fwd k _ hk
  dsimp only at *
  obtain ⟨n, rfl⟩ : ∃ n : Nat, i = (n : Int) := ⟨i.toNat, by omega⟩
  rw [Int.toNat_natCast] at hf
  have hnl := (List.getElem?_eq_some_iff.1 hf.2).1
  have hm := hmem_ok g ba v l a n w h1
  rw [show (decide (0 ≤ (n : Int)) && decide ((n : Int) < (a.length : Int))) = true by simp; omega] at hm
  obtain ⟨gr, c, hv⟩ := h1.row_form (by omega)
  subst hv
  obtain ⟨c1, z1⟩ := h1.at_cell hf.2
  have c0 := h1.head.cell 1 rfl
  have c00 := h1.head.cell 0 rfl
  obtain ⟨y0, y1, y2⟩ := h1.cells hk
  have n0 : (0 : Int) ≤ (n : Int) := by omega
  have n1 : (n : Int) < (a.length : Int) := by omega
  have k0 : (0 : Int) ≤ (k : Int) := by omega
  have k1 : (k : Int) < (l.length : Int) := by omega
  have hne : ((k : Int) == -1) = false := by simp
  have HM := Aside0.mk hm
  clear h h1 h2 h3 h4 h5 hm hk hnl hf he
  go_enter Try.func19, Try.ntmps19
  go_wp2_with (go_at_call 21; refine HM.out.mono ?_; rintro e w' ⟨rfl, rfl⟩)
  go_quiet (fail)
  go_wp2_with (fail)
  go_ret2
  exact ⟨rfl, pw_below_drewN (Below.refl _ _) _⟩
/-! A nil heap -/
theorem put_nil (i key tie : Int) (w : World) : Calls Try.prog 10 #[.pointer none, .int .i64 i, .int .i64 key, .int .u64 tie] w fun r w' => r = .returned (.int .i64 3) ∧ w = w' := by
  go_enter Try.func10, Try.ntmps10
  go_wp2_with (fail)
  go_ret
  exact ⟨rfl, rfl⟩
theorem rem_nil (i : Int) (w : World) : Calls Try.prog 16 #[.pointer none, .int .i64 i] w fun r w' => r = .returned (.int .i64 3) ∧ w = w' := by
  go_enter Try.func16, Try.ntmps16
  go_wp2_with (fail)
  go_ret
  exact ⟨rfl, rfl⟩
theorem min_nil (w : World) : Calls Try.prog 15 #[.pointer none] w fun r w' => r = .returned (.tuple #[.int .i64 0, .bool false]) ∧ w = w' := by
  go_enter Try.func15, Try.ntmps15
  go_wp2_with (go_at_call 13; refine (hlen_nil _).mono ?_; rintro e w' ⟨rfl, rfl⟩)
  go_ret2
  exact ⟨rfl, rfl⟩
theorem key_nil (i : Int) (w : World) : Calls Try.prog 19 #[.pointer none, .int .i64 i] w fun r w' => r = .returned (.tuple #[.int .i64 0, .bool false]) ∧ w = w' := by
  go_enter Try.func19, Try.ntmps19
  go_wp2_with (fail)
  go_ret2
  exact ⟨rfl, rfl⟩
theorem due_nil (x : Int) (w : World) : Calls Try.prog 11 #[.pointer none, .int .i64 x] w fun r w' => r = .returned (.slice none 0 0) ∧ w = w' := by
  go_enter Try.func11, Try.ntmps11
  go_wp2_with (fail)
  go_ret
  exact ⟨rfl, rfl⟩
/-! New -/
theorem hnew_no (room : Int) (w : World) (hr : ¬ (1 ≤ room ∧ room ≤ 1024)) : Calls Try.prog 9 #[.int .i64 room] w fun r w' => r = .returned (.tuple #[.pointer none, .int .i64 1]) ∧ w = w' := by
  by_cases h1 : room < 1
  · go_enter Try.func9, Try.ntmps9
    go_wp2_with (fail)
    go_ret2
    exact ⟨rfl, rfl⟩
  · have h2 : room > 1024 := by omega
    have h3 : decide (room < 1) = false := decide_eq_false h1
    go_enter Try.func9, Try.ntmps9
    go_wp2_with (fail)
    go_ret2
    exact ⟨rfl, rfl⟩
end Go.Proofs.Ytphkahphpgipkaa.Z

/- Rows as lists: what goes; the methods in these words. -/
import Derived.Test.YtifffmfbipjilaaDqp
namespace Go.Proofs.Ytifffmfbipjilaa.Z
open Go.RowKit Go.Proofs.YtifffmfbipjilaaW
theorem DR.removed {d d' : Dq} {L : List (List Nat)} (h : DR d L) {r k i : Nat} {l : List Nat} (hl : L[r]? = some l) (hk : l[k]? = some i)
    (hrows : d'.rows = d.rows.set r ⟨nth (l.eraseIdx k) 0, nth (l.eraseIdx k) (l.length - 2), l.length - 1⟩)
    (hlinks : ∀ j : Nat, d'.links[j]? = if j = i then some ⟨-1, -1, -1⟩ else if (j : Int) = nth l (k + 1) then some ⟨r, nth l (k - 1), nth l (k + 2)⟩ else if (j : Int) = nth l (k - 1) then some ⟨r, nth l (k - 2), nth l (k + 1)⟩ else d.links[j]?)
    (hll : d'.links.length = d.links.length) : DR d' (L.set r (l.eraseIdx k)) := by
  have hrL : r < L.length := (List.getElem?_eq_some_iff.1 hl).1
  have hrd : r < d.rows.length := by rw [h.rl]; exact hrL
  have hkl : k < l.length := (List.getElem?_eq_some_iff.1 hk).1
  have hel : (l.eraseIdx k).length = l.length - 1 := List.length_eraseIdx_of_lt hkl
  -- whoever stands next to i
  have nx : ∀ (x : Nat) (m : Int), (x : Int) = nth l m → 0 ≤ m ∧ m < l.length ∧ l[m.toNat]? = some x := by
    intro x m e
    by_cases h0 : 0 ≤ m
    · by_cases h1 : m < l.length
      · obtain ⟨y, hy, hy2⟩ := nth_in h0 h1
        rw [hy2] at e
        have : x = y := by omega
        exact ⟨h0, h1, this ▸ hy⟩
      · rw [nth_big (by omega)] at e; omega
    · rw [nth_neg (by omega)] at e; omega
  refine ⟨by rw [hrows, List.length_set, List.length_set]; exact h.rl, ?_, ?_, ?_, ?_, by rw [hll]; exact h.room⟩
  · intro r' l' hl'
    rw [set_at hrL] at hl'
    rw [hrows, set_at hrd]
    by_cases hr : r = r'
    · rw [if_pos hr] at hl' ⊢
      injection hl' with hl'
      rw [← hl', hel]
      have e1 : ((l.length - 1 : Nat) : Int) = l.length - 1 := by omega
      rw [e1]
      congr 2
      congr 1
      omega
    · rw [if_neg hr] at hl' ⊢
      exact h.row r' l' hl'
  · intro r' l' m j hl' hm
    rw [set_at hrL] at hl'
    rw [hlinks]
    by_cases hr : r = r'
    · subst hr
      rw [if_pos rfl] at hl'
      injection hl' with hl'
      rw [← hl'] at hm ⊢
      have hml : m < l.length - 1 := by rw [← hel]; exact (List.getElem?_eq_some_iff.1 hm).1
      rw [List.getElem?_eraseIdx] at hm
      -- its place in the old row
      obtain ⟨m0, hm0, hm1⟩ : ∃ m0 : Nat, l[m0]? = some j ∧ (m < k ∧ m0 = m ∨ k ≤ m ∧ m0 = m + 1) := by
        by_cases hmk : m < k
        · rw [if_pos hmk] at hm; exact ⟨m, hm, .inl ⟨hmk, rfl⟩⟩
        · rw [if_neg hmk] at hm; exact ⟨m + 1, hm, .inr ⟨by omega, rfl⟩⟩
      have hji : j ≠ i := fun e => by
        have := (h.one hl hm0 hl (e ▸ hk)).2
        omega
      rw [if_neg hji, nth_erase, nth_erase]
      by_cases hq : (j : Int) = nth l (k + 1)
      · obtain ⟨_, h1, h2⟩ := nx j _ hq
        have e0 := (h.one hl hm0 hl h2).2
        have e1 : m0 = k + 1 := by omega
        have e2 : m = k := by omega
        rw [if_pos hq, if_pos (by omega), if_neg (by omega)]
        congr 2
        · congr 1; omega
        · congr 1; omega
      · rw [if_neg hq]
        by_cases hp : (j : Int) = nth l (k - 1)
        · obtain ⟨h0, h1, h2⟩ := nx j _ hp
          have e0 := (h.one hl hm0 hl h2).2
          have e1 : m0 = k - 1 := by omega
          have e2 : m = k - 1 := by omega
          rw [if_pos hp, if_pos (by omega), if_neg (by omega)]
          congr 2
          · congr 1; omega
          · congr 1; omega
        · rw [if_neg hp, h.lk r l m0 j hl hm0]
          have n1 : m0 ≠ k + 1 := fun e => hq (by
            have := nth_some hm0
            rw [← this]; congr 1; omega)
          have n2 : m0 + 1 ≠ k := fun e => hp (by
            have := nth_some hm0
            rw [← this]; congr 1; omega)
          rcases hm1 with ⟨hmk, e⟩ | ⟨hmk, e⟩
          · rw [if_pos (by omega), if_pos (by omega), e]
          · rw [if_neg (by omega), if_neg (by omega)]
            congr 2
            · congr 1; omega
            · congr 1; omega
    · rw [if_neg hr] at hl'
      have hji : j ≠ i := fun e => hr (h.one hl hk hl' (e ▸ hm)).1
      have hq : ¬ (j : Int) = nth l (k + 1) := fun e => hr (h.one hl (nx j _ e).2.2 hl' hm).1
      have hp : ¬ (j : Int) = nth l (k - 1) := fun e => hr (h.one hl (nx j _ e).2.2 hl' hm).1
      rw [if_neg hji, if_neg hq, if_neg hp]
      exact h.lk r' l' m j hl' hm
  · intro j c' hj hn
    rw [hlinks] at hj
    by_cases hji : j = i
    · rw [if_pos hji] at hj
      injection hj with hj
      rw [← hj]
    · have hmem : ∀ m : Int, (j : Int) = nth l m → m ≠ k → False := by
        intro m e hmk
        obtain ⟨h0, h1, h2⟩ := nx j m e
        refine hn r (l.eraseIdx k) (by rw [set_at hrL, if_pos rfl]) ?_
        rw [List.mem_iff_getElem?]
        by_cases hlt : m < k
        · exact ⟨m.toNat, by rw [List.getElem?_eraseIdx, if_pos (by omega)]; exact h2⟩
        · exact ⟨m.toNat - 1, by rw [List.getElem?_eraseIdx, if_neg (by omega), show m.toNat - 1 + 1 = m.toNat from by omega]; exact h2⟩
      rw [if_neg hji, if_neg (fun e => hmem _ e (by omega)), if_neg (fun e => hmem _ e (by omega))] at hj
      refine h.free j c' hj (fun r' l' hl' hm => ?_)
      by_cases hr : r = r'
      · subst hr
        rw [hl] at hl'
        injection hl' with hl'
        obtain ⟨m, hm2⟩ := List.mem_iff_getElem?.1 hm
        rw [← hl'] at hm2
        refine hmem m (nth_some hm2).symm (fun e => ?_)
        have : m = k := by omega
        rw [this, hk] at hm2
        injection hm2 with hm2
        exact hji hm2.symm
      · exact hn r' l' (by rw [set_at hrL, if_neg hr]; exact hl') hm
  · intro r' l' hl'
    rw [set_at hrL] at hl'
    by_cases hr : r = r'
    · rw [if_pos hr] at hl'
      injection hl' with hl'
      rw [← hl']
      exact (h.nd r l hl).sublist (List.eraseIdx_sublist l k)
    · rw [if_neg hr] at hl'
      exact h.nd r' l' hl'
/-! The methods -/
theorem push_dr (r i g br bl : Nat) (d : Dq) (L : List (List Nat)) (l : List Nat) (w : World) (hd : DqAt w g br bl d) (h : DR d L) (hl : L[r]? = some l) (hi : i < d.links.length) (hn : ∀ (r' : Nat) l', L[r']? = some l' → i ∉ l') :
  Calls Try.prog 33 #[.pointer (some ⟨g, 0, none⟩), .int .i64 r, .int .i64 i] w fun e w' => e = .returned (.int .i64 0) ∧ ∃ d', DqAt w' g br bl d' ∧ DR d' (L.set r (l ++ [i])) ∧ d'.links.length = d.links.length ∧ Kp [br, bl] w w' := by
  have hc : d.links[i]? = some d.links[i] := List.getElem?_eq_getElem hi
  have hrow := h.free i _ hc hn
  have hrr := h.row r l hl
  have hlen := h.len hl
  have hroom := h.room
  have hp := h.pushed hl hc hrow
  cases hg : l.getLast? with
  | none =>
    have e0 : l = [] := List.getLast?_eq_none_iff.1 hg
    subst e0
    refine (push_first r i g br bl d _ _ w hd hrr hc hrow rfl (Int.le_refl _) (by show (0 : Int) ≤ 1024; omega)).mono ?_
    rintro e w' ⟨rfl, h2, h3⟩
    exact ⟨rfl, _, h2, hp, by simp, h3⟩
  | some b =>
    have hlen0 : 0 < l.length := by cases l; · simp at hg
                                    · simp
    have hb : l[l.length - 1]? = some b := by rw [← List.getLast?_eq_getElem?]; exact hg
    have hbn : nth l (l.length - 1) = b := by
      have := nth_some hb
      rw [← this]; congr 1; omega
    have hlb := h.lk r l _ b hl hb
    have hib : i ≠ b := fun e => hn r l hl (e ▸ List.mem_of_getElem? hb)
    refine (push_next r i b g br bl d _ _ _ w hd hrr hc hrow hbn hlb hib (by show (0 : Int) ≤ (l.length : Int); omega) (by show (l.length : Int) ≤ 1024; omega)).mono ?_
    rintro e w' ⟨rfl, h2, h3⟩
    refine ⟨rfl, d.pushed r i l, ?_, hp, by unfold Dq.pushed; rw [hg]; simp, h3⟩
    have e1 : d.pushed r i l = ⟨d.rows.set r ⟨nth l 0, i, l.length + 1⟩, (d.links.set i ⟨r, b, -1⟩).set b ⟨r, nth l (l.length - 2), i⟩⟩ := by
      unfold Dq.pushed; rw [hg]
    rw [e1]
    have e2 : (((l.length - 1 : Nat) : Int) - 1) = (l.length : Int) - 2 := by omega
    rw [e2] at h2
    exact h2
theorem remove_dr (r k i g br bl : Nat) (d : Dq) (L : List (List Nat)) (l : List Nat) (w : World) (hd : DqAt w g br bl d) (h : DR d L) (hl : L[r]? = some l) (hk : l[k]? = some i) :
  Calls Try.prog 38 #[.pointer (some ⟨g, 0, none⟩), .int .i64 i] w fun e w' => e = .returned (.int .i64 0) ∧ ∃ d', DqAt w' g br bl d' ∧ DR d' (L.set r (l.eraseIdx k)) ∧ d'.links.length = d.links.length ∧ Kp [br, bl] w w' := by
  have hc := h.lk r l k i hl hk
  have hil : i < d.links.length := (List.getElem?_eq_some_iff.1 hc).1
  have hrr := h.row r l hl
  have hlen := h.len hl
  have hroom := h.room
  have hkl : k < l.length := (List.getElem?_eq_some_iff.1 hk).1
  by_cases hp : k = 0
  · have ep : nth l ((k : Int) - 1) = -1 := nth_neg (by omega)
    by_cases hq : k + 1 = l.length
    · have eq : nth l ((k : Int) + 1) = -1 := nth_big (by omega)
      refine (remove_fl r i g br bl d _ _ w hd hrr hc rfl ep eq (by show (1 : Int) ≤ (l.length : Int); omega) (by show (l.length : Int) ≤ 1024; omega)).mono ?_
      rintro e w' ⟨rfl, h2, h3⟩
      refine ⟨rfl, _, h2, h.removed hl hk ?_ (fun j => ?_) (by simp), by simp, h3⟩
      · show d.rows.set r _ = d.rows.set r _
        have a1 : nth (l.eraseIdx k) 0 = nth l ((k : Int) + 1) := by rw [nth_erase, if_neg (by omega)]; congr 1; omega
        have a2 : nth (l.eraseIdx k) ((l.length : Int) - 2) = nth l ((k : Int) - 1) := by rw [nth_erase, if_pos (by omega)]; congr 1; omega
        rw [a1, a2]
      · show (d.links.set i ⟨-1, -1, -1⟩)[j]? = _
        have ci : (j = i) = (i = j) := propext ⟨Eq.symm, Eq.symm⟩
        have cn : ((j : Int) = -1) = False := propext ⟨fun e => by omega, False.elim⟩
        simp only [set_at hil, ep, eq, ci, cn, if_false]
    · obtain ⟨q, hq1, hq2⟩ := nth_in (l := l) (k := (k : Int) + 1) (by omega) (by omega)
      have hq1' : l[k + 1]? = some q := by rw [← hq1]; congr 1
      have hlq := h.lk r l (k + 1) q hl hq1'
      have hqi : q ≠ i := fun e => by have := (h.one hl hq1' hl (e ▸ hk)).2; omega
      have hql : q < d.links.length := (List.getElem?_eq_some_iff.1 hlq).1
      refine (remove_fm r i q _ g br bl d _ _ w hd hrr hc rfl ep hq2 hlq hqi (by show (1 : Int) ≤ (l.length : Int); omega) (by show (l.length : Int) ≤ 1024; omega)).mono ?_
      rintro e w' ⟨rfl, h2, h3⟩
      refine ⟨rfl, _, h2, h.removed hl hk ?_ (fun j => ?_) (by simp), by simp, h3⟩
      · show d.rows.set r _ = d.rows.set r _
        have a1 : nth (l.eraseIdx k) 0 = nth l ((k : Int) + 1) := by rw [nth_erase, if_neg (by omega)]; congr 1; omega
        have a2 : nth (l.eraseIdx k) ((l.length : Int) - 2) = nth l ((l.length : Int) - 1) := by rw [nth_erase, if_neg (by omega)]; congr 1; omega
        rw [a1, a2]
      · show ((d.links.set q ⟨r, nth l ((k : Int) - 1), nth l (((k + 1 : Nat) : Int) + 1)⟩).set i ⟨-1, -1, -1⟩)[j]? = _
        have ci : (j = i) = (i = j) := propext ⟨Eq.symm, Eq.symm⟩
        have cq : ((j : Int) = (q : Int)) = (q = j) := propext ⟨fun e => by omega, fun e => by omega⟩
        have cn : ((j : Int) = -1) = False := propext ⟨fun e => by omega, False.elim⟩
        have ce : (((k + 1 : Nat) : Int) + 1) = (k : Int) + 2 := by omega
        rw [set_at (by rw [List.length_set]; exact hil), set_at hql, hq2, ep, ce]
        simp only [ci, cq, cn, if_false]
  · obtain ⟨p, hp1, hp2⟩ := nth_in (l := l) (k := (k : Int) - 1) (by omega) (by omega)
    have hp1' : l[k - 1]? = some p := by rw [← hp1]; congr 1; omega
    have hlp := h.lk r l (k - 1) p hl hp1'
    have hpi : p ≠ i := fun e => by have := (h.one hl hp1' hl (e ▸ hk)).2; omega
    have hpl : p < d.links.length := (List.getElem?_eq_some_iff.1 hlp).1
    have e2 : (((k - 1 : Nat) : Int) - 1) = (k : Int) - 2 := by omega
    rw [e2] at hlp
    by_cases hq : k + 1 = l.length
    · have eq : nth l ((k : Int) + 1) = -1 := nth_big (by omega)
      refine (remove_ml r i p _ g br bl d _ _ w hd hrr hc rfl hp2 hlp hpi eq (by show (1 : Int) ≤ (l.length : Int); omega) (by show (l.length : Int) ≤ 1024; omega)).mono ?_
      rintro e w' ⟨rfl, h2, h3⟩
      refine ⟨rfl, _, h2, h.removed hl hk ?_ (fun j => ?_) (by simp), by simp, h3⟩
      · show d.rows.set r _ = d.rows.set r _
        have a1 : nth (l.eraseIdx k) 0 = nth l 0 := by rw [nth_erase, if_pos (by omega)]
        have a2 : nth (l.eraseIdx k) ((l.length : Int) - 2) = nth l ((k : Int) - 1) := by rw [nth_erase, if_pos (by omega)]; congr 1; omega
        rw [a1, a2]
      · show ((d.links.set p ⟨r, nth l ((k : Int) - 2), nth l ((k : Int) + 1)⟩).set i ⟨-1, -1, -1⟩)[j]? = _
        have ci : (j = i) = (i = j) := propext ⟨Eq.symm, Eq.symm⟩
        have cp : ((j : Int) = (p : Int)) = (p = j) := propext ⟨fun e => by omega, fun e => by omega⟩
        have cn : ((j : Int) = -1) = False := propext ⟨fun e => by omega, False.elim⟩
        rw [set_at (by rw [List.length_set]; exact hil), set_at hpl, eq, hp2]
        simp only [ci, cp, cn, if_false]
    · obtain ⟨q, hq1, hq2⟩ := nth_in (l := l) (k := (k : Int) + 1) (by omega) (by omega)
      have hq1' : l[k + 1]? = some q := by rw [← hq1]; congr 1
      have hlq := h.lk r l (k + 1) q hl hq1'
      have hqi : q ≠ i := fun e => by have := (h.one hl hq1' hl (e ▸ hk)).2; omega
      have hql : q < d.links.length := (List.getElem?_eq_some_iff.1 hlq).1
      have hpq : p ≠ q := fun e => by have := (h.one hl hp1' hl (e ▸ hq1')).2; omega
      refine (remove_mm r i p _ q _ g br bl d _ _ w hd hrr hc rfl hp2 hlp hpi hq2 hlq hqi hpq (by show (1 : Int) ≤ (l.length : Int); omega) (by show (l.length : Int) ≤ 1024; omega)).mono ?_
      rintro e w' ⟨rfl, h2, h3⟩
      refine ⟨rfl, _, h2, h.removed hl hk ?_ (fun j => ?_) (by simp), by simp, h3⟩
      · show d.rows.set r _ = d.rows.set r _
        have a1 : nth (l.eraseIdx k) 0 = nth l 0 := by rw [nth_erase, if_pos (by omega)]
        have a2 : nth (l.eraseIdx k) ((l.length : Int) - 2) = nth l ((l.length : Int) - 1) := by rw [nth_erase, if_neg (by omega)]; congr 1; omega
        rw [a1, a2]
      · show (((d.links.set p ⟨r, nth l ((k : Int) - 2), nth l ((k : Int) + 1)⟩).set q ⟨r, nth l ((k : Int) - 1), nth l (((k + 1 : Nat) : Int) + 1)⟩).set i ⟨-1, -1, -1⟩)[j]? = _
        have ci : (j = i) = (i = j) := propext ⟨Eq.symm, Eq.symm⟩
        have cq : ((j : Int) = (q : Int)) = (q = j) := propext ⟨fun e => by omega, fun e => by omega⟩
        have cp : ((j : Int) = (p : Int)) = (p = j) := propext ⟨fun e => by omega, fun e => by omega⟩
        have ce : (((k + 1 : Nat) : Int) + 1) = (k : Int) + 2 := by omega
        rw [set_at (by rw [List.length_set, List.length_set]; exact hil), set_at (by rw [List.length_set]; exact hql), set_at hpl, hq2, hp2, ce]
        simp only [ci, cq, cp]
end Go.Proofs.Ytifffmfbipjilaa.Z

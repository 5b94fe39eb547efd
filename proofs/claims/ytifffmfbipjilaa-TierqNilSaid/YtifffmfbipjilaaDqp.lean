/- Rows as lists of members. -/
import Derived.Test.YtifffmfbipjilaaDqn
namespace Go.Proofs.Ytifffmfbipjilaa.Z
open Go.RowKit Go.Proofs.YtifffmfbipjilaaW
set_option linter.unusedVariables false
/-- Member k of a list; below 0: there is none. -/
def nth (l : List Nat) (k : Int) : Int := if 0 ≤ k then (l[k.toNat]?.map (fun x : Nat => (x : Int))).getD (-1) else -1
theorem nth_neg {l : List Nat} {k : Int} (h : k < 0) : nth l k = -1 := if_neg (by omega)
theorem nth_big {l : List Nat} {k : Int} (h : (l.length : Int) ≤ k) : nth l k = -1 := by
  unfold nth
  rw [if_pos (by omega), List.getElem?_eq_none (by omega)]
  rfl
theorem nth_some {l : List Nat} {k x : Nat} (h : l[k]? = some x) : nth l k = x := by
  unfold nth
  rw [if_pos (by omega), Int.toNat_natCast, h]
  rfl
theorem nth_in {l : List Nat} {k : Int} (h0 : 0 ≤ k) (h1 : k < l.length) : ∃ x : Nat, l[k.toNat]? = some x ∧ nth l k = x := by
  refine ⟨l[k.toNat]'(by omega), List.getElem?_eq_getElem (by omega), ?_⟩
  have := nth_some (l := l) (k := k.toNat) (List.getElem?_eq_getElem (by omega))
  rw [← this]
  congr 1
  omega
theorem nth_snoc {l : List Nat} {i : Nat} {k : Int} (h : k < l.length) : nth (l ++ [i]) k = nth l k := by
  unfold nth
  by_cases h0 : 0 ≤ k
  · rw [if_pos h0, if_pos h0, List.getElem?_append_left (by omega)]
  · rw [if_neg h0, if_neg h0]
theorem nth_snoc_last (l : List Nat) (i : Nat) : nth (l ++ [i]) l.length = i := nth_some (by simp)
theorem nth_erase {l : List Nat} {k : Nat} {m : Int} : nth (l.eraseIdx k) m = if m < k then nth l m else nth l (m + 1) := by
  by_cases hm : m < k
  · rw [if_pos hm]
    unfold nth
    by_cases h0 : 0 ≤ m
    · rw [if_pos h0, if_pos h0, List.getElem?_eraseIdx, if_pos (by omega)]
    · rw [if_neg h0, if_neg h0]
  · rw [if_neg hm]
    unfold nth
    rw [if_pos (by omega), if_pos (by omega), List.getElem?_eraseIdx, if_neg (by omega), show (m + 1).toNat = m.toNat + 1 from by omega]
/-- The rows L are what d holds. -/
structure DR (d : Dq) (L : List (List Nat)) : Prop where
  rl : d.rows.length = L.length
  row : ∀ (r : Nat) l, L[r]? = some l → d.rows[r]? = some ⟨nth l 0, nth l (l.length - 1), l.length⟩
  lk : ∀ (r : Nat) l (k i : Nat), L[r]? = some l → l[k]? = some i → d.links[i]? = some ⟨r, nth l (k - 1), nth l (k + 1)⟩
  free : ∀ (i : Nat) c, d.links[i]? = some c → (∀ (r : Nat) l, L[r]? = some l → i ∉ l) → c.row = -1
  nd : ∀ (r : Nat) l, L[r]? = some l → l.Nodup
  room : d.links.length ≤ 1024
theorem DR.lt {d : Dq} {L : List (List Nat)} (h : DR d L) {r : Nat} {l : List Nat} {i : Nat} (hl : L[r]? = some l) (hi : i ∈ l) : i < d.links.length := by
  obtain ⟨k, hk⟩ := List.mem_iff_getElem?.1 hi
  exact (List.getElem?_eq_some_iff.1 (h.lk r l k i hl hk)).1
theorem DR.len {d : Dq} {L : List (List Nat)} (h : DR d L) {r : Nat} {l : List Nat} (hl : L[r]? = some l) : l.length ≤ d.links.length :=
  nodup_lt_len _ l (h.nd r l hl) (fun k hk => h.lt hl hk)
/-- A member is in one row, at one place. -/
theorem DR.one {d : Dq} {L : List (List Nat)} (h : DR d L) {r r' k k' i : Nat} {l l' : List Nat} (hl : L[r]? = some l) (hk : l[k]? = some i) (hl' : L[r']? = some l') (hk' : l'[k']? = some i) : r = r' ∧ k = k' := by
  have e1 := h.lk r l k i hl hk
  have e2 := h.lk r' l' k' i hl' hk'
  rw [e1] at e2
  injection e2 with e2
  injection e2 with e2 _ _
  have hr : r = r' := by omega
  subst hr
  rw [hl] at hl'
  injection hl' with hl'
  subst hl'
  refine ⟨rfl, ?_⟩
  have h1 := (List.getElem?_eq_some_iff.1 hk)
  have h2 := (List.getElem?_eq_some_iff.1 hk')
  exact (List.getElem_inj (h.nd r l hl)).1 (h1.2.trans h2.2.symm)
theorem DR.new (n m : Nat) (hm : m ≤ 1024) : DR ⟨List.replicate n Rw.nil, List.replicate m Lk.nil⟩ (List.replicate n []) where
  rl := by simp
  row := by
    intro r l h
    have h2 := List.mem_of_getElem? h
    rw [List.mem_replicate] at h2
    have h3 : r < n := by have := (List.getElem?_eq_some_iff.1 h).1; simpa using this
    rw [h2.2, List.getElem?_replicate, if_pos h3]
    rfl
  lk := by
    intro r l k i h hk
    have h2 := List.mem_of_getElem? h
    rw [List.mem_replicate] at h2
    rw [h2.2] at hk
    simp at hk
  free := by
    intro i c hc _
    have h2 := List.mem_of_getElem? hc
    rw [List.mem_replicate] at h2
    rw [h2.2]; rfl
  nd := by
    intro r l h
    have h2 := List.mem_of_getElem? h
    rw [List.mem_replicate] at h2
    rw [h2.2]; exact List.nodup_nil
  room := by simpa using hm
/-- Behind a push. -/
def Dq.pushed (d : Dq) (r i : Nat) (l : List Nat) : Dq :=
  match l.getLast? with
  | none => ⟨d.rows.set r ⟨i, i, l.length + 1⟩, d.links.set i ⟨r, -1, -1⟩⟩
  | some b => ⟨d.rows.set r ⟨nth l 0, i, l.length + 1⟩, (d.links.set i ⟨r, b, -1⟩).set b ⟨r, nth l (l.length - 2), i⟩⟩
theorem set_at {α : Type} {l : List α} {i j : Nat} {x : α} (h : i < l.length) : (l.set i x)[j]? = if i = j then some x else l[j]? := by
  by_cases he : i = j
  · subst he; rw [if_pos rfl, List.getElem?_set_self h]
  · rw [if_neg he, List.getElem?_set_ne he]
theorem DR.pushed {d : Dq} {L : List (List Nat)} (h : DR d L) {r i : Nat} {l : List Nat} {c : Lk} (hl : L[r]? = some l) (hc : d.links[i]? = some c) (hrow : c.row = -1) : DR (d.pushed r i l) (L.set r (l ++ [i])) := by
  have hrL : r < L.length := (List.getElem?_eq_some_iff.1 hl).1
  have hrd : r < d.rows.length := by rw [h.rl]; exact hrL
  have hil : i < d.links.length := (List.getElem?_eq_some_iff.1 hc).1
  have hnot : ∀ (r' : Nat) l', L[r']? = some l' → i ∉ l' := by
    intro r' l' hl' hm
    obtain ⟨k, hk⟩ := List.mem_iff_getElem?.1 hm
    have := h.lk r' l' k i hl' hk
    rw [hc] at this
    injection this with this
    rw [this] at hrow
    have h2 : (r' : Int) = -1 := hrow
    omega
  -- the links of the new state
  have hlinks : ∀ j : Nat, (d.pushed r i l).links[j]? = if j = i then some ⟨r, nth l (l.length - 1), -1⟩ else if (j : Int) = nth l (l.length - 1) then some ⟨r, nth l (l.length - 2), i⟩ else d.links[j]? := by
    intro j
    unfold Dq.pushed
    cases hg : l.getLast? with
    | none =>
      have : l = [] := List.getLast?_eq_none_iff.1 hg
      subst this
      show (d.links.set i ⟨r, -1, -1⟩)[j]? = _
      rw [set_at hil]
      by_cases hj : i = j
      · rw [if_pos hj, if_pos hj.symm]; rfl
      · rw [if_neg hj, if_neg (fun e => hj e.symm), if_neg (by show ¬ (j : Int) = -1; omega)]
    | some b =>
      have hlen : 0 < l.length := by cases l; · simp at hg
                                     · simp
      have hb : l[l.length - 1]? = some b := by rw [← List.getLast?_eq_getElem?]; exact hg
      have hbn : nth l (l.length - 1) = b := by
        have := nth_some hb
        rw [← this]; congr 1; omega
      have hbl : b < d.links.length := h.lt hl (List.mem_of_getElem? hb)
      have hbi : b ≠ i := fun e => hnot r l hl (e ▸ List.mem_of_getElem? hb)
      show ((d.links.set i ⟨r, b, -1⟩).set b ⟨r, nth l (l.length - 2), i⟩)[j]? = _
      rw [set_at (by rw [List.length_set]; exact hbl), set_at hil, hbn]
      by_cases hj : j = i
      · subst hj
        rw [if_pos rfl, if_neg hbi, if_pos rfl]
      · rw [if_neg hj]
        by_cases hj2 : (j : Int) = b
        · rw [if_pos hj2, if_pos (by omega)]
        · rw [if_neg hj2, if_neg (by omega), if_neg (fun e => hj e.symm)]
  have hrows : (d.pushed r i l).rows = d.rows.set r ⟨nth (l ++ [i]) 0, i, (l.length : Int) + 1⟩ := by
    unfold Dq.pushed
    cases hg : l.getLast? with
    | none =>
      have : l = [] := List.getLast?_eq_none_iff.1 hg
      subst this
      rfl
    | some b =>
      have hlen : 0 < l.length := by cases l; · simp at hg
                                     · simp
      rw [nth_snoc (by omega)]
  have hll : (d.pushed r i l).links.length = d.links.length := by
    unfold Dq.pushed
    cases l.getLast? <;> simp
  refine ⟨by rw [hrows, List.length_set, List.length_set]; exact h.rl, ?_, ?_, ?_, ?_, by rw [hll]; exact h.room⟩
  · intro r' l' hl'
    rw [set_at hrL] at hl'
    rw [hrows, set_at hrd]
    by_cases hr : r = r'
    · rw [if_pos hr] at hl' ⊢
      injection hl' with hl'
      rw [← hl']
      have e1 : ((l ++ [i]).length : Int) - 1 = l.length := by simp
      have e2 : ((l ++ [i]).length : Int) = l.length + 1 := by simp
      rw [e1, nth_snoc_last, e2]
    · rw [if_neg hr] at hl' ⊢
      exact h.row r' l' hl'
  · intro r' l' k j hl' hk
    rw [set_at hrL] at hl'
    rw [hlinks]
    by_cases hr : r = r'
    · subst hr
      rw [if_pos rfl] at hl'
      injection hl' with hl'
      rw [← hl'] at hk ⊢
      rcases Nat.lt_or_ge k l.length with hlt | hge
      · rw [List.getElem?_append_left hlt] at hk
        have hji : j ≠ i := fun e => hnot r l hl (e ▸ List.mem_of_getElem? hk)
        rw [if_neg hji, nth_snoc (by omega)]
        by_cases hlast : k + 1 = l.length
        · have e1 : nth l (l.length - 1) = j := by
            have := nth_some hk
            rw [← this]; congr 1; omega
          rw [if_pos e1.symm]
          have e2 : ((k : Int) + 1) = l.length := by omega
          rw [e2, nth_snoc_last]
          congr 2
          congr 1
          omega
        · have hne : ¬ (j : Int) = nth l (l.length - 1) := by
            intro e
            obtain ⟨x, hx, hx2⟩ := nth_in (l := l) (k := (l.length : Int) - 1) (by omega) (by omega)
            rw [hx2] at e
            have e' : j = x := by omega
            subst e'
            have := (h.one hl hk hl hx).2
            omega
          rw [if_neg hne, h.lk r l k j hl hk, nth_snoc (by omega)]
      · have hkl : k = l.length := by
          have := (List.getElem?_eq_some_iff.1 hk).1
          simp at this
          omega
        subst hkl
        rw [List.getElem?_append_right (Nat.le_refl _), Nat.sub_self] at hk
        have hji : j = i := by simpa using hk.symm
        have e1 : nth (l ++ [i]) ((l.length : Int) + 1) = -1 := nth_big (by rw [List.length_append]; simp)
        rw [if_pos hji, nth_snoc (by omega), e1]
    · rw [if_neg hr] at hl'
      have hji : j ≠ i := fun e => hnot r' l' hl' (e ▸ List.mem_of_getElem? hk)
      have hne : ¬ (j : Int) = nth l (l.length - 1) := by
        intro e
        by_cases hlen : 0 < l.length
        · obtain ⟨x, hx, hx2⟩ := nth_in (l := l) (k := (l.length : Int) - 1) (by omega) (by omega)
          rw [hx2] at e
          have e' : j = x := by omega
          subst e'
          exact hr (h.one hl hx hl' hk).1
        · rw [nth_neg (by omega)] at e
          omega
      rw [if_neg hji, if_neg hne]
      exact h.lk r' l' k j hl' hk
  · intro j c' hj hn
    rw [hlinks] at hj
    have hji : j ≠ i := fun e => hn r (l ++ [i]) (by rw [set_at hrL, if_pos rfl]) (by rw [e]; simp)
    rw [if_neg hji] at hj
    have hne : ¬ (j : Int) = nth l (l.length - 1) := by
      intro e
      by_cases hlen : 0 < l.length
      · obtain ⟨x, hx, hx2⟩ := nth_in (l := l) (k := (l.length : Int) - 1) (by omega) (by omega)
        rw [hx2] at e
        have e' : j = x := by omega
        exact hn r (l ++ [i]) (by rw [set_at hrL, if_pos rfl]) (by rw [e']; exact List.mem_append_left _ (List.mem_of_getElem? hx))
      · rw [nth_neg (by omega)] at e
        omega
    rw [if_neg hne] at hj
    refine h.free j c' hj (fun r' l' hl' hm => ?_)
    by_cases hr : r = r'
    · subst hr
      rw [hl] at hl'
      injection hl' with hl'
      exact hn r (l ++ [i]) (by rw [set_at hrL, if_pos rfl]) (by rw [hl']; exact List.mem_append_left _ hm)
    · exact hn r' l' (by rw [set_at hrL, if_neg hr]; exact hl') hm
  · intro r' l' hl'
    rw [set_at hrL] at hl'
    by_cases hr : r = r'
    · rw [if_pos hr] at hl'
      injection hl' with hl'
      rw [← hl', List.nodup_append]
      exact ⟨h.nd r l hl, by simp, fun x hx y hy => by rw [List.mem_singleton] at hy; rw [hy]; exact fun e => hnot r l hl (e ▸ hx)⟩
    · rw [if_neg hr] at hl'
      exact h.nd r' l' hl'
end Go.Proofs.Ytifffmfbipjilaa.Z

/- Plain laws of a heap in a list, and of where each one is. -/
import Derived.Test.YtifffmfbipjilaaZlib
namespace Go.Proofs.Ytifffmfbipjilaa.Z.H
set_option linter.unusedVariables false
set_option maxRecDepth 100000
structure En where
  key : Int
  tie : Int
  i : Int
  deriving DecidableEq
instance : Inhabited En := ⟨⟨0, 0, 0⟩⟩
abbrev En.lt (a b : En) : Prop := a.key < b.key ∨ a.key = b.key ∧ (a.tie < b.tie ∨ a.tie = b.tie ∧ a.i < b.i)
theorem En.lt_irrefl (a : En) : ¬ a.lt a := by unfold En.lt; omega
theorem En.lt_trans {a b c : En} (h : a.lt b) (k : b.lt c) : a.lt c := by unfold En.lt at *; omega
theorem En.le_trans {a b c : En} (h : ¬ b.lt a) (k : ¬ c.lt b) : ¬ c.lt a := by unfold En.lt at *; omega
theorem En.le_of_lt {a b : En} (h : a.lt b) : ¬ b.lt a := by unfold En.lt at *; omega
theorem En.eq_of {a b : En} (h : ¬ a.lt b) (k : ¬ b.lt a) : a = b := by
  unfold En.lt at *
  cases a; cases b
  simp only [En.mk.injEq] at *
  refine ⟨?_, ?_, ?_⟩ <;> omega
def upd (f : Nat → En) (k : Nat) (e : En) : Nat → En := fun j => if j = k then e else f j
theorem upd_at (f : Nat → En) (k : Nat) (e : En) : upd f k e k = e := if_pos rfl
theorem upd_ne (f : Nat → En) {k j : Nat} (e : En) (h : j ≠ k) : upd f k e j = f j := if_neg h
/-- In order but for what touches k; and k's branches are in order with what is above k. -/
structure HB (f : Nat → En) (n k : Nat) : Prop where
  other : ∀ j, 1 ≤ j → j < n → j ≠ k → (j - 1) / 2 ≠ k → ¬ (f j).lt (f ((j - 1) / 2))
  over : ∀ j, 1 ≤ j → j < n → (j - 1) / 2 = k → 1 ≤ k → ¬ (f j).lt (f ((k - 1) / 2))
/-- In order but for k and its branches. -/
structure HD (f : Nat → En) (n k : Nat) : Prop where
  other : ∀ j, 1 ≤ j → j < n → (j - 1) / 2 ≠ k → ¬ (f j).lt (f ((j - 1) / 2))
  over : ∀ j, 1 ≤ j → j < n → (j - 1) / 2 = k → 1 ≤ k → ¬ (f j).lt (f ((k - 1) / 2))
def Kids (f : Nat → En) (n k : Nat) : Prop := ∀ j, 1 ≤ j → j < n → (j - 1) / 2 = k → ¬ (f j).lt (f k)
def Heap (f : Nat → En) (n : Nat) : Prop := ∀ j, 1 ≤ j → j < n → ¬ (f j).lt (f ((j - 1) / 2))
theorem HB.of_heap {f : Nat → En} {n k : Nat} (h : Heap f n) (e : En) : HB (upd f k e) n k where
  other j h1 h2 h3 h4 := by rw [upd_ne f e h3, upd_ne f e h4]; exact h j h1 h2
  over j h1 h2 h3 h4 := by
    rw [upd_ne f e (by omega), upd_ne f e (by omega)]
    have a := h j h1 h2
    rw [h3] at a
    exact En.le_trans (h k h4 (by omega)) a
theorem HB.up {f : Nat → En} {n k p : Nat} (h : HB f n k) (hp : (k - 1) / 2 = p) (hk : 1 ≤ k) (hn : k < n) (hl : (f k).lt (f p)) :
    HB (upd (upd f k (f p)) p (f k)) n p ∧ Kids (upd (upd f k (f p)) p (f k)) n p := by
  have hpk : p ≠ k := by omega
  refine ⟨⟨fun j h1 h2 h3 h4 => ?_, fun j h1 h2 h3 h4 => ?_⟩, fun j h1 h2 h3 => ?_⟩
  · rw [upd_ne _ _ h3, upd_ne _ _ h4]
    by_cases hj : j = k
    · subst hj; exact absurd hp h4
    · rw [upd_ne _ _ hj]
      by_cases hq : (j - 1) / 2 = k
      · rw [hq, upd_at]
        have := h.over j h1 h2 hq hk
        rwa [hp] at this
      · rw [upd_ne _ _ hq]; exact h.other j h1 h2 hj hq
  · have hj : j ≠ p := by omega
    rw [upd_ne _ _ hj, upd_ne _ _ (show (p - 1) / 2 ≠ p by omega), upd_ne _ _ (show (p - 1) / 2 ≠ k by omega)]
    have hpp := h.other p h4 (by omega) hpk (by omega)
    by_cases hjk : j = k
    · subst hjk; rw [upd_at]; exact hpp
    · rw [upd_ne _ _ hjk]
      have a := h.other j h1 h2 hjk (by omega)
      rw [h3] at a
      exact En.le_trans hpp a
  · rw [upd_at, upd_ne _ _ (show j ≠ p by omega)]
    by_cases hjk : j = k
    · subst hjk; rw [upd_at]; exact En.le_of_lt hl
    · rw [upd_ne _ _ hjk]
      have a := h.other j h1 h2 hjk (by omega)
      rw [h3] at a
      exact En.le_trans (En.le_of_lt hl) a
theorem HB.ended {f : Nat → En} {n k : Nat} (h : HB f n k) (hl : k = 0 ∨ ¬ (f k).lt (f ((k - 1) / 2))) : HD f n k where
  other j h1 h2 h3 := by
    by_cases hj : j = k
    · subst hj; exact hl.resolve_left (by omega)
    · exact h.other j h1 h2 hj h3
  over := h.over
theorem HD.ended {f : Nat → En} {n k : Nat} (h : HD f n k) (hk : Kids f n k) : Heap f n := fun j h1 h2 => by
  by_cases hj : (j - 1) / 2 = k
  · rw [hj]; exact hk j h1 h2 hj
  · exact h.other j h1 h2 hj
/-- c: the one of k's branches that comes first. -/
theorem HD.down {f : Nat → En} {n k c : Nat} (h : HD f n k) (hc : c < n) (h1c : 1 ≤ c) (hck : (c - 1) / 2 = k) (hm : ∀ j, 1 ≤ j → j < n → (j - 1) / 2 = k → ¬ (f j).lt (f c)) (hl : (f c).lt (f k)) :
    HD (upd (upd f k (f c)) c (f k)) n c where
  other j h1 h2 h3 := by
    have hkc : k ≠ c := by omega
    rw [upd_ne _ _ h3]
    by_cases hjc : j = c
    · subst hjc; rw [upd_at, hck, upd_at]; exact En.le_of_lt hl
    · rw [upd_ne _ _ hjc]
      by_cases hjk : (j - 1) / 2 = k
      · rw [hjk, upd_at, upd_ne _ _ (show j ≠ k by omega)]; exact hm j h1 h2 hjk
      · rw [upd_ne _ _ hjk]
        by_cases hj : j = k
        · subst hj
          rw [upd_at]
          have := h.over c h1c hc hck h1
          exact this
        · rw [upd_ne _ _ hj]; exact h.other j h1 h2 hjk
  over j h1 h2 h3 h4 := by
    rw [upd_ne _ _ (show j ≠ c by omega), upd_ne _ _ (show j ≠ k by omega), hck, upd_ne _ _ (show k ≠ c by omega), upd_at]
    have := h.other j h1 h2 (by omega)
    rwa [h3] at this
theorem Heap.root {f : Nat → En} {n : Nat} (h : Heap f n) : ∀ j, j < n → ¬ (f j).lt (f 0) := by
  intro j
  induction j using Nat.strongRecOn with
  | _ j ih =>
    intro hj
    by_cases h0 : j = 0
    · subst h0; exact En.lt_irrefl _
    · exact En.le_trans (ih ((j - 1) / 2) (by omega) (by omega)) (h j (by omega) hj)
/-- The branch of k: those whose key is at most that, in the order in which they are met. -/
def below (f : Nat → En) (n : Nat) (x : Int) : Nat → Nat → List Nat
  | 0, _ => []
  | m + 1, k => if k ≥ n ∨ (f k).key > x then [] else k :: (below f n x m (2 * k + 1) ++ below f n x m (2 * k + 2))
inductive Anc (k : Nat) : Nat → Prop
  | refl : Anc k k
  | step {j : Nat} : Anc k ((j - 1) / 2) → 1 ≤ j → Anc k j
theorem Anc.le {k j : Nat} (h : Anc k j) : k ≤ j := by
  induction h with
  | refl => exact Nat.le_refl _
  | step _ h ih => omega
theorem Anc.zero (j : Nat) : Anc 0 j := by
  induction j using Nat.strongRecOn with
  | _ j ih =>
    by_cases h : j = 0
    · subst h; exact .refl
    · exact .step (ih _ (by omega)) (by omega)
theorem Anc.down {k c j : Nat} (h : Anc c j) (hc : (c - 1) / 2 = k) (h1 : 1 ≤ c) : Anc k j := by
  induction h with
  | refl => exact .step (by rw [hc]; exact .refl) h1
  | step _ h ih => exact .step ih h
theorem Anc.split {k j : Nat} (h : Anc k j) : j = k ∨ Anc (2 * k + 1) j ∨ Anc (2 * k + 2) j := by
  induction h with
  | refl => exact .inl rfl
  | @step j _ h ih =>
    rcases ih with ih | ih | ih
    · have : j = 2 * k + 1 ∨ j = 2 * k + 2 := by omega
      rcases this with rfl | rfl
      · exact .inr (.inl .refl)
      · exact .inr (.inr .refl)
    · exact .inr (.inl (.step ih h))
    · exact .inr (.inr (.step ih h))
theorem Anc.part {k j : Nat} (h : Anc (2 * k + 1) j) (g : Anc (2 * k + 2) j) : False := by
  induction h with
  | refl => have := g.le; omega
  | @step j h0 h1 ih =>
    cases g with
    | refl => have := h0.le; omega
    | step g _ => exact ih g
theorem Heap.key {f : Nat → En} {n : Nat} (h : Heap f n) {k j : Nat} (a : Anc k j) (hj : j < n) : (f k).key ≤ (f j).key := by
  induction a with
  | refl => omega
  | @step j _ h1 ih =>
    have b := h j h1 hj
    have c := ih (by omega)
    unfold En.lt at b
    omega
theorem below_mem {f : Nat → En} {n : Nat} {x : Int} : ∀ (m k j : Nat), j ∈ below f n x m k → Anc k j ∧ j < n ∧ (f j).key ≤ x
  | 0, k, j, h => by simp [below] at h
  | m + 1, k, j, h => by
    unfold below at h
    split at h
    · simp at h
    · rename_i hc
      rw [List.mem_cons, List.mem_append] at h
      rcases h with rfl | h | h
      · exact ⟨.refl, by omega, by omega⟩
      · obtain ⟨a, b⟩ := below_mem m _ j h
        exact ⟨a.down (by omega) (by omega), b⟩
      · obtain ⟨a, b⟩ := below_mem m _ j h
        exact ⟨a.down (by omega) (by omega), b⟩
theorem mem_below {f : Nat → En} {n : Nat} {x : Int} (hp : Heap f n) : ∀ (m k j : Nat), n ≤ m + k → Anc k j → j < n → (f j).key ≤ x → j ∈ below f n x m k
  | 0, k, j, h, a, hj, hk => by have := a.le; omega
  | m + 1, k, j, h, a, hj, hk => by
    unfold below
    have h1 := a.le
    have h2 := hp.key a hj
    rw [if_neg (by omega), List.mem_cons, List.mem_append]
    rcases a.split with rfl | a | a
    · exact .inl rfl
    · exact .inr (.inl (mem_below hp m _ j (by omega) a hj hk))
    · exact .inr (.inr (mem_below hp m _ j (by omega) a hj hk))
theorem below_nodup {f : Nat → En} {n : Nat} {x : Int} : ∀ (m k : Nat), (below f n x m k).Nodup
  | 0, k => by simp [below]
  | m + 1, k => by
    unfold below
    split
    · exact List.nodup_nil
    · rw [List.nodup_cons, List.nodup_append]
      refine ⟨fun h => ?_, below_nodup m _, below_nodup m _, fun a ha b hb e => ?_⟩
      · rw [List.mem_append] at h
        rcases h with h | h
        · have := (below_mem m _ _ h).1.le; omega
        · have := (below_mem m _ _ h).1.le; omega
      · subst e
        exact (below_mem m _ _ ha).1.part (below_mem m _ _ hb).1
theorem below_perm {f : Nat → En} {n : Nat} {x : Int} (hp : Heap f n) : (below f n x n 0).Perm ((List.range n).filter fun j => decide ((f j).key ≤ x)) := by
  rw [List.perm_ext_iff_of_nodup (below_nodup _ _) (List.nodup_range.filter _)]
  intro j
  rw [List.mem_filter, List.mem_range, decide_eq_true_iff]
  exact ⟨fun h => (below_mem _ _ _ h).2, fun h => mem_below hp n 0 j (by omega) (Anc.zero j) h.1 h.2⟩
/-! Lists -/
abbrev fn (l : List En) : Nat → En := fun j => l.getD j default
theorem fn_set (l : List En) (k : Nat) (e : En) (h : k < l.length) : fn (l.set k e) = upd (fn l) k e := by
  funext j
  unfold fn upd
  rw [List.getD_eq_getElem?_getD, List.getElem?_set]
  by_cases hj : k = j
  · subst hj; simp [h]
  · rw [if_neg hj, if_neg (fun e => hj e.symm)]
    simp [List.getD_eq_getElem?_getD]
theorem fn_at {l : List En} {k : Nat} {e : En} (h : l[k]? = some e) : fn l k = e := by simp [fn, h]
theorem range_fn (l : List En) : (List.range l.length).map (fn l) = l := by
  apply List.ext_getElem
  · simp
  · intro i h1 h2
    simp [fn, h2]
def HeapL (l : List En) : Prop := Heap (fn l) l.length
/-- Those whose key is at most that. -/
theorem below_list {l : List En} {x : Int} (hp : HeapL l) : ((below (fn l) l.length x l.length 0).map (fn l)).Perm (l.filter fun e => decide (e.key ≤ x)) := by
  have := (below_perm (x := x) hp).map (fn l)
  refine this.trans ?_
  have e : (List.range l.length).filter (fun j => decide ((fn l j).key ≤ x)) = (List.range l.length).filter ((fun e : En => decide (e.key ≤ x)) ∘ fn l) := rfl
  rw [e, ← List.filter_map, range_fn]
/-- Where each one is. -/
structure At (l : List En) (at_ : List Int) : Prop where
  fwd : ∀ (k : Nat) (e : En), l[k]? = some e → 0 ≤ e.i ∧ at_[e.i.toNat]? = some (k : Int)
  back : ∀ (i : Nat) (v : Int), at_[i]? = some v → v = -1 ∨ ∃ (k : Nat) (e : En), v = (k : Int) ∧ l[k]? = some e ∧ e.i = (i : Int)
theorem At.inj {l : List En} {at_ : List Int} (h : At l at_) {k p : Nat} {e e' : En} (h1 : l[k]? = some e) (h2 : l[p]? = some e') (hi : e.i = e'.i) : k = p := by
  have a := (h.fwd k e h1).2
  have b := (h.fwd p e' h2).2
  rw [hi, b] at a
  injection a with a
  omega
theorem At.exch {l : List En} {at_ : List Int} (h : At l at_) {k p : Nat} {e u : En} (h1 : l[k]? = some e) (h2 : l[p]? = some u) (hkp : k ≠ p) :
    At ((l.set k u).set p e) ((at_.set u.i.toNat k).set e.i.toNat p) := by
  have he := h.fwd k e h1
  have hu := h.fwd p u h2
  have hk : k < l.length := (List.getElem?_eq_some_iff.1 h1).1
  have hp : p < l.length := (List.getElem?_eq_some_iff.1 h2).1
  have hel : e.i.toNat < at_.length := (List.getElem?_eq_some_iff.1 he.2).1
  have hul : u.i.toNat < at_.length := (List.getElem?_eq_some_iff.1 hu.2).1
  have hne : e.i.toNat ≠ u.i.toNat := fun hi => hkp (h.inj h1 h2 (by omega))
  constructor
  · intro j x hx
    rw [List.getElem?_set] at hx
    by_cases hjp : p = j
    · subst hjp
      rw [if_pos rfl, if_pos (by simpa using hp)] at hx
      injection hx with hx
      subst hx
      refine ⟨he.1, ?_⟩
      rw [List.getElem?_set, if_pos rfl, if_pos (by simpa using hel)]
    · rw [if_neg hjp, List.getElem?_set] at hx
      by_cases hjk : k = j
      · subst hjk
        rw [if_pos rfl, if_pos hk] at hx
        injection hx with hx
        subst hx
        refine ⟨hu.1, ?_⟩
        rw [List.getElem?_set, if_neg hne, List.getElem?_set, if_pos rfl, if_pos hul]
      · rw [if_neg hjk] at hx
        have hj := h.fwd j x hx
        refine ⟨hj.1, ?_⟩
        have n1 : e.i.toNat ≠ x.i.toNat := fun hi => hjk (h.inj h1 hx (by omega))
        have n2 : u.i.toNat ≠ x.i.toNat := fun hi => hjp (h.inj h2 hx (by omega))
        rw [List.getElem?_set, if_neg n1, List.getElem?_set, if_neg n2]
        exact hj.2
  · intro i v hv
    rw [List.getElem?_set] at hv
    by_cases hie : e.i.toNat = i
    · rw [if_pos hie, if_pos (by simpa using hel)] at hv
      injection hv with hv
      exact .inr ⟨p, e, hv.symm, by rw [List.getElem?_set, if_pos rfl, if_pos (by simpa using hp)], by omega⟩
    · rw [if_neg hie, List.getElem?_set] at hv
      by_cases hiu : u.i.toNat = i
      · rw [if_pos hiu, if_pos hul] at hv
        injection hv with hv
        exact .inr ⟨k, u, hv.symm, by rw [List.getElem?_set, if_neg (fun e => hkp e.symm), List.getElem?_set, if_pos rfl, if_pos hk], by omega⟩
      · rw [if_neg hiu] at hv
        rcases h.back i v hv with hv | ⟨j, x, hj, hx, hi⟩
        · exact .inl hv
        · refine .inr ⟨j, x, hj, ?_, hi⟩
          have n1 : p ≠ j := fun e' => by subst e'; rw [h2] at hx; injection hx with hx; subst hx; omega
          have n2 : k ≠ j := fun e' => by subst e'; rw [h1] at hx; injection hx with hx; subst hx; omega
          rw [List.getElem?_set, if_neg n1, List.getElem?_set, if_neg n2]
          exact hx
theorem exch_perm {l : List En} {k p : Nat} {e u : En} (h1 : l[k]? = some e) (h2 : l[p]? = some u) : ((l.set k u).set p e).Perm l := by
  obtain ⟨hk, rfl⟩ := List.getElem?_eq_some_iff.1 h1
  obtain ⟨hp, rfl⟩ := List.getElem?_eq_some_iff.1 h2
  exact List.set_set_perm hk hp
theorem fn_exch {l : List En} {k p : Nat} {e u : En} (h1 : l[k]? = some e) (h2 : l[p]? = some u) : fn ((l.set k u).set p e) = upd (upd (fn l) k (fn l p)) p (fn l k) := by
  have hk : k < l.length := (List.getElem?_eq_some_iff.1 h1).1
  have hp : p < l.length := (List.getElem?_eq_some_iff.1 h2).1
  rw [fn_set _ _ _ (by simpa using hp), fn_set _ _ _ hk, fn_at h1, fn_at h2]
/-- Way up: the one that is on its way, e, is thought of as lying at k. -/
structure UpI (l0 l : List En) (at_ : List Int) (e : En) (k0 k : Nat) : Prop where
  perm : l.Perm l0
  lies : l[k]? = some e
  at_ : At l at_
  hb : HB (fn l) l.length k
  kids : k = k0 ∨ Kids (fn l) l.length k
theorem UpI.step {l0 l : List En} {at_ : List Int} {e u : En} {k0 k p : Nat} (h : UpI l0 l at_ e k0 k) (hk : 1 ≤ k) (hp : (k - 1) / 2 = p) (hu : l[p]? = some u) (hl : e.lt u) :
    UpI l0 ((l.set k u).set p e) ((at_.set u.i.toNat k).set e.i.toNat p) e k0 p := by
  have hkl : k < l.length := (List.getElem?_eq_some_iff.1 h.lies).1
  have hpl : p < l.length := (List.getElem?_eq_some_iff.1 hu).1
  have hup := h.hb.up hp hk hkl (by rw [fn_at h.lies, fn_at hu]; exact hl)
  refine ⟨(exch_perm h.lies hu).trans h.perm, by rw [List.getElem?_set, if_pos rfl, if_pos (by simpa using hpl)], h.at_.exch h.lies hu (by omega), ?_, .inr ?_⟩
  · rw [fn_exch h.lies hu, List.length_set, List.length_set]; exact hup.1
  · rw [fn_exch h.lies hu, List.length_set, List.length_set]; exact hup.2
structure DnI (l0 l : List En) (at_ : List Int) (e : En) (k : Nat) : Prop where
  perm : l.Perm l0
  lies : l[k]? = some e
  at_ : At l at_
  hd : HD (fn l) l.length k
theorem UpI.ended {l0 l : List En} {at_ : List Int} {e : En} {k0 k : Nat} (h : UpI l0 l at_ e k0 k) (hl : k = 0 ∨ ∃ u, l[(k - 1) / 2]? = some u ∧ ¬ e.lt u) : DnI l0 l at_ e k ∧ (k = k0 ∨ Kids (fn l) l.length k) := by
  refine ⟨⟨h.perm, h.lies, h.at_, h.hb.ended (hl.imp id ?_)⟩, h.kids⟩
  rintro ⟨u, hu, hn⟩
  rw [fn_at h.lies, fn_at hu]
  exact hn
theorem DnI.step {l0 l : List En} {at_ : List Int} {e u : En} {k c : Nat} (h : DnI l0 l at_ e k) (hc1 : 1 ≤ c) (hck : (c - 1) / 2 = k) (hu : l[c]? = some u) (hm : ∀ j x, 1 ≤ j → (j - 1) / 2 = k → l[j]? = some x → ¬ x.lt u) (hl : u.lt e) :
    DnI l0 ((l.set k u).set c e) ((at_.set u.i.toNat k).set e.i.toNat c) e c := by
  have hcl : c < l.length := (List.getElem?_eq_some_iff.1 hu).1
  have hdn := h.hd.down hcl hc1 hck (fun j h1 h2 h3 => by
    rw [fn_at hu, fn_at (List.getElem?_eq_getElem h2)]
    exact hm j _ h1 h3 (List.getElem?_eq_getElem h2)) (by rw [fn_at h.lies, fn_at hu]; exact hl)
  refine ⟨(exch_perm h.lies hu).trans h.perm, by rw [List.getElem?_set, if_pos rfl, if_pos (by simpa using hcl)], h.at_.exch h.lies hu (by omega), ?_⟩
  rw [fn_exch h.lies hu, List.length_set, List.length_set]; exact hdn
theorem DnI.ended {l0 l : List En} {at_ : List Int} {e : En} {k : Nat} (h : DnI l0 l at_ e k) (hm : ∀ j x, 1 ≤ j → (j - 1) / 2 = k → l[j]? = some x → ¬ x.lt e) : HeapL l :=
  h.hd.ended (fun j h1 h2 h3 => by
    rw [fn_at h.lies, fn_at (List.getElem?_eq_getElem h2)]
    exact hm j _ h1 h3 (List.getElem?_eq_getElem h2))
theorem DnI.kids {l0 l : List En} {at_ : List Int} {e : En} {k : Nat} (h : DnI l0 l at_ e k) (hk : Kids (fn l) l.length k) : HeapL l := h.hd.ended hk
/-! The memory's own lists, while one is on its way: l.set k e is what is thought of. -/
theorem set_twice {α : Type} (l : List α) (k p : Nat) (u e : α) : ((l.set k e).set k u).set p e = (l.set k u).set p e := by rw [List.set_set]
theorem set_swap {α : Type} (l : List α) (i j p : Nat) (x y z : α) (h : i ≠ j) : ((l.set i x).set j y).set i z = (l.set j y).set i z := by
  rw [List.set_comm _ _ h, List.set_set]
end Go.Proofs.Ytifffmfbipjilaa.Z.H

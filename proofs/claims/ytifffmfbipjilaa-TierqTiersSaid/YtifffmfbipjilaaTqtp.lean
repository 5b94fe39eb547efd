/- Coming by tickets, going by tiers: plain. -/
import Derived.Test.YtifffmfbipjilaaTq
namespace Go.Proofs.Ytifffmfbipjilaa.Z
open Go.RowKit Go.Proofs.YtifffmfbipjilaaW Go.Proofs.YtifffmfbipjilaaW.PrintWords
set_option linter.unusedVariables false
set_option linter.unusedSimpArgs false
theorem row_set {α : Type} {R : List (List α)} {r r' : Nat} {l l' y : List α} (hl : R[r]? = some l) (h : (R.set r l')[r']? = some y) : (r' = r ∧ y = l') ∨ (r' ≠ r ∧ R[r']? = some y) := by
  have hr := (List.getElem?_eq_some_iff.1 hl).1
  rw [set_at hr] at h
  by_cases e : r = r'
  · rw [if_pos e] at h
    injection h with h
    exact .inl ⟨e.symm, h.symm⟩
  · rw [if_neg e] at h
    exact .inr ⟨fun e' => e e'.symm, h⟩
structure TP (n k : Nat) (R : List (List It)) : Prop where
  rl : R.length = n
  tot : R.flatten.length = k
  lt : ∀ (r : Nat) l x, R[r]? = some l → x ∈ l → 0 ≤ x.2.t ∧ x.2.t < k
  srt : ∀ (r : Nat) l, R[r]? = some l → l.Pairwise (fun x y => x.2.t < y.2.t)
theorem TP.new (n : Nat) : TP n 0 (List.replicate n []) := by
  have no : ∀ (r : Nat) (l : List It), (List.replicate n [])[r]? = some l → l = [] := fun r l h => (List.mem_replicate.1 (List.mem_of_getElem? h)).2
  refine ⟨by simp, by simp, fun r l x hl hx => ?_, fun r l hl => ?_⟩
  · rw [no r l hl] at hx; cases hx
  · rw [no r l hl]; exact List.Pairwise.nil
theorem TP.put {n k r : Nat} {R : List (List It)} {l : List It} {x : It} (h : TP n k R) (hl : R[r]? = some l) (hx : x.2.t = k) : TP n (k + 1) (R.set r (l ++ [x])) := by
  refine ⟨by rw [List.length_set]; exact h.rl, ?_, fun r' y z hy hz => ?_, fun r' y hy => ?_⟩
  · have := rows_set (l' := l ++ [x]) hl
    have := h.tot
    rw [List.length_append, List.length_singleton] at *
    omega
  · rcases row_set hl hy with ⟨rfl, rfl⟩ | ⟨_, hy⟩
    · rcases List.mem_append.1 hz with hz | hz
      · have := h.lt r' l z hl hz; omega
      · rw [List.mem_singleton] at hz; subst hz; omega
    · have := h.lt r' y z hy hz; omega
  · rcases row_set hl hy with ⟨rfl, rfl⟩ | ⟨_, hy⟩
    · rw [List.pairwise_append]
      refine ⟨h.srt r' l hl, List.pairwise_singleton _ _, fun a ha b hb => ?_⟩
      rw [List.mem_singleton] at hb; subst hb
      have := h.lt r' l a hl ha; omega
    · exact h.srt r' y hy
structure TT (n K j : Nat) (T tk : Int) (R : List (List It)) : Prop where
  rl : R.length = n
  tot : R.flatten.length + j = K
  low : ∀ (r : Nat) l, R[r]? = some l → l ≠ [] → T ≤ r
  lt : ∀ (r : Nat) l x, R[r]? = some l → x ∈ l → 0 ≤ x.2.t ∧ x.2.t < K ∧ ((r : Int) = T → tk < x.2.t)
  srt : ∀ (r : Nat) l, R[r]? = some l → l.Pairwise (fun x y => x.2.t < y.2.t)
theorem TP.start {n K : Nat} {R : List (List It)} (h : TP n K R) : TT n K 0 0 (-1) R :=
  ⟨h.rl, h.tot, fun r l _ _ => by omega, fun r l x hl hx => by have := h.lt r l x hl hx; omega, h.srt⟩
theorem TT.take {n K j r : Nat} {T tk : Int} {R : List (List It)} {x : It} {l : List It} (h : TT n K j T tk R) (hl : R[r]? = some (x :: l)) (hb : ∀ (r' : Nat), r' < r → R[r']? = some []) :
    T ≤ r ∧ 0 ≤ x.2.t ∧ x.2.t < K ∧ ((r : Int) = T → tk < x.2.t) ∧ TT n K (j + 1) r x.2.t (R.set r l) := by
  obtain ⟨h1, h2, h3⟩ := h.lt r _ x hl List.mem_cons_self
  obtain ⟨s1, s2⟩ := List.pairwise_cons.1 (h.srt r _ hl)
  refine ⟨h.low r _ hl (by simp), h1, h2, h3, by rw [List.length_set]; exact h.rl, ?_, fun r' y hy hne => ?_, fun r' y z hy hz => ?_, fun r' y hy => ?_⟩
  · have := rows_set (l' := l) hl
    have := h.tot
    rw [List.length_cons] at *
    omega
  · by_cases hr : r' < r
    · rcases row_set hl hy with ⟨rfl, rfl⟩ | ⟨_, hy⟩
      · omega
      · rw [hb r' hr] at hy; injection hy with hy; exact absurd hy.symm hne
    · omega
  · rcases row_set hl hy with ⟨rfl, rfl⟩ | ⟨hn, hy⟩
    · have := h.lt r' _ z hl (List.mem_cons_of_mem _ hz)
      exact ⟨this.1, this.2.1, fun _ => s1 z hz⟩
    · have := h.lt r' y z hy hz
      exact ⟨this.1, this.2.1, fun e => absurd (by omega) hn⟩
  · rcases row_set hl hy with ⟨rfl, rfl⟩ | ⟨_, hy⟩
    · exact s2
    · exact h.srt r' y hy
end Go.Proofs.Ytifffmfbipjilaa.Z

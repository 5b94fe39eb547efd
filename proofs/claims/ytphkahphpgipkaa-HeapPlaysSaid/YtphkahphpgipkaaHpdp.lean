/- Plain laws: who was put; who is due comes first. -/
import Derived.Test.YtphkahphpgipkaaHpx
namespace Go.Proofs.Ytphkahphpgipkaa.Z
open Go.RowKit Go.Proofs.YtphkahphpgipkaaW.PrintWords Go.Proofs.YtphkahphpgipkaaW.PrintLast Go.Proofs.YtphkahphpgipkaaW.PrintMore
set_option linter.unusedVariables false
set_option linter.unusedSimpArgs false
/-- S: the first k of the members p 0, p 1, .. with their keys and ties. -/
structure PutI (p : Nat → En) (k : Nat) (S : List En) : Prop where
  mem : ∀ e, e ∈ S ↔ ∃ j : Nat, j < k ∧ e = p j
  len : S.length = k
theorem PutI.zero (p : Nat → En) : PutI p 0 [] := ⟨fun e => ⟨fun h => by (cases h), fun ⟨j, h, _⟩ => by omega⟩, rfl⟩
theorem PutI.succ {p : Nat → En} {k : Nat} {S : List En} (h : PutI p k S) : PutI p (k + 1) (ins (p k) S) where
  mem e := by
    rw [(ins_perm (p k) S).mem_iff, List.mem_cons, h.mem]
    constructor
    · rintro (rfl | ⟨j, hj, rfl⟩)
      · exact ⟨k, by omega, rfl⟩
      · exact ⟨j, by omega, rfl⟩
    · rintro ⟨j, hj, rfl⟩
      by_cases hjk : j = k
      · subst hjk; exact .inl rfl
      · exact .inr ⟨j, by omega, rfl⟩
  len := by rw [(ins_perm (p k) S).length_eq, List.length_cons, h.len]
theorem PutI.new {p : Nat → En} {k : Nat} {S : List En} (h : PutI p k S) (hp : ∀ j, j < k → (p j).i ≠ (p k).i) : ∀ e ∈ S, e.i ≠ (p k).i := by
  intro e he
  obtain ⟨j, hj, rfl⟩ := (h.mem e).1 he
  exact hp j hj
theorem due_len (S : List En) (x : Int) : (dueL S x).length ≤ S.length := List.length_filter_le _ _
theorem due_none {S : List En} {x : Int} (h : ∀ e ∈ S, x < e.key) : dueL S x = [] := List.filter_eq_nil_iff.2 (fun e he => by have := h e he; simp; omega)
theorem due_all {S : List En} {x : Int} (h : ∀ e ∈ S, e.key ≤ x) : dueL S x = S := List.filter_eq_self.2 (fun e he => by have := h e he; simp; omega)
theorem key_le {a b : En} (h : a.lt b) : a.key ≤ b.key := by unfold En.lt at h; omega
theorem due_cons {e : En} {S : List En} (hs : Srt (e :: S)) (x : Int) : dueL (e :: S) x = if e.key ≤ x then e :: dueL S x else [] := by
  split
  · next h => exact List.filter_cons_of_pos (by simpa using h)
  · next h =>
    refine due_none (fun y hy => ?_)
    rcases List.mem_cons.1 hy with rfl | hy
    · omega
    · have := key_le ((List.pairwise_cons.1 hs).1 y hy); omega
theorem due_pre : ∀ {S : List En}, Srt S → ∀ x, dueL S x = S.take (dueL S x).length
  | [], _, x => rfl
  | e :: S, hs, x => by
    rw [due_cons hs]
    split
    · rw [List.length_cons, List.take_succ_cons, ← due_pre (List.pairwise_cons.1 hs).2 x]
    · rfl
theorem due_at : ∀ {S : List En}, Srt S → ∀ x k e, S[k]? = some e → (e.key ≤ x ↔ k < (dueL S x).length)
  | [], _, x, k, e, h => by simp at h
  | y :: S, hs, x, k, e, h => by
    rw [due_cons hs]
    cases k with
    | zero =>
      obtain rfl : y = e := by simpa using h
      split
      · next h => simp [h]
      · next h => simp; omega
    | succ k =>
      have h' : S[k]? = some e := by simpa using h
      have := due_at (List.pairwise_cons.1 hs).2 x k e h'
      split
      · rw [List.length_cons]; omega
      · next hx =>
        have := key_le ((List.pairwise_cons.1 hs).1 e (List.mem_of_getElem? h'))
        simp; omega
theorem due_mono : ∀ {S : List En} {a b : Int}, a ≤ b → (dueL S a).length ≤ (dueL S b).length := by
  intro S a b h
  refine List.Sublist.length_le ?_
  have : dueL S a = (dueL S b).filter fun e => decide (e.key ≤ a) := by
    unfold dueL
    rw [List.filter_filter]
    refine List.filter_congr (fun e _ => ?_)
    by_cases h1 : e.key ≤ a
    · simp [h1]; omega
    · simp [h1]
  rw [this]
  exact List.filter_sublist
theorem due_take {S : List En} (hs : Srt S) {a b : Int} (h : a ≤ b) : dueL S a = (dueL S b).take (dueL S a).length := by
  have h1 := due_mono (S := S) h
  have h2 := due_pre hs b
  have h3 := due_pre hs a
  generalize (dueL S a).length = n at *
  rw [h2, h3, List.take_take]
  congr 1
  omega
end Go.Proofs.Ytphkahphpgipkaa.Z

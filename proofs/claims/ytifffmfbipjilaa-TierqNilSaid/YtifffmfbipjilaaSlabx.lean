/- The document's slab as the slab's own lists. -/
import Derived.Test.YtifffmfbipjilaaSlabn
import Derived.Test.YtifffmfbipjilaaSlabf
namespace Go.Proofs.Ytifffmfbipjilaa.Z
open Go.RowKit Go.Proofs.YtifffmfbipjilaaW Go.Proofs.YtifffmfbipjilaaW.PrintWords
set_option linter.unusedVariables false
set_option linter.unusedSimpArgs false
def ints (l : List Nat) : List Int := l.map (fun i : Nat => (i : Int))
/-- The free ones, in the order in which they are taken. -/
def Slb.frees (s : Slb) (ch : List Nat) : List Nat := ch ++ List.range' s.fresh.toNat (s.cells.length - s.fresh.toNat)
def Slb.rs (s : Slb) (ch : List Nat) : RS := ⟨s.cells.map (·.q), s.cells.map (·.taken), s.cells.map (·.turns), ints (s.frees ch)⟩
theorem rs_new (n : Nat) : Slb.rs ⟨List.replicate n Cel.nil, -1, 0, 0⟩ [] = ⟨List.replicate n Rq.nil, List.replicate n false, List.replicate n 0, upTo n⟩ := by
  simp [Slb.rs, Slb.frees, Cel.nil, Rq.nil, upTo, ints, List.range_eq_range']
theorem frees_len {s : Slb} {ch : List Nat} {N : Nat} (h : Wf s ch N) : ((s.frees ch).length : Int) = s.cells.length - s.len ∧ (s.frees ch).length ≤ s.cells.length := by
  have h0 := h.fresh0
  have h1 := h.fresh1
  have h2 := h.len
  have h3 := h.chlen
  unfold Slb.frees
  rw [List.length_append, List.length_range']
  constructor <;> omega
theorem rs_next {s : Slb} {ch : List Nat} {N i : Nat} {c : Cel} (q : Rq) (h : Wf s ch N) (hn : s.next ch = some i) (hc : s.cells[i]? = some c) :
    ∃ fs, (s.rs ch).free = (i : Int) :: fs ∧ (s.taken i c q ch).rs (tailOf ch) = ⟨(s.rs ch).reqs.set i q, (s.rs ch).taken.set i true, (s.rs ch).turns.set i (c.turns + 1), fs⟩ := by
  cases ch with
  | cons j l =>
    obtain rfl : j = i := by simpa [Slb.next] using hn
    refine ⟨ints (l ++ List.range' s.fresh.toNat (s.cells.length - s.fresh.toNat)), rfl, ?_⟩
    simp only [Slb.rs, Slb.taken, Slb.frees, tailOf, List.map_set, List.length_set]
  | nil =>
    obtain ⟨h1, h2⟩ := next_nil hn
    have h0 := h.fresh0
    have e : List.range' s.fresh.toNat (s.cells.length - s.fresh.toNat) = i :: List.range' (i + 1) (s.cells.length - (i + 1)) := by
      rw [← h2, show s.cells.length - i = (s.cells.length - (i + 1)) + 1 by omega, List.range'_succ]
    refine ⟨ints (List.range' (i + 1) (s.cells.length - (i + 1))), ?_, ?_⟩
    · simp only [Slb.rs, Slb.frees, List.nil_append, e]; rfl
    · have e2 : (s.fresh + 1).toNat = i + 1 := by omega
      simp only [Slb.rs, Slb.taken, Slb.frees, tailOf, List.map_set, List.length_set, List.nil_append, e2]
theorem rs_full {s : Slb} {ch : List Nat} {N : Nat} (h : Wf s ch N) (hn : s.next ch = none) : (s.rs ch).free = [] ∧ s.freed = -1 ∧ s.fresh = s.cells.length := by
  cases ch with
  | cons j l => simp [Slb.next] at hn
  | nil =>
    have h1 := next_full hn
    have h0 := h.fresh0
    have h2 := h.fresh1
    have e : s.cells.length - s.fresh.toNat = 0 := by omega
    refine ⟨by simp [Slb.rs, Slb.frees, e, ints], h.chain, by omega⟩
theorem set_same {α : Type} {l : List α} {i : Nat} {x : α} (h : l[i]? = some x) : l.set i x = l := by
  apply List.ext_getElem?
  intro j
  by_cases hj : i = j
  · subst hj
    rw [List.getElem?_set_self (List.getElem?_eq_some_iff.1 h).1, h]
  · rw [List.getElem?_set_ne hj]
theorem rs_gone {s : Slb} {ch : List Nat} {i : Nat} {c : Cel} (hc : s.cells[i]? = some c) : (s.gone i c).rs (i :: ch) = ⟨(s.rs ch).reqs, (s.rs ch).taken.set i false, (s.rs ch).turns, (i : Int) :: (s.rs ch).free⟩ := by
  have e1 : (s.cells.map (·.q)).set i c.q = s.cells.map (·.q) := set_same (by rw [List.getElem?_map, hc]; rfl)
  have e2 : (s.cells.map (·.turns)).set i c.turns = s.cells.map (·.turns) := set_same (by rw [List.getElem?_map, hc]; rfl)
  simp only [Slb.rs, Slb.gone, Slb.frees, List.map_set, List.length_set, e1, e2, List.cons_append]
  rfl
theorem rs_at (s : Slb) (ch : List Nat) (h : Int) : (s.rs ch).at h = (s.at h).map (·.1) := by
  unfold RS.at Slb.at Slb.rs
  simp only [List.length_map, List.getElem?_map]
  cases hc : s.cells[(h % 4294967296).toNat]? with
  | none => rw [if_neg (by intro hh; have := hh.1; rw [List.getElem?_eq_none_iff] at hc; omega)]; rfl
  | some c =>
    have hl := (List.getElem?_eq_some_iff.1 hc).1
    simp only [Option.map_some, Option.some.injEq]
    by_cases hh : c.taken = true ∧ c.turns = h / 4294967296
    · rw [if_pos ⟨hl, hh⟩, if_pos hh]; rfl
    · rw [if_neg (fun hx => hh hx.2), if_neg hh]; rfl
end Go.Proofs.Ytifffmfbipjilaa.Z

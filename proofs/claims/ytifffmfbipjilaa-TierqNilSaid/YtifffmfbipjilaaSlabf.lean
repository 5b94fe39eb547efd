/- Handles that were told, and those that are gone; a set of handles. -/
import Derived.Test.YtifffmfbipjilaaSlabp
import Derived.Maps.OwnOps
import Derived.Maps.OwnSet
import Derived.Maps.Views
namespace Go.Proofs.Ytifffmfbipjilaa.Z
open Go.RowKit Go.Proofs.YtifffmfbipjilaaW
/-- h was told by a cell that was taken at least as often. -/
def Told (s : Slb) (h : Int) : Prop := 0 ≤ h ∧ h < 18446744073709551616 ∧ ∃ c, s.cells[(h % 4294967296).toNat]? = some c ∧ h / 4294967296 ≤ c.turns
theorem Slb.taken_cells (s : Slb) (i : Nat) (c : Cel) (q : Rq) (ch : List Nat) : (s.taken i c q ch).cells = s.cells.set i ⟨q, c.turns + 1, true, c.next⟩ := by cases ch <;> rfl
theorem Slb.taken_len (s : Slb) (i : Nat) (c : Cel) (q : Rq) (ch : List Nat) : (s.taken i c q ch).len = s.len + 1 := by cases ch <;> rfl
theorem Told.taken {s : Slb} {h : Int} (ht : Told s h) {i : Nat} {c : Cel} {q : Rq} {ch : List Nat} (hc : s.cells[i]? = some c) : Told (s.taken i c q ch) h := by
  obtain ⟨h0, h1, d, hd, hle⟩ := ht
  refine ⟨h0, h1, ?_⟩
  rw [Slb.taken_cells]
  by_cases he : i = (h % 4294967296).toNat
  · subst he
    refine ⟨_, List.getElem?_set_self (List.getElem?_eq_some_iff.1 hc).1, ?_⟩
    rw [hc] at hd
    injection hd with hd
    show h / 4294967296 ≤ c.turns + 1
    rw [hd]; omega
  · exact ⟨d, by rw [List.getElem?_set_ne he]; exact hd, hle⟩
theorem Told.gone {s : Slb} {h : Int} (ht : Told s h) {i : Nat} {c : Cel} (hc : s.cells[i]? = some c) : Told (s.gone i c) h := by
  obtain ⟨h0, h1, d, hd, hle⟩ := ht
  refine ⟨h0, h1, ?_⟩
  show ∃ e, (s.cells.set i ⟨c.q, c.turns, false, s.freed⟩)[(h % 4294967296).toNat]? = some e ∧ _
  by_cases he : i = (h % 4294967296).toNat
  · subst he
    refine ⟨_, List.getElem?_set_self (List.getElem?_eq_some_iff.1 hc).1, ?_⟩
    rw [hc] at hd
    injection hd with hd
    show h / 4294967296 ≤ c.turns
    rw [hd]; exact hle
  · exact ⟨d, by rw [List.getElem?_set_ne he]; exact hd, hle⟩
/-- The handle that is told at a taking. -/
def hand (i : Nat) (c : Cel) : Int := (c.turns + 1) * 4294967296 + i
theorem hand_mod {i : Nat} {c : Cel} (hi : i < 1024) : (hand i c % 4294967296).toNat = i ∧ hand i c / 4294967296 = c.turns + 1 := by
  unfold hand; omega
theorem Told.new {s : Slb} {i : Nat} {c : Cel} {q : Rq} {ch : List Nat} (hc : s.cells[i]? = some c) (hi : i < 1024) (h0 : 0 ≤ c.turns) (h1 : c.turns < 4294967295) : Told (s.taken i c q ch) (hand i c) := by
  obtain ⟨e1, e2⟩ := hand_mod (c := c) hi
  refine ⟨by unfold hand; omega, by unfold hand; omega, ?_⟩
  rw [e1, e2, Slb.taken_cells]
  exact ⟨_, List.getElem?_set_self (List.getElem?_eq_some_iff.1 hc).1, Int.le_refl _⟩
theorem Told.ne {s : Slb} {h : Int} (ht : Told s h) {i : Nat} {c : Cel} (hc : s.cells[i]? = some c) (hi : i < 1024) : h ≠ hand i c := by
  rintro rfl
  obtain ⟨e1, e2⟩ := hand_mod (c := c) hi
  obtain ⟨_, _, d, hd, hle⟩ := ht
  rw [e1, hc] at hd
  injection hd with hd
  rw [e2, ← hd] at hle
  omega
/-- Who is stale stays stale behind a taking. -/
theorem stale_taken {s : Slb} {h : Int} (ht : Told s h) (ha : s.at h = none) {i : Nat} {c : Cel} {q : Rq} {ch : List Nat} (hc : s.cells[i]? = some c) : (s.taken i c q ch).at h = none := by
  unfold Slb.at at ha ⊢
  rw [Slb.taken_cells]
  by_cases he : i = (h % 4294967296).toNat
  · subst he
    rw [List.getElem?_set_self (List.getElem?_eq_some_iff.1 hc).1]
    obtain ⟨_, _, d, hd, hle⟩ := ht
    rw [hc] at hd
    injection hd with hd
    refine if_neg (fun hh => ?_)
    have h2 : c.turns + 1 = h / 4294967296 := hh.2
    rw [hd] at h2
    omega
  · rw [List.getElem?_set_ne he]
    exact ha
theorem stale_gone {s : Slb} {h : Int} (ha : s.at h = none) {i : Nat} {c : Cel} (hc : s.cells[i]? = some c) : (s.gone i c).at h = none := by
  unfold Slb.at at ha ⊢
  show (match (s.cells.set i ⟨c.q, c.turns, false, s.freed⟩)[(h % 4294967296).toNat]? with | none => none | some c => if c.taken = true ∧ c.turns = h / 4294967296 then some ((h % 4294967296).toNat, c) else none) = none
  by_cases he : i = (h % 4294967296).toNat
  · subst he
    rw [List.getElem?_set_self (List.getElem?_eq_some_iff.1 hc).1]
    exact if_neg (fun hh => by cases hh.1)
  · rw [List.getElem?_set_ne he]
    exact ha
theorem at_gone_self {s : Slb} {h : Int} {i : Nat} {c : Cel} (h0 : 0 ≤ h) (ha : s.at h = some (i, c)) : (s.gone i c).at h = none := by
  obtain ⟨hc, _, _, hi⟩ := Slb.at_spec ha h0
  have e : (h % 4294967296).toNat = i := by omega
  unfold Slb.at
  show (match (s.cells.set i ⟨c.q, c.turns, false, s.freed⟩)[(h % 4294967296).toNat]? with | none => none | some c => if c.taken = true ∧ c.turns = h / 4294967296 then some ((h % 4294967296).toNat, c) else none) = none
  rw [e, List.getElem?_set_self (List.getElem?_eq_some_iff.1 hc).1]
  exact if_neg (fun hh => by cases hh.1)
theorem at_taken_new {s : Slb} {i : Nat} {c : Cel} {q : Rq} {ch : List Nat} (hc : s.cells[i]? = some c) (hi : i < 1024) : (s.taken i c q ch).at (hand i c) = some (i, ⟨q, c.turns + 1, true, c.next⟩) := by
  obtain ⟨e1, e2⟩ := hand_mod (c := c) hi
  unfold Slb.at
  rw [e1, e2, Slb.taken_cells, List.getElem?_set_self (List.getElem?_eq_some_iff.1 hc).1]
  exact if_pos ⟨rfl, rfl⟩
/-! A map that holds a set -/
section
open Go.Maps
variable {H : Type}
def keysOf (l : List Int) : List Lit := l.map (Lit.int .u64)
theorem keysOf_lit (l : List Int) : ∀ x ∈ keysOf l, WideAt.IsKeyLit x := by
  intro x hx
  obtain ⟨n, _, rfl⟩ := List.mem_map.1 hx
  trivial
theorem set_has (u : DataW H) (l : List Int) (h : Int) (hn : h ∉ l) : Maps.has (setOf u (keysOf l)) (.int .u64 h) = false := by
  rw [has_setOf _ _ _ (keysOf_lit l)]
  rw [List.any_eq_false]
  intro x hx
  obtain ⟨n, hm, rfl⟩ := List.mem_map.1 hx
  intro hs
  have := (WideAt.sameKey_iff (a := .int .u64 n) (b := .int .u64 h) trivial).1 hs
  injection this with _ this
  exact hn (this ▸ hm)
theorem set_size (u : DataW H) : ∀ l : List Int, l.Nodup → Maps.size (setOf u (keysOf l)) = l.length := by
  refine snoc_ind (fun _ => rfl) (fun l x ih hn => ?_)
  rw [List.nodup_append] at hn
  have h1 : keysOf (l ++ [x]) = keysOf l ++ [.int .u64 x] := by simp [keysOf]
  rw [h1, setOf_snoc, size_put (tidy_setOf u _ (keysOf_lit l)), set_has u l x (fun hm => hn.2.2 x hm x (by simp) rfl), if_neg (by simp), ih hn.1]
  simp
end
end Go.Proofs.Ytifffmfbipjilaa.Z

/- Push and Remove of whatever is asked for; a script's calls. -/
import Derived.Test.YtofapimappeppaaDqc
namespace Go.Proofs.Ytofapimappeppaa.Z
open Go.RowKit Go.Proofs.YtofapimappeppaaW.PrintWords
set_option linter.unusedVariables false
set_option linter.unusedSimpArgs false
structure Act where
  do_ : Int
  row : Int
  i : Int
def Act.enc (a : Act) : List Value := [.int .u8 a.do_, .int .i64 a.row, .int .i64 a.i]
def Act.kd : Kd Act := fk Act.enc 3 (fun _ => rfl) (fun x u hu => by simp [Act.enc] at hu; rcases hu with rfl | rfl | rfl <;> rfl)
abbrev Act.ok (a : Act) : Prop := (Lit.int .u8 a.do_).wf = true ∧ (Lit.int .i64 a.row).wf = true ∧ (Lit.int .i64 a.i).wf = true
theorem Act.came {w : World} {ad : Addr} {n : Nat} {xs : List Act} (h : Act.kd.C w (some ad) n xs) {i : Nat} {x : Act} (hx : xs[i]? = some x) :
    w.cell? (ad.add (i * 3)) = some (.int .u8 x.do_) ∧ w.cell? ⟨(ad.add (i * 3)).block, (ad.add (i * 3)).off + 1, none⟩ = some (.int .i64 x.row) ∧ w.cell? ⟨(ad.add (i * 3)).block, (ad.add (i * 3)).off + 2, none⟩ = some (.int .i64 x.i) :=
  have k := fk_came h hx
  ⟨k.1 _ rfl, k.2 0 _ rfl, k.2 1 _ rfl⟩
/-- Who is in it. -/
def isIn (L : List (List Nat)) (i : Nat) : Bool := L.any fun l => decide (i ∈ l)
theorem isIn_iff {L : List (List Nat)} {i : Nat} : isIn L i = true ↔ ∃ (r : Nat) (l : List Nat), L[r]? = some l ∧ i ∈ l := by
  simp only [isIn, List.any_eq_true, decide_eq_true_eq]
  constructor
  · rintro ⟨l, hl, hi⟩
    obtain ⟨r, hr⟩ := List.mem_iff_getElem?.1 hl
    exact ⟨r, l, hr, hi⟩
  · rintro ⟨r, l, hr, hi⟩
    exact ⟨l, List.mem_of_getElem? hr, hi⟩
def DPush (L : List (List Nat)) (room : Nat) (r i : Int) : Int × List (List Nat) :=
  if 0 ≤ r ∧ r < L.length ∧ 0 ≤ i ∧ i < room then
    if isIn L i.toNat then (10, L) else (0, L.set r.toNat (L.getD r.toNat [] ++ [i.toNat]))
  else (1, L)
def rowOf (L : List (List Nat)) (i : Nat) : Option Nat := L.findIdx? fun l => decide (i ∈ l)
def DRemove (L : List (List Nat)) (room : Nat) (i : Int) : Int × List (List Nat) :=
  if 0 ≤ i ∧ i < room then
    match rowOf L i.toNat with
    | none => (3, L)
    | some r => (0, L.set r ((L.getD r []).erase i.toNat))
  else (1, L)
theorem DPush_len (L : List (List Nat)) (room : Nat) (r i : Int) : (DPush L room r i).2.length = L.length := by
  unfold DPush
  split
  · split
    · rfl
    · simp
  · rfl
theorem DRemove_len (L : List (List Nat)) (room : Nat) (i : Int) : (DRemove L room i).2.length = L.length := by
  unfold DRemove
  split
  · split
    · rfl
    · simp
  · rfl
theorem push_m (r i : Int) (g br bl : Nat) (d : Dq) (L : List (List Nat)) (w : World) (hd : DqAt w g br bl d) (h : DR d L) :
    Calls Try.prog 10 #[.pointer (some ⟨g, 0, none⟩), .int .i64 r, .int .i64 i] w fun e w' => e = .returned (.int .i64 (DPush L d.links.length r i).1) ∧ ∃ d', DqAt w' g br bl d' ∧ DR d' (DPush L d.links.length r i).2 ∧ d'.links.length = d.links.length ∧ Kp [br, bl] w w' := by
  unfold DPush
  by_cases c : 0 ≤ r ∧ r < L.length ∧ 0 ≤ i ∧ i < d.links.length
  · rw [if_pos c]
    obtain ⟨r', rfl⟩ : ∃ k : Nat, r = k := ⟨r.toNat, by omega⟩
    obtain ⟨i', rfl⟩ : ∃ k : Nat, i = k := ⟨i.toNat, by omega⟩
    simp only [Int.toNat_natCast]
    have hr : r' < L.length := by omega
    by_cases hi : isIn L i' = true
    · rw [if_pos hi]
      obtain ⟨r2, l, hl, hm⟩ := isIn_iff.1 hi
      exact (busy_dr r' r2 i' g br bl d L l w hd h hr hl hm).mono fun e w' ⟨he, hw⟩ => ⟨he, d, hw ▸ hd, h, rfl, hw ▸ Kp.refl _ _⟩
    · rw [if_neg hi]
      have hl : L[r']? = some L[r'] := List.getElem?_eq_getElem hr
      have e : L.getD r' [] = L[r'] := by rw [List.getD_eq_getElem?_getD, hl]; rfl
      rw [e]
      exact push_dr r' i' g br bl d L _ w hd h hl (by omega) (fun r2 l2 hl2 hm => hi (isIn_iff.2 ⟨r2, l2, hl2, hm⟩))
  · rw [if_neg c]
    refine (push_arg r i g br bl d w hd ?_).mono fun e w' ⟨he, hw⟩ => ⟨he, d, hw ▸ hd, h, rfl, hw ▸ Kp.refl _ _⟩
    rw [h.rl]
    by_cases c1 : 0 ≤ r ∧ r < L.length
    · exact .inr (fun c2 => c ⟨c1.1, c1.2, c2.1, c2.2⟩)
    · exact .inl c1
theorem erase_at : ∀ {l : List Nat} {k i : Nat}, l.Nodup → l[k]? = some i → l.erase i = l.eraseIdx k
  | [], k, i, _, h => by simp at h
  | a :: l, 0, i, hn, h => by
    simp at h
    subst h
    simp
  | a :: l, k + 1, i, hn, h => by
    have hi : l[k]? = some i := by simpa using h
    have hne : a ≠ i := fun e => by
      rw [List.nodup_cons] at hn
      exact hn.1 (e ▸ List.mem_of_getElem? hi)
    rw [List.nodup_cons] at hn
    rw [List.erase_cons_tail (by simpa using hne), List.eraseIdx_cons_succ, erase_at hn.2 hi]
theorem remove_m (i : Int) (g br bl : Nat) (d : Dq) (L : List (List Nat)) (w : World) (hd : DqAt w g br bl d) (h : DR d L) :
    Calls Try.prog 18 #[.pointer (some ⟨g, 0, none⟩), .int .i64 i] w fun e w' => e = .returned (.int .i64 (DRemove L d.links.length i).1) ∧ ∃ d', DqAt w' g br bl d' ∧ DR d' (DRemove L d.links.length i).2 ∧ d'.links.length = d.links.length ∧ Kp [br, bl] w w' := by
  unfold DRemove
  by_cases c : 0 ≤ i ∧ i < d.links.length
  · rw [if_pos c]
    obtain ⟨i', rfl⟩ : ∃ k : Nat, i = k := ⟨i.toNat, by omega⟩
    simp only [Int.toNat_natCast]
    have hil : i' < d.links.length := by omega
    cases hf : rowOf L i' with
    | none =>
      have hn : ∀ (r : Nat) l, L[r]? = some l → i' ∉ l := fun r l hl hm => by
        have := List.findIdx?_eq_none_iff.1 hf l (List.mem_of_getElem? hl)
        simp [hm] at this
      have hc : d.links[i']? = some d.links[i'] := List.getElem?_eq_getElem hil
      exact (remove_none i' g br bl d _ w hd hc (h.free i' _ hc hn)).mono fun e w' ⟨he, hw⟩ => ⟨he, d, hw ▸ hd, h, rfl, hw ▸ Kp.refl _ _⟩
    | some r =>
      obtain ⟨hr, hm, _⟩ := List.findIdx?_eq_some_iff_getElem.1 hf
      have hl : L[r]? = some L[r] := List.getElem?_eq_getElem hr
      have e : L.getD r [] = L[r] := by rw [List.getD_eq_getElem?_getD, hl]; rfl
      obtain ⟨k, hk⟩ := List.mem_iff_getElem?.1 (of_decide_eq_true hm)
      dsimp only
      rw [e, erase_at (h.nd r _ hl) hk]
      exact remove_dr r k i' g br bl d L _ w hd h hl hk
  · rw [if_neg c]
    exact (remove_arg i g br bl d w hd c).mono fun e w' ⟨he, hw⟩ => ⟨he, d, hw ▸ hd, h, rfl, hw ▸ Kp.refl _ _⟩
/-- A member's row, as it is told. -/
theorem whereOf_m {d : Dq} {L : List (List Nat)} (h : DR d L) (i : Nat) : d.whereOf i = match rowOf L i with | none => -1 | some r => (r : Int) := by
  cases hf : rowOf L i with
  | none =>
    exact h.where_out (fun r l hl hm => by
      have := List.findIdx?_eq_none_iff.1 hf l (List.mem_of_getElem? hl)
      simp [hm] at this)
  | some r =>
    obtain ⟨hr, hm, _⟩ := List.findIdx?_eq_some_iff_getElem.1 hf
    exact h.where_in (List.getElem?_eq_getElem hr) (of_decide_eq_true hm)
end Go.Proofs.Ytofapimappeppaa.Z

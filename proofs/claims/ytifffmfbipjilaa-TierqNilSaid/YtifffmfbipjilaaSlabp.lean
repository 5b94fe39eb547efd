/- The slab as lists: which cells are free, in which order. -/
import Derived.Test.YtifffmfbipjilaaSlabw
namespace Go.Proofs.Ytifffmfbipjilaa.Z
open Go.RowKit Go.Proofs.YtifffmfbipjilaaW
/-- From cell 'at' on the freed ones follow each other. -/
def Chain (cells : List Cel) : Int → List Nat → Prop
  | s, [] => s = -1
  | s, i :: l => s = i ∧ ∃ c, cells[i]? = some c ∧ Chain cells c.next l
theorem Chain.set {cells : List Cel} {i : Nat} {x : Cel} : ∀ {s : Int} {l : List Nat}, Chain cells s l → i ∉ l → Chain (cells.set i x) s l
  | _, [], h, _ => h
  | _, j :: l, ⟨h1, c, h2, h3⟩, hn => by
    simp only [List.mem_cons, not_or] at hn
    exact ⟨h1, c, by rw [List.getElem?_set_ne hn.1]; exact h2, h3.set hn.2⟩
/-- A slab in order: ch: the freed cells. N: no cell was taken as often. -/
structure Wf (s : Slb) (ch : List Nat) (N : Nat) : Prop where
  chain : Chain s.cells s.freed ch
  nodup : ch.Nodup
  old : ∀ i ∈ ch, (i : Int) < s.fresh
  free : ∀ i ∈ ch, ∀ c, s.cells[i]? = some c → c.taken = false
  fresh0 : 0 ≤ s.fresh
  fresh1 : s.fresh ≤ s.cells.length
  untaken : ∀ (i : Nat) c, s.fresh ≤ i → s.cells[i]? = some c → c.taken = false
  len : s.len = s.fresh - ch.length
  chlen : (ch.length : Int) ≤ s.fresh
  turns : ∀ c ∈ s.cells, 0 ≤ c.turns ∧ c.turns ≤ N
  room : s.cells.length ≤ 1024
/-- The cell that is taken next. -/
def Slb.next (s : Slb) : List Nat → Option Nat
  | i :: _ => some i
  | [] => if s.fresh < s.cells.length then some s.fresh.toNat else none
/-- Behind the taking of cell i (c). -/
def Slb.taken (s : Slb) (i : Nat) (c : Cel) (q : Rq) : List Nat → Slb
  | _ :: _ => { s with cells := s.cells.set i ⟨q, c.turns + 1, true, c.next⟩, freed := c.next, len := s.len + 1 }
  | [] => { s with cells := s.cells.set i ⟨q, c.turns + 1, true, c.next⟩, fresh := s.fresh + 1, len := s.len + 1 }
def Slb.gone (s : Slb) (i : Nat) (c : Cel) : Slb := { s with cells := s.cells.set i ⟨c.q, c.turns, false, s.freed⟩, freed := i, len := s.len - 1 }
def tailOf : List Nat → List Nat
  | _ :: l => l
  | [] => []
theorem next_nil {s : Slb} {i : Nat} (hn : s.next [] = some i) : s.fresh < s.cells.length ∧ i = s.fresh.toNat := by
  have hn' : (if s.fresh < s.cells.length then some s.fresh.toNat else none) = some i := hn
  by_cases h : s.fresh < s.cells.length
  · rw [if_pos h] at hn'
    injection hn' with hn'
    exact ⟨h, hn'.symm⟩
  · rw [if_neg h] at hn'; cases hn'
theorem next_full {s : Slb} (hn : s.next [] = none) : ¬ s.fresh < s.cells.length := by
  intro h
  have hn' : (if s.fresh < s.cells.length then some s.fresh.toNat else none) = none := hn
  rw [if_pos h] at hn'; cases hn'
theorem Wf.new (n : Nat) (h : n ≤ 1024) : Wf ⟨List.replicate n Cel.nil, -1, 0, 0⟩ [] 0 where
  chain := rfl
  nodup := List.nodup_nil
  old := by simp
  free := by simp
  fresh0 := Int.le_refl _
  fresh1 := by simp
  untaken := by
    intro i c _ hc
    have := List.mem_of_getElem? hc
    rw [List.mem_replicate] at this
    rw [this.2]; rfl
  len := rfl
  chlen := Int.le_refl _
  turns := by
    intro c hc
    rw [List.mem_replicate] at hc
    rw [hc.2]; exact ⟨Int.le_refl _, Int.le_refl _⟩
  room := by simpa using h
theorem Wf.mono {s : Slb} {ch : List Nat} {N M : Nat} (h : Wf s ch N) (hm : N ≤ M) : Wf s ch M := { h with turns := fun c hc => ⟨(h.turns c hc).1, by have := (h.turns c hc).2; omega⟩ }
theorem Wf.some {s : Slb} {ch : List Nat} {N i : Nat} (h : Wf s ch N) (hn : s.next ch = some i) : ∃ c, s.cells[i]? = some c ∧ c.taken = false ∧ 0 ≤ c.turns ∧ c.turns ≤ N := by
  cases ch with
  | cons j l =>
    obtain rfl : j = i := by simpa [Slb.next] using hn
    obtain ⟨_, c, hc, _⟩ := h.chain
    exact ⟨c, hc, h.free j (List.mem_cons_self) c hc, (h.turns c (List.mem_of_getElem? hc)).1, (h.turns c (List.mem_of_getElem? hc)).2⟩
  | nil =>
    obtain ⟨hlt, hn⟩ := next_nil hn
    have hi : i < s.cells.length := by have := h.fresh0; omega
    refine ⟨s.cells[i], List.getElem?_eq_getElem hi, ?_, h.turns _ (List.getElem_mem hi)⟩
    exact h.untaken i _ (by have := h.fresh0; omega) (List.getElem?_eq_getElem hi)
theorem mem_set {α : Type} {l : List α} {i : Nat} {x y : α} (h : y ∈ l.set i x) : y ∈ l ∨ y = x := by
  rcases List.mem_or_eq_of_mem_set h with h | h
  · exact .inl h
  · exact .inr h
theorem Wf.taken {s : Slb} {ch : List Nat} {N i : Nat} {c : Cel} (q : Rq) (h : Wf s ch N) (hn : s.next ch = Option.some i) (hc : s.cells[i]? = Option.some c) : Wf (s.taken i c q ch) (tailOf ch) (N + 1) := by
  have ht := h.turns c (List.mem_of_getElem? hc)
  cases ch with
  | cons j l =>
    obtain rfl : j = i := by simpa [Slb.next] using hn
    obtain ⟨hf, c', hc', hch⟩ := h.chain
    obtain rfl : c = c' := by rw [hc] at hc'; injection hc'
    have hnd := List.nodup_cons.1 h.nodup
    refine ⟨hch.set hnd.1, hnd.2, fun k hk => h.old k (List.mem_cons_of_mem _ hk), ?_, h.fresh0, by simpa [Slb.taken] using h.fresh1, ?_, ?_, ?_, ?_, by simpa [Slb.taken] using h.room⟩
    · intro k hk d hd
      have hkj : j ≠ k := fun e => hnd.1 (e ▸ hk)
      have hd' : s.cells[k]? = Option.some d := by simpa [Slb.taken, List.getElem?_set_ne hkj] using hd
      exact h.free k (List.mem_cons_of_mem _ hk) d hd'
    · intro k d hk hd
      have hj := h.old j (List.mem_cons_self)
      have hk' : s.fresh ≤ (k : Int) := hk
      have hkj : j ≠ k := by omega
      have hd' : s.cells[k]? = Option.some d := by simpa [Slb.taken, List.getElem?_set_ne hkj] using hd
      exact h.untaken k d hk hd'
    · have := h.len
      simp only [Slb.taken, tailOf, List.length_cons] at this ⊢
      omega
    · have := h.chlen
      simp only [Slb.taken, tailOf, List.length_cons] at this ⊢
      omega
    · intro d hd
      rcases mem_set hd with hd | rfl
      · have := h.turns d hd; omega
      · show 0 ≤ c.turns + 1 ∧ c.turns + 1 ≤ ((N + 1 : Nat) : Int); omega
  | nil =>
    have hfr : s.fresh < s.cells.length ∧ i = s.fresh.toNat := next_nil hn
    have h0 := h.fresh0
    refine ⟨h.chain, List.nodup_nil, by simp [tailOf], by simp [tailOf], by show 0 ≤ s.fresh + 1; omega, by show s.fresh + 1 ≤ ((s.cells.set i _).length : Int); rw [List.length_set]; omega, ?_, ?_, ?_, ?_, by simpa [Slb.taken] using h.room⟩
    · intro k d hk hd
      have hk' : s.fresh + 1 ≤ (k : Int) := hk
      have hkj : i ≠ k := by omega
      have hd' : s.cells[k]? = Option.some d := by simpa [Slb.taken, List.getElem?_set_ne hkj] using hd
      exact h.untaken k d (by omega) hd'
    · have := h.len
      simp only [Slb.taken, tailOf, List.length_nil] at this ⊢
      omega
    · show ((0 : Nat) : Int) ≤ s.fresh + 1; omega
    · intro d hd
      rcases mem_set hd with hd | rfl
      · have := h.turns d hd; omega
      · show 0 ≤ c.turns + 1 ∧ c.turns + 1 ≤ ((N + 1 : Nat) : Int); omega
theorem Wf.gone {s : Slb} {ch : List Nat} {N i : Nat} {c : Cel} (h : Wf s ch N) (hc : s.cells[i]? = Option.some c) (ht : c.taken = true) : Wf (s.gone i c) (i :: ch) N ∧ (ch.length : Int) + 1 ≤ s.fresh := by
  have hic : i ∉ ch := fun hm => by rw [h.free i hm c hc] at ht; cases ht
  have hif : (i : Int) < s.fresh := by
    rcases Int.lt_or_le (i : Int) s.fresh with h1 | h1
    · exact h1
    · rw [h.untaken i c h1 hc] at ht; cases ht
  have hil : i < s.cells.length := (List.getElem?_eq_some_iff.1 hc).1
  have hcount : ch.length + 1 ≤ s.fresh.toNat := by
    have hnd : (i :: ch).Nodup := List.nodup_cons.2 ⟨hic, h.nodup⟩
    have h2 := nodup_lt_len s.fresh.toNat (i :: ch) hnd (fun k hk => by
      rcases List.mem_cons.1 hk with rfl | hk
      · omega
      · have := h.old k hk; omega)
    simpa using h2
  have h0 := h.fresh0
  refine ⟨⟨⟨rfl, ⟨c.q, c.turns, false, s.freed⟩, List.getElem?_set_self hil, h.chain.set hic⟩, List.nodup_cons.2 ⟨hic, h.nodup⟩, ?_, ?_, h.fresh0, by simpa [Slb.gone] using h.fresh1, ?_, ?_, ?_, ?_, by simpa [Slb.gone] using h.room⟩, by omega⟩
  · intro k hk
    rcases List.mem_cons.1 hk with rfl | hk
    · exact hif
    · exact h.old k hk
  · intro k hk d hd
    by_cases hki : i = k
    · subst hki
      have : (s.cells.set i ⟨c.q, c.turns, false, s.freed⟩)[i]? = Option.some d := hd
      rw [List.getElem?_set_self hil] at this
      injection this with this
      rw [← this]
    · have hd' : s.cells[k]? = Option.some d := by simpa [Slb.gone, List.getElem?_set_ne hki] using hd
      rcases List.mem_cons.1 hk with rfl | hk
      · exact absurd rfl hki
      · exact h.free k hk d hd'
  · intro k d hk hd
    have hk' : s.fresh ≤ (k : Int) := hk
    have hki : i ≠ k := by omega
    have hd' : s.cells[k]? = Option.some d := by simpa [Slb.gone, List.getElem?_set_ne hki] using hd
    exact h.untaken k d hk hd'
  · have := h.len
    show s.len - 1 = s.fresh - ((i :: ch).length : Int)
    rw [List.length_cons]
    omega
  · show (((i :: ch).length : Nat) : Int) ≤ s.fresh
    rw [List.length_cons]; omega
  · intro d hd
    rcases mem_set hd with hd | rfl
    · exact h.turns d hd
    · exact h.turns c (List.mem_of_getElem? hc)
theorem Wf.turns32 {s : Slb} {ch : List Nat} {N : Nat} (h : Wf s ch N) (hN : N < 4294967295) : ∀ c ∈ s.cells, 0 ≤ c.turns ∧ c.turns < 4294967296 := fun c hc => ⟨(h.turns c hc).1, by have := (h.turns c hc).2; omega⟩
theorem Wf.len0 {s : Slb} {ch : List Nat} {N : Nat} (h : Wf s ch N) : 0 ≤ s.len ∧ s.len ≤ 1024 := by
  have h1 := h.len; have h2 := h.chlen; have h3 := h.fresh1; have h4 := h.room
  omega
theorem take_wf (q : Rq) (g gc i : Nat) (s : Slb) (ch : List Nat) (N : Nat) (c : Cel) (w : World) (hs : SlabAt w g gc s) (hw : Wf s ch N) (hN : N < 4294967295) (hn : s.next ch = some i) (hc : s.cells[i]? = some c) :
  Calls Try.prog 31 #[.pointer (some ⟨g, 0, none⟩), q.val] w fun e w' => e = .returned (.tuple #[.int .u64 ((c.turns + 1) * 4294967296 + i), .int .i64 0]) ∧ SlabAt w' g gc (s.taken i c q ch) ∧ Kp [g, gc] w w' := by
  have ht := hw.turns c (List.mem_of_getElem? hc)
  have hl := hw.len0
  cases ch with
  | cons j l =>
    obtain rfl : j = i := by simpa [Slb.next] using hn
    exact take_freed q g gc j s c w hs hc hw.room hw.chain.1 ht.1 (by omega) hl.1 hl.2
  | nil =>
    have hfr : s.fresh < s.cells.length ∧ i = s.fresh.toNat := next_nil hn
    exact take_fresh q g gc i s c w hs hc hw.room hw.chain (by have := hw.fresh0; omega) ht.1 (by omega) hl.1 hl.2
theorem full_wf (q : Rq) (g gc : Nat) (s : Slb) (ch : List Nat) (N : Nat) (w : World) (hs : SlabAt w g gc s) (hw : Wf s ch N) (hn : s.next ch = none) :
  Calls Try.prog 31 #[.pointer (some ⟨g, 0, none⟩), q.val] w fun e w' => e = .returned (.tuple #[.int .u64 0, .int .i64 4]) ∧ Below w.heap.size w w' := by
  cases ch with
  | cons j l => cases hn
  | nil =>
    have hn' := next_full hn
    exact take_full q g gc s w hs hw.room hw.chain (by have := hw.fresh1; omega)
theorem free_wf (h : Int) (g gc i : Nat) (s : Slb) (ch : List Nat) (N : Nat) (c : Cel) (w : World) (hs : SlabAt w g gc s) (hw : Wf s ch N) (hN : N < 4294967295) (h0 : 0 ≤ h) (h1 : h < 18446744073709551616) (ha : s.at h = some (i, c)) : Calls Try.prog 37 #[.pointer (some ⟨g, 0, none⟩), .int .u64 h] w fun e w' => e = .returned (.int .i64 0) ∧ SlabAt w' g gc (s.gone i c) ∧ Kp [g, gc] w w' := by
  obtain ⟨hc, ht, _, _⟩ := Slb.at_spec ha h0
  have h2 := (hw.gone hc ht).2
  have hl := hw.len
  exact free_ok h g gc i s c w hs h0 h1 (hw.turns32 hN) ha (by omega) hw.len0.2
end Go.Proofs.Ytifffmfbipjilaa.Z

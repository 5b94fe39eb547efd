/- Plain laws on blocks whose cells are structs one behind the other: a read, a store, a make. -/
import Derived.Test.YtifffmfbipjilaaProg
import Derived.Test.YtifffmfbipjilaaWWords
import Derived.WalkKit
import Derived.DataElems
namespace Go.Proofs.Ytifffmfbipjilaa.Z
open Go.RowKit Go.Proofs.YtifffmfbipjilaaW
set_option linter.unusedVariables false
set_option linter.unusedSimpArgs false
theorem snoc_ind {α : Type} {P : List α → Prop} (h0 : P []) (h1 : ∀ l x, P l → P (l ++ [x])) : ∀ l, P l := by
  have h : ∀ l : List α, P l.reverse := by
    intro l
    induction l with
    | nil => exact h0
    | cons x l ih => rw [List.reverse_cons]; exact h1 _ _ ih
  intro l
  have := h l.reverse
  rwa [List.reverse_reverse] at this
/-- The cells of elements, one behind the other. -/
def flat {α : Type} (f : α → List Value) (l : List α) : List Value := l.flatMap f
section
variable {α : Type} {f : α → List Value} {k : Nat}
theorem flat_len (hk : ∀ x, (f x).length = k) : ∀ l : List α, (flat f l).length = l.length * k
  | [] => by simp [flat]
  | x :: l => by
    have := flat_len hk l
    simp only [flat, List.flatMap_cons, List.length_append, List.length_cons] at this ⊢
    rw [this, hk x, Nat.add_one_mul, Nat.add_comm]
theorem flat_at (hk : ∀ x, (f x).length = k) : ∀ (l : List α) (i j : Nat) (x : α), l[i]? = some x → j < k → (flat f l)[i * k + j]? = (f x)[j]?
  | [], i, j, x, h, _ => by simp at h
  | y :: l, 0, j, x, h, hj => by
    simp at h
    subst h
    simp only [flat, List.flatMap_cons, Nat.zero_mul, Nat.zero_add]
    rw [List.getElem?_append_left (by rw [hk]; exact hj)]
  | y :: l, i + 1, j, x, h, hj => by
    have := flat_at hk l i j x (by simpa using h) hj
    simp only [flat, List.flatMap_cons] at this ⊢
    rw [List.getElem?_append_right (by rw [hk, Nat.add_one_mul]; omega), hk, ← this]
    congr 1
    rw [Nat.add_one_mul]; omega
theorem flat_set (hk : ∀ x, (f x).length = k) : ∀ (l : List α) (i j : Nat) (x x' : α) (v : Value), l[i]? = some x → j < k → (f x).set j v = f x' → (flat f l).set (i * k + j) v = flat f (l.set i x')
  | [], i, j, x, x', v, h, _, _ => by simp at h
  | y :: l, 0, j, x, x', v, h, hj, hx => by
    simp at h
    subst h
    simp only [flat, List.flatMap_cons, Nat.zero_mul, Nat.zero_add, List.set_cons_zero]
    rw [List.set_append, if_pos (by rw [hk]; exact hj), hx]
  | y :: l, i + 1, j, x, x', v, h, hj, hx => by
    have := flat_set hk l i j x x' v (by simpa using h) hj hx
    simp only [flat, List.flatMap_cons, List.set_cons_succ] at this ⊢
    rw [List.set_append, if_neg (by rw [hk, Nat.add_one_mul]; omega), hk, ← this]
    congr 2
    rw [Nat.add_one_mul]; omega
theorem flat_replicate (f : α → List Value) (n : Nat) (x : α) : flat f (List.replicate n x) = (List.replicate n (f x)).flatten := by
  simp [flat, List.flatMap_def]
end
/-- Block b holds just these cells (of type T). -/
def Blk (w : World) (b T : Nat) (l : List Value) : Prop := w.heap[b]? = some (.cells l.toArray T (0, 0))
theorem Blk.lt {w : World} {b T : Nat} {l : List Value} (h : Blk w b T l) : b < w.heap.size := PrintWords.blk_lt h
theorem Blk.cell {w : World} {b T : Nat} {l : List Value} (h : Blk w b T l) (i : Nat) {v : Value} (hv : l[i]? = some v) : w.cell? ⟨b, i, none⟩ = some v := by
  have := PrintWords.blk_cell h i
  simpa [hv] using this
theorem Blk.frozen {w : World} {b T : Nat} {l : List Value} (h : Blk w b T l) (i : Nat) : w.frozen? ⟨b, i, none⟩ = false := PrintWords.blk_frozen h i
theorem Blk.set {w : World} {b T : Nat} {l : List Value} (h : Blk w b T l) (i : Nat) (v : Value) : Blk (w.setCell ⟨b, i, none⟩ v) b T (l.set i v) := by
  have := PrintWords.blk_set h i v
  simpa [Blk] using this
theorem Blk.put {w : World} {b T : Nat} {l l' : List Value} (h : Blk w b T l) (i : Nat) (v : Value) (e : l.set i v = l') : Blk (w.setCell ⟨b, i, none⟩ v) b T l' := e ▸ h.set i v
theorem Blk.far {w : World} {b T : Nat} {l : List Value} (h : Blk w b T l) {p : Addr} (hp : b ≠ p.block) (v : Value) : Blk (w.setCell p v) b T l := PrintWords.blk_far h hp v
theorem Blk.below {w w1 : World} {b T : Nat} {l : List Value} (h : Blk w b T l) (hb : Below w.heap.size w w1) : Blk w1 b T l := PrintWords.blk_below h hb
theorem Blk.drewN {w : World} {b T : Nat} {l : List Value} (h : Blk w b T l) (n : Nat) : Blk (w.drewN n) b T l := h
theorem Blk.new (w : World) (T : Nat) (l : List Value) : Blk (w.alloc (.cells l.toArray T)) w.heap.size T l := PrintWords.blk_new w _
theorem Blk.alloc {w : World} {b T : Nat} {l : List Value} (h : Blk w b T l) (o : Obj) : Blk (w.alloc o) b T l := PrintWords.blk_alloc h o
theorem Blk.cells_at {α : Type} {f : α → List Value} {k : Nat} (hk : ∀ x, (f x).length = k) {w : World} {b T : Nat} {l : List α} (h : Blk w b T (flat f l)) (i j : Nat) {x : α} {v : Value} (hx : l[i]? = some x) (hj : j < k) (hv : (f x)[j]? = some v) : w.cell? ⟨b, i * k + j, none⟩ = some v :=
  h.cell _ ((flat_at hk l i j x hx hj).trans hv)
/-- A store into field j of element i. -/
theorem Blk.fput {α : Type} {f : α → List Value} {k : Nat} (hk : ∀ x, (f x).length = k) {w : World} {b T : Nat} {l : List α} (h : Blk w b T (flat f l)) {i j : Nat} {x : α} (x' : α) {v : Value} (hx : l[i]? = some x) (hj : j < k) (hv : (f x).set j v = f x') : Blk (w.setCell ⟨b, i * k + j, none⟩ v) b T (flat f (l.set i x')) :=
  h.put _ _ (flat_set hk l i j x x' v hx hj hv)
/-- All but the blocks of S is as it was; new ones may have come. -/
structure Kp (S : List Nat) (w W : World) : Prop where
  os : W.os = w.os
  tape : W.tape = w.tape
  output : W.output = w.output
  size : w.heap.size ≤ W.heap.size
  block : ∀ b, b < w.heap.size → b ∉ S → W.heap[b]? = w.heap[b]?
theorem Kp.refl (S : List Nat) (w : World) : Kp S w w := ⟨rfl, rfl, rfl, Nat.le_refl _, fun _ _ _ => rfl⟩
theorem Kp.of_below {S : List Nat} {w W : World} (h : Below w.heap.size w W) : Kp S w W := ⟨h.os, h.tape, h.output, h.size, fun b hb _ => h.block b hb⟩
theorem Kp.trans {S : List Nat} {w W V : World} (h : Kp S w W) (k : Kp S W V) : Kp S w V := ⟨k.os.trans h.os, k.tape.trans h.tape, k.output.trans h.output, Nat.le_trans h.size k.size, fun b hb hn => (k.block b (Nat.lt_of_lt_of_le hb h.size) hn).trans (h.block b hb hn)⟩
theorem Kp.mono {S S' : List Nat} {w W : World} (h : Kp S w W) (hs : ∀ b, b ∈ S → b ∈ S') : Kp S' w W := ⟨h.os, h.tape, h.output, h.size, fun b hb hn => h.block b hb (fun hm => hn (hs b hm))⟩
/-- Blocks that are new may be written, too. -/
theorem Kp.then_ {S S' : List Nat} {w W V : World} (h : Kp S w W) (k : Kp S' W V) (hs : ∀ b, b ∈ S' → b ∈ S ∨ w.heap.size ≤ b) : Kp S w V := ⟨k.os.trans h.os, k.tape.trans h.tape, k.output.trans h.output, Nat.le_trans h.size k.size, fun b hb hn => (k.block b (Nat.lt_of_lt_of_le hb h.size) (fun hm => (hs b hm).elim hn (fun hle => by omega))).trans (h.block b hb hn)⟩
theorem Kp.set {S : List Nat} {w W : World} (h : Kp S w W) {p : Addr} (hp : p.block ∈ S ∨ w.heap.size ≤ p.block) (v : Value) : Kp S w (W.setCell p v) :=
  ⟨h.os, h.tape, h.output, by simpa [World.setCell] using h.size, fun b hb hn => (Below.heap_setCell W p v b (fun e => hp.elim (fun hm => hn (e ▸ hm)) (fun hle => by omega))).trans (h.block b hb hn)⟩
theorem Kp.drewN {S : List Nat} {w W : World} (h : Kp S w W) (n : Nat) : Kp S w (W.drewN n) := ⟨h.os, h.tape, h.output, h.size, h.block⟩
theorem Kp.drew {S : List Nat} {w W : World} (h : Kp S w W) : Kp S w W.drew := ⟨h.os, h.tape, h.output, h.size, h.block⟩
theorem Kp.below {S : List Nat} {w W V : World} (h : Kp S w W) (hb : Below W.heap.size W V) : Kp S w V := h.trans (Kp.of_below hb)
theorem Kp.alloc {S : List Nat} {w W : World} (h : Kp S w W) (o : Obj) : Kp S w (W.alloc o) := h.below (PrintWords.below_alloc (Below.refl _ _) o)
theorem Kp.blk {S : List Nat} {w W : World} (h : Kp S w W) {b T : Nat} {l : List Value} (hb : Blk w b T l) (hn : b ∉ S) : Blk W b T l := (h.block b hb.lt hn).trans hb
/-- What was written is new: all that was lies as it lay. -/
theorem Kp.to_below {B : Nat} {S : List Nat} {w W V : World} (h : Below B w W) (hB : B ≤ W.heap.size) (k : Kp S W V) (hS : ∀ b, b ∈ S → B ≤ b) : Below B w V :=
  ⟨k.os.trans h.os, k.tape.trans h.tape, k.output.trans h.output, Nat.le_trans h.size k.size, fun b hb => (k.block b (Nat.lt_of_lt_of_le hb hB) (fun hm => by have := hS b hm; omega)).trans (h.block b hb)⟩
/-- The block of elements, element i's cells apart: what is stored there one by one. -/
structure Mid (w : World) (b T : Nat) {α : Type} (f : α → List Value) (k : Nat) (l : List α) (i : Nat) (cs : List Value) : Prop where
  blk : Blk w b T (flat f (l.take i) ++ cs ++ flat f (l.drop (i + 1)))
  pre : (flat f (l.take i)).length = i * k
  len : cs.length = k
  lt : i < l.length
section
variable {α : Type} {f : α → List Value} {k : Nat} {w : World} {p : Addr} {b T i j : Nat} {l : List α} {cs : List Value} {x x' : α} {v : Value}
theorem Mid.start (hk : ∀ x, (f x).length = k) (h : Blk w b T (flat f l)) (hx : l[i]? = some x) : Mid w b T f k l i (f x) := by
  have hi : i < l.length := (List.getElem?_eq_some_iff.1 hx).1
  refine ⟨?_, by rw [flat_len hk, List.length_take, Nat.min_eq_left (by omega)], hk x, hi⟩
  have : flat f (l.take i) ++ f x ++ flat f (l.drop (i + 1)) = flat f l := by
    have hl : l = l.take i ++ x :: l.drop (i + 1) := by
      rw [List.getElem?_eq_getElem hi] at hx
      injection hx with hx
      rw [← hx, List.getElem_cons_drop, List.take_append_drop]
    conv => rhs; rw [hl]
    simp [flat]
  rw [this]
  exact h
theorem Mid.far (hp : b ≠ p.block) (h : Mid w b T f k l i cs) : Mid (w.setCell p v) b T f k l i cs := ⟨h.blk.far hp v, h.pre, h.len, h.lt⟩
theorem Mid.set (hj : j < k) (h : Mid w b T f k l i cs) : Mid (w.setCell ⟨b, i * k + j, none⟩ v) b T f k l i (cs.set j v) := by
  refine ⟨h.blk.put _ _ ?_, h.pre, by rw [List.length_set]; exact h.len, h.lt⟩
  have hl := h.len
  have hp := h.pre
  rw [List.append_assoc, List.set_append, if_neg (by omega), List.set_append, if_pos (by omega), List.append_assoc]
  congr 3
  omega
theorem Mid.set0 (hj : 0 < k) (h : Mid w b T f k l i cs) : Mid (w.setCell ⟨b, i * k, none⟩ v) b T f k l i (cs.set 0 v) := Mid.set (j := 0) hj h
theorem Mid.done (h : Mid w b T f k l i cs) (hx : cs = f x') : Blk w b T (flat f (l.set i x')) := by
  subst hx
  have : flat f (l.set i x') = flat f (l.take i) ++ f x' ++ flat f (l.drop (i + 1)) := by
    rw [List.set_eq_take_append_cons_drop, if_pos h.lt]
    simp [flat]
  rw [this]
  exact h.blk
theorem Blk.put_ {l : List Value} (h : Blk w b T l) : Blk (w.setCell ⟨b, i, none⟩ v) b T (l.set i v) := h.set i v
theorem Blk.far_ {l : List Value} {p : Addr} (hp : b ≠ p.block) (h : Blk w b T l) : Blk (w.setCell p v) b T l := h.far hp v
theorem Blk.done {l l' : List Value} (h : Blk w b T l) (e : l = l') : Blk w b T l' := e ▸ h
theorem Blk.drew_ {l : List Value} (h : Blk w b T l) : Blk w.drew b T l := h
theorem Blk.drewN_ {n : Nat} {l : List Value} (h : Blk w b T l) : Blk (w.drewN n) b T l := h
theorem Mid.drew_ (h : Mid w b T f k l i cs) : Mid w.drew b T f k l i cs := ⟨h.blk, h.pre, h.len, h.lt⟩
theorem Mid.drewN_ {n : Nat} (h : Mid w b T f k l i cs) : Mid (w.drewN n) b T f k l i cs := ⟨h.blk, h.pre, h.len, h.lt⟩
theorem Kp.drew_ {S : List Nat} {w W : World} (h : Kp S w W) : Kp S w W.drew := h.drew
theorem Kp.drewN_ {S : List Nat} {w W : World} {n : Nat} (h : Kp S w W) : Kp S w (W.drewN n) := h.drewN n
theorem Kp.set_ {S : List Nat} {w W : World} {p : Addr} {v : Value} (hp : p.block ∈ S ∨ w.heap.size ≤ p.block) (h : Kp S w W) : Kp S w (W.setCell p v) := h.set hp v
end
/-! Rows of flat elements -/
open PrintWords (Kd)
/-- Elements by their cells. -/
def fk {α : Type} (f : α → List Value) (k : Nat) (hk : ∀ x, (f x).length = k) (h1 : ∀ x, ∀ u ∈ f x, u.oneCell' = true) : Kd α where
  sz := k
  E := []
  K := fun _ x cs => cs = f x
  M := fun _ _ _ x cs => cs = f x
  K_len := fun h => by rw [h]; exact hk _
  K_one := fun h => by rw [h]; exact h1 _
  K_below := fun _ h => h
  K_of_M := fun h => h
  M_mono := fun _ h => h
  M_bound := fun h => h
  M_move := fun _ h => h
  M_lower := fun _ h => h
section
variable {α : Type} {d : Kd α} {e base b T : Nat} {ok : Nat → Prop} {w w1 W : World} {v : Value} {xs : List α} {l : List Value} {S : List Nat}
/-- Behind an append to v other blocks (of other types) are as they were. -/
theorem Blk.grown (h : Blk W b T l) (hR : d.R e W base ok v xs) (hT : T ≠ e) (hg : W.grownBy w1 v.ownBlock) : Blk w1 b T l := by
  refine (hg.block b h.lt (fun he => ?_)).trans h
  obtain ⟨cells, hc⟩ := PrintWords.Kd.R_typed hR b he.symm
  rw [h] at hc
  injection hc with hc
  injection hc with _ hc
  exact hT hc
/-- A flat row of the call's own, behind what wrote blocks of other types. -/
theorem R_kp (hE : d.E = []) (h : d.R e w base ok v xs) (k : Kp S w W) (hS : ∀ b, b ∈ S → ∃ T l, Blk w b T l ∧ T ≠ e) : d.R e W base ok v xs := by
  refine PrintWords.Kd.R_mono (PrintWords.Kd.R_move (PrintWords.Kd.R_bound h) (fun b hb => k.block b hb.2.2.1 (fun hm => ?_))) (fun _ hk => hk.1)
  obtain ⟨T, l, hb1, hT⟩ := hS b hm
  obtain ⟨_, _, _, q, hq, cells, hc⟩ := hb
  rw [hb1] at hc
  injection hc with hc
  injection hc with _ hc
  rw [hE] at hq
  simp only [List.mem_cons, List.not_mem_nil, or_false] at hq
  exact hT (hc.trans hq)
theorem Kp.grown {row : Option Nat} (h : Kp S w W) (hg : W.grownBy w1 row) (hr : ∀ k, row = some k → k ∈ S ∨ w.heap.size ≤ k) : Kp S w w1 :=
  ⟨hg.os.trans h.os, hg.tape.trans h.tape, hg.output.trans h.output, Nat.le_trans h.size hg.size, fun b hb hn => (hg.block b (Nat.lt_of_lt_of_le hb h.size) (fun he => (hr b he.symm).elim hn (fun hle => by omega))).trans (h.block b hb hn)⟩
end
theorem add_succ (a : Addr) (j : Nat) : a.add (j + 1) = ⟨a.block, a.off + (j + 1), none⟩ := by simp [Addr.add]
/-- Element i of a slice that came in, as the walk spells its cells. -/
theorem fk_came {α : Type} {f : α → List Value} {k : Nat} {hk : ∀ x, (f x).length = k} {h1 : ∀ x, ∀ u ∈ f x, u.oneCell' = true} {w : World} {ad : Addr} {n : Nat} {xs : List α} (h : (fk f k hk h1).C w (some ad) n xs) {i : Nat} {x : α} (hx : xs[i]? = some x) :
    (∀ u, (f x)[0]? = some u → w.cell? (ad.add (i * k)) = some u) ∧ ∀ j u, (f x)[j + 1]? = some u → w.cell? ⟨(ad.add (i * k)).block, (ad.add (i * k)).off + (j + 1), none⟩ = some u := by
  have hi : i < xs.length := (List.getElem?_eq_some_iff.1 hx).1
  obtain ⟨hn, _, hc⟩ := h
  obtain ⟨ad', e, hc⟩ := hc (by omega)
  obtain rfl : ad = ad' := by injection e
  obtain ⟨c, hcl, hK, hcc⟩ := hc i x hx
  obtain rfl : c = f x := hK
  refine ⟨fun u hu => by have := hcc 0 u hu; rwa [Nat.add_zero] at this, fun j u hu => ?_⟩
  have h2 := hcc (j + 1) u hu
  rw [← Addr.add_add, add_succ] at h2
  exact h2
/-- An own row's element: its cells. -/
theorem R_fk_cell {α : Type} {f : α → List Value} {k : Nat} {hk : ∀ x, (f x).length = k} {h1 : ∀ x, ∀ u ∈ f x, u.oneCell' = true} {w : World} {e base g n c : Nat} {ok : Nat → Prop} {xs : List α} (h : (fk f k hk h1).R e w base ok (.slice (some ⟨g, 0, none⟩) n c) xs) {i : Nat} {x : α} (hx : xs[i]? = some x) :
    ∀ j u, (f x)[j]? = some u → w.cell? ⟨g, i * k + j, none⟩ = some u := by
  have hi : i < xs.length := (List.getElem?_eq_some_iff.1 hx).1
  have hn := (PrintWords.Kd.R_reads' h).1
  obtain ⟨c, _, hM, hcc, _⟩ := PrintWords.Kd.R_elem h x (i : Int) (by omega) (by omega)
  have h2 : xs.getD (i : Int).toNat x = x := by simp [List.getD_eq_getElem?_getD, hx]
  rw [h2] at hM
  obtain rfl : c = f x := hM
  exact hcc
/-- A store into cell j of element i of an own row. -/
theorem R_fset {α : Type} {f : α → List Value} {k : Nat} {hk : ∀ x, (f x).length = k} {h1 : ∀ x, ∀ u ∈ f x, u.oneCell' = true} {w : World} {e base g n c : Nat} {xs : List α} (h : (fk f k hk h1).R e w base (fun _ => True) (.slice (some ⟨g, 0, none⟩) n c) xs) {i j : Nat} {x x' : α} {v : Value} (hx : xs[i]? = some x) (hj : j < k) (hv : (f x).set j v = f x') :
    (fk f k hk h1).R e (w.setCell ⟨g, i * k + j, none⟩ v) base (fun _ => True) (.slice (some ⟨g, 0, none⟩) n c) (xs.set i x') ∧ w.grownBy (w.setCell ⟨g, i * k + j, none⟩ v) (some g) := by
  have hi : i < xs.length := (List.getElem?_eq_some_iff.1 hx).1
  have hn := (PrintWords.Kd.R_reads' h).1
  have hs := PrintWords.Kd.R_seg h (i : Int) (by omega) (by omega) (c := f x) (seg := [v]) (j := j) (okp := fun _ => False) (x' := x') (hk x) (R_fk_cell h hx) (by simp only [List.length_singleton]; exact hj) (by
    show (f x).take j ++ [v] ++ (f x).drop (j + [v].length) = f x'
    rw [← hv, List.set_eq_take_append_cons_drop, if_pos (by rw [hk]; exact hj)]
    simp) (fun _ h => h.elim)
  rw [Int.toNat_natCast] at hs
  exact hs
theorem R_fk_frozen {α : Type} {f : α → List Value} {k : Nat} {hk : ∀ x, (f x).length = k} {h1 : ∀ x, ∀ u ∈ f x, u.oneCell' = true} {w : World} {e base g n c : Nat} {ok : Nat → Prop} {xs : List α} (h : (fk f k hk h1).R e w base ok (.slice (some ⟨g, 0, none⟩) n c) xs) (off : Nat) : w.frozen? ⟨g, off, none⟩ = false := by
  obtain ⟨_, inner, ho, _⟩ := h
  obtain ⟨_, ho2⟩ := ho
  rcases ho2 with ⟨hv, _⟩ | ⟨g', cap', cur, hv, hb, hh, _⟩
  · cases hv
  · injection hv with ha
    injection ha with ha
    injection ha with hg
    subst hg
    simp [World.frozen?, hh]
theorem R_int_cell {k : IntKind} {w : World} {e base g n c : Nat} {ok : Nat → Prop} {xs : List Int} (h : (Kd.int k).R e w base ok (.slice (some ⟨g, 0, none⟩) n c) xs) {i : Nat} {x : Int} (hx : xs[i]? = some x) : w.cell? ⟨g, i, none⟩ = some (.int k x) := by
  have hi : i < xs.length := (List.getElem?_eq_some_iff.1 hx).1
  have hn := (PrintWords.Kd.R_reads' h).1
  obtain ⟨c, _, hM, hcc, _⟩ := PrintWords.Kd.R_elem h x (i : Int) (by omega) (by omega)
  have h2 : xs.getD (i : Int).toNat x = x := by simp [List.getD_eq_getElem?_getD, hx]
  rw [h2] at hM
  obtain rfl : c = [.int k x] := hM
  have h3 := hcc 0 _ rfl
  rw [show (Kd.int k).sz = 1 from rfl, Nat.mul_one, Nat.add_zero] at h3
  exact h3
theorem int_came {k : IntKind} {w : World} {ad : Addr} {n : Nat} {xs : List Int} (h : (Kd.int k).C w (some ad) n xs) {i : Nat} {x : Int} (hx : xs[i]? = some x) : w.cell? (ad.add i) = some (.int k x) := by
  have hi : i < xs.length := (List.getElem?_eq_some_iff.1 hx).1
  obtain ⟨hn, _, hc⟩ := h
  obtain ⟨ad', e, hc⟩ := hc (by omega)
  obtain rfl : ad = ad' := by injection e
  obtain ⟨c, hcl, hK, hcc⟩ := hc i x hx
  obtain rfl : c = [.int k x] := hK
  have := hcc 0 _ rfl
  rwa [Nat.add_zero, show (Kd.int k).sz = 1 from rfl, Nat.mul_one] at this
/-- Behind what wrote a map alone. -/
theorem Blk.mapped {w w1 : World} {b T bm : Nat} {l : List Value} {es : Array MapEntry} {ck : Nat} (h : Blk w b T l) (hm : w.heap[bm]? = some (.map es ck)) (hg : w.grownBy w1 (some bm)) : Blk w1 b T l := by
  refine (hg.block b h.lt (fun he => ?_)).trans h
  injection he with he
  have h2 : w.heap[b]? = some (.cells l.toArray T (0, 0)) := h
  rw [he, hm] at h2
  cases h2
theorem R_mapped {α : Type} {d : Kd α} {e base bm : Nat} {ok : Nat → Prop} {w w1 : World} {v : Value} {xs : List α} {es : Array MapEntry} {ck : Nat} (h : d.R e w base ok v xs) (hm : w.heap[bm]? = some (.map es ck)) (hg : w.grownBy w1 (some bm)) : d.R e w1 base ok v xs :=
  PrintWords.Kd.R_mono (PrintWords.Kd.R_move (PrintWords.Kd.R_bound h) (fun k hk => hg.block k hk.2.2.1 (fun he => by
    injection he with he
    obtain ⟨_, _, _, q, _, cells, hc⟩ := hk
    rw [he, hm] at hc
    cases hc))) (fun _ hk => hk.1)
/-- A block as a row of the call's own. -/
theorem R_of_blk {α : Type} {f : α → List Value} {k : Nat} {hk : ∀ x, (f x).length = k} {h1 : ∀ x, ∀ u ∈ f x, u.oneCell' = true} {w : World} {e base b : Nat} {l : List α} (h : Blk w b e (flat f l)) (hb : base ≤ b) (hl : l.length ≤ maxLen) : (fk f k hk h1).R e w base (fun _ => True) (.slice (some ⟨b, 0, none⟩) l.length l.length) l := by
  refine ⟨fun _ _ => trivial, flat f l, ⟨flat_len hk l, .inr ⟨b, l.length, (flat f l).toArray, rfl, hb, h, Nat.le_refl _, hl, by have := flat_len hk l; simpa [fk] using this, ?_⟩⟩, flat_len hk l, fun j p hj => ?_⟩
  · show List.take (l.length * k) (flat f l).toArray.toList = flat f l
    simp [← flat_len hk l]
  · show ((flat f l).drop (j * k)).take k = f p
    apply List.ext_getElem?
    intro i
    rw [List.getElem?_take, List.getElem?_drop]
    by_cases hi : i < k
    · rw [if_pos hi, flat_at hk l j i p hj hi]
    · rw [if_neg hi, List.getElem?_eq_none (by rw [hk]; omega)]
open PrintWords PrintWords.Kd in
/-- A slice that is made: a block of zeros. -/
theorem make_event {P : Program} {ops : Array Oper} {rest : List Oper} {o : Oper} {a : Act} {Q : Exit → Act → World → Prop} {W : World} (hgd : o.guard = none) {N : Tmp} (hd : o.dst = some N) (t : TypeId) (x y : Operand) (ho : o.op = .makeSlice t x y) (n : Int) (hx : a.eval x = .int .i64 n) (hy : a.eval y = .int .i64 n) (e : TypeId) (i : TypeInfo) (z : Value)
    (ht : P.underlying t = some (.slice e)) (hi : P.info? e = some i) (hz : i.zero = some z) (h0 : 0 ≤ n) (hb : (i.bytes : Int) * n ≤ 281474976710656) (h63 : n ≤ 9223372036854775807)
    (h : ∀ g, g = W.heap.size → ∀ w1, Blk w1 g e (madeCells z.cells (n.toNat * i.size)).toList → Below W.heap.size W w1 → wpList P ops Q rest (a.put o.dst (.slice (some ⟨g, 0, none⟩) n.toNat n.toNat)) w1) : wpList P ops Q (o :: rest) a W := by
  have hr := run_make (P := P) W t e i z ht hi hz .i64 .i64 n n h0 (Int.le_refl _) hb h63
  refine Kd.event_run (v := .slice (some ⟨W.heap.size, 0, none⟩) n.toNat n.toNat) (w1 := W.alloc (.cells (madeCells z.cells (n.toNat * i.size)) e)) hgd ?_ (h _ rfl _ (by simpa [Blk] using blk_new W _) (below_alloc (Below.refl _ _) _))
  simp [execOp, ho, hx, hy, hr]
theorem made_flat {α : Type} (f : α → List Value) {k : Nat} (hk : 0 < k) (z : Array Value) (x : α) (hz : z.toList = f x) (hl : z.size = k) (n : Nat) : (madeCells z (n * k)).toList = flat f (List.replicate n x) := by
  induction n with
  | zero => simp [madeCells, flat]
  | succ n ih =>
    have h1 : flat f (List.replicate (n + 1) x) = flat f (List.replicate n x) ++ f x := by
      rw [List.replicate_succ', flat, List.flatMap_append]; simp [flat]
    rw [h1, ← ih, ← hz]
    apply List.ext_getElem
    · simp [madeCells, hl, Nat.add_one_mul]
    · intro j h2 h3
      simp only [madeCells, Array.toList_map, Array.toList_range, List.length_map, List.length_range] at h2 ⊢
      rw [List.getElem_map, List.getElem_range]
      rcases Nat.lt_or_ge j (n * k) with hlt | hge
      · rw [List.getElem_append_left (by simpa using hlt), List.getElem_map, List.getElem_range]
      · have h4 : j - n * k < k := by rw [Nat.add_one_mul] at h2; omega
        rw [List.getElem_append_right (by simpa using hge)]
        have h5 : j % z.size = j - n * k := by
          rw [hl]
          have : j = (j - n * k) + k * n := by rw [Nat.mul_comm k n]; omega
          rw [this, Nat.add_mul_mod_self_left, Nat.mod_eq_of_lt h4, ← this]
        simp only [List.length_map, List.length_range, h5]
        rw [getElem!_pos z _ (by omega), Array.getElem_toList]
theorem nodup_lt_len : ∀ (n : Nat) (l : List Nat), l.Nodup → (∀ k ∈ l, k < n) → l.length ≤ n
  | 0, [], _, _ => Nat.le_refl _
  | 0, a :: l, _, h => by have := h a (List.mem_cons_self); omega
  | n + 1, l, hn, h => by
    by_cases hm : n ∈ l
    · have h1 := nodup_lt_len n (l.erase n) (hn.erase n) (fun k hk => by
        have h2 := (hn.mem_erase_iff).1 hk
        have := h k h2.2
        have := h2.1
        omega)
      rw [List.length_erase_of_mem hm] at h1
      omega
    · have := nodup_lt_len n l hn (fun k hk => by
        have := h k hk
        have : k ≠ n := fun e => hm (e ▸ hk)
        omega)
      omega
theorem wf_u8 {h : Int} (w : (Lit.int .u8 h).wf = true) : 0 ≤ h ∧ h < 256 := by
  have h1 : decide (0 ≤ h) = true ∧ decide (h ≤ 255) = true := by simpa [Lit.wf, IntKind.min, IntKind.max, IntKind.signed, IntKind.bits] using w
  exact ⟨of_decide_eq_true h1.1, by have := of_decide_eq_true h1.2; omega⟩
theorem wf_u16 {h : Int} (w : (Lit.int .u16 h).wf = true) : 0 ≤ h ∧ h < 65536 := by
  have h1 : decide (0 ≤ h) = true ∧ decide (h ≤ 65535) = true := by simpa [Lit.wf, IntKind.min, IntKind.max, IntKind.signed, IntKind.bits] using w
  exact ⟨of_decide_eq_true h1.1, by have := of_decide_eq_true h1.2; omega⟩
theorem wf_u32 {h : Int} (w : (Lit.int .u32 h).wf = true) : 0 ≤ h ∧ h < 4294967296 := by
  have h1 : decide (0 ≤ h) = true ∧ decide (h ≤ 4294967295) = true := by simpa [Lit.wf, IntKind.min, IntKind.max, IntKind.signed, IntKind.bits] using w
  exact ⟨of_decide_eq_true h1.1, by have := of_decide_eq_true h1.2; omega⟩
theorem wf_u64 {h : Int} (w : (Lit.int .u64 h).wf = true) : 0 ≤ h ∧ h < 18446744073709551616 := by
  have h1 : decide (0 ≤ h) = true ∧ decide (h ≤ 18446744073709551615) = true := by simpa [Lit.wf, IntKind.min, IntKind.max, IntKind.signed, IntKind.bits] using w
  exact ⟨of_decide_eq_true h1.1, by have := of_decide_eq_true h1.2; omega⟩
theorem wf_i64 {h : Int} (w : (Lit.int .i64 h).wf = true) : -9223372036854775808 ≤ h ∧ h ≤ 9223372036854775807 := by
  have h1 : decide (-9223372036854775808 ≤ h) = true ∧ decide (h ≤ 9223372036854775807) = true := by simpa [Lit.wf, IntKind.min, IntKind.max, IntKind.signed, IntKind.bits] using w
  exact ⟨of_decide_eq_true h1.1, of_decide_eq_true h1.2⟩
end Go.Proofs.Ytifffmfbipjilaa.Z

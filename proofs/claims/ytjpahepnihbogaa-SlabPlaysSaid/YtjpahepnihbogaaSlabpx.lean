/- Both slabs, and the handles that were told. -/
import Derived.Test.YtjpahepnihbogaaSlabx
import Derived.Test.YtjpahepnihbogaaSlablaws
namespace Go.Proofs.Ytjpahepnihbogaa.Z
open Go.RowKit Go.Proofs.YtjpahepnihbogaaW Go.Proofs.YtjpahepnihbogaaW.PrintWords
set_option linter.unusedVariables false
set_option linter.unusedSimpArgs false
structure PX (w0 w : World) (N0 N1 g gc gx : Nat) (vq vt vn vT : Value) (s : Slb) (ch : List Nat) (N : Nat) (r : RS) (T : List Int) : Prop where
  sl : SlabAt w g gc s
  wf : Wf s ch N
  rs : ∃ vf, RSAt w N0 (fun b => b < N1) gx vq vt vn vf r
  tl : (Kd.int .u64).R 30 w N1 (fun _ => True) vT T
  g0 : g < N0 ∧ gc < N0
  lo : w0.heap.size ≤ g ∧ w0.heap.size ≤ gc
  own : ∀ b ∈ rown gx vq vt vn, N0 ≤ b ∧ b < N1
  th : ∀ x ∈ T, 0 ≤ x ∧ x < 18446744073709551616
  tn : 0 < T.length
  bel : Below w0.heap.size w0 w
  n0 : w0.heap.size ≤ N0
  n01 : N0 ≤ N1
  n1 : N1 ≤ w.heap.size
section
variable {w0 w W : World} {N0 N1 g gc gx N : Nat} {vq vt vn vT : Value} {s : Slb} {ch : List Nat} {r : RS} {T : List Int}
theorem PX.below (h : PX w0 w N0 N1 g gc gx vq vt vn vT s ch N r T) (hb : Below w.heap.size w W) : PX w0 W N0 N1 g gc gx vq vt vn vT s ch N r T :=
  { h with sl := h.sl.kp (Kp.of_below (S := []) hb) (by simp) (by simp), rs := h.rs.imp fun _ k => k.below hb, tl := Kd.R_below h.tl hb, bel := h.bel.trans (hb.mono h.bel.size), n1 := Nat.le_trans h.n1 hb.size }
/-- Behind the slab's method. -/
theorem PX.slab {s' : Slb} {ch' : List Nat} {N' : Nat} (h : PX w0 w N0 N1 g gc gx vq vt vn vT s ch N r T) (k : Kp [g, gc] w W) (hs : SlabAt W g gc s') (hw : Wf s' ch' N') : PX w0 W N0 N1 g gc gx vq vt vn vT s' ch' N' r T := by
  have hS : ∀ b ∈ [g, gc], ∃ t l, Blk w b t l ∧ (t = 64 ∨ t = 67) := fun b hb => by
    simp only [List.mem_cons, List.not_mem_nil, or_false] at hb
    rcases hb with rfl | rfl
    · exact ⟨_, _, h.sl.head, .inl rfl⟩
    · exact ⟨_, _, h.sl.body, .inr rfl⟩
  have hrs : ∃ vf, RSAt W N0 (fun b => b < N1) gx vq vt vn vf r := by
    obtain ⟨vf, z⟩ := h.rs
    refine ⟨vf, z.kp k (fun b hb => ?_)⟩
    obtain ⟨t, l, h1, h2⟩ := hS b hb
    rcases h2 with rfl | rfl
    · exact ⟨_, l, h1, by decide, by decide, by decide, by decide, by decide⟩
    · exact ⟨_, l, h1, by decide, by decide, by decide, by decide, by decide⟩
  have htl : (Kd.int .u64).R 30 W N1 (fun _ => True) vT T := by
    refine R_kp rfl h.tl k (fun b hb => ?_)
    obtain ⟨t, l, h1, h2⟩ := hS b hb
    rcases h2 with rfl | rfl
    · exact ⟨_, l, h1, by decide⟩
    · exact ⟨_, l, h1, by decide⟩
  exact ⟨hs, hw, hrs, htl, h.g0, h.lo, h.own, h.th, h.tn, kp2_below k h.bel h.bel.size h.lo.1 h.lo.2, h.n0, h.n01, Nat.le_trans h.n1 k.size⟩
/-- Behind the document's. -/
theorem PX.doc {r' : RS} (h : PX w0 w N0 N1 g gc gx vq vt vn vT s ch N r T) (k : Kp (rown gx vq vt vn) w W) (hr : ∃ vf, RSAt W N0 (fun b => b < N1) gx vq vt vn vf r') : PX w0 W N0 N1 g gc gx vq vt vn vT s ch N r' T := by
  have hg := h.g0
  have hsl : SlabAt W g gc s := h.sl.kp k (fun hm => by have := h.own g hm; omega) (fun hm => by have := h.own gc hm; omega)
  have htl : (Kd.int .u64).R 30 W N1 (fun _ => True) vT T := Kd.R_mono (Kd.R_move (Kd.R_bound h.tl) (fun b hb => k.block b hb.2.2.1 (fun hm => by have := (h.own b hm).2; have := hb.2.1; omega))) (fun _ _ => trivial)
  exact ⟨hsl, h.wf, hr, htl, h.g0, h.lo, h.own, h.th, h.tn, Kp.to_below h.bel h.bel.size k (fun b hb => Nat.le_trans h.n0 (h.own b hb).1), h.n0, h.n01, Nat.le_trans h.n1 k.size⟩
/-- Behind the telling of a handle. -/
theorem PX.told {vT' : Value} {x : Int} (h : PX w0 w N0 N1 g gc gx vq vt vn vT s ch N r T) (hg : w.grownBy W vT.ownBlock) (hR : (Kd.int .u64).R 30 W N1 (fun _ => True) vT' (T ++ [x])) (hx : 0 ≤ x ∧ x < 18446744073709551616) :
    PX w0 W N0 N1 g gc gx vq vt vn vT' s ch N r (T ++ [x]) := by
  have k := Kp.of_grown hg
  have hS : ∀ b ∈ vT.ownBlock.toList, N1 ≤ b ∧ ∃ l, Blk w b 30 l := fun b hb => by
    have hb' : vT.ownBlock = some b := by simpa using hb
    obtain ⟨cells, hc⟩ := Kd.R_typed h.tl b hb'
    exact ⟨Kd.R_base h.tl b hb', cells.toList, by simpa [Blk] using hc⟩
  have hT : ∀ t, t ≠ 30 → ∀ b ∈ vT.ownBlock.toList, ∃ t' l, Blk w b t' l ∧ t' ≠ t := fun t ht b hb => by
    obtain ⟨_, l, hl⟩ := hS b hb
    exact ⟨_, l, hl, fun e => ht e.symm⟩
  have hrs : ∃ vf, RSAt W N0 (fun b => b < N1) gx vq vt vn vf r := by
    obtain ⟨vf, z⟩ := h.rs
    exact ⟨vf, z.head.grown h.tl (by decide) hg, R_kp rfl z.rq k (hT _ (by decide)), R_kp rfl z.tk k (hT _ (by decide)), Kd.R_grown z.tn hg (fun b hb he => by have := (hS b (by rw [← he]; simp)).1; omega), z.fr.kp k (hT _ (by decide)), z.lt_, z.ln, z.hb⟩
  have hth : ∀ y ∈ T ++ [x], 0 ≤ y ∧ y < 18446744073709551616 := fun y hy => (List.mem_append.1 hy).elim (h.th y) (fun hy => by rw [List.mem_singleton] at hy; rw [hy]; exact hx)
  exact ⟨SlabAt.grown hg h.sl h.tl (by decide) (by decide), h.wf, hrs, hR, h.g0, h.lo, h.own, hth, by simp, Kp.to_below h.bel h.bel.size k (fun b hb => by have := (hS b hb).1; have := h.n0; have := h.n01; omega), h.n0, h.n01, Nat.le_trans h.n1 hg.size⟩
end
end Go.Proofs.Ytjpahepnihbogaa.Z

/- The document's slab: Drop. -/
import Derived.Test.YtifffmfbipjilaaSlabt
namespace Go.Proofs.Ytifffmfbipjilaa.Z
open Go.RowKit Go.Proofs.YtifffmfbipjilaaW Go.Proofs.YtifffmfbipjilaaW.PrintWords
set_option linter.unusedVariables false
set_option linter.unusedSimpArgs false
theorem R_one {k : IntKind} (e : Nat) (w : World) (base : Nat) (x : Int) (hb : base ≤ w.heap.size) : (Kd.int k).R e (w.alloc (.cells #[.int k x] e)) base (fun _ => True) (.slice (some ⟨w.heap.size, 0, none⟩) 1 1) [x] := by
  refine Kd.R_of_own (xs := [x]) ?_ (fun _ _ => trivial)
  have := World.ownsRow_lit (base := base) (e := e) (size := 1) w #[.int k x] 1 hb (by decide) rfl
  exact this
theorem Kp.of_grown {w W : World} {row : Option Nat} (h : w.grownBy W row) : Kp row.toList w W :=
  ⟨h.os, h.tape, h.output, h.size, fun b hb hn => h.block b hb (fun e => hn (by rw [← e]; simp))⟩
/-- What was appended to is new: all that was lies as it lay. -/
theorem below_fresh {w W V : World} {g : Nat} (hb : Below w.heap.size w W) (hg : W.grownBy V (some g)) (hl : w.heap.size ≤ g) : Below w.heap.size w V :=
  Kp.to_below hb hb.size (Kp.of_grown hg) (by intro b hm; simp at hm; omega)
theorem rdrop_stale (h : Int) (base gx : Nat) (okn : Nat → Prop) (vq vt vn vf : Value) (r : RS) (w : World) (hs : RSAt w base okn gx vq vt vn vf r) (hn0 : 0 < r.reqs.length) (hn : r.reqs.length ≤ 1024) (h0 : 0 ≤ h) (h1 : h < 18446744073709551616) (ha : r.at h = none) :
    Calls Try.prog 48 #[.pointer (some ⟨gx, 0, none⟩), .int .u64 h] w fun e w' => e = .returned (.int .i64 6) ∧ w = w' := by
  have hat := rat_any h base gx okn vq vt vn vf r w hs hn0 hn h0 h1
  rw [ha] at hat
  have HA := Aside0.mk hat
  clear hat hs hn0 hn ha
  go_enter Try.func48, Try.ntmps48
  go_wp2_with (go_at_call 45; refine HA.out.mono ?_; rintro e w' ⟨rfl, rfl⟩)
  go_ret
  exact ⟨rfl, rfl⟩
theorem RSAt.untake {w : World} {base gx bt n ct i : Nat} {okn : Nat → Prop} {vq vn vf : Value} {r : RS} (x : Bool) (h : RSAt w base okn gx vq (.slice (some ⟨bt, 0, none⟩) n ct) vn vf r) :
    RSAt (w.setCell ⟨bt, i, none⟩ (.bool x)) base okn gx vq (.slice (some ⟨bt, 0, none⟩) n ct) vn vf ⟨r.reqs, r.taken.set i x, r.turns, r.free⟩ ∧ Kp [bt] w (w.setCell ⟨bt, i, none⟩ (.bool x)) := by
  obtain ⟨ln, hn⟩ := typed_blk h.tk
  have k2 := (Kp.refl [bt] w).set (p := ⟨bt, i, none⟩) (.inl (by simp)) (.bool x)
  have s2 : ∀ T, T ≠ 4 → ∀ b ∈ [bt], ∃ t l, Blk w b t l ∧ t ≠ T := fun T hT b hb => by
    rw [List.mem_singleton] at hb
    subst hb
    exact ⟨_, _, hn, fun e => hT e.symm⟩
  have g2 := Kd.R_putn h.tk (i : Int) x
  rw [Int.toNat_natCast] at g2
  exact ⟨⟨k2.blk h.head (by rw [List.mem_singleton]; exact fun e => blk_ne hn h.head (by decide) e.symm), R_kp rfl h.rq k2 (s2 _ (by decide)), g2, R_kp rfl h.tn k2 (s2 _ (by decide)), h.fr.kp k2 (s2 _ (by decide)), by simpa using h.lt_, h.ln, h.hb⟩, k2⟩
set_option maxHeartbeats 8000000 in
theorem rdrop_ok (h : Int) (base gx i : Nat) (okn : Nat → Prop) (vq vt vn vf : Value) (r : RS) (w : World) (hs : RSAt w base okn gx vq vt vn vf r) (hn0 : 0 < r.reqs.length) (hn : r.reqs.length ≤ 1024) (hf : r.free.length ≤ 1024) (h0 : 0 ≤ h) (h1 : h < 18446744073709551616) (ha : r.at h = some i) :
    Calls Try.prog 48 #[.pointer (some ⟨gx, 0, none⟩), .int .u64 h] w fun e w' => e = .returned (.int .i64 0) ∧ (∃ vf', RSAt w' base okn gx vq vt vn vf' ⟨r.reqs, r.taken.set i false, r.turns, i :: r.free⟩) ∧ Kp (rown gx vq vt vn) w w' := by
  have hat := rat_any h base gx okn vq vt vn vf r w hs hn0 hn h0 h1
  rw [ha] at hat
  have hi : i < r.reqs.length ∧ r.taken[i]? = some true := by
    unfold RS.at at ha
    split at ha
    · next hc =>
      injection ha with ha
      rw [ha] at hc
      exact ⟨hc.1, hc.2.1⟩
    · cases ha
  obtain ⟨bq, bt, bn, cq, ct, cn, rfl, rfl, rfl⟩ := hs.lens hn0
  obtain ⟨A, c, rfl, hfc, hC, hfb⟩ := hs.fr.ex
  have c1 := hs.head.cell 1 rfl
  have z2 : ∀ j, w.frozen? ⟨bt, j, none⟩ = false := fun j => R_s_frozen hs.tk j
  have z1 : ∀ j, w.frozen? ⟨gx, j, none⟩ = false := fun j => hs.head.frozen j
  have y5 := R_bool_cell hs.tk hi.2
  have i0 : (0 : Int) ≤ (i : Int) := by omega
  obtain ⟨n, hN⟩ : ∃ n, n = r.reqs.length := ⟨_, rfl⟩
  rw [← hN] at c1 ⊢
  have hu := RSAt.untake (i := i) false hs
  rw [← hN] at hu
  have i1 : (i : Int) < (n : Int) := by omega
  have i2 : (n : Int) ≤ 1024 := by omega
  have HA := Aside0.mk hat
  have HU := Aside0.mk hu
  have HFL := Aside0.mk hf
  clear hat hs hn0 hn ha hi hN hu hC hfb hfc hf
  go_enter Try.func48, Try.ntmps48
  go_wp2_with (fail)
  refine HA.out.mono ?_
  rintro e w1 ⟨rfl, rfl⟩
  clear HA
  go_upto_region 5 with (fail)
  have hs5 := HU.out.1
  have hk5 := HU.out.2
  clear HU y5 c1 z2 z1
  generalize (w.setCell { block := bt, off := i } (Value.bool false)) = W at *
  have c3 := hs5.head.cell 3 rfl
  have z1 : ∀ j, W.frozen? ⟨gx, j, none⟩ = false := fun j => hs5.head.frozen j
  obtain ⟨m, hm⟩ : ∃ m, m = r.free.length := ⟨_, rfl⟩
  rw [← hm] at c3
  have lg := hs5.head.lt
  have HS5 := Aside0.mk (And.intro hs5 (And.intro hk5 hm))
  clear hs5 hk5 hm
  obtain ⟨A', c', hv, _, hC, _⟩ := HS5.out.1.fr.ex
  injection hv with e1 _ e3
  subst e1 e3
  rw [← HS5.out.2.2] at hC
  have HC := Aside0.mk (Kd.C_alloc hC (.cells #[.int .i64 i] 3))
  have hbs := HS5.out.1.hb
  have h8 : ([(i : Int)].length + m) * 8 ≤ 140737488355328 := by have := HFL.out; have := HS5.out.2.2; simp only [List.length_singleton]; omega
  clear hC
  go_wp2_with (at_builtin; refine Kd.R_append_rows (Kd.int .i64) (Rr := (Kd.int .i64).K (W.alloc (.cells #[.int .i64 i] 3))) (w0 := W.alloc (.cells #[.int .i64 i] 3)) base rfl (.tmp 19) (.tmp 23) 89 3 (.int .i64 0) 8 rfl Try.underlying89 (by kernel_rfl) rfl (by decide) (by omega) _ [(i : Int)] r.free A m c (fun _ => True) (fun _ => False) rfl rfl (R_one _ _ _ _ (by omega)) (by rw [HS5.out.2.2]; rw [HS5.out.2.2] at HC; exact HC.out) (fun _ _ h => h) (fun _ hk => hk.elim) (fun _ _ => trivial) (Below.refl _ _) (by rw [World.size_alloc]; omega) h8 ?_; intro v1 w1 hR1 hB1 hg1 hat1; obtain ⟨A1, c1, rfl⟩ := Kd.R_slice hR1; have hb1 := below_fresh (below_alloc (Below.refl _ W) (.cells #[.int .i64 i] 3)) hg1 (Nat.le_refl _); have hs1 := HS5.out.1.below hb1; have c9 := hs1.head.cell 3 rfl; have z9 : ∀ j, w1.frozen? ⟨gx, j, none⟩ = false := (fun j => hs1.head.frozen j); have H1 := Aside0.mk (And.intro hb1 (And.intro (hs1.refree (Fr.of_R hR1)) hs1.head)); clear hR1 hB1 hg1 hat1 hb1 hs1)
  go_ret
  refine ⟨rfl, ⟨_, H1.out.2.1⟩, ?_⟩
  have k1 : Kp (rown gx (.slice (some ⟨bq, 0, none⟩) n cq) (.slice (some ⟨bt, 0, none⟩) n ct) (.slice (some ⟨bn, 0, none⟩) n cn)) w W := HS5.out.2.1.mono (by intro b hb; simp [rown, Value.ownBlock] at hb ⊢; omega)
  exact (k1.below H1.out.1).set (.inl (by simp [rown])) _
end Go.Proofs.Ytifffmfbipjilaa.Z

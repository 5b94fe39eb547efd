/- The nil queue. -/
import Derived.Test.YtifffmfbipjilaaSlabw
import Derived.Test.YtifffmfbipjilaaDqo
namespace Go.Proofs.Ytifffmfbipjilaa.Z
open Go.RowKit Go.Proofs.YtifffmfbipjilaaW Go.Proofs.YtifffmfbipjilaaW.PrintWords
set_option linter.unusedVariables false
set_option linter.unusedSimpArgs false
def zq : Value := .agg #[.int .u64 0, .int .i64 0, .int .i64 0, .int .i64 0, .int .i64 0]
theorem nil_put (q : Rq) (w : World) : Calls Try.prog 10 #[.pointer none, q.val] w fun e w' => e = .returned (.tuple #[.int .u64 0, .int .i64 3]) ∧ Below w.heap.size w w' := by
  unfold Rq.val
  go_enter Try.func10, Try.ntmps10
  go_wp2_with (fail)
  go_ret2
  exact ⟨rfl, below_alloc (Below.refl _ w) _⟩
set_option maxHeartbeats 4000000 in
theorem nil_get (h : Int) (w : World) : Calls Try.prog 18 #[.pointer none, .int .u64 h] w fun e w' => e = .returned (.tuple #[zq, .int .i64 3]) ∧ Below w.heap.size w w' := by
  have hal := below_alloc (Below.refl _ w) (.cells #[.int .u64 0, .int .i64 0, .int .i64 0, .int .i64 0, .int .i64 0] 33)
  have hb0 : Blk (w.alloc (.cells #[.int .u64 0, .int .i64 0, .int .i64 0, .int .i64 0, .int .i64 0] 33)) w.heap.size 33 [.int .u64 0, .int .i64 0, .int .i64 0, .int .i64 0, .int .i64 0] := Blk.new w _ _
  have HA := Aside0.mk (And.intro hal hb0)
  clear hal hb0
  go_enter Try.func18, Try.ntmps18
  go_wp2_with (fail)
  obtain ⟨hal, hb0⟩ := HA.out
  have z0 := hb0.cell 0 rfl
  have z1 := hb0.cell 1 rfl
  have z2 := hb0.cell 2 rfl
  have z3 := hb0.cell 3 rfl
  have z4 := hb0.cell 4 rfl
  have zf : ∀ j, (w.alloc (.cells #[.int .u64 0, .int .i64 0, .int .i64 0, .int .i64 0, .int .i64 0] 33)).frozen? ⟨w.heap.size, j, none⟩ = false := fun j => hb0.frozen j
  refine bodyPost_ret (v := .tuple #[zq, .int .i64 3]) (by simp [zq, results, Try.results18, go_sem, *]) rfl ⟨rfl, ?_⟩
  exact hal
theorem nil_head (r : Int) (w : World) : Calls Try.prog 12 #[.pointer none, .int .i64 r] w fun e w' => e = .returned (.tuple #[.int .u64 0, .bool false]) ∧ w = w' := by
  go_enter Try.func12, Try.ntmps12
  go_wp2_with (fail)
  go_ret2
  exact ⟨rfl, rfl⟩
theorem nil_tail (r : Int) (w : World) : Calls Try.prog 23 #[.pointer none, .int .i64 r] w fun e w' => e = .returned (.tuple #[.int .u64 0, .bool false]) ∧ w = w' := by
  go_enter Try.func23, Try.ntmps23
  go_wp2_with (fail)
  go_ret2
  exact ⟨rfl, rfl⟩
theorem nil_len (w : World) : Calls Try.prog 14 #[.pointer none] w fun e w' => e = .returned (.int .i64 0) ∧ w = w' := by
  go_enter Try.func14, Try.ntmps14
  go_wp2_with (fail)
  go_ret
  exact ⟨rfl, rfl⟩
theorem nil_count (r : Int) (w : World) : Calls Try.prog 27 #[.pointer none, .int .i64 r] w fun e w' => e = .returned (.int .i64 0) ∧ w = w' := by
  go_enter Try.func27, Try.ntmps27
  go_wp2_with (fail)
  go_ret
  exact ⟨rfl, rfl⟩
theorem nil_due (r : Int) (w : World) : Calls Try.prog 15 #[.pointer none, .int .i64 r] w fun e w' => e = .returned (.slice none 0 0) ∧ w = w' := by
  go_enter Try.func15, Try.ntmps15
  go_wp2_with (fail)
  go_ret
  exact ⟨rfl, rfl⟩
theorem nil_first (w : World) : Calls Try.prog 11 #[.pointer none] w fun e w' => e = .returned (.tuple #[.int .i64 0, .bool false]) ∧ w = w' := by
  go_enter Try.func11, Try.ntmps11
  go_wp2_with (fail)
  refine (nil_len _).mono ?_
  rintro e w' ⟨rfl, rfl⟩
  go_wp2_with (fail)
  go_ret2
  exact ⟨rfl, rfl⟩
theorem nil_last (w : World) : Calls Try.prog 24 #[.pointer none] w fun e w' => e = .returned (.tuple #[.int .i64 0, .bool false]) ∧ w = w' := by
  go_enter Try.func24, Try.ntmps24
  go_wp2_with (fail)
  refine (nil_len _).mono ?_
  rintro e w' ⟨rfl, rfl⟩
  go_wp2_with (fail)
  go_ret2
  exact ⟨rfl, rfl⟩
set_option maxHeartbeats 4000000 in
theorem nil_take (h : Int) (w : World) : Calls Try.prog 13 #[.pointer none, .int .u64 h] w fun e w' => e = .returned (.tuple #[zq, .int .i64 3]) ∧ Below w.heap.size w w' := by
  have hal := below_alloc (Below.refl _ w) (.cells #[.int .u64 0, .int .i64 0, .int .i64 0, .int .i64 0, .int .i64 0] 33)
  have hb0 : Blk (w.alloc (.cells #[.int .u64 0, .int .i64 0, .int .i64 0, .int .i64 0, .int .i64 0] 33)) w.heap.size 33 [.int .u64 0, .int .i64 0, .int .i64 0, .int .i64 0, .int .i64 0] := Blk.new w _ _
  have HA := Aside0.mk (And.intro hal hb0)
  clear hal hb0
  go_enter Try.func13, Try.ntmps13
  go_wp2_with (fail)
  refine (nil_get h _).mono ?_
  rintro e w2 ⟨rfl, hb⟩
  unfold zq
  obtain ⟨hal, hb0⟩ := HA.out
  have hb2 := hb0.below hb
  have HB := Aside0.mk (And.intro (hal.trans (hb.mono hal.size)) hb2)
  clear hb hb0 hal hb2 HA
  obtain ⟨gz, hgz⟩ : ∃ z, z = w.heap.size := ⟨_, rfl⟩
  rw [← hgz] at HB ⊢
  have HG := Aside0.mk hgz
  clear hgz
  have h6 : Blk (w2.alloc (.cells #[.int .u64 0, .int .i64 0, .int .i64 0, .int .i64 0, .int .i64 0] 33)) w2.heap.size 33 [.int .u64 0, .int .i64 0, .int .i64 0, .int .i64 0, .int .i64 0] := Blk.new w2 _ _
  have h4 := HB.out.2.alloc (.cells #[.int .u64 0, .int .i64 0, .int .i64 0, .int .i64 0, .int .i64 0] 33)
  have hsz : gz ≤ w2.heap.size := by have := HB.out.1.size; have := HG.out; omega
  have hb6 := HB.out.1.alloc hsz (.cells #[.int .u64 0, .int .i64 0, .int .i64 0, .int .i64 0, .int .i64 0] 33)
  go_upto_region 2 with (fail)
  generalize w2.alloc (.cells #[.int .u64 0, .int .i64 0, .int .i64 0, .int .i64 0, .int .i64 0] 33) = W at *
  generalize w2.heap.size = g6 at *
  have x0 := h6.cell 0 rfl
  have x1 := h6.cell 1 rfl
  have x2 := h6.cell 2 rfl
  have x3 := h6.cell 3 rfl
  have x4 := h6.cell 4 rfl
  have z0 := h4.cell 0 rfl
  have z1 := h4.cell 1 rfl
  have z2 := h4.cell 2 rfl
  have z3 := h4.cell 3 rfl
  have z4 := h4.cell 4 rfl
  have zf : ∀ j, W.frozen? ⟨gz, j, none⟩ = false := fun j => h4.frozen j
  have H46 := Aside0.mk (And.intro h4 hb6)
  clear h4 hb6 hsz h6
  go_wp2_with (fail)
  obtain ⟨h4, hb6⟩ := H46.out
  refine bodyPost_ret (v := .tuple #[zq, .int .i64 3]) (by simp [zq, results, Try.results13, go_sem, *]) rfl ⟨rfl, ?_⟩
  rw [← HG.out]
  exact ((((hb6.setCell (Nat.le_refl _) _).setCell (Nat.le_refl _) _).setCell (Nat.le_refl _) _).setCell (Nat.le_refl _) _).setCell (Nat.le_refl _) _
theorem right_f (t r : Int) (b : Bool) (hb : b = decide (1 ≤ t ∧ t ≤ 8 ∧ 1 ≤ r ∧ r ≤ 1024)) (w : World) : Calls Try.prog 26 #[.int .i64 t, .int .i64 r] w fun e w' => e = .returned (.bool b) ∧ w = w' := by
  have HB := Aside0.mk hb
  clear hb
  go_enter Try.func26, Try.ntmps26
  go_wp2_with (fail)
  all_goals
    go_ret
    refine ⟨?_, rfl⟩
    have e := HB.out
    cases b
    · have := of_decide_eq_false e.symm
      first | rfl | (rw [show decide (r ≤ 1024) = false from decide_eq_false (by omega)]; rfl) | omega
    · have := of_decide_eq_true e.symm
      first | rfl | (rw [show decide (r ≤ 1024) = true from decide_eq_true (by omega)]; rfl) | omega
end Go.Proofs.Ytifffmfbipjilaa.Z

-- Laid by a program of this claim's session (wip/tools/myprint.py) over the kit's printer.
import Derived.Test.YtiiffgmbkajkhaaBx0
import Derived.Test.YtiiffgmbkajkhaaBx9
import Derived.Test.YtiiffgmbkajkhaaBx10
namespace Go.Proofs.Ytiiffgmbkajkhaa.B
open Go.RowKit Go.Proofs.YtiiffgmbkajkhaaW.PrintWords Go.Proofs.YtiiffgmbkajkhaaW.PrintLast Go.Proofs.YtiiffgmbkajkhaaW.PrintMore
attribute [local go_sem] max2_int min2_int max_two min_two max_three min_three max_four min_four   -- for this text's walks alone
set_option linter.unusedVariables false
set_option linter.unusedSimpArgs false

/-! ### overfallref03_Most: function 31 -/
def overfallref03_Most.l0 : Nat → Int → Int → Int → Int → Int → Option (Int)
 | 0, _, _, _, _, _ => none
 | k + 1, x0, x5, x6, x335000, x335001 => if x5 < x6 then ((overfallref03_Fits.f k (IntKind.u64.wrap ((IntKind.u64.wrap (x5 + (IntKind.u64.wrap (Int.tdiv (IntKind.u64.wrap (x6 - x5)) 2)))) + (Int.tmod (IntKind.u64.wrap (x6 - x5)) 2))) x0 x335000 x335001).bind fun t335 => (if t335 = true then (overfallref03_Most.l0 k x0 (IntKind.u64.wrap ((IntKind.u64.wrap (x5 + (IntKind.u64.wrap (Int.tdiv (IntKind.u64.wrap (x6 - x5)) 2)))) + (Int.tmod (IntKind.u64.wrap (x6 - x5)) 2))) x6 x335000 x335001) else (overfallref03_Most.l0 k x0 x5 (IntKind.u64.wrap ((IntKind.u64.wrap ((IntKind.u64.wrap (x5 + (IntKind.u64.wrap (Int.tdiv (IntKind.u64.wrap (x6 - x5)) 2)))) + (Int.tmod (IntKind.u64.wrap (x6 - x5)) 2))) - 1)) x335000 x335001))) else (some x5)
def overfallref03_Most.f (k : Nat) (a0 : Int) (a1_0 : Int) (a1_1 : Int) : Option (Int) := overfallref03_Most.l0 k a0 0 18446744073709551615 a1_0 a1_1
theorem overfallref03_Most.mono_l : ∀ k, (∀ y0 y1 y2 y3 y4, LeO (overfallref03_Most.l0 k y0 y1 y2 y3 y4) (overfallref03_Most.l0 (k + 1) y0 y1 y2 y3 y4))
 | 0 => fun _ _ _ _ _ r h => by simp [overfallref03_Most.l0] at h
 | k + 1 => by
  have ih0 := overfallref03_Most.mono_l k
  ·intro y0 y1 y2 y3 y4
   unfold overfallref03_Most.l0
   repeat' first
   | (with_reducible exact ih0 _ _ _ _ _)
   | (with_reducible exact overfallref03_Fits.mono _ _ _ _ _)
   | (with_reducible exact LeO.refl _)
   | (with_reducible exact LeO.none _)
   | (with_reducible refine LeO.ite ?_ ?_)
   | (with_reducible refine LeO.bind ?_ (fun _ => ?_))
   | exact ih0 _ _ _ _ _
   | exact overfallref03_Fits.mono _ _ _ _ _
   | exact LeO.none _
   | refine LeO.ite ?_ ?_
   | refine LeO.bind ?_ (fun _ => ?_)
theorem overfallref03_Most.mono : ∀ a0 a1 a2 k, LeO (overfallref03_Most.f k a0 a1 a2) (overfallref03_Most.f (k + 1) a0 a1 a2) := by
 intro a0 a1 a2 k
 have ih0 := overfallref03_Most.mono_l k
 unfold overfallref03_Most.f
 repeat' first
   | (with_reducible exact ih0 _ _ _ _ _)
   | (with_reducible exact overfallref03_Fits.mono _ _ _ _ _)
   | (with_reducible exact LeO.refl _)
   | (with_reducible exact LeO.none _)
   | (with_reducible refine LeO.ite ?_ ?_)
   | (with_reducible refine LeO.bind ?_ (fun _ => ?_))
   | exact ih0 _ _ _ _ _
   | exact overfallref03_Fits.mono _ _ _ _ _
   | exact LeO.none _
   | refine LeO.ite ?_ ?_
   | refine LeO.bind ?_ (fun _ => ?_)
set_option maxHeartbeats 8000000 in
set_option maxRecDepth 100000 in
theorem overfallref03_Most.calls (k : Nat) (a0 : Int) (a1_0 : Int) (a1_1 : Int) (r : Int) (w : World) (h : overfallref03_Most.f k a0 a1_0 a1_1 = some r) :
  Calls Try.prog 31 #[.int .u64 a0, .agg #[.int .u64 a1_0, .int .u64 a1_1]] w fun e w' => e = .returned (.int .u64 r) ∧ Below w.heap.size w w' := by
 have hu50 := Try.underlying50
 have HB := Aside0.mk (Below.refl w.heap.size w)
 have H : (overfallref03_Most.l0 k a0 0 18446744073709551615 a1_0 a1_1) = some r := h
 clear h
 have H' := Aside0.mk H
 clear H
 go_enter Try.func31, Try.ntmps31
 go_wp2_with (first | ((with_reducible refine gate_dst (N := 3) rfl ?_); refine box_event ?hg (N := 3) ?hd (cs := #[.int .u64 a1_0, .int .u64 a1_1]) (t := 50) ?hr ?_; (case hd => rfl); (case hg => rfl); (case hr => first | (go_simp; done) | (go_simp; rfl)); intro gb334 hg w3 hbox hb; have n0_ := Aside0.mk (below_step (by repeat (first | (with_reducible first | exact HB.out | apply below_alloc | apply pw_below_drewN | apply below_drew1) | exact HB.out)) hb); have n1_ := Aside0.mk (hbox); have n2_ := Aside0.mk ((by rw [hg]; exact (below_size (by repeat (first | (with_reducible first | exact HB.out | apply below_alloc | apply pw_below_drewN | apply below_drew1) | exact HB.out))) : w.heap.size ≤ gb334)); have n3_ := Aside0.mk ((by rw [hg]; exact (below_size (by repeat (first | (with_reducible first | exact HB.out | apply below_alloc | apply pw_below_drewN | apply below_drew1) | exact HB.out))) : w.heap.size ≤ gb334)); clear HB; have HB := n0_; have BK334 := n1_; have GW334 := n2_; have GE334 := n3_; clear n0_ n1_ n2_ n3_; clear hb hbox hg))
 go_loopg [5, 6] k (fun kq v5 v6 w' => ∃ (x5_1 : Int) (x6_1 : Int), v5 = .int .u64 x5_1 ∧ v6 = .int .u64 x6_1 ∧ Aside0 (overfallref03_Most.l0 kq a0 x5_1 x6_1 a1_0 a1_1 = some r) ∧ Aside0 (kq ≤ k) ∧ Aside0 (w'.heap[gb334]? = some (.cells #[.int .u64 a1_0, .int .u64 a1_1] 50 (0, 0))) ∧ Aside0 (Below w.heap.size w w'))
 case atStart => exact ⟨(0), (18446744073709551615), (by first | rfl | (simp; done) | (simp [*]; done)), (by first | rfl | (simp; done) | (simp [*]; done)), H', ⟨Nat.le_refl _⟩, ⟨by exact BK334.out⟩, ⟨by repeat (first | (with_reducible first | exact HB.out | apply below_alloc | apply pw_below_drewN | apply below_drew1 | refine below_set ?_ GE334.out) | exact HB.out)⟩⟩
 case round =>
  clear H'
  try clear p2
  try clear c3
  obtain ⟨x5_1, x6_1, rfl, rfl, HA, HK1, BK334, HB⟩ := hrel
  cases gk with
  | zero => exact absurd HA.out (by simp [overfallref03_Most.l0])
  | succ k1 =>
   have H := HA.out
   clear HA
   simp only [overfallref03_Most.l0] at H
   by_cases c4 : x5_1 < x6_1
   ·rw [if_pos c4] at H
    have c4b0 : decide (x5_1 < x6_1) = true := decide_eq_true c4
    clear c4
    replace H := Option.bind_eq_some_iff.mp H
    obtain ⟨t335, A50, H⟩ := H
    replace H : (if t335 = true then (overfallref03_Most.l0 k1 a0 (IntKind.u64.wrap ((IntKind.u64.wrap (x5_1 + (IntKind.u64.wrap (Int.tdiv (IntKind.u64.wrap (x6_1 - x5_1)) 2)))) + (Int.tmod (IntKind.u64.wrap (x6_1 - x5_1)) 2))) x6_1 a1_0 a1_1) else (overfallref03_Most.l0 k1 a0 x5_1 (IntKind.u64.wrap ((IntKind.u64.wrap ((IntKind.u64.wrap (x5_1 + (IntKind.u64.wrap (Int.tdiv (IntKind.u64.wrap (x6_1 - x5_1)) 2)))) + (Int.tmod (IntKind.u64.wrap (x6_1 - x5_1)) 2))) - 1)) a1_0 a1_1)) = some r := H
    have A5 := Aside0.mk A50
    clear A50
    by_cases c6 : t335 = true
    ·subst c6
     have H1 : (overfallref03_Most.l0 k1 a0 (IntKind.u64.wrap ((IntKind.u64.wrap (x5_1 + (IntKind.u64.wrap (Int.tdiv (IntKind.u64.wrap (x6_1 - x5_1)) 2)))) + (Int.tmod (IntKind.u64.wrap (x6_1 - x5_1)) 2))) x6_1 a1_0 a1_1) = some r := by rw [if_pos rfl] at H; exact H
     clear H
     have H := H1
     clear H1
     have H' := Aside0.mk H
     clear H
     have hcz7_0 : wr.cell? ⟨gb334, 0, none⟩ = some (.int .u64 a1_0) := (blk_cell BK334.out 0).trans rfl
     have hcz7_1 : wr.cell? ⟨gb334, 1, none⟩ = some (.int .u64 a1_1) := (blk_cell BK334.out 1).trans rfl
     have hfz7_0 := blk_frozen BK334.out 0
     have hfz7_1 := blk_frozen BK334.out 1
     go_wp2_with (first | ((with_reducible refine gate_callee (f := 39) rfl ?_); refine goesL_ (some 25) rfl rfl Try.func39 (by kernel_rfl) rfl #[.int .u64 (IntKind.u64.wrap ((IntKind.u64.wrap (x5_1 + (IntKind.u64.wrap (Int.tdiv (IntKind.u64.wrap (x6_1 - x5_1)) 2)))) + (Int.tmod (IntKind.u64.wrap (x6_1 - x5_1)) 2))), .int .u64 a0, .agg #[.int .u64 a1_0, .int .u64 a1_1]] rfl (by (try simp only [List.map_toArray, List.map_cons, List.map_nil]); first | done | rfl | (simp only [List.length_drop, List.length_take]; rfl)) ?_; (with_reducible refine (overfallref03_Fits.calls k1 (IntKind.u64.wrap ((IntKind.u64.wrap (x5_1 + (IntKind.u64.wrap (Int.tdiv (IntKind.u64.wrap (x6_1 - x5_1)) 2)))) + (Int.tmod (IntKind.u64.wrap (x6_1 - x5_1)) 2))) a0 a1_0 a1_1 true _ A5.out).mono ?_); rintro e w8 ⟨rfl, hb⟩; refine ⟨_, rfl, ?_⟩; have n0_ := Aside0.mk (blk_below (by exact BK334.out) hb); have n1_ := Aside0.mk (below_step (by repeat (first | (with_reducible first | exact HB.out | apply below_alloc | apply pw_below_drewN | apply below_drew1 | refine below_set ?_ GE334.out) | exact HB.out)) hb); clear BK334; clear HB; have BK334 := n0_; have HB := n1_; clear n0_ n1_; (try clear hb); (try clear hb2); (try clear hk); (try clear hi)))
     go_roundg k1
     case measure => have := HK1.out; omega
     case rel => exact ⟨(IntKind.u64.wrap ((IntKind.u64.wrap (x5_1 + (IntKind.u64.wrap (Int.tdiv (IntKind.u64.wrap (x6_1 - x5_1)) 2)))) + (Int.tmod (IntKind.u64.wrap (x6_1 - x5_1)) 2))), (x6_1), (by first | rfl | (simp; done) | (simp [*]; done)), (by first | rfl | (simp; done) | (simp [*]; done)), H', ⟨by have := HK1.out; omega⟩, ⟨by exact BK334.out⟩, ⟨by repeat (first | (with_reducible first | exact HB.out | apply below_alloc | apply pw_below_drewN | apply below_drew1 | refine below_set ?_ GE334.out) | exact HB.out)⟩⟩
    ·replace c6 := Bool.eq_false_iff.mpr c6
     subst c6
     have H1 : (overfallref03_Most.l0 k1 a0 x5_1 (IntKind.u64.wrap ((IntKind.u64.wrap ((IntKind.u64.wrap (x5_1 + (IntKind.u64.wrap (Int.tdiv (IntKind.u64.wrap (x6_1 - x5_1)) 2)))) + (Int.tmod (IntKind.u64.wrap (x6_1 - x5_1)) 2))) - 1)) a1_0 a1_1) = some r := by rw [if_neg (show ¬ (false = true) by decide)] at H; exact H
     clear H
     have H := H1
     clear H1
     have H' := Aside0.mk H
     clear H
     have hcz9_0 : wr.cell? ⟨gb334, 0, none⟩ = some (.int .u64 a1_0) := (blk_cell BK334.out 0).trans rfl
     have hcz9_1 : wr.cell? ⟨gb334, 1, none⟩ = some (.int .u64 a1_1) := (blk_cell BK334.out 1).trans rfl
     have hfz9_0 := blk_frozen BK334.out 0
     have hfz9_1 := blk_frozen BK334.out 1
     go_wp2_with (first | ((with_reducible refine gate_callee (f := 39) rfl ?_); refine goesL_ (some 25) rfl rfl Try.func39 (by kernel_rfl) rfl #[.int .u64 (IntKind.u64.wrap ((IntKind.u64.wrap (x5_1 + (IntKind.u64.wrap (Int.tdiv (IntKind.u64.wrap (x6_1 - x5_1)) 2)))) + (Int.tmod (IntKind.u64.wrap (x6_1 - x5_1)) 2))), .int .u64 a0, .agg #[.int .u64 a1_0, .int .u64 a1_1]] rfl (by (try simp only [List.map_toArray, List.map_cons, List.map_nil]); first | done | rfl | (simp only [List.length_drop, List.length_take]; rfl)) ?_; (with_reducible refine (overfallref03_Fits.calls k1 (IntKind.u64.wrap ((IntKind.u64.wrap (x5_1 + (IntKind.u64.wrap (Int.tdiv (IntKind.u64.wrap (x6_1 - x5_1)) 2)))) + (Int.tmod (IntKind.u64.wrap (x6_1 - x5_1)) 2))) a0 a1_0 a1_1 false _ A5.out).mono ?_); rintro e w10 ⟨rfl, hb⟩; refine ⟨_, rfl, ?_⟩; have n0_ := Aside0.mk (blk_below (by exact BK334.out) hb); have n1_ := Aside0.mk (below_step (by repeat (first | (with_reducible first | exact HB.out | apply below_alloc | apply pw_below_drewN | apply below_drew1 | refine below_set ?_ GE334.out) | exact HB.out)) hb); clear BK334; clear HB; have BK334 := n0_; have HB := n1_; clear n0_ n1_; (try clear hb); (try clear hb2); (try clear hk); (try clear hi)))
     go_roundg k1
     case measure => have := HK1.out; omega
     case rel => exact ⟨(x5_1), (IntKind.u64.wrap ((IntKind.u64.wrap ((IntKind.u64.wrap (x5_1 + (IntKind.u64.wrap (Int.tdiv (IntKind.u64.wrap (x6_1 - x5_1)) 2)))) + (Int.tmod (IntKind.u64.wrap (x6_1 - x5_1)) 2))) - 1)), (by first | rfl | (simp; done) | (simp [*]; done)), (by first | rfl | (simp; done) | (simp [*]; done)), H', ⟨by have := HK1.out; omega⟩, ⟨by exact BK334.out⟩, ⟨by repeat (first | (with_reducible first | exact HB.out | apply below_alloc | apply pw_below_drewN | apply below_drew1 | refine below_set ?_ GE334.out) | exact HB.out)⟩⟩
   ·rw [if_neg c4] at H
    have c4b0 : decide (x5_1 < x6_1) = false := decide_eq_false c4
    clear c4
    obtain rfl := Option.some.inj H
    go_wp2
    go_ret
    exact ⟨by first | rfl | (simp [errW_none, errW_some] <;> rfl) | (simp [*, errW_none, errW_some] <;> rfl), by repeat (first | (with_reducible first | exact HB.out | apply below_alloc | apply pw_below_drewN | apply below_drew1 | refine below_set ?_ GE334.out) | exact HB.out)⟩

/-! ### overfallref03_Law: function 14 -/
def overfallref03_Law.f (k : Nat) (a0 : Int) (a1 : Int) : Option (Int) := if a0 ≤ 0 then (some 0) else ((overfallref01_Mul.f k (IntKind.u64.wrap (a0)) (IntKind.u64.wrap (a0))).bind fun bt336 => ((overfallref03_Most.f k a1 bt336.1 bt336.2).bind fun t338 => (some (wrap64 (t338)))))
theorem overfallref03_Law.mono : ∀ a0 a1 k, LeO (overfallref03_Law.f k a0 a1) (overfallref03_Law.f (k + 1) a0 a1) := by
 intro a0 a1 k
 unfold overfallref03_Law.f
 repeat' first
   | (with_reducible exact overfallref01_Mul.mono _ _ _)
   | (with_reducible exact overfallref03_Most.mono _ _ _ _)
   | (with_reducible exact LeO.refl _)
   | (with_reducible exact LeO.none _)
   | (with_reducible refine LeO.ite ?_ ?_)
   | (with_reducible refine LeO.bind ?_ (fun _ => ?_))
   | exact overfallref01_Mul.mono _ _ _
   | exact overfallref03_Most.mono _ _ _ _
   | exact LeO.none _
   | refine LeO.ite ?_ ?_
   | refine LeO.bind ?_ (fun _ => ?_)
set_option maxHeartbeats 8000000 in
set_option maxRecDepth 100000 in
theorem overfallref03_Law.calls (k : Nat) (a0 : Int) (a1 : Int) (r : Int) (w : World) (h : overfallref03_Law.f k a0 a1 = some r) :
  Calls Try.prog 14 #[.int .i64 a0, .int .u64 a1] w fun e w' => e = .returned (.int .i64 r) ∧ Below w.heap.size w w' := by
 have HB := Aside0.mk (Below.refl w.heap.size w)
 have H : (if a0 ≤ 0 then (some 0) else ((overfallref01_Mul.f k (IntKind.u64.wrap (a0)) (IntKind.u64.wrap (a0))).bind fun bt336 => ((overfallref03_Most.f k a1 bt336.1 bt336.2).bind fun t338 => (some (wrap64 (t338)))))) = some r := h
 clear h
 by_cases c3 : a0 ≤ 0
 ·rw [if_pos c3] at H
  have c3b0 : decide (a0 ≤ 0) = true := decide_eq_true c3
  clear c3
  obtain rfl := Option.some.inj H
  go_enter Try.func14, Try.ntmps14
  go_wp2
  go_ret
  exact ⟨by first | rfl | (simp [errW_none, errW_some] <;> rfl) | (simp [*, errW_none, errW_some] <;> rfl), by repeat (first | (with_reducible first | exact HB.out | apply below_alloc | apply pw_below_drewN | apply below_drew1) | exact HB.out)⟩
 ·rw [if_neg c3] at H
  have c3b0 : decide (a0 ≤ 0) = false := decide_eq_false c3
  clear c3
  replace H := Option.bind_eq_some_iff.mp H
  obtain ⟨⟨t336, t337⟩, A40, H⟩ := H
  replace H : ((overfallref03_Most.f k a1 t336 t337).bind fun t338 => (some (wrap64 (t338)))) = some r := H
  have A4 := Aside0.mk A40
  clear A40
  replace H := Option.bind_eq_some_iff.mp H
  obtain ⟨t338, A50, H⟩ := H
  replace H : (some (wrap64 (t338))) = some r := H
  have A5 := Aside0.mk A50
  clear A50
  obtain rfl := Option.some.inj H
  go_enter Try.func14, Try.ntmps14
  go_wp2_with (first | ((with_reducible refine gate_callee (f := 30) rfl ?_); refine goesL_ (some 12) rfl rfl Try.func30 (by kernel_rfl) rfl #[.int .u64 (IntKind.u64.wrap (a0)), .int .u64 (IntKind.u64.wrap (a0))] rfl (by (try simp only [List.map_toArray, List.map_cons, List.map_nil]); first | done | rfl | (simp only [List.length_drop, List.length_take]; rfl)) ?_; (with_reducible refine (overfallref01_Mul.calls k (IntKind.u64.wrap (a0)) (IntKind.u64.wrap (a0)) t336 t337 _ A4.out).mono ?_); rintro e w6 ⟨rfl, hb⟩; refine ⟨_, rfl, ?_⟩; have n0_ := Aside0.mk (below_step (by repeat (first | (with_reducible first | exact HB.out | apply below_alloc | apply pw_below_drewN | apply below_drew1) | exact HB.out)) hb); clear HB; have HB := n0_; clear n0_; (try clear hb); (try clear hb2); (try clear hk); (try clear hi)) | ((with_reducible refine gate_callee (f := 31) rfl ?_); refine goesL_ (some 13) rfl rfl Try.func31 (by kernel_rfl) rfl #[.int .u64 a1, .agg #[.int .u64 t336, .int .u64 t337]] rfl (by (try simp only [List.map_toArray, List.map_cons, List.map_nil]); first | done | rfl | (simp only [List.length_drop, List.length_take]; rfl)) ?_; (with_reducible refine (overfallref03_Most.calls k a1 t336 t337 t338 _ A5.out).mono ?_); rintro e w7 ⟨rfl, hb⟩; refine ⟨_, rfl, ?_⟩; have n0_ := Aside0.mk (below_step (by repeat (first | (with_reducible first | exact HB.out | apply below_alloc | apply pw_below_drewN | apply below_drew1) | exact HB.out)) hb); clear HB; have HB := n0_; clear n0_; (try clear hb); (try clear hb2); (try clear hk); (try clear hi)))
  go_ret
  exact ⟨by first | rfl | (simp [errW_none, errW_some] <;> rfl) | (simp [*, errW_none, errW_some] <;> rfl), by repeat (first | (with_reducible first | exact HB.out | apply below_alloc | apply pw_below_drewN | apply below_drew1) | exact HB.out)⟩

end Go.Proofs.Ytiiffgmbkajkhaa.B

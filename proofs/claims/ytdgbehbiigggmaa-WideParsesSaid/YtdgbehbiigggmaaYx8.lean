-- Laid by a program of this claim's session (wip/tools/myprint.py) over the kit's printer.
import Derived.Test.YtdgbehbiigggmaaYx0
import Derived.Test.YtdgbehbiigggmaaYx7
namespace Go.Proofs.Ytdgbehbiigggmaa.Y
open Go.RowKit Go.Proofs.YtdgbehbiigggmaaW.PrintWords Go.Proofs.YtdgbehbiigggmaaW.PrintLast Go.Proofs.YtdgbehbiigggmaaW.PrintMore
attribute [local go_sem] max2_int min2_int max_two min_two max_three min_three max_four min_four   -- for this text's walks alone
set_option linter.unusedVariables false
set_option linter.unusedSimpArgs false

/-! ### overfallref01_Left: function 20 -/
def overfallref01_Left.l0 : Nat → Int → Int → Int → Int → Option (Int × Int)
 | 0, _, _, _, _ => none
 | k + 1, x1, x5, x176000, x176001 => if x5 < x1 then (if x5 < 128 then ((overfallref01_Twice.f k x176000 x176001).bind fun bt177 => (overfallref01_Left.l0 k x1 (wrap64 (x5 + 1)) bt177.1 bt177.2)) else (some (x176000, x176001))) else (some (x176000, x176001))
def overfallref01_Left.f (k : Nat) (a0_0 : Int) (a0_1 : Int) (a1 : Int) : Option (Int × Int) := overfallref01_Left.l0 k a1 0 a0_0 a0_1
theorem overfallref01_Left.mono_l : ∀ k, (∀ y0 y1 y2 y3, LeO (overfallref01_Left.l0 k y0 y1 y2 y3) (overfallref01_Left.l0 (k + 1) y0 y1 y2 y3))
 | 0 => fun _ _ _ _ r h => by simp [overfallref01_Left.l0] at h
 | k + 1 => by
  have ih0 := overfallref01_Left.mono_l k
  ·intro y0 y1 y2 y3
   unfold overfallref01_Left.l0
   repeat' first
   | (with_reducible exact ih0 _ _ _ _)
   | (with_reducible exact overfallref01_Twice.mono _ _ _)
   | (with_reducible exact LeO.refl _)
   | (with_reducible exact LeO.none _)
   | (with_reducible refine LeO.ite ?_ ?_)
   | (with_reducible refine LeO.bind ?_ (fun _ => ?_))
   | exact ih0 _ _ _ _
   | exact overfallref01_Twice.mono _ _ _
   | exact LeO.none _
   | refine LeO.ite ?_ ?_
   | refine LeO.bind ?_ (fun _ => ?_)
theorem overfallref01_Left.mono : ∀ a0 a1 a2 k, LeO (overfallref01_Left.f k a0 a1 a2) (overfallref01_Left.f (k + 1) a0 a1 a2) := by
 intro a0 a1 a2 k
 have ih0 := overfallref01_Left.mono_l k
 unfold overfallref01_Left.f
 repeat' first
   | (with_reducible exact ih0 _ _ _ _)
   | (with_reducible exact overfallref01_Twice.mono _ _ _)
   | (with_reducible exact LeO.refl _)
   | (with_reducible exact LeO.none _)
   | (with_reducible refine LeO.ite ?_ ?_)
   | (with_reducible refine LeO.bind ?_ (fun _ => ?_))
   | exact ih0 _ _ _ _
   | exact overfallref01_Twice.mono _ _ _
   | exact LeO.none _
   | refine LeO.ite ?_ ?_
   | refine LeO.bind ?_ (fun _ => ?_)
set_option maxHeartbeats 8000000 in
set_option maxRecDepth 100000 in
theorem overfallref01_Left.calls (k : Nat) (a0_0 : Int) (a0_1 : Int) (a1 : Int) (r1 : Int) (r2 : Int) (w : World) (h : overfallref01_Left.f k a0_0 a0_1 a1 = some (r1, r2)) :
  Calls Try.prog 20 #[.agg #[.int .u64 a0_0, .int .u64 a0_1], .int .i64 a1] w fun e w' => e = .returned (.agg #[.int .u64 r1, .int .u64 r2]) ∧ Below w.heap.size w w' := by
 have hu29 := Try.underlying29
 have HB := Aside0.mk (Below.refl w.heap.size w)
 have H : (overfallref01_Left.l0 k a1 0 a0_0 a0_1) = some (r1, r2) := h
 clear h
 have H' := Aside0.mk H
 clear H
 go_enter Try.func20, Try.ntmps20
 go_wp2_with (first | ((with_reducible refine gate_dst (N := 2) rfl ?_); refine box_event ?hg (N := 2) ?hd (cs := #[.int .u64 a0_0, .int .u64 a0_1]) (t := 29) ?hr ?_; (case hd => rfl); (case hg => rfl); (case hr => first | (go_simp; done) | (go_simp; rfl)); intro gb175 hg w3 hbox hb; have n0_ := Aside0.mk (below_step (by repeat (first | (with_reducible first | exact HB.out | apply below_alloc | apply pw_below_drewN | apply below_drew1) | exact HB.out)) hb); have n1_ := Aside0.mk (hbox); have n2_ := Aside0.mk ((by rw [hg]; exact (below_size (by repeat (first | (with_reducible first | exact HB.out | apply below_alloc | apply pw_below_drewN | apply below_drew1) | exact HB.out))) : w.heap.size ≤ gb175)); have n3_ := Aside0.mk ((by rw [hg]; exact (below_size (by repeat (first | (with_reducible first | exact HB.out | apply below_alloc | apply pw_below_drewN | apply below_drew1) | exact HB.out))) : w.heap.size ≤ gb175)); clear HB; have HB := n0_; have BK175 := n1_; have GW175 := n2_; have GE175 := n3_; clear n0_ n1_ n2_ n3_; clear hb hbox hg) | ((with_reducible refine gate_dst (N := 4) rfl ?_); refine box_event ?hg (N := 4) ?hd (cs := #[.int .u64 0, .int .u64 0]) (t := 29) ?hr ?_; (case hd => rfl); (case hg => rfl); (case hr => first | (go_simp; done) | (go_simp; rfl)); intro gb176 hg w4 hbox hb; have n0_ := Aside0.mk (blk_below (by exact BK175.out) hb); have n1_ := Aside0.mk (below_step (by repeat (first | (with_reducible first | exact HB.out | apply below_alloc | apply pw_below_drewN | apply below_drew1 | refine below_set ?_ GE175.out) | exact HB.out)) hb); have n2_ := Aside0.mk (hbox); have n3_ := Aside0.mk ((by rw [hg]; exact (below_size (by repeat (first | (with_reducible first | exact HB.out | apply below_alloc | apply pw_below_drewN | apply below_drew1 | refine below_set ?_ GE175.out) | exact HB.out))) : w.heap.size ≤ gb176)); have n4_ := Aside0.mk ((by rw [hg]; exact (below_size (by repeat (first | (with_reducible first | exact HB.out | apply below_alloc | apply pw_below_drewN | apply below_drew1 | refine below_set ?_ GE175.out) | exact HB.out))) : w.heap.size ≤ gb176)); have n5_ := Aside0.mk ((by rw [hg]; exact Nat.ne_of_lt (blk_lt (by exact BK175.out)) : gb175 ≠ gb176)); have n6_ := Aside0.mk ((by rw [hg]; exact Nat.ne_of_gt (blk_lt (by exact BK175.out)) : gb176 ≠ gb175)); clear BK175; clear HB; have BK175 := n0_; have HB := n1_; have BK176 := n2_; have GW176 := n3_; have GE176 := n4_; have NB175_176 := n5_; have NB176_175 := n6_; clear n0_ n1_ n2_ n3_ n4_ n5_ n6_; clear hb hbox hg))
 go_loopg [5] k (fun kq v5 w' => ∃ (x5_1 : Int) (x176000_1 : Int) (x176001_1 : Int), v5 = .int .i64 x5_1 ∧ Aside0 (overfallref01_Left.l0 kq a1 x5_1 x176000_1 x176001_1 = some (r1, r2)) ∧ Aside0 (kq ≤ k) ∧ Aside0 (w'.heap[gb175]? = some (.cells #[.int .u64 x176000_1, .int .u64 x176001_1] 29 (0, 0))) ∧ Aside0 (w'.heap[gb176]? = some (.cells #[.int .u64 0, .int .u64 0] 29 (0, 0))) ∧ Aside0 (Below w.heap.size w w'))
 case atStart => exact ⟨(0), (a0_0), (a0_1), (by first | rfl | (simp; done) | (simp [*]; done)), H', ⟨Nat.le_refl _⟩, ⟨by exact BK175.out⟩, ⟨by exact BK176.out⟩, ⟨by repeat (first | (with_reducible first | exact HB.out | apply below_alloc | apply pw_below_drewN | apply below_drew1 | refine below_set ?_ GE175.out | refine below_set ?_ GE176.out) | exact HB.out)⟩⟩
 case round =>
  clear H'
  try clear c2
  try clear p2
  obtain ⟨x5_1, x176000_1, x176001_1, rfl, HA, HK1, BK175, BK176, HB⟩ := hrel
  cases gk with
  | zero => exact absurd HA.out (by simp [overfallref01_Left.l0])
  | succ k1 =>
   have H := HA.out
   clear HA
   simp only [overfallref01_Left.l0] at H
   by_cases c5 : x5_1 < a1
   ·rw [if_pos c5] at H
    have c5b0 : decide (x5_1 < a1) = true := decide_eq_true c5
    clear c5
    by_cases c6 : x5_1 < 128
    ·rw [if_pos c6] at H
     have c6b0 : decide (x5_1 < 128) = true := decide_eq_true c6
     clear c6
     replace H := Option.bind_eq_some_iff.mp H
     obtain ⟨⟨t177, t178⟩, A70, H⟩ := H
     replace H : (overfallref01_Left.l0 k1 a1 (wrap64 (x5_1 + 1)) t177 t178) = some (r1, r2) := H
     have A7 := Aside0.mk A70
     clear A70
     have H' := Aside0.mk H
     clear H
     have hnb8 := NB175_176.out
     have hnc8 := NB176_175.out
     have hcz9_0 : wr.cell? ⟨gb175, 0, none⟩ = some (.int .u64 x176000_1) := (blk_cell BK175.out 0).trans rfl
     have hcz9_1 : wr.cell? ⟨gb175, 1, none⟩ = some (.int .u64 x176001_1) := (blk_cell BK175.out 1).trans rfl
     have hfz9_0 := blk_frozen BK175.out 0
     have hfz9_1 := blk_frozen BK175.out 1
     go_wp2_with (first | ((with_reducible refine gate_callee (f := 38) rfl ?_); refine goesL_ (some 16) rfl rfl Try.func38 (by kernel_rfl) rfl #[.agg #[.int .u64 x176000_1, .int .u64 x176001_1]] rfl (by (try simp only [List.map_toArray, List.map_cons, List.map_nil]); first | done | rfl | (simp only [List.length_drop, List.length_take]; rfl)) ?_; (with_reducible refine (overfallref01_Twice.calls k1 x176000_1 x176001_1 t177 t178 _ A7.out).mono ?_); rintro e w10 ⟨rfl, hb⟩; refine ⟨_, rfl, ?_⟩; have n0_ := Aside0.mk (blk_below (by exact BK175.out) hb); have n1_ := Aside0.mk (blk_below (by exact BK176.out) hb); have n2_ := Aside0.mk (below_step (by repeat (first | (with_reducible first | exact HB.out | apply below_alloc | apply pw_below_drewN | apply below_drew1 | refine below_set ?_ GE175.out | refine below_set ?_ GE176.out) | exact HB.out)) hb); clear BK175; clear BK176; clear HB; have BK175 := n0_; have BK176 := n1_; have HB := n2_; clear n0_ n1_ n2_; (try clear hb); (try clear hb2); (try clear hk); (try clear hi); have hcz11_0 : w10.cell? ⟨gb175, 0, none⟩ = some (.int .u64 x176000_1) := (blk_cell BK175.out 0).trans rfl; have hcz11_1 : w10.cell? ⟨gb175, 1, none⟩ = some (.int .u64 x176001_1) := (blk_cell BK175.out 1).trans rfl; have hfz11_0 := blk_frozen BK175.out 0; have hfz11_1 := blk_frozen BK175.out 1))
     go_roundg k1
     case measure => have := HK1.out; omega
     case rel => exact ⟨(wrap64 (x5_1 + 1)), (t177), (t178), (by first | rfl | (simp; done) | (simp [*]; done)), H', ⟨by have := HK1.out; omega⟩, ⟨by refine blk_put (cs := #[.int .u64 t177, .int .u64 x176001_1]) ?_ 1 _ rfl; refine blk_put (cs := #[.int .u64 x176000_1, .int .u64 x176001_1]) ?_ 0 _ rfl; exact BK175.out⟩, ⟨by refine blk_far ?_ NB176_175.out _; refine blk_far ?_ NB176_175.out _; exact BK176.out⟩, ⟨by repeat (first | (with_reducible first | exact HB.out | apply below_alloc | apply pw_below_drewN | apply below_drew1 | refine below_set ?_ GE175.out | refine below_set ?_ GE176.out) | exact HB.out)⟩⟩
    ·rw [if_neg c6] at H
     have c6b0 : decide (x5_1 < 128) = false := decide_eq_false c6
     clear c6
     simp only [Option.some.injEq, Prod.mk.injEq] at H
     obtain ⟨rfl, rfl⟩ := H
     have hnb12 := NB175_176.out
     have hnc12 := NB176_175.out
     have hcz13_0 : wr.cell? ⟨gb175, 0, none⟩ = some (.int .u64 x176000_1) := (blk_cell BK175.out 0).trans rfl
     have hcz13_1 : wr.cell? ⟨gb175, 1, none⟩ = some (.int .u64 x176001_1) := (blk_cell BK175.out 1).trans rfl
     have hfz13_0 := blk_frozen BK175.out 0
     have hfz13_1 := blk_frozen BK175.out 1
     have hcz14_0 : wr.cell? ⟨gb176, 0, none⟩ = some (.int .u64 0) := (blk_cell BK176.out 0).trans rfl
     have hcz14_1 : wr.cell? ⟨gb176, 1, none⟩ = some (.int .u64 0) := (blk_cell BK176.out 1).trans rfl
     have hfz14_0 := blk_frozen BK176.out 0
     have hfz14_1 := blk_frozen BK176.out 1
     go_wp2
     refine bodyPost_ret (results_cell_row rfl _ _ gb176 29 #[.int .u64 x176000_1, .int .u64 x176001_1] (0, 0) _ rfl (by refine blk_put (cs := #[.int .u64 x176000_1, .int .u64 0]) ?_ 1 _ rfl; refine blk_put (cs := #[.int .u64 0, .int .u64 0]) ?_ 0 _ rfl; exact BK176.out) Try.underlying29 rfl (by kernel_rfl)) rfl ?_
     exact ⟨by first | rfl | (simp [errW_none, errW_some] <;> rfl) | (simp [*, errW_none, errW_some] <;> rfl), by repeat (first | (with_reducible first | exact HB.out | apply below_alloc | apply pw_below_drewN | apply below_drew1 | refine below_set ?_ GE175.out | refine below_set ?_ GE176.out) | exact HB.out)⟩
   ·rw [if_neg c5] at H
    have c5b0 : decide (x5_1 < a1) = false := decide_eq_false c5
    clear c5
    simp only [Option.some.injEq, Prod.mk.injEq] at H
    obtain ⟨rfl, rfl⟩ := H
    have hnb15 := NB175_176.out
    have hnc15 := NB176_175.out
    have hcz16_0 : wr.cell? ⟨gb175, 0, none⟩ = some (.int .u64 x176000_1) := (blk_cell BK175.out 0).trans rfl
    have hcz16_1 : wr.cell? ⟨gb175, 1, none⟩ = some (.int .u64 x176001_1) := (blk_cell BK175.out 1).trans rfl
    have hfz16_0 := blk_frozen BK175.out 0
    have hfz16_1 := blk_frozen BK175.out 1
    have hcz17_0 : wr.cell? ⟨gb176, 0, none⟩ = some (.int .u64 0) := (blk_cell BK176.out 0).trans rfl
    have hcz17_1 : wr.cell? ⟨gb176, 1, none⟩ = some (.int .u64 0) := (blk_cell BK176.out 1).trans rfl
    have hfz17_0 := blk_frozen BK176.out 0
    have hfz17_1 := blk_frozen BK176.out 1
    go_wp2
    refine bodyPost_ret (results_cell_row rfl _ _ gb176 29 #[.int .u64 x176000_1, .int .u64 x176001_1] (0, 0) _ rfl (by refine blk_put (cs := #[.int .u64 x176000_1, .int .u64 0]) ?_ 1 _ rfl; refine blk_put (cs := #[.int .u64 0, .int .u64 0]) ?_ 0 _ rfl; exact BK176.out) Try.underlying29 rfl (by kernel_rfl)) rfl ?_
    exact ⟨by first | rfl | (simp [errW_none, errW_some] <;> rfl) | (simp [*, errW_none, errW_some] <;> rfl), by repeat (first | (with_reducible first | exact HB.out | apply below_alloc | apply pw_below_drewN | apply below_drew1 | refine below_set ?_ GE175.out | refine below_set ?_ GE176.out) | exact HB.out)⟩

end Go.Proofs.Ytdgbehbiigggmaa.Y

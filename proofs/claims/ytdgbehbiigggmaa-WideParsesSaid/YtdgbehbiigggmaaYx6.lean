-- Laid by a program of this claim's session (wip/tools/myprint.py) over the kit's printer.
import Derived.Test.YtdgbehbiigggmaaYx0
import Derived.Test.YtdgbehbiigggmaaYx5
namespace Go.Proofs.Ytdgbehbiigggmaa.Y
open Go.RowKit Go.Proofs.YtdgbehbiigggmaaW.PrintWords Go.Proofs.YtdgbehbiigggmaaW.PrintLast Go.Proofs.YtdgbehbiigggmaaW.PrintMore
attribute [local go_sem] max2_int min2_int max_two min_two max_three min_three max_four min_four   -- for this text's walks alone
set_option linter.unusedVariables false
set_option linter.unusedSimpArgs false

/-! ### wide_Parse: function 28 -/
mutual
def wide_Parse.j0 : Nat → ByteArray → Bool → Option (Int × Int × Int)
 | 0, _, _ => none
 | k + 1, x0, x19 => if x19 = true then (some (0, 0, 9)) else (wide_Parse.l0 k x0 false (x0.size : Int) 0 0 0)
def wide_Parse.l0 : Nat → ByteArray → Bool → Int → Int → Int → Int → Option (Int × Int × Int)
 | 0, _, _, _, _, _, _ => none
 | k + 1, x0, x5, x22, x23, x141000, x141001 => if x23 < x22 then (if 0 ≤ x23 then (if x23 < (x0.size : Int) then (if (bt x0 x23) < 48 then (some (0, 0, 9)) else (if (bt x0 x23) > 57 then (some (0, 0, 9)) else ((wide_Num_times.f x141000 x141001 (((bt x0 x23) - 48) % 256)).bind fun bt141 => (if x5 = true then (wide_Parse.l0 k x0 true x22 (wrap64 (x23 + 1)) bt141.1 bt141.2.1) else (wide_Parse.l0 k x0 bt141.2.2 x22 (wrap64 (x23 + 1)) bt141.1 bt141.2.1))))) else (none)) else (none)) else (if x5 = true then (some (0, 0, 8)) else (some (x141000, x141001, 0)))
end
def wide_Parse.f (k : Nat) (a0 : ByteArray) : Option (Int × Int × Int) := if a0.toList = ([] : List UInt8) then (wide_Parse.j0 k a0 true) else (if (a0.size : Int) > 1 then (if 0 < (a0.size : Int) then (wide_Parse.j0 k a0 ((bt a0 0) == 48)) else (none)) else (wide_Parse.j0 k a0 false))
theorem wide_Parse.mono_l : ∀ k, (∀ y0 y1, LeO (wide_Parse.j0 k y0 y1) (wide_Parse.j0 (k + 1) y0 y1)) ∧ (∀ y0 y1 y2 y3 y4 y5, LeO (wide_Parse.l0 k y0 y1 y2 y3 y4 y5) (wide_Parse.l0 (k + 1) y0 y1 y2 y3 y4 y5))
 | 0 => ⟨fun _ _ r h => by simp [wide_Parse.j0] at h, fun _ _ _ _ _ _ r h => by simp [wide_Parse.l0] at h⟩
 | k + 1 => by
  obtain ⟨ih0, ih1⟩ := wide_Parse.mono_l k
  refine ⟨?_, ?_⟩
  ·intro y0 y1
   unfold wide_Parse.j0
   repeat' first
   | (with_reducible exact ih0 _ _)
   | (with_reducible exact ih1 _ _ _ _ _ _)
   | (with_reducible exact LeO.refl _)
   | (with_reducible exact LeO.none _)
   | (with_reducible refine LeO.ite ?_ ?_)
   | (with_reducible refine LeO.bind ?_ (fun _ => ?_))
   | exact ih0 _ _
   | exact ih1 _ _ _ _ _ _
   | exact LeO.none _
   | refine LeO.ite ?_ ?_
   | refine LeO.bind ?_ (fun _ => ?_)
  ·intro y0 y1 y2 y3 y4 y5
   unfold wide_Parse.l0
   repeat' first
   | (with_reducible exact ih0 _ _)
   | (with_reducible exact ih1 _ _ _ _ _ _)
   | (with_reducible exact LeO.refl _)
   | (with_reducible exact LeO.none _)
   | (with_reducible refine LeO.ite ?_ ?_)
   | (with_reducible refine LeO.bind ?_ (fun _ => ?_))
   | exact ih0 _ _
   | exact ih1 _ _ _ _ _ _
   | exact LeO.none _
   | refine LeO.ite ?_ ?_
   | refine LeO.bind ?_ (fun _ => ?_)
theorem wide_Parse.mono : ∀ a0 k, LeO (wide_Parse.f k a0) (wide_Parse.f (k + 1) a0) := by
 intro a0 k
 obtain ⟨ih0, ih1⟩ := wide_Parse.mono_l k
 unfold wide_Parse.f
 repeat' first
   | (with_reducible exact ih0 _ _)
   | (with_reducible exact ih1 _ _ _ _ _ _)
   | (with_reducible exact LeO.refl _)
   | (with_reducible exact LeO.none _)
   | (with_reducible refine LeO.ite ?_ ?_)
   | (with_reducible refine LeO.bind ?_ (fun _ => ?_))
   | exact ih0 _ _
   | exact ih1 _ _ _ _ _ _
   | exact LeO.none _
   | refine LeO.ite ?_ ?_
   | refine LeO.bind ?_ (fun _ => ?_)
def wide_Parse.T11 : Bool × List (List Nat × List Nat) := (true, [([], []), ([], []), ([], []), ([1, 2], [1, 2]), ([3], [3]), ([0, 4], [0, 4]), ([5], [5]), ([6], [6]), ([6], [6]), ([7, 5, 0, 1, 2, 3, 4, 5, 6, 7], [7]), ([8, 9, 0, 1, 2, 3, 4, 5, 6, 7, 8, 9], [8])])
def wide_Parse.B11 : List Nat := [0, 0, 0, 6, 14, 31, 63, 127, 127, 255, 1023]
theorem wide_Parse.tab11 : rtab .any (opsOf Try.f28 11) = wide_Parse.T11 := by kernel_rfl
theorem wide_Parse.bits11 : waitsOk wide_Parse.T11.2 wide_Parse.B11 = true := by kernel_rfl
set_option maxHeartbeats 8000000 in
set_option maxRecDepth 100000 in
theorem wide_Parse.calls (k : Nat) (a0 : ByteArray) (r1 : Int) (r2 : Int) (r3 : Int) (w : World) (h : wide_Parse.f k a0 = some (r1, r2, r3)) :
  Calls Try.prog 28 #[.string a0] w fun e w' => e = .returned (.tuple #[.agg #[.int .u64 r1, .int .u64 r2], .int .i64 r3]) ∧ Below w.heap.size w w' := by
 have hu25 := Try.underlying25
 have HB := Aside0.mk (Below.refl w.heap.size w)
 have H : (if a0.toList = ([] : List UInt8) then (wide_Parse.j0 k a0 true) else (if (a0.size : Int) > 1 then (if 0 < (a0.size : Int) then (wide_Parse.j0 k a0 ((bt a0 0) == 48)) else (none)) else (wide_Parse.j0 k a0 false))) = some (r1, r2, r3) := h
 clear h
 have HC2 := Aside0.mk H
 clear H
 go_enter Try.func28, Try.ntmps28
 go_upto_region 1 with (first | ((with_reducible refine gate_dst (N := 2) rfl ?_); (try (refine gate_guard (by rfl) ?_; dsimp only)); refine box_event ?hg (N := 2) ?hd (cs := #[.int .u64 0, .int .u64 0]) (t := 25) ?hr ?_; (case hd => rfl); (case hg => rfl); (case hr => first | (go_simp; done) | (go_simp; rfl)); intro gb139 hg w3 hbox hb; have n0_ := Aside0.mk (below_step (by repeat (first | (with_reducible first | exact HB.out | apply below_alloc | apply pw_below_drewN | apply below_drew1) | exact HB.out)) hb); have n1_ := Aside0.mk (hbox); have n2_ := Aside0.mk ((by rw [hg]; exact (below_size (by repeat (first | (with_reducible first | exact HB.out | apply below_alloc | apply pw_below_drewN | apply below_drew1) | exact HB.out))) : w.heap.size ≤ gb139)); have n3_ := Aside0.mk ((by rw [hg]; exact (below_size (by repeat (first | (with_reducible first | exact HB.out | apply below_alloc | apply pw_below_drewN | apply below_drew1) | exact HB.out))) : w.heap.size ≤ gb139)); clear HB; have HB := n0_; have BK139 := n1_; have GW139 := n2_; have GE139 := n3_; clear n0_ n1_ n2_ n3_; clear hb hbox hg))
 (try simp only [Act.put, List.setIfInBounds_toArray, List.set_cons_zero, List.set_cons_succ])
 go_cut [19] (fun v19 wc => ∃ (kq : Nat) (x19_1 : Bool), v19 = .bool x19_1 ∧ Aside0 (wide_Parse.j0 kq a0 x19_1 = some (r1, r2, r3)) ∧ Aside0 (kq ≤ k) ∧ Aside0 (wc.heap[gb139]? = some (.cells #[.int .u64 0, .int .u64 0] 25 (0, 0))) ∧ Aside0 (Below w.heap.size w wc))
 case first =>
  have H := HC2.out
  clear HC2
  by_cases c4 : a0.toList = ([] : List UInt8)
  ·rw [if_pos c4] at H
   have c4b0 : (a0.toList == ([] : List UInt8)) = true := beq_iff_eq.mpr c4
   have c4b1 : (a0.toList != ([] : List UInt8)) = false := bne_eq_false_iff_eq.mpr c4
   clear c4
   (first | rw [c4b0] | (simp only [i64_w, i32_w]; rw [c4b0]) | skip)
   have H' := Aside0.mk H
   clear H
   go_wp2
   go_meet
   case rel => exact ⟨_, (true), (by first | rfl | (simp; done) | (simp [*]; done)), H', ⟨by first | omega | exact Nat.le_refl _⟩, ⟨by exact BK139.out⟩, ⟨by repeat (first | (with_reducible first | exact HB.out | apply below_alloc | apply pw_below_drewN | apply below_drew1 | refine below_set ?_ GE139.out) | exact HB.out)⟩⟩
  ·rw [if_neg c4] at H
   have c4b0 : (a0.toList == ([] : List UInt8)) = false := beq_eq_false_iff_ne.mpr c4
   have c4b1 : (a0.toList != ([] : List UInt8)) = true := bne_iff_ne.mpr c4
   (first | rw [c4b0] | (simp only [i64_w, i32_w]; rw [c4b0]) | skip)
   by_cases c5 : (a0.size : Int) > 1
   ·rw [if_pos c5] at H
    have c5b0 : decide (1 < (a0.size : Int)) = true := decide_eq_true c5
    have c5b1 : decide (1 < a0.size) = true := decide_eq_true (by omega)
    clear c5
    by_cases c6 : 0 < (a0.size : Int)
    ·rw [if_pos c6] at H
     have c6b0 : decide (0 < (a0.size : Int)) = true := decide_eq_true c6
     have c6b1 : decide (0 < a0.size) = true := decide_eq_true (by omega)
     clear c6
     have H' := Aside0.mk H
     clear H
     have p7 : 0 ≤ (0 : Int) := (by omega)
     have q7 : 0 < a0.size := (by have : (0 : Int) < (a0.size : Int) := of_decide_eq_true (by first | (with_reducible assumption) | assumption); omega)
     have hx7 : ∀ h : 0 < a0.size, ((a0[0]'h).toNat : Int) = bt a0 0 := bt_at a0 0
     clear p7
     have qi7 : (0 < (a0.size : Int)) = True := eq_true (of_decide_eq_true (by first | (with_reducible assumption) | assumption))
     replace q7 := eq_true q7
     go_wp2
     go_meet
     case rel => exact ⟨_, (((bt a0 0) == 48)), (by first | rfl | (simp; done) | (simp [*]; done)), H', ⟨by first | omega | exact Nat.le_refl _⟩, ⟨by exact BK139.out⟩, ⟨by repeat (first | (with_reducible first | exact HB.out | apply below_alloc | apply pw_below_drewN | apply below_drew1 | refine below_set ?_ GE139.out) | exact HB.out)⟩⟩
    ·rw [if_neg c6] at H
     exact absurd H (by simp)
   ·rw [if_neg c5] at H
    have c5b0 : decide (1 < (a0.size : Int)) = false := decide_eq_false c5
    have c5b1 : decide (1 < a0.size) = false := decide_eq_false (by omega)
    clear c5
    have H' := Aside0.mk H
    clear H
    go_wp2
    go_meet
    case rel => exact ⟨_, (false), (by first | rfl | (simp; done) | (simp [*]; done)), H', ⟨by first | omega | exact Nat.le_refl _⟩, ⟨by exact BK139.out⟩, ⟨by repeat (first | (with_reducible first | exact HB.out | apply below_alloc | apply pw_below_drewN | apply below_drew1 | refine below_set ?_ GE139.out) | exact HB.out)⟩⟩
 case rest =>
  clear HC2
  try clear c2
  try clear p2
  try clear c4
  try clear c4b0
  try clear c4b1
  try clear c5
  try clear c5b0
  try clear c5b1
  try clear c6
  try clear c6b0
  try clear c6b1
  try clear p7
  try clear q7
  try clear hx7
  try clear qi7
  try clear p7
  try clear q7
  (try clear BK139); (try clear HB)
  obtain ⟨kq, x19_1, rfl, HA, HJ1, BK139, HB⟩ := hcut
  cases kq with
  | zero => exact absurd HA.out (by simp [wide_Parse.j0])
  | succ kj1 =>
   have H := HA.out
   clear HA
   simp only [wide_Parse.j0] at H
   by_cases c8 : x19_1 = true
   ·subst c8
    have H1 : (some (0, 0, 9)) = some (r1, r2, r3) := by rw [if_pos rfl] at H; exact H
    clear H
    have H := H1
    clear H1
    simp only [Option.some.injEq, Prod.mk.injEq] at H
    obtain ⟨rfl, rfl, rfl⟩ := H
    have hcz9_0 : wc.cell? ⟨gb139, 0, none⟩ = some (.int .u64 0) := (blk_cell BK139.out 0).trans rfl
    have hcz9_1 : wc.cell? ⟨gb139, 1, none⟩ = some (.int .u64 0) := (blk_cell BK139.out 1).trans rfl
    have hfz9_0 := blk_frozen BK139.out 0
    have hfz9_1 := blk_frozen BK139.out 1
    go_wp2
    refine bodyPost_ret (results_ct rfl _ _ gb139 25 #[.int .u64 0, .int .u64 0] (0, 0) _ rfl (by refine blk_put (cs := #[.int .u64 0, .int .u64 0]) ?_ 1 _ rfl; refine blk_put (cs := #[.int .u64 0, .int .u64 0]) ?_ 0 _ rfl; exact BK139.out) Try.underlying25 rfl (by kernel_rfl)) rfl ?_
    exact ⟨by first | rfl | (simp [errW_none, errW_some] <;> rfl) | (simp [*, errW_none, errW_some] <;> rfl), by repeat (first | (with_reducible first | exact HB.out | apply below_alloc | apply pw_below_drewN | apply below_drew1 | refine below_set ?_ GE139.out) | exact HB.out)⟩
   ·replace c8 := Bool.eq_false_iff.mpr c8
    subst c8
    have H1 : (wide_Parse.l0 kj1 a0 false (a0.size : Int) 0 0 0) = some (r1, r2, r3) := by rw [if_neg (show ¬ (false = true) by decide)] at H; exact H
    clear H
    have H := H1
    clear H1
    have H' := Aside0.mk H
    clear H
    go_wp2_with (first | ((with_reducible refine gate_dst (N := 4) rfl ?_); (try (refine gate_guard (by rfl) ?_; dsimp only)); refine box_event ?hg (N := 4) ?hd (cs := #[.int .u64 0, .int .u64 0]) (t := 25) ?hr ?_; (case hd => rfl); (case hg => rfl); (case hr => first | (go_simp; done) | (go_simp; rfl)); intro gb140 hg w10 hbox hb; have n0_ := Aside0.mk (blk_below (by exact BK139.out) hb); have n1_ := Aside0.mk (below_step (by repeat (first | (with_reducible first | exact HB.out | apply below_alloc | apply pw_below_drewN | apply below_drew1 | refine below_set ?_ GE139.out) | exact HB.out)) hb); have n2_ := Aside0.mk (hbox); have n3_ := Aside0.mk ((by rw [hg]; exact (below_size (by repeat (first | (with_reducible first | exact HB.out | apply below_alloc | apply pw_below_drewN | apply below_drew1 | refine below_set ?_ GE139.out) | exact HB.out))) : w.heap.size ≤ gb140)); have n4_ := Aside0.mk ((by rw [hg]; exact (below_size (by repeat (first | (with_reducible first | exact HB.out | apply below_alloc | apply pw_below_drewN | apply below_drew1 | refine below_set ?_ GE139.out) | exact HB.out))) : w.heap.size ≤ gb140)); have n5_ := Aside0.mk ((by rw [hg]; exact Nat.ne_of_lt (blk_lt (by exact BK139.out)) : gb139 ≠ gb140)); have n6_ := Aside0.mk ((by rw [hg]; exact Nat.ne_of_gt (blk_lt (by exact BK139.out)) : gb140 ≠ gb139)); clear BK139; clear HB; have BK139 := n0_; have HB := n1_; have BK140 := n2_; have GW140 := n3_; have GE140 := n4_; have NB139_140 := n5_; have NB140_139 := n6_; clear n0_ n1_ n2_ n3_ n4_ n5_ n6_; clear hb hbox hg))
    go_loopg [5, 23] kj1 (fun kq v5 v23 w' => ∃ (x5_2 : Bool) (x23_2 : Int) (x140000_2 : Int) (x140001_2 : Int) (x141000_2 : Int) (x141001_2 : Int), v5 = .bool x5_2 ∧ v23 = .int .i64 x23_2 ∧ Aside0 (wide_Parse.l0 kq a0 x5_2 (a0.size : Int) x23_2 x141000_2 x141001_2 = some (r1, r2, r3)) ∧ Aside0 (kq ≤ kj1) ∧ Aside0 (w'.heap[gb139]? = some (.cells #[.int .u64 x140000_2, .int .u64 x140001_2] 25 (0, 0))) ∧ Aside0 (w'.heap[gb140]? = some (.cells #[.int .u64 x141000_2, .int .u64 x141001_2] 25 (0, 0))) ∧ Aside0 (Below w.heap.size w w'))
    case atStart => exact ⟨(false), (0), (0), (0), (0), (0), (by first | rfl | (simp; done) | (simp [*]; done)), (by first | rfl | (simp; done) | (simp [*]; done)), H', ⟨Nat.le_refl _⟩, ⟨by exact BK139.out⟩, ⟨by exact BK140.out⟩, ⟨by repeat (first | (with_reducible first | exact HB.out | apply below_alloc | apply pw_below_drewN | apply below_drew1 | refine below_set ?_ GE139.out | refine below_set ?_ GE140.out) | exact HB.out)⟩⟩
    case round =>
     clear H'
     try clear c2
     try clear p2
     try clear c4
     try clear c4b0
     try clear c4b1
     try clear c5
     try clear c5b0
     try clear c5b1
     try clear c6
     try clear c6b0
     try clear c6b1
     try clear p7
     try clear q7
     try clear hx7
     try clear qi7
     try clear c8
     try clear hcz9_0
     try clear hcz9_1
     try clear hfz9_0
     try clear hfz9_1
     try clear p2
     try clear p7
     try clear q7
     obtain ⟨x5_2, x23_2, x140000_2, x140001_2, x141000_2, x141001_2, rfl, rfl, HA, HK2, BK139, BK140, HB⟩ := hrel
     cases gk with
     | zero => exact absurd HA.out (by simp [wide_Parse.l0])
     | succ k2 =>
      have H := HA.out
      clear HA
      simp only [wide_Parse.l0] at H
      by_cases c11 : x23_2 < (a0.size : Int)
      ·rw [if_pos c11] at H
       have c11b0 : decide (x23_2 < (a0.size : Int)) = true := decide_eq_true c11
       clear c11
       by_cases c12 : 0 ≤ x23_2
       ·rw [if_pos c12] at H
        have c12b0 : decide (0 ≤ x23_2) = true := decide_eq_true c12
        clear c12
        by_cases c13 : x23_2 < (a0.size : Int)
        ·rw [if_pos c13] at H
         have c13b0 : decide (x23_2 < (a0.size : Int)) = true := decide_eq_true c13
         clear c13
         by_cases c15 : (bt a0 x23_2) < 48
         ·rw [if_pos c15] at H
          have c15b0 : decide ((bt a0 x23_2) < 48) = true := decide_eq_true c15
          clear c15
          simp only [Option.some.injEq, Prod.mk.injEq] at H
          obtain ⟨rfl, rfl, rfl⟩ := H
          have p14 : 0 ≤ (x23_2 : Int) := of_decide_eq_true (by first | (with_reducible assumption) | assumption)
          have q14 : x23_2 < (a0.size : Int) := of_decide_eq_true (by first | (with_reducible assumption) | assumption)
          have hx14 := bt_at a0 x23_2
          replace p14 := eq_true p14
          replace q14 := eq_true q14
          have hnb16 := NB139_140.out
          have hnc16 := NB140_139.out
          have hcz17_0 : wr.cell? ⟨gb139, 0, none⟩ = some (.int .u64 x140000_2) := (blk_cell BK139.out 0).trans rfl
          have hcz17_1 : wr.cell? ⟨gb139, 1, none⟩ = some (.int .u64 x140001_2) := (blk_cell BK139.out 1).trans rfl
          have hfz17_0 := blk_frozen BK139.out 0
          have hfz17_1 := blk_frozen BK139.out 1
          go_wp2
          refine bodyPost_ret (results_ct rfl _ _ gb139 25 #[.int .u64 0, .int .u64 0] (0, 0) _ rfl (by refine blk_put (cs := #[.int .u64 0, .int .u64 x140001_2]) ?_ 1 _ rfl; refine blk_put (cs := #[.int .u64 x140000_2, .int .u64 x140001_2]) ?_ 0 _ rfl; exact BK139.out) Try.underlying25 rfl (by kernel_rfl)) rfl ?_
          exact ⟨by first | rfl | (simp [errW_none, errW_some] <;> rfl) | (simp [*, errW_none, errW_some] <;> rfl), by repeat (first | (with_reducible first | exact HB.out | apply below_alloc | apply pw_below_drewN | apply below_drew1 | refine below_set ?_ GE139.out | refine below_set ?_ GE140.out) | exact HB.out)⟩
         ·rw [if_neg c15] at H
          have c15b0 : decide ((bt a0 x23_2) < 48) = false := decide_eq_false c15
          clear c15
          by_cases c19 : (bt a0 x23_2) > 57
          ·rw [if_pos c19] at H
           have c19b0 : decide (57 < (bt a0 x23_2)) = true := decide_eq_true c19
           clear c19
           simp only [Option.some.injEq, Prod.mk.injEq] at H
           obtain ⟨rfl, rfl, rfl⟩ := H
           have p14 : 0 ≤ (x23_2 : Int) := of_decide_eq_true (by first | (with_reducible assumption) | assumption)
           have q14 : x23_2 < (a0.size : Int) := of_decide_eq_true (by first | (with_reducible assumption) | assumption)
           have hx14 := bt_at a0 x23_2
           replace p14 := eq_true p14
           replace q14 := eq_true q14
           have p18 : 0 ≤ (x23_2 : Int) := of_decide_eq_true (by first | (with_reducible assumption) | assumption)
           have q18 : x23_2 < (a0.size : Int) := of_decide_eq_true (by first | (with_reducible assumption) | assumption)
           have hx18 := bt_at a0 x23_2
           replace p18 := eq_true p18
           replace q18 := eq_true q18
           have hnb20 := NB139_140.out
           have hnc20 := NB140_139.out
           have hcz21_0 : wr.cell? ⟨gb139, 0, none⟩ = some (.int .u64 x140000_2) := (blk_cell BK139.out 0).trans rfl
           have hcz21_1 : wr.cell? ⟨gb139, 1, none⟩ = some (.int .u64 x140001_2) := (blk_cell BK139.out 1).trans rfl
           have hfz21_0 := blk_frozen BK139.out 0
           have hfz21_1 := blk_frozen BK139.out 1
           go_wp2
           refine bodyPost_ret (results_ct rfl _ _ gb139 25 #[.int .u64 0, .int .u64 0] (0, 0) _ rfl (by refine blk_put (cs := #[.int .u64 0, .int .u64 x140001_2]) ?_ 1 _ rfl; refine blk_put (cs := #[.int .u64 x140000_2, .int .u64 x140001_2]) ?_ 0 _ rfl; exact BK139.out) Try.underlying25 rfl (by kernel_rfl)) rfl ?_
           exact ⟨by first | rfl | (simp [errW_none, errW_some] <;> rfl) | (simp [*, errW_none, errW_some] <;> rfl), by repeat (first | (with_reducible first | exact HB.out | apply below_alloc | apply pw_below_drewN | apply below_drew1 | refine below_set ?_ GE139.out | refine below_set ?_ GE140.out) | exact HB.out)⟩
          ·rw [if_neg c19] at H
           have c19b0 : decide (57 < (bt a0 x23_2)) = false := decide_eq_false c19
           clear c19
           replace H := Option.bind_eq_some_iff.mp H
           obtain ⟨⟨t141, t142, t143⟩, A230, H⟩ := H
           replace H : (if x5_2 = true then (wide_Parse.l0 k2 a0 true (a0.size : Int) (wrap64 (x23_2 + 1)) t141 t142) else (wide_Parse.l0 k2 a0 t143 (a0.size : Int) (wrap64 (x23_2 + 1)) t141 t142)) = some (r1, r2, r3) := H
           have A23 := Aside0.mk A230
           clear A230
           by_cases c24 : x5_2 = true
           ·subst c24
            have H1 : (wide_Parse.l0 k2 a0 true (a0.size : Int) (wrap64 (x23_2 + 1)) t141 t142) = some (r1, r2, r3) := by rw [if_pos rfl] at H; exact H
            clear H
            have H := H1
            clear H1
            have H' := Aside0.mk H
            clear H
            have p14 : 0 ≤ (x23_2 : Int) := of_decide_eq_true (by first | (with_reducible assumption) | assumption)
            have q14 : x23_2 < (a0.size : Int) := of_decide_eq_true (by first | (with_reducible assumption) | assumption)
            have hx14 := bt_at a0 x23_2
            replace p14 := eq_true p14
            replace q14 := eq_true q14
            have p18 : 0 ≤ (x23_2 : Int) := of_decide_eq_true (by first | (with_reducible assumption) | assumption)
            have q18 : x23_2 < (a0.size : Int) := of_decide_eq_true (by first | (with_reducible assumption) | assumption)
            have hx18 := bt_at a0 x23_2
            replace p18 := eq_true p18
            replace q18 := eq_true q18
            try go_wp2
            have n0_ := Aside0.mk (blk_drew BK139.out)
            have n1_ := Aside0.mk (blk_drew BK140.out)
            have n2_ := Aside0.mk (below_drew1 HB.out)
            clear BK139
            clear BK140
            clear HB
            have BK139 := n0_
            have BK140 := n1_
            have HB := n2_
            clear n0_ n1_ n2_
            have p22 : 0 ≤ (x23_2 : Int) := of_decide_eq_true (by first | (with_reducible assumption) | assumption)
            have q22 : x23_2 < (a0.size : Int) := of_decide_eq_true (by first | (with_reducible assumption) | assumption)
            have hx22 := bt_at a0 x23_2
            replace p22 := eq_true p22
            replace q22 := eq_true q22
            refine start_ (n := 11) (S := fun w' => w'.cell? ⟨gb140, 0, none⟩ = some (.int .u64 x141000_2) ∧ w'.cell? ⟨gb140, 1, none⟩ = some (.int .u64 x141001_2)) (ds := [9]) #[false, false, false, false, false, false, false, false, false, false, false] (by kernel_rfl) rfl rfl ⟨(blk_cell BK140.out 0).trans rfl, (blk_cell BK140.out 1).trans rfl⟩ (fun hHeld => ?_); refine with_tabW wide_Parse.tab11 wide_Parse.bits11 (fun HT_ HW_ => ?_)
            generalize wr.drew = w25 at BK139 BK140 HB hHeld ⊢
            refine pure_ (i := 1) (N := some 39) (v := ?_) (a' := ?_) #[false, true, false, false, false, false, false, false, false, false, false] rfl rfl (any_of HT_.out (by kernel_rfl)) (fun _ _ _ h => h) (Or.inl ⟨by rfl, ?_⟩) ?_ ?_
            rotate_left
            ·intro w'
             go_simp
             with_reducible rfl
            rotate_left
            ·simp only [Act.put, List.setIfInBounds_toArray, List.set_cons_zero, List.set_cons_succ, i64_w, i32_w]
             rfl
            refine pure_ (i := 2) (N := some 40) (v := ?_) (a' := ?_) #[false, true, true, false, false, false, false, false, false, false, false] rfl rfl (any_of HT_.out (by kernel_rfl)) (fun _ _ _ h => h) (Or.inl ⟨by rfl, ?_⟩) ?_ ?_
            rotate_left
            ·intro w'
             go_simp
             with_reducible rfl
            rotate_left
            ·simp only [Act.put, List.setIfInBounds_toArray, List.set_cons_zero, List.set_cons_succ, i64_w, i32_w]
             rfl
            refine take_ (i := 0) (N := some 38) (v := ?_) (a' := ?_) #[true, true, true, false, false, false, false, false, false, false, false] rfl rfl (take_ofW HT_.out HW_.out (by kernel_rfl)) (fun _ _ _ h => h) (Or.inl ⟨by rfl, ?_⟩) hHeld ?_ ?_
            rotate_left
            ·rintro w' ⟨s0, s1⟩
             go_simp
             with_reducible rfl
            rotate_left
            ·simp only [Act.put, List.setIfInBounds_toArray, List.set_cons_zero, List.set_cons_succ, i64_w, i32_w]
             rfl
            refine take_ (i := 3) (N := some 41) (v := ?_) (a' := ?_) #[true, true, true, true, false, false, false, false, false, false, false] rfl rfl (take_ofW HT_.out HW_.out (by kernel_rfl)) (fun _ _ _ h => h) (Or.inl ⟨by rfl, ?_⟩) hHeld ?_ ?_
            rotate_left
            ·rintro w' ⟨s0, s1⟩
             go_simp
             with_reducible rfl
            rotate_left
            ·simp only [Act.put, List.setIfInBounds_toArray, List.set_cons_zero, List.set_cons_succ, i64_w, i32_w]
             rfl
            refine pure_ (i := 4) (N := some 42) (v := ?_) (a' := ?_) #[true, true, true, true, true, false, false, false, false, false, false] rfl rfl (any_of HT_.out (by kernel_rfl)) (fun _ _ _ h => h) (Or.inl ⟨by rfl, ?_⟩) ?_ ?_
            rotate_left
            ·intro w'
             go_simp
             with_reducible rfl
            rotate_left
            ·simp only [Act.put, List.setIfInBounds_toArray, List.set_cons_zero, List.set_cons_succ, i64_w, i32_w]
             rfl
            refine one_ (i := 5) (N := some 43) #[true, true, true, true, true, true, false, false, false, false, false] rfl rfl (one_of HT_.out (by kernel_rfl)) (by decide) (fun K hK => ?_)
            refine goes_ Try.func46 (by kernel_rfl) rfl #[.agg #[.int .u64 x141000_2, .int .u64 x141001_2], .int .u8 (((bt a0 x23_2) - 48) % 256)] (by rfl) rfl rfl (by (try simp only [List.map_toArray, List.map_cons, List.map_nil]); first | done | rfl | (simp only [List.length_drop, List.length_take]; rfl)) ?_
            with_reducible refine (wide_Num_times.calls x141000_2 x141001_2 (((bt a0 x23_2) - 48) % 256) t141 t142 t143 _ A23.out).mono ?_
            rintro e w26 ⟨rfl, hb⟩
            refine ⟨_, rfl, ?_⟩
            have n0_ := Aside0.mk (blk_below (by exact BK139.out) hb)
            have n1_ := Aside0.mk (blk_below (by exact BK140.out) hb)
            have n2_ := Aside0.mk (below_step (by repeat (first | (with_reducible first | exact HB.out | apply below_alloc | apply pw_below_drewN | apply below_drew1 | refine below_set ?_ GE139.out | refine below_set ?_ GE140.out) | exact HB.out)) hb)
            clear BK139
            clear BK140
            clear HB
            have BK139 := n0_
            have BK140 := n1_
            have HB := n2_
            clear n0_ n1_ n2_
            (try clear hb)
            (try clear hb2)
            (try clear hk)
            (try clear hi)
            refine hK.out _ _ ⟨(blk_cell BK140.out 0).trans rfl, (blk_cell BK140.out 1).trans rfl⟩ (fun hHeld => ?_)
            clear hK K
            refine norm_ (a' := ?_) ?_ ?_
            rotate_left
            ·show Act.put _ (some 43) _ = _
             simp only [Act.put, List.setIfInBounds_toArray, List.set_cons_zero, List.set_cons_succ, i64_w, i32_w]
             rfl
            refine pure_ (i := 6) (N := some 37) (v := ?_) (a' := ?_) #[true, true, true, true, true, true, true, false, false, false, false] rfl rfl (any_of HT_.out (by kernel_rfl)) (fun _ _ _ h => h) (Or.inl ⟨by rfl, ?_⟩) ?_ ?_
            rotate_left
            ·intro w'
             go_simp
             with_reducible rfl
            rotate_left
            ·simp only [Act.put, List.setIfInBounds_toArray, List.set_cons_zero, List.set_cons_succ, i64_w, i32_w]
             rfl
            refine pure_ (i := 7) (N := some 44) (v := ?_) (a' := ?_) #[true, true, true, true, true, true, true, true, false, false, false] rfl rfl (any_of HT_.out (by kernel_rfl)) (fun _ _ _ h => h) (Or.inl ⟨by rfl, ?_⟩) ?_ ?_
            rotate_left
            ·intro w'
             go_simp
             with_reducible rfl
            rotate_left
            ·simp only [Act.put, List.setIfInBounds_toArray, List.set_cons_zero, List.set_cons_succ, i64_w, i32_w]
             rfl
            refine pure_ (i := 8) (N := some 45) (v := ?_) (a' := ?_) #[true, true, true, true, true, true, true, true, true, false, false] rfl rfl (any_of HT_.out (by kernel_rfl)) (fun _ _ _ h => h) (Or.inl ⟨by rfl, ?_⟩) ?_ ?_
            rotate_left
            ·intro w'
             go_simp
             with_reducible rfl
            rotate_left
            ·simp only [Act.put, List.setIfInBounds_toArray, List.set_cons_zero, List.set_cons_succ, i64_w, i32_w]
             rfl
            refine last_ (i := 9) (N := none) #[true, true, true, true, true, true, true, true, true, true, false] rfl rfl (one_of HT_.out (by kernel_rfl)) (by decide) (fun K hK => ?_)
            have hs27 : w26.cell? ⟨gb140, 0, none⟩ = some (.int .u64 x141000_2) := (blk_cell BK140.out 0).trans rfl
            have hfs27 := blk_frozen BK140.out 0
            have hns27_0 := NB139_140.out
            have hms27_0 := NB140_139.out
            have hs28 : w26.cell? ⟨gb140, 1, none⟩ = some (.int .u64 x141001_2) := (blk_cell BK140.out 1).trans rfl
            have hfs28 := blk_frozen BK140.out 1
            have hns28_0 := NB139_140.out
            have hms28_0 := NB140_139.out
            refine skip_ (w1 := ?_) (by rfl) rfl ?_ ?_
            rotate_left
            ·go_simp
             rfl
            refine hK.out _ _ ?_
            clear hK K
            refine pure_ (i := 10) (N := some 7) (v := ?_) (a' := ?_) #[true, true, true, true, true, true, true, true, true, true, true] rfl rfl (any_of HT_.out (by kernel_rfl)) (fun _ _ _ h => h) (Or.inl ⟨by rfl, ?_⟩) ?_ ?_
            rotate_left
            ·intro w'
             go_simp
             with_reducible rfl
            rotate_left
            ·simp only [Act.put, List.setIfInBounds_toArray, List.set_cons_zero, List.set_cons_succ, i64_w, i32_w]
             rfl
            refine done_ (done_of HT_.out (by kernel_rfl)) ?_
            try go_wp2
            go_roundg k2
            case measure => have := HJ1.out; have := HK2.out; omega
            case rel => exact ⟨(true), (wrap64 (x23_2 + 1)), (x140000_2), (x140001_2), (t141), (t142), (by first | rfl | (simp; done) | (simp [*]; done)), (by first | rfl | (simp; done) | (simp [*]; done)), H', ⟨by have := HJ1.out; have := HK2.out; omega⟩, ⟨by refine blk_far ?_ NB139_140.out _; refine blk_far ?_ NB139_140.out _; exact BK139.out⟩, ⟨by refine blk_put (cs := #[.int .u64 t141, .int .u64 x141001_2]) ?_ 1 _ rfl; refine blk_put (cs := #[.int .u64 x141000_2, .int .u64 x141001_2]) ?_ 0 _ rfl; exact BK140.out⟩, ⟨by repeat (first | (with_reducible first | exact HB.out | apply below_alloc | apply pw_below_drewN | apply below_drew1 | refine below_set ?_ GE139.out | refine below_set ?_ GE140.out) | exact HB.out)⟩⟩
           ·replace c24 := Bool.eq_false_iff.mpr c24
            subst c24
            have H1 : (wide_Parse.l0 k2 a0 t143 (a0.size : Int) (wrap64 (x23_2 + 1)) t141 t142) = some (r1, r2, r3) := by rw [if_neg (show ¬ (false = true) by decide)] at H; exact H
            clear H
            have H := H1
            clear H1
            have H' := Aside0.mk H
            clear H
            have p14 : 0 ≤ (x23_2 : Int) := of_decide_eq_true (by first | (with_reducible assumption) | assumption)
            have q14 : x23_2 < (a0.size : Int) := of_decide_eq_true (by first | (with_reducible assumption) | assumption)
            have hx14 := bt_at a0 x23_2
            replace p14 := eq_true p14
            replace q14 := eq_true q14
            have p18 : 0 ≤ (x23_2 : Int) := of_decide_eq_true (by first | (with_reducible assumption) | assumption)
            have q18 : x23_2 < (a0.size : Int) := of_decide_eq_true (by first | (with_reducible assumption) | assumption)
            have hx18 := bt_at a0 x23_2
            replace p18 := eq_true p18
            replace q18 := eq_true q18
            try go_wp2
            have n0_ := Aside0.mk (blk_drew BK139.out)
            have n1_ := Aside0.mk (blk_drew BK140.out)
            have n2_ := Aside0.mk (below_drew1 HB.out)
            clear BK139
            clear BK140
            clear HB
            have BK139 := n0_
            have BK140 := n1_
            have HB := n2_
            clear n0_ n1_ n2_
            have p22 : 0 ≤ (x23_2 : Int) := of_decide_eq_true (by first | (with_reducible assumption) | assumption)
            have q22 : x23_2 < (a0.size : Int) := of_decide_eq_true (by first | (with_reducible assumption) | assumption)
            have hx22 := bt_at a0 x23_2
            replace p22 := eq_true p22
            replace q22 := eq_true q22
            refine start_ (n := 11) (S := fun w' => w'.cell? ⟨gb140, 0, none⟩ = some (.int .u64 x141000_2) ∧ w'.cell? ⟨gb140, 1, none⟩ = some (.int .u64 x141001_2)) (ds := [9]) #[false, false, false, false, false, false, false, false, false, false, false] (by kernel_rfl) rfl rfl ⟨(blk_cell BK140.out 0).trans rfl, (blk_cell BK140.out 1).trans rfl⟩ (fun hHeld => ?_); refine with_tabW wide_Parse.tab11 wide_Parse.bits11 (fun HT_ HW_ => ?_)
            generalize wr.drew = w29 at BK139 BK140 HB hHeld ⊢
            refine pure_ (i := 1) (N := some 39) (v := ?_) (a' := ?_) #[false, true, false, false, false, false, false, false, false, false, false] rfl rfl (any_of HT_.out (by kernel_rfl)) (fun _ _ _ h => h) (Or.inl ⟨by rfl, ?_⟩) ?_ ?_
            rotate_left
            ·intro w'
             go_simp
             with_reducible rfl
            rotate_left
            ·simp only [Act.put, List.setIfInBounds_toArray, List.set_cons_zero, List.set_cons_succ, i64_w, i32_w]
             rfl
            refine pure_ (i := 2) (N := some 40) (v := ?_) (a' := ?_) #[false, true, true, false, false, false, false, false, false, false, false] rfl rfl (any_of HT_.out (by kernel_rfl)) (fun _ _ _ h => h) (Or.inl ⟨by rfl, ?_⟩) ?_ ?_
            rotate_left
            ·intro w'
             go_simp
             with_reducible rfl
            rotate_left
            ·simp only [Act.put, List.setIfInBounds_toArray, List.set_cons_zero, List.set_cons_succ, i64_w, i32_w]
             rfl
            refine take_ (i := 0) (N := some 38) (v := ?_) (a' := ?_) #[true, true, true, false, false, false, false, false, false, false, false] rfl rfl (take_ofW HT_.out HW_.out (by kernel_rfl)) (fun _ _ _ h => h) (Or.inl ⟨by rfl, ?_⟩) hHeld ?_ ?_
            rotate_left
            ·rintro w' ⟨s0, s1⟩
             go_simp
             with_reducible rfl
            rotate_left
            ·simp only [Act.put, List.setIfInBounds_toArray, List.set_cons_zero, List.set_cons_succ, i64_w, i32_w]
             rfl
            refine take_ (i := 3) (N := some 41) (v := ?_) (a' := ?_) #[true, true, true, true, false, false, false, false, false, false, false] rfl rfl (take_ofW HT_.out HW_.out (by kernel_rfl)) (fun _ _ _ h => h) (Or.inl ⟨by rfl, ?_⟩) hHeld ?_ ?_
            rotate_left
            ·rintro w' ⟨s0, s1⟩
             go_simp
             with_reducible rfl
            rotate_left
            ·simp only [Act.put, List.setIfInBounds_toArray, List.set_cons_zero, List.set_cons_succ, i64_w, i32_w]
             rfl
            refine pure_ (i := 4) (N := some 42) (v := ?_) (a' := ?_) #[true, true, true, true, true, false, false, false, false, false, false] rfl rfl (any_of HT_.out (by kernel_rfl)) (fun _ _ _ h => h) (Or.inl ⟨by rfl, ?_⟩) ?_ ?_
            rotate_left
            ·intro w'
             go_simp
             with_reducible rfl
            rotate_left
            ·simp only [Act.put, List.setIfInBounds_toArray, List.set_cons_zero, List.set_cons_succ, i64_w, i32_w]
             rfl
            refine one_ (i := 5) (N := some 43) #[true, true, true, true, true, true, false, false, false, false, false] rfl rfl (one_of HT_.out (by kernel_rfl)) (by decide) (fun K hK => ?_)
            refine goes_ Try.func46 (by kernel_rfl) rfl #[.agg #[.int .u64 x141000_2, .int .u64 x141001_2], .int .u8 (((bt a0 x23_2) - 48) % 256)] (by rfl) rfl rfl (by (try simp only [List.map_toArray, List.map_cons, List.map_nil]); first | done | rfl | (simp only [List.length_drop, List.length_take]; rfl)) ?_
            with_reducible refine (wide_Num_times.calls x141000_2 x141001_2 (((bt a0 x23_2) - 48) % 256) t141 t142 t143 _ A23.out).mono ?_
            rintro e w30 ⟨rfl, hb⟩
            refine ⟨_, rfl, ?_⟩
            have n0_ := Aside0.mk (blk_below (by exact BK139.out) hb)
            have n1_ := Aside0.mk (blk_below (by exact BK140.out) hb)
            have n2_ := Aside0.mk (below_step (by repeat (first | (with_reducible first | exact HB.out | apply below_alloc | apply pw_below_drewN | apply below_drew1 | refine below_set ?_ GE139.out | refine below_set ?_ GE140.out) | exact HB.out)) hb)
            clear BK139
            clear BK140
            clear HB
            have BK139 := n0_
            have BK140 := n1_
            have HB := n2_
            clear n0_ n1_ n2_
            (try clear hb)
            (try clear hb2)
            (try clear hk)
            (try clear hi)
            refine hK.out _ _ ⟨(blk_cell BK140.out 0).trans rfl, (blk_cell BK140.out 1).trans rfl⟩ (fun hHeld => ?_)
            clear hK K
            refine norm_ (a' := ?_) ?_ ?_
            rotate_left
            ·show Act.put _ (some 43) _ = _
             simp only [Act.put, List.setIfInBounds_toArray, List.set_cons_zero, List.set_cons_succ, i64_w, i32_w]
             rfl
            refine pure_ (i := 6) (N := some 37) (v := ?_) (a' := ?_) #[true, true, true, true, true, true, true, false, false, false, false] rfl rfl (any_of HT_.out (by kernel_rfl)) (fun _ _ _ h => h) (Or.inl ⟨by rfl, ?_⟩) ?_ ?_
            rotate_left
            ·intro w'
             go_simp
             with_reducible rfl
            rotate_left
            ·simp only [Act.put, List.setIfInBounds_toArray, List.set_cons_zero, List.set_cons_succ, i64_w, i32_w]
             rfl
            refine pure_ (i := 7) (N := some 44) (v := ?_) (a' := ?_) #[true, true, true, true, true, true, true, true, false, false, false] rfl rfl (any_of HT_.out (by kernel_rfl)) (fun _ _ _ h => h) (Or.inl ⟨by rfl, ?_⟩) ?_ ?_
            rotate_left
            ·intro w'
             go_simp
             with_reducible rfl
            rotate_left
            ·simp only [Act.put, List.setIfInBounds_toArray, List.set_cons_zero, List.set_cons_succ, i64_w, i32_w]
             rfl
            refine pure_ (i := 8) (N := some 45) (v := ?_) (a' := ?_) #[true, true, true, true, true, true, true, true, true, false, false] rfl rfl (any_of HT_.out (by kernel_rfl)) (fun _ _ _ h => h) (Or.inl ⟨by rfl, ?_⟩) ?_ ?_
            rotate_left
            ·intro w'
             go_simp
             with_reducible rfl
            rotate_left
            ·simp only [Act.put, List.setIfInBounds_toArray, List.set_cons_zero, List.set_cons_succ, i64_w, i32_w]
             rfl
            refine last_ (i := 9) (N := none) #[true, true, true, true, true, true, true, true, true, true, false] rfl rfl (one_of HT_.out (by kernel_rfl)) (by decide) (fun K hK => ?_)
            have hs31 : w30.cell? ⟨gb140, 0, none⟩ = some (.int .u64 x141000_2) := (blk_cell BK140.out 0).trans rfl
            have hfs31 := blk_frozen BK140.out 0
            have hns31_0 := NB139_140.out
            have hms31_0 := NB140_139.out
            have hs32 : w30.cell? ⟨gb140, 1, none⟩ = some (.int .u64 x141001_2) := (blk_cell BK140.out 1).trans rfl
            have hfs32 := blk_frozen BK140.out 1
            have hns32_0 := NB139_140.out
            have hms32_0 := NB140_139.out
            refine skip_ (w1 := ?_) (by rfl) rfl ?_ ?_
            rotate_left
            ·go_simp
             rfl
            refine hK.out _ _ ?_
            clear hK K
            refine pure_ (i := 10) (N := some 7) (v := ?_) (a' := ?_) #[true, true, true, true, true, true, true, true, true, true, true] rfl rfl (any_of HT_.out (by kernel_rfl)) (fun _ _ _ h => h) (Or.inl ⟨by rfl, ?_⟩) ?_ ?_
            rotate_left
            ·intro w'
             go_simp
             with_reducible rfl
            rotate_left
            ·simp only [Act.put, List.setIfInBounds_toArray, List.set_cons_zero, List.set_cons_succ, i64_w, i32_w]
             rfl
            refine done_ (done_of HT_.out (by kernel_rfl)) ?_
            try go_wp2
            go_roundg k2
            case measure => have := HJ1.out; have := HK2.out; omega
            case rel => exact ⟨(t143), (wrap64 (x23_2 + 1)), (x140000_2), (x140001_2), (t141), (t142), (by first | rfl | (simp; done) | (simp [*]; done)), (by first | rfl | (simp; done) | (simp [*]; done)), H', ⟨by have := HJ1.out; have := HK2.out; omega⟩, ⟨by refine blk_far ?_ NB139_140.out _; refine blk_far ?_ NB139_140.out _; exact BK139.out⟩, ⟨by refine blk_put (cs := #[.int .u64 t141, .int .u64 x141001_2]) ?_ 1 _ rfl; refine blk_put (cs := #[.int .u64 x141000_2, .int .u64 x141001_2]) ?_ 0 _ rfl; exact BK140.out⟩, ⟨by repeat (first | (with_reducible first | exact HB.out | apply below_alloc | apply pw_below_drewN | apply below_drew1 | refine below_set ?_ GE139.out | refine below_set ?_ GE140.out) | exact HB.out)⟩⟩
        ·rw [if_neg c13] at H
         exact absurd H (by simp)
       ·rw [if_neg c12] at H
        exact absurd H (by simp)
      ·rw [if_neg c11] at H
       have c11b0 : decide (x23_2 < (a0.size : Int)) = false := decide_eq_false c11
       clear c11
       by_cases c33 : x5_2 = true
       ·subst c33
        have H1 : (some (0, 0, 8)) = some (r1, r2, r3) := by rw [if_pos rfl] at H; exact H
        clear H
        have H := H1
        clear H1
        simp only [Option.some.injEq, Prod.mk.injEq] at H
        obtain ⟨rfl, rfl, rfl⟩ := H
        have hnb34 := NB139_140.out
        have hnc34 := NB140_139.out
        have hcz35_0 : wr.cell? ⟨gb139, 0, none⟩ = some (.int .u64 x140000_2) := (blk_cell BK139.out 0).trans rfl
        have hcz35_1 : wr.cell? ⟨gb139, 1, none⟩ = some (.int .u64 x140001_2) := (blk_cell BK139.out 1).trans rfl
        have hfz35_0 := blk_frozen BK139.out 0
        have hfz35_1 := blk_frozen BK139.out 1
        go_wp2
        refine bodyPost_ret (results_ct rfl _ _ gb139 25 #[.int .u64 0, .int .u64 0] (0, 0) _ rfl (by refine blk_put (cs := #[.int .u64 0, .int .u64 x140001_2]) ?_ 1 _ rfl; refine blk_put (cs := #[.int .u64 x140000_2, .int .u64 x140001_2]) ?_ 0 _ rfl; exact BK139.out) Try.underlying25 rfl (by kernel_rfl)) rfl ?_
        exact ⟨by first | rfl | (simp [errW_none, errW_some] <;> rfl) | (simp [*, errW_none, errW_some] <;> rfl), by repeat (first | (with_reducible first | exact HB.out | apply below_alloc | apply pw_below_drewN | apply below_drew1 | refine below_set ?_ GE139.out | refine below_set ?_ GE140.out) | exact HB.out)⟩
       ·replace c33 := Bool.eq_false_iff.mpr c33
        subst c33
        have H1 : (some (x141000_2, x141001_2, 0)) = some (r1, r2, r3) := by rw [if_neg (show ¬ (false = true) by decide)] at H; exact H
        clear H
        have H := H1
        clear H1
        simp only [Option.some.injEq, Prod.mk.injEq] at H
        obtain ⟨rfl, rfl, rfl⟩ := H
        have hnb36 := NB140_139.out
        have hnc36 := NB139_140.out
        have hcz37_0 : wr.cell? ⟨gb140, 0, none⟩ = some (.int .u64 x141000_2) := (blk_cell BK140.out 0).trans rfl
        have hcz37_1 : wr.cell? ⟨gb140, 1, none⟩ = some (.int .u64 x141001_2) := (blk_cell BK140.out 1).trans rfl
        have hfz37_0 := blk_frozen BK140.out 0
        have hfz37_1 := blk_frozen BK140.out 1
        have hcz38_0 : wr.cell? ⟨gb139, 0, none⟩ = some (.int .u64 x140000_2) := (blk_cell BK139.out 0).trans rfl
        have hcz38_1 : wr.cell? ⟨gb139, 1, none⟩ = some (.int .u64 x140001_2) := (blk_cell BK139.out 1).trans rfl
        have hfz38_0 := blk_frozen BK139.out 0
        have hfz38_1 := blk_frozen BK139.out 1
        go_wp2
        refine bodyPost_ret (results_ct rfl _ _ gb139 25 #[.int .u64 x141000_2, .int .u64 x141001_2] (0, 0) _ rfl (by refine blk_put (cs := #[.int .u64 x141000_2, .int .u64 x140001_2]) ?_ 1 _ rfl; refine blk_put (cs := #[.int .u64 x140000_2, .int .u64 x140001_2]) ?_ 0 _ rfl; exact BK139.out) Try.underlying25 rfl (by kernel_rfl)) rfl ?_
        exact ⟨by first | rfl | (simp [errW_none, errW_some] <;> rfl) | (simp [*, errW_none, errW_some] <;> rfl), by repeat (first | (with_reducible first | exact HB.out | apply below_alloc | apply pw_below_drewN | apply below_drew1 | refine below_set ?_ GE139.out | refine below_set ?_ GE140.out) | exact HB.out)⟩

/-! ### overfallref01_Digits: function 36 -/
mutual
def overfallref01_Digits.l0 : Nat → List Int → Int → Int → Int → Option (List Int)
 | 0, _, _, _, _ => none
 | k + 1, x3, x4, x145000, x145001 => if x4 < 4 then (if 0 ≤ (wrap64 (16 * x4)) then (if x3.length < 17592186044416 then (overfallref01_Digits.l0 k (x3 ++ [wrap64 (Int.tmod (shr .u64 x145001 (wrap64 (16 * x4))) 65536)]) (wrap64 (x4 + 1)) x145000 x145001) else (none)) else (none)) else (overfallref01_Digits.l1 k x3 0 x145000 x145001)
def overfallref01_Digits.l1 : Nat → List Int → Int → Int → Int → Option (List Int)
 | 0, _, _, _, _ => none
 | k + 1, x3, x5, x145000, x145001 => if x5 < 4 then (if 0 ≤ (wrap64 (16 * x5)) then (if x3.length < 17592186044416 then (overfallref01_Digits.l1 k (x3 ++ [wrap64 (Int.tmod (shr .u64 x145000 (wrap64 (16 * x5))) 65536)]) (wrap64 (x5 + 1)) x145000 x145001) else (none)) else (none)) else (some x3)
end
def overfallref01_Digits.f (k : Nat) (a0_0 : Int) (a0_1 : Int) : Option (List Int) := overfallref01_Digits.l0 k ([] : List Int) 0 a0_0 a0_1
theorem overfallref01_Digits.mono_l : ∀ k, (∀ y0 y1 y2 y3, LeO (overfallref01_Digits.l0 k y0 y1 y2 y3) (overfallref01_Digits.l0 (k + 1) y0 y1 y2 y3)) ∧ (∀ y0 y1 y2 y3, LeO (overfallref01_Digits.l1 k y0 y1 y2 y3) (overfallref01_Digits.l1 (k + 1) y0 y1 y2 y3))
 | 0 => ⟨fun _ _ _ _ r h => by simp [overfallref01_Digits.l0] at h, fun _ _ _ _ r h => by simp [overfallref01_Digits.l1] at h⟩
 | k + 1 => by
  obtain ⟨ih0, ih1⟩ := overfallref01_Digits.mono_l k
  refine ⟨?_, ?_⟩
  ·intro y0 y1 y2 y3
   unfold overfallref01_Digits.l0
   repeat' first
   | (with_reducible exact ih0 _ _ _ _)
   | (with_reducible exact ih1 _ _ _ _)
   | (with_reducible exact LeO.refl _)
   | (with_reducible exact LeO.none _)
   | (with_reducible refine LeO.ite ?_ ?_)
   | (with_reducible refine LeO.bind ?_ (fun _ => ?_))
   | exact ih0 _ _ _ _
   | exact ih1 _ _ _ _
   | exact LeO.none _
   | refine LeO.ite ?_ ?_
   | refine LeO.bind ?_ (fun _ => ?_)
  ·intro y0 y1 y2 y3
   unfold overfallref01_Digits.l1
   repeat' first
   | (with_reducible exact ih0 _ _ _ _)
   | (with_reducible exact ih1 _ _ _ _)
   | (with_reducible exact LeO.refl _)
   | (with_reducible exact LeO.none _)
   | (with_reducible refine LeO.ite ?_ ?_)
   | (with_reducible refine LeO.bind ?_ (fun _ => ?_))
   | exact ih0 _ _ _ _
   | exact ih1 _ _ _ _
   | exact LeO.none _
   | refine LeO.ite ?_ ?_
   | refine LeO.bind ?_ (fun _ => ?_)
theorem overfallref01_Digits.mono : ∀ a0 a1 k, LeO (overfallref01_Digits.f k a0 a1) (overfallref01_Digits.f (k + 1) a0 a1) := by
 intro a0 a1 k
 obtain ⟨ih0, ih1⟩ := overfallref01_Digits.mono_l k
 unfold overfallref01_Digits.f
 repeat' first
   | (with_reducible exact ih0 _ _ _ _)
   | (with_reducible exact ih1 _ _ _ _)
   | (with_reducible exact LeO.refl _)
   | (with_reducible exact LeO.none _)
   | (with_reducible refine LeO.ite ?_ ?_)
   | (with_reducible refine LeO.bind ?_ (fun _ => ?_))
   | exact ih0 _ _ _ _
   | exact ih1 _ _ _ _
   | exact LeO.none _
   | refine LeO.ite ?_ ?_
   | refine LeO.bind ?_ (fun _ => ?_)
set_option maxHeartbeats 8000000 in
set_option maxRecDepth 100000 in
theorem overfallref01_Digits.calls (k : Nat) (a0_0 : Int) (a0_1 : Int) (r : List Int) (w : World) (h : overfallref01_Digits.f k a0_0 a0_1 = some r) :
  Calls Try.prog 36 #[.agg #[.int .u64 a0_0, .int .u64 a0_1]] w fun e w' => ∃ v0_ : Value, e = .returned (v0_) ∧ Kd.R (Kd.int .i64) 3 w' w.heap.size (fun _ => True) v0_ r ∧ Below w.heap.size w w' := by
 have hu29 := Try.underlying29
 have HB := Aside0.mk (Below.refl w.heap.size w)
 have H : (overfallref01_Digits.l0 k ([] : List Int) 0 a0_0 a0_1) = some r := h
 clear h
 have H' := Aside0.mk H
 clear H
 go_enter Try.func36, Try.ntmps36
 go_wp2_with (first | ((with_reducible refine gate_dst (N := 1) rfl ?_); refine box_event ?hg (N := 1) ?hd (cs := #[.int .u64 a0_0, .int .u64 a0_1]) (t := 29) ?hr ?_; (case hd => rfl); (case hg => rfl); (case hr => first | (go_simp; done) | (go_simp; rfl)); intro gb144 hg w2 hbox hb; have n0_ := Aside0.mk (below_step (by repeat (first | (with_reducible first | exact HB.out | apply below_alloc | apply pw_below_drewN | apply below_drew1) | exact HB.out)) hb); have n1_ := Aside0.mk (hbox); have n2_ := Aside0.mk ((by rw [hg]; exact (below_size (by repeat (first | (with_reducible first | exact HB.out | apply below_alloc | apply pw_below_drewN | apply below_drew1) | exact HB.out))) : w.heap.size ≤ gb144)); have n3_ := Aside0.mk ((by rw [hg]; exact (below_size (by repeat (first | (with_reducible first | exact HB.out | apply below_alloc | apply pw_below_drewN | apply below_drew1) | exact HB.out))) : w.heap.size ≤ gb144)); clear HB; have HB := n0_; have BK144 := n1_; have GW144 := n2_; have GE144 := n3_; clear n0_ n1_ n2_ n3_; clear hb hbox hg))
 go_loopg [3, 4] k (fun kq v3 v4 w' => ∃ (x3_1 : List Int) (x4_1 : Int), v4 = .int .i64 x4_1 ∧ Aside0 (overfallref01_Digits.l0 kq x3_1 x4_1 a0_0 a0_1 = some r) ∧ Aside0 (kq ≤ k) ∧ Aside0 (Kd.R (Kd.int .i64) 3 w' w.heap.size (fun _ => True) v3 x3_1) ∧ Aside0 (w'.heap[gb144]? = some (.cells #[.int .u64 a0_0, .int .u64 a0_1] 29 (0, 0))) ∧ Aside0 (Below w.heap.size w w'))
 case atStart => exact ⟨(([] : List Int)), (0), (by first | rfl | (simp; done) | (simp [*]; done)), H', ⟨Nat.le_refl _⟩, ⟨by first | exact Kd.R_nil _ _ _ _ _ | exact Kd.N_nil _ _ _ _ _ | exact Kd.V_nil _ _ _ _ _ | exact Kd.Q_nil _ _ _ _ _ | exact Kd.S_nil _ _ _ _ _⟩, ⟨by exact BK144.out⟩, ⟨by repeat (first | (with_reducible first | exact HB.out | apply below_alloc | apply pw_below_drewN | apply below_drew1 | refine below_set ?_ GE144.out) | exact HB.out)⟩⟩
 case round =>
  clear H'
  try clear p2
  obtain ⟨x3_1, x4_1, rfl, HA, HK1, HO_3, BK144, HB⟩ := hrel
  cases gk with
  | zero => exact absurd HA.out (by simp [overfallref01_Digits.l0])
  | succ k1 =>
   have H := HA.out
   clear HA
   simp only [overfallref01_Digits.l0] at H
   by_cases c3 : x4_1 < 4
   ·rw [if_pos c3] at H
    have c3b0 : decide (x4_1 < 4) = true := decide_eq_true c3
    clear c3
    obtain ⟨ji4, hji4⟩ : ∃ j_ : Int, (wrap64 (16 * x4_1)) = j_ := ⟨_, rfl⟩
    replace H : (if 0 ≤ (ji4) then (if x3_1.length < 17592186044416 then (overfallref01_Digits.l0 k1 (x3_1 ++ [wrap64 (Int.tmod (shr .u64 a0_1 (ji4)) 65536)]) (wrap64 (x4_1 + 1)) a0_0 a0_1) else (none)) else (none)) = some r := by first | (rw [hji4] at H; exact H) | (simp only [hji4] at H ⊢; exact H)
    have hji4w : (IntKind.i64.wrap (16 * x4_1)) = ji4 := (i64_w _).trans hji4
    by_cases c5 : 0 ≤ (ji4)
    ·rw [if_pos c5] at H
     have c5b0 := eq_true c5
     have c5b1 : decide (0 ≤ (ji4)) = true := decide_eq_true c5
     clear c5
     obtain ⟨ji6, hji6⟩ : ∃ j_ : Int, (shr .u64 a0_1 (ji4)) = j_ := ⟨_, rfl⟩
     replace H : (if x3_1.length < 17592186044416 then (overfallref01_Digits.l0 k1 (x3_1 ++ [wrap64 (Int.tmod (ji6) 65536)]) (wrap64 (x4_1 + 1)) a0_0 a0_1) else (none)) = some r := by first | (rw [hji6] at H; exact H) | (simp only [hji6] at H ⊢; exact H)
     have hji6_ : (a0_1 / 2 ^ min (ji4).toNat 64) = ji6 := hji6
     have hji6z : (ji4) ≤ 64 → (a0_1 / 2 ^ (ji4).toNat) = ji6 := shr_small hji6
     by_cases c7 : x3_1.length < 17592186044416
     ·rw [if_pos c7] at H
      have LMc7 := Aside0.mk c7
      clear c7
      obtain ⟨y145, hy145⟩ : ∃ y_ : List Int, y_ = (x3_1 ++ [wrap64 (Int.tmod (ji6) 65536)]) := ⟨_, rfl⟩
      replace H : (overfallref01_Digits.l0 k1 y145 (wrap64 (x4_1 + 1)) a0_0 a0_1) = some r := by first | (rw [hy145]; with_reducible exact H) | (have H2_ := (Option.bind_some _ _).symm.trans H; rw [hy145]; with_reducible exact H2_) | (have H2_ := (Option.bind_some _ _).symm.trans H; with_reducible exact H2_) | with_reducible exact H | (rw [hy145]; exact H) | exact H
      have Ny145 := Aside0.mk hy145
      clear hy145
      have H' := Aside0.mk H
      clear H
      have hcz8_0 : wr.cell? ⟨gb144, 0, none⟩ = some (.int .u64 a0_0) := (blk_cell BK144.out 0).trans rfl
      have hcz8_1 : wr.cell? ⟨gb144, 1, none⟩ = some (.int .u64 a0_1) := (blk_cell BK144.out 1).trans rfl
      have hfz8_0 := blk_frozen BK144.out 0
      have hfz8_1 := blk_frozen BK144.out 1
      go_wp2_with (first | ((with_reducible refine gate_builtin (b := .append) (xs := #[.tmp 10, .tmp 18]) rfl ?_); at_builtin; refine Kd.R_append (Kd.int .i64) (w0 := w) w.heap.size rfl (.tmp 10) (.tmp 18) 62 3 (.int .i64 0) 8 rfl Try.underlying62 info3 rfl (by decide) (by omega) u3 x3_1 (wrap64 (Int.tmod (ji6) 65536)) [.int .i64 (wrap64 (Int.tmod (ji6) 65536))] (fun _ => True) (fun _ => False) rfl rfl ?aP (fun _ hk => hk.elim) ?aF ?aO ?aB ?aS ?aL ?_; (case aP => exact rfl); (case aB => exact (by repeat (first | (with_reducible first | exact HB.out | apply below_alloc | apply pw_below_drewN | apply below_drew1 | refine below_set ?_ GE144.out) | exact HB.out))); (case aF => exact (fun _ _ => trivial)); (case aO => exact (by (with_reducible repeat (first | apply Kd.R_alloc | apply Kd.R_drewN | apply Kd.R_drew)); exact HO_3.out)); (case aS => exact (below_size (by repeat (first | (with_reducible first | exact HB.out | apply below_alloc | apply pw_below_drewN | apply below_drew1 | refine below_set ?_ GE144.out) | exact HB.out)))); (case aL => have := LMc7.out; omega); intro v146 w9 ho hb hg hat; rw [← Ny145.out] at ho; have n0_ := Aside0.mk (blk_grown (by exact BK144.out) hg (Kd.R_ne HO_3.out BK144.out (by decide))); have n1_ := Aside0.mk (hb); have n2_ := Aside0.mk (ho); clear BK144; clear HB; clear HO_3; have BK144 := n0_; have HB := n1_; have HO147 := n2_; clear n0_ n1_ n2_; clear ho hb hg hat))
      go_roundg k1
      case measure => have := HK1.out; omega
      case rel => exact ⟨(y145), (wrap64 (x4_1 + 1)), (by first | rfl | (simp; done) | (simp [*]; done)), H', ⟨by have := HK1.out; omega⟩, ⟨by (with_reducible repeat (first | apply Kd.R_alloc | apply Kd.R_drewN | apply Kd.R_drew)); exact HO147.out⟩, ⟨by exact BK144.out⟩, ⟨by repeat (first | (with_reducible first | exact HB.out | apply below_alloc | apply pw_below_drewN | apply below_drew1 | refine below_set ?_ GE144.out) | exact HB.out)⟩⟩
     ·rw [if_neg c7] at H
      exact absurd H (by simp)
    ·rw [if_neg c5] at H
     exact absurd H (by simp)
   ·rw [if_neg c3] at H
    have c3b0 : decide (x4_1 < 4) = false := decide_eq_false c3
    clear c3
    have H' := Aside0.mk H
    clear H
    go_wp2
    go_loopg [3, 5] k1 (fun kq v3 v5 w' => ∃ (x3_2 : List Int) (x5_2 : Int), v5 = .int .i64 x5_2 ∧ Aside0 (overfallref01_Digits.l1 kq x3_2 x5_2 a0_0 a0_1 = some r) ∧ Aside0 (kq ≤ k1) ∧ Aside0 (Kd.R (Kd.int .i64) 3 w' w.heap.size (fun _ => True) v3 x3_2) ∧ Aside0 (w'.heap[gb144]? = some (.cells #[.int .u64 a0_0, .int .u64 a0_1] 29 (0, 0))) ∧ Aside0 (Below w.heap.size w w'))
    case atStart => exact ⟨(x3_1), (0), (by first | rfl | (simp; done) | (simp [*]; done)), H', ⟨Nat.le_refl _⟩, ⟨by (with_reducible repeat (first | apply Kd.R_alloc | apply Kd.R_drewN | apply Kd.R_drew)); exact HO_3.out⟩, ⟨by exact BK144.out⟩, ⟨by repeat (first | (with_reducible first | exact HB.out | apply below_alloc | apply pw_below_drewN | apply below_drew1 | refine below_set ?_ GE144.out) | exact HB.out)⟩⟩
    case round =>
     clear H'
     try clear p2
     try clear c3
     try clear c3b0
     try clear c5
     try clear c5b0
     try clear c5b1
     try clear p6
     try clear c7
     try clear hcz8_0
     try clear hcz8_1
     try clear hfz8_0
     try clear hfz8_1
     try clear p2
     obtain ⟨x3_2, x5_2, rfl, HA, HK2, HO_3, BK144, HB⟩ := hrel
     cases gk with
     | zero => exact absurd HA.out (by simp [overfallref01_Digits.l1])
     | succ k2 =>
      have H := HA.out
      clear HA
      simp only [overfallref01_Digits.l1] at H
      by_cases c10 : x5_2 < 4
      ·rw [if_pos c10] at H
       have c10b0 : decide (x5_2 < 4) = true := decide_eq_true c10
       clear c10
       obtain ⟨ji11, hji11⟩ : ∃ j_ : Int, (wrap64 (16 * x5_2)) = j_ := ⟨_, rfl⟩
       replace H : (if 0 ≤ (ji11) then (if x3_2.length < 17592186044416 then (overfallref01_Digits.l1 k2 (x3_2 ++ [wrap64 (Int.tmod (shr .u64 a0_0 (ji11)) 65536)]) (wrap64 (x5_2 + 1)) a0_0 a0_1) else (none)) else (none)) = some r := by first | (rw [hji11] at H; exact H) | (simp only [hji11] at H ⊢; exact H)
       have hji11w : (IntKind.i64.wrap (16 * x5_2)) = ji11 := (i64_w _).trans hji11
       by_cases c12 : 0 ≤ (ji11)
       ·rw [if_pos c12] at H
        have c12b0 := eq_true c12
        have c12b1 : decide (0 ≤ (ji11)) = true := decide_eq_true c12
        clear c12
        obtain ⟨ji13, hji13⟩ : ∃ j_ : Int, (shr .u64 a0_0 (ji11)) = j_ := ⟨_, rfl⟩
        replace H : (if x3_2.length < 17592186044416 then (overfallref01_Digits.l1 k2 (x3_2 ++ [wrap64 (Int.tmod (ji13) 65536)]) (wrap64 (x5_2 + 1)) a0_0 a0_1) else (none)) = some r := by first | (rw [hji13] at H; exact H) | (simp only [hji13] at H ⊢; exact H)
        have hji13_ : (a0_0 / 2 ^ min (ji11).toNat 64) = ji13 := hji13
        have hji13z : (ji11) ≤ 64 → (a0_0 / 2 ^ (ji11).toNat) = ji13 := shr_small hji13
        by_cases c14 : x3_2.length < 17592186044416
        ·rw [if_pos c14] at H
         have LMc14 := Aside0.mk c14
         clear c14
         obtain ⟨y148, hy148⟩ : ∃ y_ : List Int, y_ = (x3_2 ++ [wrap64 (Int.tmod (ji13) 65536)]) := ⟨_, rfl⟩
         replace H : (overfallref01_Digits.l1 k2 y148 (wrap64 (x5_2 + 1)) a0_0 a0_1) = some r := by first | (rw [hy148]; with_reducible exact H) | (have H2_ := (Option.bind_some _ _).symm.trans H; rw [hy148]; with_reducible exact H2_) | (have H2_ := (Option.bind_some _ _).symm.trans H; with_reducible exact H2_) | with_reducible exact H | (rw [hy148]; exact H) | exact H
         have Ny148 := Aside0.mk hy148
         clear hy148
         have H' := Aside0.mk H
         clear H
         have hcz15_0 : wr.cell? ⟨gb144, 0, none⟩ = some (.int .u64 a0_0) := (blk_cell BK144.out 0).trans rfl
         have hcz15_1 : wr.cell? ⟨gb144, 1, none⟩ = some (.int .u64 a0_1) := (blk_cell BK144.out 1).trans rfl
         have hfz15_0 := blk_frozen BK144.out 0
         have hfz15_1 := blk_frozen BK144.out 1
         go_wp2_with (first | ((with_reducible refine gate_builtin (b := .append) (xs := #[.tmp 24, .tmp 32]) rfl ?_); at_builtin; refine Kd.R_append (Kd.int .i64) (w0 := w) w.heap.size rfl (.tmp 24) (.tmp 32) 62 3 (.int .i64 0) 8 rfl Try.underlying62 info3 rfl (by decide) (by omega) u3 x3_2 (wrap64 (Int.tmod (ji13) 65536)) [.int .i64 (wrap64 (Int.tmod (ji13) 65536))] (fun _ => True) (fun _ => False) rfl rfl ?aP (fun _ hk => hk.elim) ?aF ?aO ?aB ?aS ?aL ?_; (case aP => exact rfl); (case aB => exact (by repeat (first | (with_reducible first | exact HB.out | apply below_alloc | apply pw_below_drewN | apply below_drew1 | refine below_set ?_ GE144.out) | exact HB.out))); (case aF => exact (fun _ _ => trivial)); (case aO => exact (by (with_reducible repeat (first | apply Kd.R_alloc | apply Kd.R_drewN | apply Kd.R_drew)); exact HO_3.out)); (case aS => exact (below_size (by repeat (first | (with_reducible first | exact HB.out | apply below_alloc | apply pw_below_drewN | apply below_drew1 | refine below_set ?_ GE144.out) | exact HB.out)))); (case aL => have := LMc14.out; omega); intro v149 w16 ho hb hg hat; rw [← Ny148.out] at ho; have n0_ := Aside0.mk (blk_grown (by exact BK144.out) hg (Kd.R_ne HO_3.out BK144.out (by decide))); have n1_ := Aside0.mk (hb); have n2_ := Aside0.mk (ho); clear BK144; clear HB; clear HO_3; have BK144 := n0_; have HB := n1_; have HO150 := n2_; clear n0_ n1_ n2_; clear ho hb hg hat))
         go_roundg k2
         case measure => have := HK1.out; have := HK2.out; omega
         case rel => exact ⟨(y148), (wrap64 (x5_2 + 1)), (by first | rfl | (simp; done) | (simp [*]; done)), H', ⟨by have := HK1.out; have := HK2.out; omega⟩, ⟨by (with_reducible repeat (first | apply Kd.R_alloc | apply Kd.R_drewN | apply Kd.R_drew)); exact HO150.out⟩, ⟨by exact BK144.out⟩, ⟨by repeat (first | (with_reducible first | exact HB.out | apply below_alloc | apply pw_below_drewN | apply below_drew1 | refine below_set ?_ GE144.out) | exact HB.out)⟩⟩
        ·rw [if_neg c14] at H
         exact absurd H (by simp)
       ·rw [if_neg c12] at H
        exact absurd H (by simp)
      ·rw [if_neg c10] at H
       have c10b0 : decide (x5_2 < 4) = false := decide_eq_false c10
       clear c10
       obtain rfl := Option.some.inj H
       go_wp2
       go_ret
       exact ⟨_, by first | rfl | (simp [errW_none, errW_some] <;> rfl) | (simp [*, errW_none, errW_some] <;> rfl), by (with_reducible repeat (first | apply Kd.R_alloc | apply Kd.R_drewN | apply Kd.R_drew)); exact HO_3.out, by repeat (first | (with_reducible first | exact HB.out | apply below_alloc | apply pw_below_drewN | apply below_drew1 | refine below_set ?_ GE144.out) | exact HB.out)⟩

end Go.Proofs.Ytdgbehbiigggmaa.Y

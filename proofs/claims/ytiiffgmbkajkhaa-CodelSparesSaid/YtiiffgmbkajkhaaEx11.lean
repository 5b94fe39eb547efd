-- Laid by a program of this claim's session (wip/tools/myprint.py) over the kit's printer.
import Derived.Test.YtiiffgmbkajkhaaEx0
import Derived.Test.YtiiffgmbkajkhaaEx9
import Derived.Test.YtiiffgmbkajkhaaEx10
namespace Go.Proofs.Ytiiffgmbkajkhaa.E
open Go.RowKit Go.Proofs.YtiiffgmbkajkhaaW.PrintWords Go.Proofs.YtiiffgmbkajkhaaW.PrintLast Go.Proofs.YtiiffgmbkajkhaaW.PrintMore
attribute [local go_sem] max2_int min2_int max_two min_two max_three min_three max_four min_four   -- for this text's walks alone
set_option linter.unusedVariables false
set_option linter.unusedSimpArgs false

/-! ### overfallref03_Most: function 31 -/
def overfallref03_Most.l0 : Nat → Int → Int → Int → Int → Int → Option (Int)
 | 0, _, _, _, _, _ => none
 | k + 1, x0, x5, x6, x323000, x323001 => if x5 < x6 then ((overfallref03_Fits.f k (IntKind.u64.wrap ((IntKind.u64.wrap (x5 + (IntKind.u64.wrap (Int.tdiv (IntKind.u64.wrap (x6 - x5)) 2)))) + (Int.tmod (IntKind.u64.wrap (x6 - x5)) 2))) x0 x323000 x323001).bind fun t323 => (if t323 = true then (overfallref03_Most.l0 k x0 (IntKind.u64.wrap ((IntKind.u64.wrap (x5 + (IntKind.u64.wrap (Int.tdiv (IntKind.u64.wrap (x6 - x5)) 2)))) + (Int.tmod (IntKind.u64.wrap (x6 - x5)) 2))) x6 x323000 x323001) else (overfallref03_Most.l0 k x0 x5 (IntKind.u64.wrap ((IntKind.u64.wrap ((IntKind.u64.wrap (x5 + (IntKind.u64.wrap (Int.tdiv (IntKind.u64.wrap (x6 - x5)) 2)))) + (Int.tmod (IntKind.u64.wrap (x6 - x5)) 2))) - 1)) x323000 x323001))) else (some x5)
def overfallref03_Most.f (k : Nat) (a0 : Int) (a1_0 : Int) (a1_1 : Int) : Option (Int) := overfallref03_Most.l0 k a0 0 18446744073709551615 a1_0 a1_1
theorem overfallref03_Most.mono_l : ∀ k, (∀ y0 y1 y2 y3 y4, LeO (overfallref03_Most.l0 k y0 y1 y2 y3 y4) (overfallref03_Most.l0 (k + 1) y0 y1 y2 y3 y4))
 | 0 => fun _ _ _ _ _ r h => by simp [overfallref03_Most.l0] at h
 | k + 1 => by
  have ih0 := overfallref03_Most.mono_l k
  ·intro y0 y1 y2 y3 y4
   unfold overfallref03_Most.l0
   repeat' first
   | (with_reducible exact ih0 _ _ _ _ _)
   | (with_reducible exact overfallref03_Fits.mono _ _ _ _ _)
   | (with_reducible exact LeO.refl _)
   | (with_reducible exact LeO.none _)
   | (with_reducible refine LeO.ite ?_ ?_)
   | (with_reducible refine LeO.bind ?_ (fun _ => ?_))
   | exact ih0 _ _ _ _ _
   | exact overfallref03_Fits.mono _ _ _ _ _
   | exact LeO.none _
   | refine LeO.ite ?_ ?_
   | refine LeO.bind ?_ (fun _ => ?_)
theorem overfallref03_Most.mono : ∀ a0 a1 a2 k, LeO (overfallref03_Most.f k a0 a1 a2) (overfallref03_Most.f (k + 1) a0 a1 a2) := by
 intro a0 a1 a2 k
 have ih0 := overfallref03_Most.mono_l k
 unfold overfallref03_Most.f
 repeat' first
   | (with_reducible exact ih0 _ _ _ _ _)
   | (with_reducible exact overfallref03_Fits.mono _ _ _ _ _)
   | (with_reducible exact LeO.refl _)
   | (with_reducible exact LeO.none _)
   | (with_reducible refine LeO.ite ?_ ?_)
   | (with_reducible refine LeO.bind ?_ (fun _ => ?_))
   | exact ih0 _ _ _ _ _
   | exact overfallref03_Fits.mono _ _ _ _ _
   | exact LeO.none _
   | refine LeO.ite ?_ ?_
   | refine LeO.bind ?_ (fun _ => ?_)
set_option maxHeartbeats 8000000 in
set_option maxRecDepth 100000 in
theorem overfallref03_Most.calls (k : Nat) (a0 : Int) (a1_0 : Int) (a1_1 : Int) (r : Int) (w : World) (h : overfallref03_Most.f k a0 a1_0 a1_1 = some r) :
  Calls Try.prog 31 #[.int .u64 a0, .agg #[.int .u64 a1_0, .int .u64 a1_1]] w fun e w' => e = .returned (.int .u64 r) ∧ Below w.heap.size w w' := by
 have hu50 := Try.underlying50
 have HB := Aside0.mk (Below.refl w.heap.size w)
 have H : (overfallref03_Most.l0 k a0 0 18446744073709551615 a1_0 a1_1) = some r := h
 clear h
 have H' := Aside0.mk H
 clear H
 go_enter Try.func31, Try.ntmps31
 go_wp2_with (first | ((with_reducible refine gate_dst (N := 3) rfl ?_); refine box_event ?hg (N := 3) ?hd (cs := #[.int .u64 a1_0, .int .u64 a1_1]) (t := 50) ?hr ?_; (case hd => rfl); (case hg => rfl); (case hr => first | (go_simp; done) | (go_simp; rfl)); intro gb322 hg w3 hbox hb; have n0_ := Aside0.mk (below_step (by repeat (first | (with_reducible first | exact HB.out | apply below_alloc | apply pw_below_drewN | apply below_drew1) | exact HB.out)) hb); have n1_ := Aside0.mk (hbox); have n2_ := Aside0.mk ((by rw [hg]; exact (below_size (by repeat (first | (with_reducible first | exact HB.out | apply below_alloc | apply pw_below_drewN | apply below_drew1) | exact HB.out))) : w.heap.size ≤ gb322)); have n3_ := Aside0.mk ((by rw [hg]; exact (below_size (by repeat (first | (with_reducible first | exact HB.out | apply below_alloc | apply pw_below_drewN | apply below_drew1) | exact HB.out))) : w.heap.size ≤ gb322)); clear HB; have HB := n0_; have BK322 := n1_; have GW322 := n2_; have GE322 := n3_; clear n0_ n1_ n2_ n3_; clear hb hbox hg))
 go_loopg [5, 6] k (fun kq v5 v6 w' => ∃ (x5_1 : Int) (x6_1 : Int), v5 = .int .u64 x5_1 ∧ v6 = .int .u64 x6_1 ∧ Aside0 (overfallref03_Most.l0 kq a0 x5_1 x6_1 a1_0 a1_1 = some r) ∧ Aside0 (kq ≤ k) ∧ Aside0 (w'.heap[gb322]? = some (.cells #[.int .u64 a1_0, .int .u64 a1_1] 50 (0, 0))) ∧ Aside0 (Below w.heap.size w w'))
 case atStart => exact ⟨(0), (18446744073709551615), (by first | rfl | (simp; done) | (simp [*]; done)), (by first | rfl | (simp; done) | (simp [*]; done)), H', ⟨Nat.le_refl _⟩, ⟨by exact BK322.out⟩, ⟨by repeat (first | (with_reducible first | exact HB.out | apply below_alloc | apply pw_below_drewN | apply below_drew1 | refine below_set ?_ GE322.out) | exact HB.out)⟩⟩
 case round =>
  clear H'
  try clear p2
  try clear c3
  obtain ⟨x5_1, x6_1, rfl, rfl, HA, HK1, BK322, HB⟩ := hrel
  cases gk with
  | zero => exact absurd HA.out (by simp [overfallref03_Most.l0])
  | succ k1 =>
   have H := HA.out
   clear HA
   simp only [overfallref03_Most.l0] at H
   by_cases c4 : x5_1 < x6_1
   ·rw [if_pos c4] at H
    have c4b0 : decide (x5_1 < x6_1) = true := decide_eq_true c4
    clear c4
    replace H := Option.bind_eq_some_iff.mp H
    obtain ⟨t323, A50, H⟩ := H
    replace H : (if t323 = true then (overfallref03_Most.l0 k1 a0 (IntKind.u64.wrap ((IntKind.u64.wrap (x5_1 + (IntKind.u64.wrap (Int.tdiv (IntKind.u64.wrap (x6_1 - x5_1)) 2)))) + (Int.tmod (IntKind.u64.wrap (x6_1 - x5_1)) 2))) x6_1 a1_0 a1_1) else (overfallref03_Most.l0 k1 a0 x5_1 (IntKind.u64.wrap ((IntKind.u64.wrap ((IntKind.u64.wrap (x5_1 + (IntKind.u64.wrap (Int.tdiv (IntKind.u64.wrap (x6_1 - x5_1)) 2)))) + (Int.tmod (IntKind.u64.wrap (x6_1 - x5_1)) 2))) - 1)) a1_0 a1_1)) = some r := H
    have A5 := Aside0.mk A50
    clear A50
    by_cases c6 : t323 = true
    ·subst c6
     have H1 : (overfallref03_Most.l0 k1 a0 (IntKind.u64.wrap ((IntKind.u64.wrap (x5_1 + (IntKind.u64.wrap (Int.tdiv (IntKind.u64.wrap (x6_1 - x5_1)) 2)))) + (Int.tmod (IntKind.u64.wrap (x6_1 - x5_1)) 2))) x6_1 a1_0 a1_1) = some r := by rw [if_pos rfl] at H; exact H
     clear H
     have H := H1
     clear H1
     have H' := Aside0.mk H
     clear H
     have hcz7_0 : wr.cell? ⟨gb322, 0, none⟩ = some (.int .u64 a1_0) := (blk_cell BK322.out 0).trans rfl
     have hcz7_1 : wr.cell? ⟨gb322, 1, none⟩ = some (.int .u64 a1_1) := (blk_cell BK322.out 1).trans rfl
     have hfz7_0 := blk_frozen BK322.out 0
     have hfz7_1 := blk_frozen BK322.out 1
     go_wp2_with (first | ((with_reducible refine gate_callee (f := 39) rfl ?_); refine goesL_ (some 25) rfl rfl Try.func39 (by kernel_rfl) rfl #[.int .u64 (IntKind.u64.wrap ((IntKind.u64.wrap (x5_1 + (IntKind.u64.wrap (Int.tdiv (IntKind.u64.wrap (x6_1 - x5_1)) 2)))) + (Int.tmod (IntKind.u64.wrap (x6_1 - x5_1)) 2))), .int .u64 a0, .agg #[.int .u64 a1_0, .int .u64 a1_1]] rfl (by (try simp only [List.map_toArray, List.map_cons, List.map_nil]); first | done | rfl | (simp only [List.length_drop, List.length_take]; rfl)) ?_; (with_reducible refine (overfallref03_Fits.calls k1 (IntKind.u64.wrap ((IntKind.u64.wrap (x5_1 + (IntKind.u64.wrap (Int.tdiv (IntKind.u64.wrap (x6_1 - x5_1)) 2)))) + (Int.tmod (IntKind.u64.wrap (x6_1 - x5_1)) 2))) a0 a1_0 a1_1 true _ A5.out).mono ?_); rintro e w8 ⟨rfl, hb⟩; refine ⟨_, rfl, ?_⟩; have n0_ := Aside0.mk (blk_below (by exact BK322.out) hb); have n1_ := Aside0.mk (below_step (by repeat (first | (with_reducible first | exact HB.out | apply below_alloc | apply pw_below_drewN | apply below_drew1 | refine below_set ?_ GE322.out) | exact HB.out)) hb); clear BK322; clear HB; have BK322 := n0_; have HB := n1_; clear n0_ n1_; (try clear hb); (try clear hb2); (try clear hk); (try clear hi)))
     go_roundg k1
     case measure => have := HK1.out; omega
     case rel => exact ⟨(IntKind.u64.wrap ((IntKind.u64.wrap (x5_1 + (IntKind.u64.wrap (Int.tdiv (IntKind.u64.wrap (x6_1 - x5_1)) 2)))) + (Int.tmod (IntKind.u64.wrap (x6_1 - x5_1)) 2))), (x6_1), (by first | rfl | (simp; done) | (simp [*]; done)), (by first | rfl | (simp; done) | (simp [*]; done)), H', ⟨by have := HK1.out; omega⟩, ⟨by exact BK322.out⟩, ⟨by repeat (first | (with_reducible first | exact HB.out | apply below_alloc | apply pw_below_drewN | apply below_drew1 | refine below_set ?_ GE322.out) | exact HB.out)⟩⟩
    ·replace c6 := Bool.eq_false_iff.mpr c6
     subst c6
     have H1 : (overfallref03_Most.l0 k1 a0 x5_1 (IntKind.u64.wrap ((IntKind.u64.wrap ((IntKind.u64.wrap (x5_1 + (IntKind.u64.wrap (Int.tdiv (IntKind.u64.wrap (x6_1 - x5_1)) 2)))) + (Int.tmod (IntKind.u64.wrap (x6_1 - x5_1)) 2))) - 1)) a1_0 a1_1) = some r := by rw [if_neg (show ¬ (false = true) by decide)] at H; exact H
     clear H
     have H := H1
     clear H1
     have H' := Aside0.mk H
     clear H
     have hcz9_0 : wr.cell? ⟨gb322, 0, none⟩ = some (.int .u64 a1_0) := (blk_cell BK322.out 0).trans rfl
     have hcz9_1 : wr.cell? ⟨gb322, 1, none⟩ = some (.int .u64 a1_1) := (blk_cell BK322.out 1).trans rfl
     have hfz9_0 := blk_frozen BK322.out 0
     have hfz9_1 := blk_frozen BK322.out 1
     go_wp2_with (first | ((with_reducible refine gate_callee (f := 39) rfl ?_); refine goesL_ (some 25) rfl rfl Try.func39 (by kernel_rfl) rfl #[.int .u64 (IntKind.u64.wrap ((IntKind.u64.wrap (x5_1 + (IntKind.u64.wrap (Int.tdiv (IntKind.u64.wrap (x6_1 - x5_1)) 2)))) + (Int.tmod (IntKind.u64.wrap (x6_1 - x5_1)) 2))), .int .u64 a0, .agg #[.int .u64 a1_0, .int .u64 a1_1]] rfl (by (try simp only [List.map_toArray, List.map_cons, List.map_nil]); first | done | rfl | (simp only [List.length_drop, List.length_take]; rfl)) ?_; (with_reducible refine (overfallref03_Fits.calls k1 (IntKind.u64.wrap ((IntKind.u64.wrap (x5_1 + (IntKind.u64.wrap (Int.tdiv (IntKind.u64.wrap (x6_1 - x5_1)) 2)))) + (Int.tmod (IntKind.u64.wrap (x6_1 - x5_1)) 2))) a0 a1_0 a1_1 false _ A5.out).mono ?_); rintro e w10 ⟨rfl, hb⟩; refine ⟨_, rfl, ?_⟩; have n0_ := Aside0.mk (blk_below (by exact BK322.out) hb); have n1_ := Aside0.mk (below_step (by repeat (first | (with_reducible first | exact HB.out | apply below_alloc | apply pw_below_drewN | apply below_drew1 | refine below_set ?_ GE322.out) | exact HB.out)) hb); clear BK322; clear HB; have BK322 := n0_; have HB := n1_; clear n0_ n1_; (try clear hb); (try clear hb2); (try clear hk); (try clear hi)))
     go_roundg k1
     case measure => have := HK1.out; omega
     case rel => exact ⟨(x5_1), (IntKind.u64.wrap ((IntKind.u64.wrap ((IntKind.u64.wrap (x5_1 + (IntKind.u64.wrap (Int.tdiv (IntKind.u64.wrap (x6_1 - x5_1)) 2)))) + (Int.tmod (IntKind.u64.wrap (x6_1 - x5_1)) 2))) - 1)), (by first | rfl | (simp; done) | (simp [*]; done)), (by first | rfl | (simp; done) | (simp [*]; done)), H', ⟨by have := HK1.out; omega⟩, ⟨by exact BK322.out⟩, ⟨by repeat (first | (with_reducible first | exact HB.out | apply below_alloc | apply pw_below_drewN | apply below_drew1 | refine below_set ?_ GE322.out) | exact HB.out)⟩⟩
   ·rw [if_neg c4] at H
    have c4b0 : decide (x5_1 < x6_1) = false := decide_eq_false c4
    clear c4
    obtain rfl := Option.some.inj H
    go_wp2
    go_ret
    exact ⟨by first | rfl | (simp [errW_none, errW_some] <;> rfl) | (simp [*, errW_none, errW_some] <;> rfl), by repeat (first | (with_reducible first | exact HB.out | apply below_alloc | apply pw_below_drewN | apply below_drew1 | refine below_set ?_ GE322.out) | exact HB.out)⟩

/-! ### overfallref03_Law: function 14 -/
def overfallref03_Law.f (k : Nat) (a0 : Int) (a1 : Int) : Option (Int) := if a0 ≤ 0 then (some 0) else ((overfallref01_Mul.f k (IntKind.u64.wrap (a0)) (IntKind.u64.wrap (a0))).bind fun bt324 => ((overfallref03_Most.f k a1 bt324.1 bt324.2).bind fun t326 => (some (wrap64 (t326)))))
theorem overfallref03_Law.mono : ∀ a0 a1 k, LeO (overfallref03_Law.f k a0 a1) (overfallref03_Law.f (k + 1) a0 a1) := by
 intro a0 a1 k
 unfold overfallref03_Law.f
 repeat' first
   | (with_reducible exact overfallref01_Mul.mono _ _ _)
   | (with_reducible exact overfallref03_Most.mono _ _ _ _)
   | (with_reducible exact LeO.refl _)
   | (with_reducible exact LeO.none _)
   | (with_reducible refine LeO.ite ?_ ?_)
   | (with_reducible refine LeO.bind ?_ (fun _ => ?_))
   | exact overfallref01_Mul.mono _ _ _
   | exact overfallref03_Most.mono _ _ _ _
   | exact LeO.none _
   | refine LeO.ite ?_ ?_
   | refine LeO.bind ?_ (fun _ => ?_)
set_option maxHeartbeats 8000000 in
set_option maxRecDepth 100000 in
theorem overfallref03_Law.calls (k : Nat) (a0 : Int) (a1 : Int) (r : Int) (w : World) (h : overfallref03_Law.f k a0 a1 = some r) :
  Calls Try.prog 14 #[.int .i64 a0, .int .u64 a1] w fun e w' => e = .returned (.int .i64 r) ∧ Below w.heap.size w w' := by
 have HB := Aside0.mk (Below.refl w.heap.size w)
 have H : (if a0 ≤ 0 then (some 0) else ((overfallref01_Mul.f k (IntKind.u64.wrap (a0)) (IntKind.u64.wrap (a0))).bind fun bt324 => ((overfallref03_Most.f k a1 bt324.1 bt324.2).bind fun t326 => (some (wrap64 (t326)))))) = some r := h
 clear h
 by_cases c3 : a0 ≤ 0
 ·rw [if_pos c3] at H
  have c3b0 : decide (a0 ≤ 0) = true := decide_eq_true c3
  clear c3
  obtain rfl := Option.some.inj H
  go_enter Try.func14, Try.ntmps14
  go_wp2
  go_ret
  exact ⟨by first | rfl | (simp [errW_none, errW_some] <;> rfl) | (simp [*, errW_none, errW_some] <;> rfl), by repeat (first | (with_reducible first | exact HB.out | apply below_alloc | apply pw_below_drewN | apply below_drew1) | exact HB.out)⟩
 ·rw [if_neg c3] at H
  have c3b0 : decide (a0 ≤ 0) = false := decide_eq_false c3
  clear c3
  replace H := Option.bind_eq_some_iff.mp H
  obtain ⟨⟨t324, t325⟩, A40, H⟩ := H
  replace H : ((overfallref03_Most.f k a1 t324 t325).bind fun t326 => (some (wrap64 (t326)))) = some r := H
  have A4 := Aside0.mk A40
  clear A40
  replace H := Option.bind_eq_some_iff.mp H
  obtain ⟨t326, A50, H⟩ := H
  replace H : (some (wrap64 (t326))) = some r := H
  have A5 := Aside0.mk A50
  clear A50
  obtain rfl := Option.some.inj H
  go_enter Try.func14, Try.ntmps14
  go_wp2_with (first | ((with_reducible refine gate_callee (f := 30) rfl ?_); refine goesL_ (some 12) rfl rfl Try.func30 (by kernel_rfl) rfl #[.int .u64 (IntKind.u64.wrap (a0)), .int .u64 (IntKind.u64.wrap (a0))] rfl (by (try simp only [List.map_toArray, List.map_cons, List.map_nil]); first | done | rfl | (simp only [List.length_drop, List.length_take]; rfl)) ?_; (with_reducible refine (overfallref01_Mul.calls k (IntKind.u64.wrap (a0)) (IntKind.u64.wrap (a0)) t324 t325 _ A4.out).mono ?_); rintro e w6 ⟨rfl, hb⟩; refine ⟨_, rfl, ?_⟩; have n0_ := Aside0.mk (below_step (by repeat (first | (with_reducible first | exact HB.out | apply below_alloc | apply pw_below_drewN | apply below_drew1) | exact HB.out)) hb); clear HB; have HB := n0_; clear n0_; (try clear hb); (try clear hb2); (try clear hk); (try clear hi)) | ((with_reducible refine gate_callee (f := 31) rfl ?_); refine goesL_ (some 13) rfl rfl Try.func31 (by kernel_rfl) rfl #[.int .u64 a1, .agg #[.int .u64 t324, .int .u64 t325]] rfl (by (try simp only [List.map_toArray, List.map_cons, List.map_nil]); first | done | rfl | (simp only [List.length_drop, List.length_take]; rfl)) ?_; (with_reducible refine (overfallref03_Most.calls k a1 t324 t325 t326 _ A5.out).mono ?_); rintro e w7 ⟨rfl, hb⟩; refine ⟨_, rfl, ?_⟩; have n0_ := Aside0.mk (below_step (by repeat (first | (with_reducible first | exact HB.out | apply below_alloc | apply pw_below_drewN | apply below_drew1) | exact HB.out)) hb); clear HB; have HB := n0_; clear n0_; (try clear hb); (try clear hb2); (try clear hk); (try clear hi)))
  go_ret
  exact ⟨by first | rfl | (simp [errW_none, errW_some] <;> rfl) | (simp [*, errW_none, errW_some] <;> rfl), by repeat (first | (with_reducible first | exact HB.out | apply below_alloc | apply pw_below_drewN | apply below_drew1) | exact HB.out)⟩

/-! ### codel_State_Empty: function 15 -/
def codel_State_Empty.f (a0_0 : Bool) (a0_1 : Int) (a0_2 : Bool) (a0_3 : Int) (a0_4 : Int) (a0_5 : Int) : Option (Bool × Int × Bool × Int × Int × Int) := some (false, 0, false, a0_3, a0_4, a0_5)
set_option maxHeartbeats 8000000 in
set_option maxRecDepth 100000 in
theorem codel_State_Empty.calls (a0_0 : Bool) (a0_1 : Int) (a0_2 : Bool) (a0_3 : Int) (a0_4 : Int) (a0_5 : Int) (r1 : Bool) (r2 : Int) (r3 : Bool) (r4 : Int) (r5 : Int) (r6 : Int) (w : World) (h : codel_State_Empty.f a0_0 a0_1 a0_2 a0_3 a0_4 a0_5 = some (r1, r2, r3, r4, r5, r6)) :
  Calls Try.prog 15 #[.agg #[.bool a0_0, .int .i64 a0_1, .bool a0_2, .int .i64 a0_3, .int .u64 a0_4, .int .u64 a0_5]] w fun e w' => e = .returned (.agg #[.bool r1, .int .i64 r2, .bool r3, .int .i64 r4, .int .u64 r5, .int .u64 r6]) ∧ Below w.heap.size w w' := by
 have hu24 := Try.underlying24
 have HB := Aside0.mk (Below.refl w.heap.size w)
 have H : (some (false, 0, false, a0_3, a0_4, a0_5)) = some (r1, r2, r3, r4, r5, r6) := h
 clear h
 simp only [Option.some.injEq, Prod.mk.injEq] at H
 obtain ⟨rfl, rfl, rfl, rfl, rfl, rfl⟩ := H
 go_enter Try.func15, Try.ntmps15
 go_wp2_with (first | ((with_reducible refine gate_dst (N := 1) rfl ?_); refine box_event ?hg (N := 1) ?hd (cs := #[.bool a0_0, .int .i64 a0_1, .bool a0_2, .int .i64 a0_3, .int .u64 a0_4, .int .u64 a0_5]) (t := 24) ?hr ?_; (case hd => rfl); (case hg => rfl); (case hr => first | (go_simp; done) | (go_simp; rfl)); intro gb327 hg w2 hbox hb; have n0_ := Aside0.mk (below_step (by repeat (first | (with_reducible first | exact HB.out | apply below_alloc | apply pw_below_drewN | apply below_drew1) | exact HB.out)) hb); have n1_ := Aside0.mk (hbox); have n2_ := Aside0.mk ((by rw [hg]; exact (below_size (by repeat (first | (with_reducible first | exact HB.out | apply below_alloc | apply pw_below_drewN | apply below_drew1) | exact HB.out))) : w.heap.size ≤ gb327)); have n3_ := Aside0.mk ((by rw [hg]; exact (below_size (by repeat (first | (with_reducible first | exact HB.out | apply below_alloc | apply pw_below_drewN | apply below_drew1) | exact HB.out))) : w.heap.size ≤ gb327)); clear HB; have HB := n0_; have BK327 := n1_; have GW327 := n2_; have GE327 := n3_; clear n0_ n1_ n2_ n3_; clear hb hbox hg) | ((with_reducible refine gate_dst (N := 2) rfl ?_); refine box_event ?hg (N := 2) ?hd (cs := #[.bool false, .int .i64 0, .bool false, .int .i64 0, .int .u64 0, .int .u64 0]) (t := 24) ?hr ?_; (case hd => rfl); (case hg => rfl); (case hr => first | (go_simp; done) | (go_simp; rfl)); intro gb328 hg w3 hbox hb; have n0_ := Aside0.mk (blk_below (by exact BK327.out) hb); have n1_ := Aside0.mk (below_step (by repeat (first | (with_reducible first | exact HB.out | apply below_alloc | apply pw_below_drewN | apply below_drew1 | refine below_set ?_ GE327.out) | exact HB.out)) hb); have n2_ := Aside0.mk (hbox); have n3_ := Aside0.mk ((by rw [hg]; exact (below_size (by repeat (first | (with_reducible first | exact HB.out | apply below_alloc | apply pw_below_drewN | apply below_drew1 | refine below_set ?_ GE327.out) | exact HB.out))) : w.heap.size ≤ gb328)); have n4_ := Aside0.mk ((by rw [hg]; exact (below_size (by repeat (first | (with_reducible first | exact HB.out | apply below_alloc | apply pw_below_drewN | apply below_drew1 | refine below_set ?_ GE327.out) | exact HB.out))) : w.heap.size ≤ gb328)); have n5_ := Aside0.mk ((by rw [hg]; exact Nat.ne_of_lt (blk_lt (by exact BK327.out)) : gb327 ≠ gb328)); have n6_ := Aside0.mk ((by rw [hg]; exact Nat.ne_of_gt (blk_lt (by exact BK327.out)) : gb328 ≠ gb327)); clear BK327; clear HB; have BK327 := n0_; have HB := n1_; have BK328 := n2_; have GW328 := n3_; have GE328 := n4_; have NB327_328 := n5_; have NB328_327 := n6_; clear n0_ n1_ n2_ n3_ n4_ n5_ n6_; clear hb hbox hg; have hnb4 := NB327_328.out; have hnc4 := NB328_327.out; have hcz5_0 : w3.cell? ⟨gb327, 0, none⟩ = some (.bool a0_0) := (blk_cell BK327.out 0).trans rfl; have hcz5_1 : w3.cell? ⟨gb327, 1, none⟩ = some (.int .i64 a0_1) := (blk_cell BK327.out 1).trans rfl; have hcz5_2 : w3.cell? ⟨gb327, 2, none⟩ = some (.bool a0_2) := (blk_cell BK327.out 2).trans rfl; have hcz5_3 : w3.cell? ⟨gb327, 3, none⟩ = some (.int .i64 a0_3) := (blk_cell BK327.out 3).trans rfl; have hcz5_4 : w3.cell? ⟨gb327, 4, none⟩ = some (.int .u64 a0_4) := (blk_cell BK327.out 4).trans rfl; have hcz5_5 : w3.cell? ⟨gb327, 5, none⟩ = some (.int .u64 a0_5) := (blk_cell BK327.out 5).trans rfl; have hfz5_0 := blk_frozen BK327.out 0; have hfz5_1 := blk_frozen BK327.out 1; have hfz5_2 := blk_frozen BK327.out 2; have hfz5_3 := blk_frozen BK327.out 3; have hfz5_4 := blk_frozen BK327.out 4; have hfz5_5 := blk_frozen BK327.out 5; have hcz6_0 : w3.cell? ⟨gb328, 0, none⟩ = some (.bool false) := (blk_cell BK328.out 0).trans rfl; have hcz6_1 : w3.cell? ⟨gb328, 1, none⟩ = some (.int .i64 0) := (blk_cell BK328.out 1).trans rfl; have hcz6_2 : w3.cell? ⟨gb328, 2, none⟩ = some (.bool false) := (blk_cell BK328.out 2).trans rfl; have hcz6_3 : w3.cell? ⟨gb328, 3, none⟩ = some (.int .i64 0) := (blk_cell BK328.out 3).trans rfl; have hcz6_4 : w3.cell? ⟨gb328, 4, none⟩ = some (.int .u64 0) := (blk_cell BK328.out 4).trans rfl; have hcz6_5 : w3.cell? ⟨gb328, 5, none⟩ = some (.int .u64 0) := (blk_cell BK328.out 5).trans rfl; have hfz6_0 := blk_frozen BK328.out 0; have hfz6_1 := blk_frozen BK328.out 1; have hfz6_2 := blk_frozen BK328.out 2; have hfz6_3 := blk_frozen BK328.out 3; have hfz6_4 := blk_frozen BK328.out 4; have hfz6_5 := blk_frozen BK328.out 5))
 refine bodyPost_ret (results_cell_row rfl _ _ gb328 24 #[.bool false, .int .i64 0, .bool false, .int .i64 a0_3, .int .u64 a0_4, .int .u64 a0_5] (0, 0) _ rfl (by refine blk_put (cs := #[.bool false, .int .i64 0, .bool false, .int .i64 a0_3, .int .u64 a0_4, .int .u64 0]) ?_ 5 _ rfl; refine blk_put (cs := #[.bool false, .int .i64 0, .bool false, .int .i64 a0_3, .int .u64 0, .int .u64 0]) ?_ 4 _ rfl; refine blk_put (cs := #[.bool false, .int .i64 0, .bool false, .int .i64 0, .int .u64 0, .int .u64 0]) ?_ 3 _ rfl; refine blk_put (cs := #[.bool false, .int .i64 0, .bool false, .int .i64 0, .int .u64 0, .int .u64 0]) ?_ 2 _ rfl; refine blk_put (cs := #[.bool false, .int .i64 0, .bool false, .int .i64 0, .int .u64 0, .int .u64 0]) ?_ 1 _ rfl; refine blk_put (cs := #[.bool false, .int .i64 0, .bool false, .int .i64 0, .int .u64 0, .int .u64 0]) ?_ 0 _ rfl; refine blk_far ?_ NB328_327.out _; refine blk_far ?_ NB328_327.out _; refine blk_far ?_ NB328_327.out _; exact BK328.out) Try.underlying24 rfl (by kernel_rfl)) rfl ?_
 exact ⟨by first | rfl | (simp [errW_none, errW_some] <;> rfl) | (simp [*, errW_none, errW_some] <;> rfl), by repeat (first | (with_reducible first | exact HB.out | apply below_alloc | apply pw_below_drewN | apply below_drew1 | refine below_set ?_ GE327.out | refine below_set ?_ GE328.out) | exact HB.out)⟩

end Go.Proofs.Ytiiffgmbkajkhaa.E

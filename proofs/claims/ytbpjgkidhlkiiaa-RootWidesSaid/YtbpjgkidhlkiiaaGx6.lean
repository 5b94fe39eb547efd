-- Laid by a program of this claim's session (wip/tools/myprint.py) over the kit's printer.
import Derived.Test.YtbpjgkidhlkiiaaGx0
import Derived.Test.YtbpjgkidhlkiiaaGx1
import Derived.Test.YtbpjgkidhlkiiaaGx3
import Derived.Test.YtbpjgkidhlkiiaaGx4
import Derived.Test.YtbpjgkidhlkiiaaGx5
namespace Go.Proofs.Ytbpjgkidhlkiiaa.G
open Go.RowKit Go.Proofs.YtbpjgkidhlkiiaaW.PrintWords Go.Proofs.YtbpjgkidhlkiiaaW.PrintLast Go.Proofs.YtbpjgkidhlkiiaaW.PrintMore
attribute [local go_sem] max2_int min2_int max_two min_two max_three min_three max_four min_four   -- for this text's walks alone
set_option linter.unusedVariables false
set_option linter.unusedSimpArgs false

/-! ### overfallref03_Most: function 20 -/
def overfallref03_Most.l0 : Nat → Int → Int → Int → Int → Int → Option (Int)
 | 0, _, _, _, _, _ => none
 | k + 1, x0, x5, x6, x200000, x200001 => if x5 < x6 then ((overfallref03_Fits.f k (IntKind.u64.wrap ((IntKind.u64.wrap (x5 + (IntKind.u64.wrap (Int.tdiv (IntKind.u64.wrap (x6 - x5)) 2)))) + (Int.tmod (IntKind.u64.wrap (x6 - x5)) 2))) x0 x200000 x200001).bind fun t200 => (if t200 = true then (overfallref03_Most.l0 k x0 (IntKind.u64.wrap ((IntKind.u64.wrap (x5 + (IntKind.u64.wrap (Int.tdiv (IntKind.u64.wrap (x6 - x5)) 2)))) + (Int.tmod (IntKind.u64.wrap (x6 - x5)) 2))) x6 x200000 x200001) else (overfallref03_Most.l0 k x0 x5 (IntKind.u64.wrap ((IntKind.u64.wrap ((IntKind.u64.wrap (x5 + (IntKind.u64.wrap (Int.tdiv (IntKind.u64.wrap (x6 - x5)) 2)))) + (Int.tmod (IntKind.u64.wrap (x6 - x5)) 2))) - 1)) x200000 x200001))) else (some x5)
def overfallref03_Most.f (k : Nat) (a0 : Int) (a1_0 : Int) (a1_1 : Int) : Option (Int) := overfallref03_Most.l0 k a0 0 18446744073709551615 a1_0 a1_1
theorem overfallref03_Most.mono_l : ∀ k, (∀ y0 y1 y2 y3 y4, LeO (overfallref03_Most.l0 k y0 y1 y2 y3 y4) (overfallref03_Most.l0 (k + 1) y0 y1 y2 y3 y4))
 | 0 => fun _ _ _ _ _ r h => by simp [overfallref03_Most.l0] at h
 | k + 1 => by
  have ih0 := overfallref03_Most.mono_l k
  ·intro y0 y1 y2 y3 y4
   unfold overfallref03_Most.l0
   repeat' first
   | (with_reducible exact ih0 _ _ _ _ _)
   | (with_reducible exact overfallref03_Fits.mono _ _ _ _ _)
   | (with_reducible exact LeO.refl _)
   | (with_reducible exact LeO.none _)
   | (with_reducible refine LeO.ite ?_ ?_)
   | (with_reducible refine LeO.bind ?_ (fun _ => ?_))
   | exact ih0 _ _ _ _ _
   | exact overfallref03_Fits.mono _ _ _ _ _
   | exact LeO.none _
   | refine LeO.ite ?_ ?_
   | refine LeO.bind ?_ (fun _ => ?_)
theorem overfallref03_Most.mono : ∀ a0 a1 a2 k, LeO (overfallref03_Most.f k a0 a1 a2) (overfallref03_Most.f (k + 1) a0 a1 a2) := by
 intro a0 a1 a2 k
 have ih0 := overfallref03_Most.mono_l k
 unfold overfallref03_Most.f
 repeat' first
   | (with_reducible exact ih0 _ _ _ _ _)
   | (with_reducible exact overfallref03_Fits.mono _ _ _ _ _)
   | (with_reducible exact LeO.refl _)
   | (with_reducible exact LeO.none _)
   | (with_reducible refine LeO.ite ?_ ?_)
   | (with_reducible refine LeO.bind ?_ (fun _ => ?_))
   | exact ih0 _ _ _ _ _
   | exact overfallref03_Fits.mono _ _ _ _ _
   | exact LeO.none _
   | refine LeO.ite ?_ ?_
   | refine LeO.bind ?_ (fun _ => ?_)
set_option maxHeartbeats 8000000 in
set_option maxRecDepth 100000 in
theorem overfallref03_Most.calls (k : Nat) (a0 : Int) (a1_0 : Int) (a1_1 : Int) (r : Int) (w : World) (h : overfallref03_Most.f k a0 a1_0 a1_1 = some r) :
  Calls Try.prog 20 #[.int .u64 a0, .agg #[.int .u64 a1_0, .int .u64 a1_1]] w fun e w' => e = .returned (.int .u64 r) ∧ Below w.heap.size w w' := by
 have hu26 := Try.underlying26
 have HB := Aside0.mk (Below.refl w.heap.size w)
 have H : (overfallref03_Most.l0 k a0 0 18446744073709551615 a1_0 a1_1) = some r := h
 clear h
 have H' := Aside0.mk H
 clear H
 go_enter Try.func20, Try.ntmps20
 go_wp2_with (first | ((with_reducible refine gate_dst (N := 3) rfl ?_); refine box_event ?hg (N := 3) ?hd (cs := #[.int .u64 a1_0, .int .u64 a1_1]) (t := 26) ?hr ?_; (case hd => rfl); (case hg => rfl); (case hr => first | (go_simp; done) | (go_simp; rfl)); intro gb199 hg w3 hbox hb; have n0_ := Aside0.mk (below_step (by repeat (first | (with_reducible first | exact HB.out | apply below_alloc | apply pw_below_drewN | apply below_drew1) | exact HB.out)) hb); have n1_ := Aside0.mk (hbox); have n2_ := Aside0.mk ((by rw [hg]; exact (below_size (by repeat (first | (with_reducible first | exact HB.out | apply below_alloc | apply pw_below_drewN | apply below_drew1) | exact HB.out))) : w.heap.size ≤ gb199)); have n3_ := Aside0.mk ((by rw [hg]; exact (below_size (by repeat (first | (with_reducible first | exact HB.out | apply below_alloc | apply pw_below_drewN | apply below_drew1) | exact HB.out))) : w.heap.size ≤ gb199)); clear HB; have HB := n0_; have BK199 := n1_; have GW199 := n2_; have GE199 := n3_; clear n0_ n1_ n2_ n3_; clear hb hbox hg))
 go_loopg [5, 6] k (fun kq v5 v6 w' => ∃ (x5_1 : Int) (x6_1 : Int), v5 = .int .u64 x5_1 ∧ v6 = .int .u64 x6_1 ∧ Aside0 (overfallref03_Most.l0 kq a0 x5_1 x6_1 a1_0 a1_1 = some r) ∧ Aside0 (kq ≤ k) ∧ Aside0 (w'.heap[gb199]? = some (.cells #[.int .u64 a1_0, .int .u64 a1_1] 26 (0, 0))) ∧ Aside0 (Below w.heap.size w w'))
 case atStart => exact ⟨(0), (18446744073709551615), (by first | rfl | (simp; done) | (simp [*]; done)), (by first | rfl | (simp; done) | (simp [*]; done)), H', ⟨Nat.le_refl _⟩, ⟨by exact BK199.out⟩, ⟨by repeat (first | (with_reducible first | exact HB.out | apply below_alloc | apply pw_below_drewN | apply below_drew1 | refine below_set ?_ GE199.out) | exact HB.out)⟩⟩
 case round =>
  clear H'
  try clear c2
  try clear p2
  obtain ⟨x5_1, x6_1, rfl, rfl, HA, HK1, BK199, HB⟩ := hrel
  cases gk with
  | zero => exact absurd HA.out (by simp [overfallref03_Most.l0])
  | succ k1 =>
   have H := HA.out
   clear HA
   simp only [overfallref03_Most.l0] at H
   by_cases c4 : x5_1 < x6_1
   ·rw [if_pos c4] at H
    have c4b0 : decide (x5_1 < x6_1) = true := decide_eq_true c4
    clear c4
    replace H := Option.bind_eq_some_iff.mp H
    obtain ⟨t200, A50, H⟩ := H
    replace H : (if t200 = true then (overfallref03_Most.l0 k1 a0 (IntKind.u64.wrap ((IntKind.u64.wrap (x5_1 + (IntKind.u64.wrap (Int.tdiv (IntKind.u64.wrap (x6_1 - x5_1)) 2)))) + (Int.tmod (IntKind.u64.wrap (x6_1 - x5_1)) 2))) x6_1 a1_0 a1_1) else (overfallref03_Most.l0 k1 a0 x5_1 (IntKind.u64.wrap ((IntKind.u64.wrap ((IntKind.u64.wrap (x5_1 + (IntKind.u64.wrap (Int.tdiv (IntKind.u64.wrap (x6_1 - x5_1)) 2)))) + (Int.tmod (IntKind.u64.wrap (x6_1 - x5_1)) 2))) - 1)) a1_0 a1_1)) = some r := H
    have A5 := Aside0.mk A50
    clear A50
    by_cases c6 : t200 = true
    ·subst c6
     have H1 : (overfallref03_Most.l0 k1 a0 (IntKind.u64.wrap ((IntKind.u64.wrap (x5_1 + (IntKind.u64.wrap (Int.tdiv (IntKind.u64.wrap (x6_1 - x5_1)) 2)))) + (Int.tmod (IntKind.u64.wrap (x6_1 - x5_1)) 2))) x6_1 a1_0 a1_1) = some r := by rw [if_pos rfl] at H; exact H
     clear H
     have H := H1
     clear H1
     have H' := Aside0.mk H
     clear H
     have hcz7_0 : wr.cell? ⟨gb199, 0, none⟩ = some (.int .u64 a1_0) := (blk_cell BK199.out 0).trans rfl
     have hcz7_1 : wr.cell? ⟨gb199, 1, none⟩ = some (.int .u64 a1_1) := (blk_cell BK199.out 1).trans rfl
     have hfz7_0 := blk_frozen BK199.out 0
     have hfz7_1 := blk_frozen BK199.out 1
     go_wp2_with (first | ((with_reducible refine gate_callee (f := 11) rfl ?_); refine goesL_ (some 25) rfl rfl Try.func11 (by kernel_rfl) rfl #[.int .u64 (IntKind.u64.wrap ((IntKind.u64.wrap (x5_1 + (IntKind.u64.wrap (Int.tdiv (IntKind.u64.wrap (x6_1 - x5_1)) 2)))) + (Int.tmod (IntKind.u64.wrap (x6_1 - x5_1)) 2))), .int .u64 a0, .agg #[.int .u64 a1_0, .int .u64 a1_1]] rfl (by (try simp only [List.map_toArray, List.map_cons, List.map_nil]); first | done | rfl | (simp only [List.length_drop, List.length_take]; rfl)) ?_; (with_reducible refine (overfallref03_Fits.calls k1 (IntKind.u64.wrap ((IntKind.u64.wrap (x5_1 + (IntKind.u64.wrap (Int.tdiv (IntKind.u64.wrap (x6_1 - x5_1)) 2)))) + (Int.tmod (IntKind.u64.wrap (x6_1 - x5_1)) 2))) a0 a1_0 a1_1 true _ A5.out).mono ?_); rintro e w8 ⟨rfl, hb⟩; refine ⟨_, rfl, ?_⟩; have n0_ := Aside0.mk (blk_below (by exact BK199.out) hb); have n1_ := Aside0.mk (below_step (by repeat (first | (with_reducible first | exact HB.out | apply below_alloc | apply pw_below_drewN | apply below_drew1 | refine below_set ?_ GE199.out) | exact HB.out)) hb); clear BK199; clear HB; have BK199 := n0_; have HB := n1_; clear n0_ n1_; (try clear hb); (try clear hb2); (try clear hk); (try clear hi)))
     go_roundg k1
     case measure => have := HK1.out; omega
     case rel => exact ⟨(IntKind.u64.wrap ((IntKind.u64.wrap (x5_1 + (IntKind.u64.wrap (Int.tdiv (IntKind.u64.wrap (x6_1 - x5_1)) 2)))) + (Int.tmod (IntKind.u64.wrap (x6_1 - x5_1)) 2))), (x6_1), (by first | rfl | (simp; done) | (simp [*]; done)), (by first | rfl | (simp; done) | (simp [*]; done)), H', ⟨by have := HK1.out; omega⟩, ⟨by exact BK199.out⟩, ⟨by repeat (first | (with_reducible first | exact HB.out | apply below_alloc | apply pw_below_drewN | apply below_drew1 | refine below_set ?_ GE199.out) | exact HB.out)⟩⟩
    ·replace c6 := Bool.eq_false_iff.mpr c6
     subst c6
     have H1 : (overfallref03_Most.l0 k1 a0 x5_1 (IntKind.u64.wrap ((IntKind.u64.wrap ((IntKind.u64.wrap (x5_1 + (IntKind.u64.wrap (Int.tdiv (IntKind.u64.wrap (x6_1 - x5_1)) 2)))) + (Int.tmod (IntKind.u64.wrap (x6_1 - x5_1)) 2))) - 1)) a1_0 a1_1) = some r := by rw [if_neg (show ¬ (false = true) by decide)] at H; exact H
     clear H
     have H := H1
     clear H1
     have H' := Aside0.mk H
     clear H
     have hcz9_0 : wr.cell? ⟨gb199, 0, none⟩ = some (.int .u64 a1_0) := (blk_cell BK199.out 0).trans rfl
     have hcz9_1 : wr.cell? ⟨gb199, 1, none⟩ = some (.int .u64 a1_1) := (blk_cell BK199.out 1).trans rfl
     have hfz9_0 := blk_frozen BK199.out 0
     have hfz9_1 := blk_frozen BK199.out 1
     go_wp2_with (first | ((with_reducible refine gate_callee (f := 11) rfl ?_); refine goesL_ (some 25) rfl rfl Try.func11 (by kernel_rfl) rfl #[.int .u64 (IntKind.u64.wrap ((IntKind.u64.wrap (x5_1 + (IntKind.u64.wrap (Int.tdiv (IntKind.u64.wrap (x6_1 - x5_1)) 2)))) + (Int.tmod (IntKind.u64.wrap (x6_1 - x5_1)) 2))), .int .u64 a0, .agg #[.int .u64 a1_0, .int .u64 a1_1]] rfl (by (try simp only [List.map_toArray, List.map_cons, List.map_nil]); first | done | rfl | (simp only [List.length_drop, List.length_take]; rfl)) ?_; (with_reducible refine (overfallref03_Fits.calls k1 (IntKind.u64.wrap ((IntKind.u64.wrap (x5_1 + (IntKind.u64.wrap (Int.tdiv (IntKind.u64.wrap (x6_1 - x5_1)) 2)))) + (Int.tmod (IntKind.u64.wrap (x6_1 - x5_1)) 2))) a0 a1_0 a1_1 false _ A5.out).mono ?_); rintro e w10 ⟨rfl, hb⟩; refine ⟨_, rfl, ?_⟩; have n0_ := Aside0.mk (blk_below (by exact BK199.out) hb); have n1_ := Aside0.mk (below_step (by repeat (first | (with_reducible first | exact HB.out | apply below_alloc | apply pw_below_drewN | apply below_drew1 | refine below_set ?_ GE199.out) | exact HB.out)) hb); clear BK199; clear HB; have BK199 := n0_; have HB := n1_; clear n0_ n1_; (try clear hb); (try clear hb2); (try clear hk); (try clear hi)))
     go_roundg k1
     case measure => have := HK1.out; omega
     case rel => exact ⟨(x5_1), (IntKind.u64.wrap ((IntKind.u64.wrap ((IntKind.u64.wrap (x5_1 + (IntKind.u64.wrap (Int.tdiv (IntKind.u64.wrap (x6_1 - x5_1)) 2)))) + (Int.tmod (IntKind.u64.wrap (x6_1 - x5_1)) 2))) - 1)), (by first | rfl | (simp; done) | (simp [*]; done)), (by first | rfl | (simp; done) | (simp [*]; done)), H', ⟨by have := HK1.out; omega⟩, ⟨by exact BK199.out⟩, ⟨by repeat (first | (with_reducible first | exact HB.out | apply below_alloc | apply pw_below_drewN | apply below_drew1 | refine below_set ?_ GE199.out) | exact HB.out)⟩⟩
   ·rw [if_neg c4] at H
    have c4b0 : decide (x5_1 < x6_1) = false := decide_eq_false c4
    clear c4
    obtain rfl := Option.some.inj H
    go_wp2
    go_ret
    exact ⟨by first | rfl | (simp [errW_none, errW_some] <;> rfl) | (simp [*, errW_none, errW_some] <;> rfl), by repeat (first | (with_reducible first | exact HB.out | apply below_alloc | apply pw_below_drewN | apply below_drew1 | refine below_set ?_ GE199.out) | exact HB.out)⟩

/-! ### overfallref03_Sqrt: function 10 -/
def overfallref03_Sqrt.f (k : Nat) (a0_0 : Int) (a0_1 : Int) : Option (Int) := (overfallref03_Most.f k 1 a0_0 a0_1).bind fun t202 => (some t202)
theorem overfallref03_Sqrt.mono : ∀ a0 a1 k, LeO (overfallref03_Sqrt.f k a0 a1) (overfallref03_Sqrt.f (k + 1) a0 a1) := by
 intro a0 a1 k
 unfold overfallref03_Sqrt.f
 repeat' first
   | (with_reducible exact overfallref03_Most.mono _ _ _ _)
   | (with_reducible exact LeO.refl _)
   | (with_reducible exact LeO.none _)
   | (with_reducible refine LeO.ite ?_ ?_)
   | (with_reducible refine LeO.bind ?_ (fun _ => ?_))
   | exact overfallref03_Most.mono _ _ _ _
   | exact LeO.none _
   | refine LeO.ite ?_ ?_
   | refine LeO.bind ?_ (fun _ => ?_)
set_option maxHeartbeats 8000000 in
set_option maxRecDepth 100000 in
theorem overfallref03_Sqrt.calls (k : Nat) (a0_0 : Int) (a0_1 : Int) (r : Int) (w : World) (h : overfallref03_Sqrt.f k a0_0 a0_1 = some r) :
  Calls Try.prog 10 #[.agg #[.int .u64 a0_0, .int .u64 a0_1]] w fun e w' => e = .returned (.int .u64 r) ∧ Below w.heap.size w w' := by
 have hu26 := Try.underlying26
 have HB := Aside0.mk (Below.refl w.heap.size w)
 have H : ((overfallref03_Most.f k 1 a0_0 a0_1).bind fun t202 => (some t202)) = some r := h
 clear h
 replace H := Option.bind_eq_some_iff.mp H
 obtain ⟨t202, A20, H⟩ := H
 replace H : (some t202) = some r := H
 have A2 := Aside0.mk A20
 clear A20
 obtain rfl := Option.some.inj H
 go_enter Try.func10, Try.ntmps10
 go_wp2_with (first | ((with_reducible refine gate_dst (N := 1) rfl ?_); refine box_event ?hg (N := 1) ?hd (cs := #[.int .u64 a0_0, .int .u64 a0_1]) (t := 26) ?hr ?_; (case hd => rfl); (case hg => rfl); (case hr => first | (go_simp; done) | (go_simp; rfl)); intro gb201 hg w3 hbox hb; have n0_ := Aside0.mk (below_step (by repeat (first | (with_reducible first | exact HB.out | apply below_alloc | apply pw_below_drewN | apply below_drew1) | exact HB.out)) hb); have n1_ := Aside0.mk (hbox); have n2_ := Aside0.mk ((by rw [hg]; exact (below_size (by repeat (first | (with_reducible first | exact HB.out | apply below_alloc | apply pw_below_drewN | apply below_drew1) | exact HB.out))) : w.heap.size ≤ gb201)); have n3_ := Aside0.mk ((by rw [hg]; exact (below_size (by repeat (first | (with_reducible first | exact HB.out | apply below_alloc | apply pw_below_drewN | apply below_drew1) | exact HB.out))) : w.heap.size ≤ gb201)); clear HB; have HB := n0_; have BK201 := n1_; have GW201 := n2_; have GE201 := n3_; clear n0_ n1_ n2_ n3_; clear hb hbox hg; have hcz4_0 : w3.cell? ⟨gb201, 0, none⟩ = some (.int .u64 a0_0) := (blk_cell BK201.out 0).trans rfl; have hcz4_1 : w3.cell? ⟨gb201, 1, none⟩ = some (.int .u64 a0_1) := (blk_cell BK201.out 1).trans rfl; have hfz4_0 := blk_frozen BK201.out 0; have hfz4_1 := blk_frozen BK201.out 1) | ((with_reducible refine gate_callee (f := 20) rfl ?_); refine goesL_ (some 4) rfl rfl Try.func20 (by kernel_rfl) rfl #[.int .u64 1, .agg #[.int .u64 a0_0, .int .u64 a0_1]] rfl (by (try simp only [List.map_toArray, List.map_cons, List.map_nil]); first | done | rfl | (simp only [List.length_drop, List.length_take]; rfl)) ?_; (with_reducible refine (overfallref03_Most.calls k 1 a0_0 a0_1 t202 _ A2.out).mono ?_); rintro e w5 ⟨rfl, hb⟩; refine ⟨_, rfl, ?_⟩; have n0_ := Aside0.mk (blk_below (by exact BK201.out) hb); have n1_ := Aside0.mk (below_step (by repeat (first | (with_reducible first | exact HB.out | apply below_alloc | apply pw_below_drewN | apply below_drew1 | refine below_set ?_ GE201.out) | exact HB.out)) hb); clear BK201; clear HB; have BK201 := n0_; have HB := n1_; clear n0_ n1_; (try clear hb); (try clear hb2); (try clear hk); (try clear hi)))
 go_ret
 exact ⟨by first | rfl | (simp [errW_none, errW_some] <;> rfl) | (simp [*, errW_none, errW_some] <;> rfl), by repeat (first | (with_reducible first | exact HB.out | apply below_alloc | apply pw_below_drewN | apply below_drew1 | refine below_set ?_ GE201.out) | exact HB.out)⟩

/-! ### overfalllaw03_RootWides: function 3 -/
def overfalllaw03_RootWides.f (k : Nat) (a0_0 : Int) (a0_1 : Int) : Option (Bool) := (overfalllaw03_awake.f k).bind fun t204 => (if t204 = true then ((root_Wide.f k a0_0 a0_1).bind fun t206 => ((overfallref03_Sqrt.f k a0_0 a0_1).bind fun t207 => (if t206 = t207 then ((overfallref03_Fits.f k t206 1 a0_0 a0_1).bind fun t208 => (if t208 = true then (if t206 = 18446744073709551615 then (some true) else ((overfallref03_Fits.f k (IntKind.u64.wrap (t206 + 1)) 1 a0_0 a0_1).bind fun t209 => (some (!t209)))) else (none))) else (none)))) else (none))
theorem overfalllaw03_RootWides.mono : ∀ a0 a1 k, LeO (overfalllaw03_RootWides.f k a0 a1) (overfalllaw03_RootWides.f (k + 1) a0 a1) := by
 intro a0 a1 k
 unfold overfalllaw03_RootWides.f
 repeat' first
   | (with_reducible exact overfalllaw03_awake.mono _)
   | (with_reducible exact overfallref03_Fits.mono _ _ _ _ _)
   | (with_reducible exact overfallref03_Sqrt.mono _ _ _)
   | (with_reducible exact root_Wide.mono _ _ _)
   | (with_reducible exact LeO.refl _)
   | (with_reducible exact LeO.none _)
   | (with_reducible refine LeO.ite ?_ ?_)
   | (with_reducible refine LeO.bind ?_ (fun _ => ?_))
   | exact overfalllaw03_awake.mono _
   | exact overfallref03_Fits.mono _ _ _ _ _
   | exact overfallref03_Sqrt.mono _ _ _
   | exact root_Wide.mono _ _ _
   | exact LeO.none _
   | refine LeO.ite ?_ ?_
   | refine LeO.bind ?_ (fun _ => ?_)
set_option maxHeartbeats 8000000 in
set_option maxRecDepth 100000 in
theorem overfalllaw03_RootWides.calls (k : Nat) (a0_0 : Int) (a0_1 : Int) (r : Bool) (w : World) (h : overfalllaw03_RootWides.f k a0_0 a0_1 = some r) :
  Calls Try.prog 3 #[.agg #[.int .u64 a0_0, .int .u64 a0_1]] w fun e w' => e = .returned (.bool r) ∧ Below w.heap.size w w' := by
 have hu24 := Try.underlying24
 have hu26 := Try.underlying26
 have HB := Aside0.mk (Below.refl w.heap.size w)
 have H : ((overfalllaw03_awake.f k).bind fun t204 => (if t204 = true then ((root_Wide.f k a0_0 a0_1).bind fun t206 => ((overfallref03_Sqrt.f k a0_0 a0_1).bind fun t207 => (if t206 = t207 then ((overfallref03_Fits.f k t206 1 a0_0 a0_1).bind fun t208 => (if t208 = true then (if t206 = 18446744073709551615 then (some true) else ((overfallref03_Fits.f k (IntKind.u64.wrap (t206 + 1)) 1 a0_0 a0_1).bind fun t209 => (some (!t209)))) else (none))) else (none)))) else (none))) = some r := h
 clear h
 replace H := Option.bind_eq_some_iff.mp H
 obtain ⟨t204, A20, H⟩ := H
 replace H : (if t204 = true then ((root_Wide.f k a0_0 a0_1).bind fun t206 => ((overfallref03_Sqrt.f k a0_0 a0_1).bind fun t207 => (if t206 = t207 then ((overfallref03_Fits.f k t206 1 a0_0 a0_1).bind fun t208 => (if t208 = true then (if t206 = 18446744073709551615 then (some true) else ((overfallref03_Fits.f k (IntKind.u64.wrap (t206 + 1)) 1 a0_0 a0_1).bind fun t209 => (some (!t209)))) else (none))) else (none)))) else (none)) = some r := H
 have A2 := Aside0.mk A20
 clear A20
 by_cases c3 : t204 = true
 ·subst c3
  have H1 : ((root_Wide.f k a0_0 a0_1).bind fun t206 => ((overfallref03_Sqrt.f k a0_0 a0_1).bind fun t207 => (if t206 = t207 then ((overfallref03_Fits.f k t206 1 a0_0 a0_1).bind fun t208 => (if t208 = true then (if t206 = 18446744073709551615 then (some true) else ((overfallref03_Fits.f k (IntKind.u64.wrap (t206 + 1)) 1 a0_0 a0_1).bind fun t209 => (some (!t209)))) else (none))) else (none)))) = some r := by rw [if_pos rfl] at H; exact H
  clear H
  have H := H1
  clear H1
  replace H := Option.bind_eq_some_iff.mp H
  obtain ⟨t206, A40, H⟩ := H
  replace H : ((overfallref03_Sqrt.f k a0_0 a0_1).bind fun t207 => (if t206 = t207 then ((overfallref03_Fits.f k t206 1 a0_0 a0_1).bind fun t208 => (if t208 = true then (if t206 = 18446744073709551615 then (some true) else ((overfallref03_Fits.f k (IntKind.u64.wrap (t206 + 1)) 1 a0_0 a0_1).bind fun t209 => (some (!t209)))) else (none))) else (none))) = some r := H
  have A4 := Aside0.mk A40
  clear A40
  replace H := Option.bind_eq_some_iff.mp H
  obtain ⟨t207, A50, H⟩ := H
  replace H : (if t206 = t207 then ((overfallref03_Fits.f k t206 1 a0_0 a0_1).bind fun t208 => (if t208 = true then (if t206 = 18446744073709551615 then (some true) else ((overfallref03_Fits.f k (IntKind.u64.wrap (t206 + 1)) 1 a0_0 a0_1).bind fun t209 => (some (!t209)))) else (none))) else (none)) = some r := H
  have A5 := Aside0.mk A50
  clear A50
  by_cases c6 : t206 = t207
  ·rw [if_pos c6] at H
   have c6b0 : (t206 == t207) = true := beq_iff_eq.mpr c6
   have c6b1 : (t206 != t207) = false := bne_eq_false_iff_eq.mpr c6
   clear c6
   replace H := Option.bind_eq_some_iff.mp H
   obtain ⟨t208, A70, H⟩ := H
   replace H : (if t208 = true then (if t206 = 18446744073709551615 then (some true) else ((overfallref03_Fits.f k (IntKind.u64.wrap (t206 + 1)) 1 a0_0 a0_1).bind fun t209 => (some (!t209)))) else (none)) = some r := H
   have A7 := Aside0.mk A70
   clear A70
   by_cases c8 : t208 = true
   ·subst c8
    have H1 : (if t206 = 18446744073709551615 then (some true) else ((overfallref03_Fits.f k (IntKind.u64.wrap (t206 + 1)) 1 a0_0 a0_1).bind fun t209 => (some (!t209)))) = some r := by rw [if_pos rfl] at H; exact H
    clear H
    have H := H1
    clear H1
    by_cases c9 : t206 = 18446744073709551615
    ·rw [if_pos c9] at H
     have c9b0 : (t206 == 18446744073709551615) = true := beq_iff_eq.mpr c9
     have c9b1 : (t206 != 18446744073709551615) = false := bne_eq_false_iff_eq.mpr c9
     clear c9
     obtain rfl := Option.some.inj H
     go_enter Try.func3, Try.ntmps3
     go_wp2_with (first | ((with_reducible refine gate_dst (N := 1) rfl ?_); refine box_event ?hg (N := 1) ?hd (cs := #[.int .u64 a0_0, .int .u64 a0_1]) (t := 24) ?hr ?_; (case hd => rfl); (case hg => rfl); (case hr => first | (go_simp; done) | (go_simp; rfl)); intro gb203 hg w10 hbox hb; have n0_ := Aside0.mk (below_step (by repeat (first | (with_reducible first | exact HB.out | apply below_alloc | apply pw_below_drewN | apply below_drew1) | exact HB.out)) hb); have n1_ := Aside0.mk (hbox); have n2_ := Aside0.mk ((by rw [hg]; exact (below_size (by repeat (first | (with_reducible first | exact HB.out | apply below_alloc | apply pw_below_drewN | apply below_drew1) | exact HB.out))) : w.heap.size ≤ gb203)); have n3_ := Aside0.mk ((by rw [hg]; exact (below_size (by repeat (first | (with_reducible first | exact HB.out | apply below_alloc | apply pw_below_drewN | apply below_drew1) | exact HB.out))) : w.heap.size ≤ gb203)); clear HB; have HB := n0_; have BK203 := n1_; have GW203 := n2_; have GE203 := n3_; clear n0_ n1_ n2_ n3_; clear hb hbox hg) | ((with_reducible refine gate_callee (f := 8) rfl ?_); refine goesL_ (some 5) rfl rfl Try.func8 (by kernel_rfl) rfl #[] rfl (by (try simp only [List.map_toArray, List.map_cons, List.map_nil]); first | done | rfl | (simp only [List.length_drop, List.length_take]; rfl)) ?_; (with_reducible refine (overfalllaw03_awake.calls k  true _ A2.out).mono ?_); rintro e w11 ⟨rfl, hb⟩; refine ⟨_, rfl, ?_⟩; have n0_ := Aside0.mk (blk_below (by exact BK203.out) hb); have n1_ := Aside0.mk (below_step (by repeat (first | (with_reducible first | exact HB.out | apply below_alloc | apply pw_below_drewN | apply below_drew1 | refine below_set ?_ GE203.out) | exact HB.out)) hb); clear BK203; clear HB; have BK203 := n0_; have HB := n1_; clear n0_ n1_; (try clear hb); (try clear hb2); (try clear hk); (try clear hi); have hcz12_0 : w11.cell? ⟨gb203, 0, none⟩ = some (.int .u64 a0_0) := (blk_cell BK203.out 0).trans rfl; have hcz12_1 : w11.cell? ⟨gb203, 1, none⟩ = some (.int .u64 a0_1) := (blk_cell BK203.out 1).trans rfl; have hfz12_0 := blk_frozen BK203.out 0; have hfz12_1 := blk_frozen BK203.out 1) | ((with_reducible refine gate_dst (N := 3) rfl ?_); refine box_event ?hg (N := 3) ?hd (cs := #[.int .u64 0, .int .u64 0]) (t := 26) ?hr ?_; (case hd => rfl); (case hg => rfl); (case hr => first | (go_simp; done) | (go_simp; rfl)); intro gb205 hg w13 hbox hb; have n0_ := Aside0.mk (blk_below (by exact BK203.out) hb); have n1_ := Aside0.mk (below_step (by repeat (first | (with_reducible first | exact HB.out | apply below_alloc | apply pw_below_drewN | apply below_drew1 | refine below_set ?_ GE203.out) | exact HB.out)) hb); have n2_ := Aside0.mk (hbox); have n3_ := Aside0.mk ((by rw [hg]; exact (below_size (by repeat (first | (with_reducible first | exact HB.out | apply below_alloc | apply pw_below_drewN | apply below_drew1 | refine below_set ?_ GE203.out) | exact HB.out))) : w.heap.size ≤ gb205)); have n4_ := Aside0.mk ((by rw [hg]; exact (below_size (by repeat (first | (with_reducible first | exact HB.out | apply below_alloc | apply pw_below_drewN | apply below_drew1 | refine below_set ?_ GE203.out) | exact HB.out))) : w.heap.size ≤ gb205)); have n5_ := Aside0.mk ((by rw [hg]; exact Nat.ne_of_lt (blk_lt (by exact BK203.out)) : gb203 ≠ gb205)); have n6_ := Aside0.mk ((by rw [hg]; exact Nat.ne_of_gt (blk_lt (by exact BK203.out)) : gb205 ≠ gb203)); clear BK203; clear HB; have BK203 := n0_; have HB := n1_; have BK205 := n2_; have GW205 := n3_; have GE205 := n4_; have NB203_205 := n5_; have NB205_203 := n6_; clear n0_ n1_ n2_ n3_ n4_ n5_ n6_; clear hb hbox hg; have hnb14 := NB205_203.out; have hnc14 := NB203_205.out; have hcz15_0 : w13.cell? ⟨gb205, 0, none⟩ = some (.int .u64 0) := (blk_cell BK205.out 0).trans rfl; have hcz15_1 : w13.cell? ⟨gb205, 1, none⟩ = some (.int .u64 0) := (blk_cell BK205.out 1).trans rfl; have hfz15_0 := blk_frozen BK205.out 0; have hfz15_1 := blk_frozen BK205.out 1; have hcz16_0 : w13.cell? ⟨gb203, 0, none⟩ = some (.int .u64 a0_0) := (blk_cell BK203.out 0).trans rfl; have hcz16_1 : w13.cell? ⟨gb203, 1, none⟩ = some (.int .u64 a0_1) := (blk_cell BK203.out 1).trans rfl; have hfz16_0 := blk_frozen BK203.out 0; have hfz16_1 := blk_frozen BK203.out 1) | ((with_reducible refine gate_callee (f := 9) rfl ?_); refine goesL_ (some 9) rfl rfl Try.func9 (by kernel_rfl) rfl #[.agg #[.int .u64 a0_0, .int .u64 a0_1]] rfl (by (try simp only [List.map_toArray, List.map_cons, List.map_nil]); first | done | rfl | (simp only [List.length_drop, List.length_take]; rfl)) ?_; (with_reducible refine (root_Wide.calls k a0_0 a0_1 t206 _ A4.out).mono ?_); rintro e w17 ⟨rfl, hb⟩; refine ⟨_, rfl, ?_⟩; have n0_ := Aside0.mk (blk_below (g := gb203) (o := .cells #[.int .u64 a0_0, .int .u64 a0_1] 24 (0, 0)) (by refine blk_far ?_ NB203_205.out _; refine blk_far ?_ NB203_205.out _; exact BK203.out) hb); have n1_ := Aside0.mk (blk_below (g := gb205) (o := .cells #[.int .u64 a0_0, .int .u64 a0_1] 26 (0, 0)) (by refine blk_put (cs := #[.int .u64 a0_0, .int .u64 0]) ?_ 1 _ rfl; refine blk_put (cs := #[.int .u64 0, .int .u64 0]) ?_ 0 _ rfl; exact BK205.out) hb); have n2_ := Aside0.mk (below_step (by repeat (first | (with_reducible first | exact HB.out | apply below_alloc | apply pw_below_drewN | apply below_drew1 | refine below_set ?_ GE203.out | refine below_set ?_ GE205.out) | exact HB.out)) hb); clear BK203; clear BK205; clear HB; have BK203 := n0_; have BK205 := n1_; have HB := n2_; clear n0_ n1_ n2_; (try clear hb); (try clear hb2); (try clear hk); (try clear hi); have hcz18_0 : w17.cell? ⟨gb205, 0, none⟩ = some (.int .u64 a0_0) := (blk_cell BK205.out 0).trans rfl; have hcz18_1 : w17.cell? ⟨gb205, 1, none⟩ = some (.int .u64 a0_1) := (blk_cell BK205.out 1).trans rfl; have hfz18_0 := blk_frozen BK205.out 0; have hfz18_1 := blk_frozen BK205.out 1) | ((with_reducible refine gate_callee (f := 10) rfl ?_); refine goesL_ (some 12) rfl rfl Try.func10 (by kernel_rfl) rfl #[.agg #[.int .u64 a0_0, .int .u64 a0_1]] rfl (by (try simp only [List.map_toArray, List.map_cons, List.map_nil]); first | done | rfl | (simp only [List.length_drop, List.length_take]; rfl)) ?_; (with_reducible refine (overfallref03_Sqrt.calls k a0_0 a0_1 t207 _ A5.out).mono ?_); rintro e w19 ⟨rfl, hb⟩; refine ⟨_, rfl, ?_⟩; have n0_ := Aside0.mk (blk_below (by exact BK203.out) hb); have n1_ := Aside0.mk (blk_below (by exact BK205.out) hb); have n2_ := Aside0.mk (below_step (by repeat (first | (with_reducible first | exact HB.out | apply below_alloc | apply pw_below_drewN | apply below_drew1 | refine below_set ?_ GE203.out | refine below_set ?_ GE205.out) | exact HB.out)) hb); clear BK203; clear BK205; clear HB; have BK203 := n0_; have BK205 := n1_; have HB := n2_; clear n0_ n1_ n2_; (try clear hb); (try clear hb2); (try clear hk); (try clear hi); have hcz20_0 : w19.cell? ⟨gb205, 0, none⟩ = some (.int .u64 a0_0) := (blk_cell BK205.out 0).trans rfl; have hcz20_1 : w19.cell? ⟨gb205, 1, none⟩ = some (.int .u64 a0_1) := (blk_cell BK205.out 1).trans rfl; have hfz20_0 := blk_frozen BK205.out 0; have hfz20_1 := blk_frozen BK205.out 1) | (go_at_call 11; (with_reducible refine (overfallref03_Fits.calls k t206 1 a0_0 a0_1 true _ A7.out).mono ?_); rintro e w21 ⟨rfl, hb⟩; have n0_ := Aside0.mk (blk_below (by exact BK203.out) hb); have n1_ := Aside0.mk (blk_below (by exact BK205.out) hb); have n2_ := Aside0.mk (below_step (by repeat (first | (with_reducible first | exact HB.out | apply below_alloc | apply pw_below_drewN | apply below_drew1 | refine below_set ?_ GE203.out | refine below_set ?_ GE205.out) | exact HB.out)) hb); clear BK203; clear BK205; clear HB; have BK203 := n0_; have BK205 := n1_; have HB := n2_; clear n0_ n1_ n2_; (try clear hb); (try clear hb2); (try clear hk); (try clear hi)))
     go_ret
     exact ⟨by first | rfl | (simp [errW_none, errW_some] <;> rfl) | (simp [*, errW_none, errW_some] <;> rfl), by repeat (first | (with_reducible first | exact HB.out | apply below_alloc | apply pw_below_drewN | apply below_drew1 | refine below_set ?_ GE203.out | refine below_set ?_ GE205.out) | exact HB.out)⟩
    ·rw [if_neg c9] at H
     have c9b0 : (t206 == 18446744073709551615) = false := beq_eq_false_iff_ne.mpr c9
     have c9b1 : (t206 != 18446744073709551615) = true := bne_iff_ne.mpr c9
     replace H := Option.bind_eq_some_iff.mp H
     obtain ⟨t209, A220, H⟩ := H
     replace H : (some (!t209)) = some r := H
     have A22 := Aside0.mk A220
     clear A220
     obtain rfl := Option.some.inj H
     go_enter Try.func3, Try.ntmps3
     go_wp2_with (first | ((with_reducible refine gate_dst (N := 1) rfl ?_); refine box_event ?hg (N := 1) ?hd (cs := #[.int .u64 a0_0, .int .u64 a0_1]) (t := 24) ?hr ?_; (case hd => rfl); (case hg => rfl); (case hr => first | (go_simp; done) | (go_simp; rfl)); intro gb203 hg w23 hbox hb; have n0_ := Aside0.mk (below_step (by repeat (first | (with_reducible first | exact HB.out | apply below_alloc | apply pw_below_drewN | apply below_drew1) | exact HB.out)) hb); have n1_ := Aside0.mk (hbox); have n2_ := Aside0.mk ((by rw [hg]; exact (below_size (by repeat (first | (with_reducible first | exact HB.out | apply below_alloc | apply pw_below_drewN | apply below_drew1) | exact HB.out))) : w.heap.size ≤ gb203)); have n3_ := Aside0.mk ((by rw [hg]; exact (below_size (by repeat (first | (with_reducible first | exact HB.out | apply below_alloc | apply pw_below_drewN | apply below_drew1) | exact HB.out))) : w.heap.size ≤ gb203)); clear HB; have HB := n0_; have BK203 := n1_; have GW203 := n2_; have GE203 := n3_; clear n0_ n1_ n2_ n3_; clear hb hbox hg) | ((with_reducible refine gate_callee (f := 8) rfl ?_); refine goesL_ (some 5) rfl rfl Try.func8 (by kernel_rfl) rfl #[] rfl (by (try simp only [List.map_toArray, List.map_cons, List.map_nil]); first | done | rfl | (simp only [List.length_drop, List.length_take]; rfl)) ?_; (with_reducible refine (overfalllaw03_awake.calls k  true _ A2.out).mono ?_); rintro e w24 ⟨rfl, hb⟩; refine ⟨_, rfl, ?_⟩; have n0_ := Aside0.mk (blk_below (by exact BK203.out) hb); have n1_ := Aside0.mk (below_step (by repeat (first | (with_reducible first | exact HB.out | apply below_alloc | apply pw_below_drewN | apply below_drew1 | refine below_set ?_ GE203.out) | exact HB.out)) hb); clear BK203; clear HB; have BK203 := n0_; have HB := n1_; clear n0_ n1_; (try clear hb); (try clear hb2); (try clear hk); (try clear hi); have hcz25_0 : w24.cell? ⟨gb203, 0, none⟩ = some (.int .u64 a0_0) := (blk_cell BK203.out 0).trans rfl; have hcz25_1 : w24.cell? ⟨gb203, 1, none⟩ = some (.int .u64 a0_1) := (blk_cell BK203.out 1).trans rfl; have hfz25_0 := blk_frozen BK203.out 0; have hfz25_1 := blk_frozen BK203.out 1) | ((with_reducible refine gate_dst (N := 3) rfl ?_); refine box_event ?hg (N := 3) ?hd (cs := #[.int .u64 0, .int .u64 0]) (t := 26) ?hr ?_; (case hd => rfl); (case hg => rfl); (case hr => first | (go_simp; done) | (go_simp; rfl)); intro gb205 hg w26 hbox hb; have n0_ := Aside0.mk (blk_below (by exact BK203.out) hb); have n1_ := Aside0.mk (below_step (by repeat (first | (with_reducible first | exact HB.out | apply below_alloc | apply pw_below_drewN | apply below_drew1 | refine below_set ?_ GE203.out) | exact HB.out)) hb); have n2_ := Aside0.mk (hbox); have n3_ := Aside0.mk ((by rw [hg]; exact (below_size (by repeat (first | (with_reducible first | exact HB.out | apply below_alloc | apply pw_below_drewN | apply below_drew1 | refine below_set ?_ GE203.out) | exact HB.out))) : w.heap.size ≤ gb205)); have n4_ := Aside0.mk ((by rw [hg]; exact (below_size (by repeat (first | (with_reducible first | exact HB.out | apply below_alloc | apply pw_below_drewN | apply below_drew1 | refine below_set ?_ GE203.out) | exact HB.out))) : w.heap.size ≤ gb205)); have n5_ := Aside0.mk ((by rw [hg]; exact Nat.ne_of_lt (blk_lt (by exact BK203.out)) : gb203 ≠ gb205)); have n6_ := Aside0.mk ((by rw [hg]; exact Nat.ne_of_gt (blk_lt (by exact BK203.out)) : gb205 ≠ gb203)); clear BK203; clear HB; have BK203 := n0_; have HB := n1_; have BK205 := n2_; have GW205 := n3_; have GE205 := n4_; have NB203_205 := n5_; have NB205_203 := n6_; clear n0_ n1_ n2_ n3_ n4_ n5_ n6_; clear hb hbox hg; have hnb27 := NB205_203.out; have hnc27 := NB203_205.out; have hcz28_0 : w26.cell? ⟨gb205, 0, none⟩ = some (.int .u64 0) := (blk_cell BK205.out 0).trans rfl; have hcz28_1 : w26.cell? ⟨gb205, 1, none⟩ = some (.int .u64 0) := (blk_cell BK205.out 1).trans rfl; have hfz28_0 := blk_frozen BK205.out 0; have hfz28_1 := blk_frozen BK205.out 1; have hcz29_0 : w26.cell? ⟨gb203, 0, none⟩ = some (.int .u64 a0_0) := (blk_cell BK203.out 0).trans rfl; have hcz29_1 : w26.cell? ⟨gb203, 1, none⟩ = some (.int .u64 a0_1) := (blk_cell BK203.out 1).trans rfl; have hfz29_0 := blk_frozen BK203.out 0; have hfz29_1 := blk_frozen BK203.out 1) | ((with_reducible refine gate_callee (f := 9) rfl ?_); refine goesL_ (some 9) rfl rfl Try.func9 (by kernel_rfl) rfl #[.agg #[.int .u64 a0_0, .int .u64 a0_1]] rfl (by (try simp only [List.map_toArray, List.map_cons, List.map_nil]); first | done | rfl | (simp only [List.length_drop, List.length_take]; rfl)) ?_; (with_reducible refine (root_Wide.calls k a0_0 a0_1 t206 _ A4.out).mono ?_); rintro e w30 ⟨rfl, hb⟩; refine ⟨_, rfl, ?_⟩; have n0_ := Aside0.mk (blk_below (g := gb203) (o := .cells #[.int .u64 a0_0, .int .u64 a0_1] 24 (0, 0)) (by refine blk_far ?_ NB203_205.out _; refine blk_far ?_ NB203_205.out _; exact BK203.out) hb); have n1_ := Aside0.mk (blk_below (g := gb205) (o := .cells #[.int .u64 a0_0, .int .u64 a0_1] 26 (0, 0)) (by refine blk_put (cs := #[.int .u64 a0_0, .int .u64 0]) ?_ 1 _ rfl; refine blk_put (cs := #[.int .u64 0, .int .u64 0]) ?_ 0 _ rfl; exact BK205.out) hb); have n2_ := Aside0.mk (below_step (by repeat (first | (with_reducible first | exact HB.out | apply below_alloc | apply pw_below_drewN | apply below_drew1 | refine below_set ?_ GE203.out | refine below_set ?_ GE205.out) | exact HB.out)) hb); clear BK203; clear BK205; clear HB; have BK203 := n0_; have BK205 := n1_; have HB := n2_; clear n0_ n1_ n2_; (try clear hb); (try clear hb2); (try clear hk); (try clear hi); have hcz31_0 : w30.cell? ⟨gb205, 0, none⟩ = some (.int .u64 a0_0) := (blk_cell BK205.out 0).trans rfl; have hcz31_1 : w30.cell? ⟨gb205, 1, none⟩ = some (.int .u64 a0_1) := (blk_cell BK205.out 1).trans rfl; have hfz31_0 := blk_frozen BK205.out 0; have hfz31_1 := blk_frozen BK205.out 1) | ((with_reducible refine gate_callee (f := 10) rfl ?_); refine goesL_ (some 12) rfl rfl Try.func10 (by kernel_rfl) rfl #[.agg #[.int .u64 a0_0, .int .u64 a0_1]] rfl (by (try simp only [List.map_toArray, List.map_cons, List.map_nil]); first | done | rfl | (simp only [List.length_drop, List.length_take]; rfl)) ?_; (with_reducible refine (overfallref03_Sqrt.calls k a0_0 a0_1 t207 _ A5.out).mono ?_); rintro e w32 ⟨rfl, hb⟩; refine ⟨_, rfl, ?_⟩; have n0_ := Aside0.mk (blk_below (by exact BK203.out) hb); have n1_ := Aside0.mk (blk_below (by exact BK205.out) hb); have n2_ := Aside0.mk (below_step (by repeat (first | (with_reducible first | exact HB.out | apply below_alloc | apply pw_below_drewN | apply below_drew1 | refine below_set ?_ GE203.out | refine below_set ?_ GE205.out) | exact HB.out)) hb); clear BK203; clear BK205; clear HB; have BK203 := n0_; have BK205 := n1_; have HB := n2_; clear n0_ n1_ n2_; (try clear hb); (try clear hb2); (try clear hk); (try clear hi); have hcz33_0 : w32.cell? ⟨gb205, 0, none⟩ = some (.int .u64 a0_0) := (blk_cell BK205.out 0).trans rfl; have hcz33_1 : w32.cell? ⟨gb205, 1, none⟩ = some (.int .u64 a0_1) := (blk_cell BK205.out 1).trans rfl; have hfz33_0 := blk_frozen BK205.out 0; have hfz33_1 := blk_frozen BK205.out 1) | (go_at_call 11; (with_reducible refine (overfallref03_Fits.calls k t206 1 a0_0 a0_1 true _ A7.out).mono ?_); rintro e w34 ⟨rfl, hb⟩; have n0_ := Aside0.mk (blk_below (by exact BK203.out) hb); have n1_ := Aside0.mk (blk_below (by exact BK205.out) hb); have n2_ := Aside0.mk (below_step (by repeat (first | (with_reducible first | exact HB.out | apply below_alloc | apply pw_below_drewN | apply below_drew1 | refine below_set ?_ GE203.out | refine below_set ?_ GE205.out) | exact HB.out)) hb); clear BK203; clear BK205; clear HB; have BK203 := n0_; have BK205 := n1_; have HB := n2_; clear n0_ n1_ n2_; (try clear hb); (try clear hb2); (try clear hk); (try clear hi); have hcz35_0 : w34.cell? ⟨gb205, 0, none⟩ = some (.int .u64 a0_0) := (blk_cell BK205.out 0).trans rfl; have hcz35_1 : w34.cell? ⟨gb205, 1, none⟩ = some (.int .u64 a0_1) := (blk_cell BK205.out 1).trans rfl; have hfz35_0 := blk_frozen BK205.out 0; have hfz35_1 := blk_frozen BK205.out 1) | (go_at_call 11; (with_reducible refine (overfallref03_Fits.calls k (IntKind.u64.wrap (t206 + 1)) 1 a0_0 a0_1 t209 _ A22.out).mono ?_); rintro e w36 ⟨rfl, hb⟩; have n0_ := Aside0.mk (blk_below (by exact BK203.out) hb); have n1_ := Aside0.mk (blk_below (by exact BK205.out) hb); have n2_ := Aside0.mk (below_step (by repeat (first | (with_reducible first | exact HB.out | apply below_alloc | apply pw_below_drewN | apply below_drew1 | refine below_set ?_ GE203.out | refine below_set ?_ GE205.out) | exact HB.out)) hb); clear BK203; clear BK205; clear HB; have BK203 := n0_; have BK205 := n1_; have HB := n2_; clear n0_ n1_ n2_; (try clear hb); (try clear hb2); (try clear hk); (try clear hi)))
     go_ret
     exact ⟨by first | rfl | (simp [errW_none, errW_some] <;> rfl) | (simp [*, errW_none, errW_some] <;> rfl), by repeat (first | (with_reducible first | exact HB.out | apply below_alloc | apply pw_below_drewN | apply below_drew1 | refine below_set ?_ GE203.out | refine below_set ?_ GE205.out) | exact HB.out)⟩
   ·replace c8 := Bool.eq_false_iff.mpr c8
    subst c8
    have H1 : (none) = some r := by rw [if_neg (show ¬ (false = true) by decide)] at H; exact H
    clear H
    have H := H1
    clear H1
    exact absurd H (by simp)
  ·rw [if_neg c6] at H
   exact absurd H (by simp)
 ·replace c3 := Bool.eq_false_iff.mpr c3
  subst c3
  have H1 : (none) = some r := by rw [if_neg (show ¬ (false = true) by decide)] at H; exact H
  clear H
  have H := H1
  clear H1
  exact absurd H (by simp)

/-! ### overfallref03_Law: function 13 -/
def overfallref03_Law.f (k : Nat) (a0 : Int) (a1 : Int) : Option (Int) := if a0 ≤ 0 then (some 0) else ((overfallref01_Mul.f k (IntKind.u64.wrap (a0)) (IntKind.u64.wrap (a0))).bind fun bt210 => ((overfallref03_Most.f k a1 bt210.1 bt210.2).bind fun t212 => (some (wrap64 (t212)))))
theorem overfallref03_Law.mono : ∀ a0 a1 k, LeO (overfallref03_Law.f k a0 a1) (overfallref03_Law.f (k + 1) a0 a1) := by
 intro a0 a1 k
 unfold overfallref03_Law.f
 repeat' first
   | (with_reducible exact overfallref01_Mul.mono _ _ _)
   | (with_reducible exact overfallref03_Most.mono _ _ _ _)
   | (with_reducible exact LeO.refl _)
   | (with_reducible exact LeO.none _)
   | (with_reducible refine LeO.ite ?_ ?_)
   | (with_reducible refine LeO.bind ?_ (fun _ => ?_))
   | exact overfallref01_Mul.mono _ _ _
   | exact overfallref03_Most.mono _ _ _ _
   | exact LeO.none _
   | refine LeO.ite ?_ ?_
   | refine LeO.bind ?_ (fun _ => ?_)
set_option maxHeartbeats 8000000 in
set_option maxRecDepth 100000 in
theorem overfallref03_Law.calls (k : Nat) (a0 : Int) (a1 : Int) (r : Int) (w : World) (h : overfallref03_Law.f k a0 a1 = some r) :
  Calls Try.prog 13 #[.int .i64 a0, .int .u64 a1] w fun e w' => e = .returned (.int .i64 r) ∧ Below w.heap.size w w' := by
 have HB := Aside0.mk (Below.refl w.heap.size w)
 have H : (if a0 ≤ 0 then (some 0) else ((overfallref01_Mul.f k (IntKind.u64.wrap (a0)) (IntKind.u64.wrap (a0))).bind fun bt210 => ((overfallref03_Most.f k a1 bt210.1 bt210.2).bind fun t212 => (some (wrap64 (t212)))))) = some r := h
 clear h
 by_cases c3 : a0 ≤ 0
 ·rw [if_pos c3] at H
  have c3b0 : decide (a0 ≤ 0) = true := decide_eq_true c3
  clear c3
  obtain rfl := Option.some.inj H
  go_enter Try.func13, Try.ntmps13
  go_wp2
  go_ret
  exact ⟨by first | rfl | (simp [errW_none, errW_some] <;> rfl) | (simp [*, errW_none, errW_some] <;> rfl), by repeat (first | (with_reducible first | exact HB.out | apply below_alloc | apply pw_below_drewN | apply below_drew1) | exact HB.out)⟩
 ·rw [if_neg c3] at H
  have c3b0 : decide (a0 ≤ 0) = false := decide_eq_false c3
  clear c3
  replace H := Option.bind_eq_some_iff.mp H
  obtain ⟨⟨t210, t211⟩, A40, H⟩ := H
  replace H : ((overfallref03_Most.f k a1 t210 t211).bind fun t212 => (some (wrap64 (t212)))) = some r := H
  have A4 := Aside0.mk A40
  clear A40
  replace H := Option.bind_eq_some_iff.mp H
  obtain ⟨t212, A50, H⟩ := H
  replace H : (some (wrap64 (t212))) = some r := H
  have A5 := Aside0.mk A50
  clear A50
  obtain rfl := Option.some.inj H
  go_enter Try.func13, Try.ntmps13
  go_wp2_with (first | ((with_reducible refine gate_callee (f := 14) rfl ?_); refine goesL_ (some 12) rfl rfl Try.func14 (by kernel_rfl) rfl #[.int .u64 (IntKind.u64.wrap (a0)), .int .u64 (IntKind.u64.wrap (a0))] rfl (by (try simp only [List.map_toArray, List.map_cons, List.map_nil]); first | done | rfl | (simp only [List.length_drop, List.length_take]; rfl)) ?_; (with_reducible refine (overfallref01_Mul.calls k (IntKind.u64.wrap (a0)) (IntKind.u64.wrap (a0)) t210 t211 _ A4.out).mono ?_); rintro e w6 ⟨rfl, hb⟩; refine ⟨_, rfl, ?_⟩; have n0_ := Aside0.mk (below_step (by repeat (first | (with_reducible first | exact HB.out | apply below_alloc | apply pw_below_drewN | apply below_drew1) | exact HB.out)) hb); clear HB; have HB := n0_; clear n0_; (try clear hb); (try clear hb2); (try clear hk); (try clear hi)) | ((with_reducible refine gate_callee (f := 20) rfl ?_); refine goesL_ (some 13) rfl rfl Try.func20 (by kernel_rfl) rfl #[.int .u64 a1, .agg #[.int .u64 t210, .int .u64 t211]] rfl (by (try simp only [List.map_toArray, List.map_cons, List.map_nil]); first | done | rfl | (simp only [List.length_drop, List.length_take]; rfl)) ?_; (with_reducible refine (overfallref03_Most.calls k a1 t210 t211 t212 _ A5.out).mono ?_); rintro e w7 ⟨rfl, hb⟩; refine ⟨_, rfl, ?_⟩; have n0_ := Aside0.mk (below_step (by repeat (first | (with_reducible first | exact HB.out | apply below_alloc | apply pw_below_drewN | apply below_drew1) | exact HB.out)) hb); clear HB; have HB := n0_; clear n0_; (try clear hb); (try clear hb2); (try clear hk); (try clear hi)))
  go_ret
  exact ⟨by first | rfl | (simp [errW_none, errW_some] <;> rfl) | (simp [*, errW_none, errW_some] <;> rfl), by repeat (first | (with_reducible first | exact HB.out | apply below_alloc | apply pw_below_drewN | apply below_drew1) | exact HB.out)⟩

/-! ### overfalllaw03_RootLaws: function 4 -/
def overfalllaw03_RootLaws.j0 : Nat → Int → Int → Int → Bool → Option (Bool)
 | 0, _, _, _, _ => none
 | k + 1, x0, x1, x5, x20 => if x20 = true then (none) else (if x0 < 0 then (some (x5 == 0)) else ((overfallref01_Mul.f k (IntKind.u64.wrap (x0)) (IntKind.u64.wrap (x0))).bind fun bt216 => ((overfallref03_Fits.f k (IntKind.u64.wrap (x5)) x1 bt216.1 bt216.2).bind fun t219 => (if t219 = true then ((overfallref03_Fits.f k (IntKind.u64.wrap ((IntKind.u64.wrap (x5)) + 1)) x1 bt216.1 bt216.2).bind fun t220 => (if t220 = true then (none) else (some (decide (x5 ≤ x0))))) else (none)))))
def overfalllaw03_RootLaws.f (k : Nat) (a0 : Int) (a1 : Int) : Option (Bool) := (overfalllaw03_awake.f k).bind fun t213 => (if t213 = true then ((root_Law.f k a0 a1).bind fun t214 => ((overfallref03_Law.f k a0 a1).bind fun t215 => (if t214 = t215 then (overfalllaw03_RootLaws.j0 k a0 a1 t214 (decide (t214 < 0))) else (overfalllaw03_RootLaws.j0 k a0 a1 t214 true)))) else (none))
theorem overfalllaw03_RootLaws.mono_l : ∀ k, (∀ y0 y1 y2 y3, LeO (overfalllaw03_RootLaws.j0 k y0 y1 y2 y3) (overfalllaw03_RootLaws.j0 (k + 1) y0 y1 y2 y3))
 | 0 => fun _ _ _ _ r h => by simp [overfalllaw03_RootLaws.j0] at h
 | k + 1 => by
  have ih0 := overfalllaw03_RootLaws.mono_l k
  ·intro y0 y1 y2 y3
   unfold overfalllaw03_RootLaws.j0
   repeat' first
   | (with_reducible exact ih0 _ _ _ _)
   | (with_reducible exact overfalllaw03_awake.mono _)
   | (with_reducible exact overfallref01_Mul.mono _ _ _)
   | (with_reducible exact overfallref03_Fits.mono _ _ _ _ _)
   | (with_reducible exact overfallref03_Law.mono _ _ _)
   | (with_reducible exact root_Law.mono _ _ _)
   | (with_reducible exact LeO.refl _)
   | (with_reducible exact LeO.none _)
   | (with_reducible refine LeO.ite ?_ ?_)
   | (with_reducible refine LeO.bind ?_ (fun _ => ?_))
   | exact ih0 _ _ _ _
   | exact overfalllaw03_awake.mono _
   | exact overfallref01_Mul.mono _ _ _
   | exact overfallref03_Fits.mono _ _ _ _ _
   | exact overfallref03_Law.mono _ _ _
   | exact root_Law.mono _ _ _
   | exact LeO.none _
   | refine LeO.ite ?_ ?_
   | refine LeO.bind ?_ (fun _ => ?_)
theorem overfalllaw03_RootLaws.mono : ∀ a0 a1 k, LeO (overfalllaw03_RootLaws.f k a0 a1) (overfalllaw03_RootLaws.f (k + 1) a0 a1) := by
 intro a0 a1 k
 have ih0 := overfalllaw03_RootLaws.mono_l k
 unfold overfalllaw03_RootLaws.f
 repeat' first
   | (with_reducible exact ih0 _ _ _ _)
   | (with_reducible exact overfalllaw03_awake.mono _)
   | (with_reducible exact overfallref01_Mul.mono _ _ _)
   | (with_reducible exact overfallref03_Fits.mono _ _ _ _ _)
   | (with_reducible exact overfallref03_Law.mono _ _ _)
   | (with_reducible exact root_Law.mono _ _ _)
   | (with_reducible exact LeO.refl _)
   | (with_reducible exact LeO.none _)
   | (with_reducible refine LeO.ite ?_ ?_)
   | (with_reducible refine LeO.bind ?_ (fun _ => ?_))
   | exact ih0 _ _ _ _
   | exact overfalllaw03_awake.mono _
   | exact overfallref01_Mul.mono _ _ _
   | exact overfallref03_Fits.mono _ _ _ _ _
   | exact overfallref03_Law.mono _ _ _
   | exact root_Law.mono _ _ _
   | exact LeO.none _
   | refine LeO.ite ?_ ?_
   | refine LeO.bind ?_ (fun _ => ?_)
set_option maxHeartbeats 8000000 in
set_option maxRecDepth 100000 in
theorem overfalllaw03_RootLaws.calls (k : Nat) (a0 : Int) (a1 : Int) (r : Bool) (w : World) (h : overfalllaw03_RootLaws.f k a0 a1 = some r) :
  Calls Try.prog 4 #[.int .i64 a0, .int .u64 a1] w fun e w' => e = .returned (.bool r) ∧ Below w.heap.size w w' := by
 have hu26 := Try.underlying26
 have HB := Aside0.mk (Below.refl w.heap.size w)
 have H : ((overfalllaw03_awake.f k).bind fun t213 => (if t213 = true then ((root_Law.f k a0 a1).bind fun t214 => ((overfallref03_Law.f k a0 a1).bind fun t215 => (if t214 = t215 then (overfalllaw03_RootLaws.j0 k a0 a1 t214 (decide (t214 < 0))) else (overfalllaw03_RootLaws.j0 k a0 a1 t214 true)))) else (none))) = some r := h
 clear h
 replace H := Option.bind_eq_some_iff.mp H
 obtain ⟨t213, A30, H⟩ := H
 replace H : (if t213 = true then ((root_Law.f k a0 a1).bind fun t214 => ((overfallref03_Law.f k a0 a1).bind fun t215 => (if t214 = t215 then (overfalllaw03_RootLaws.j0 k a0 a1 t214 (decide (t214 < 0))) else (overfalllaw03_RootLaws.j0 k a0 a1 t214 true)))) else (none)) = some r := H
 have A3 := Aside0.mk A30
 clear A30
 by_cases c4 : t213 = true
 ·subst c4
  have H1 : ((root_Law.f k a0 a1).bind fun t214 => ((overfallref03_Law.f k a0 a1).bind fun t215 => (if t214 = t215 then (overfalllaw03_RootLaws.j0 k a0 a1 t214 (decide (t214 < 0))) else (overfalllaw03_RootLaws.j0 k a0 a1 t214 true)))) = some r := by rw [if_pos rfl] at H; exact H
  clear H
  have H := H1
  clear H1
  replace H := Option.bind_eq_some_iff.mp H
  obtain ⟨t214, A50, H⟩ := H
  replace H : ((overfallref03_Law.f k a0 a1).bind fun t215 => (if t214 = t215 then (overfalllaw03_RootLaws.j0 k a0 a1 t214 (decide (t214 < 0))) else (overfalllaw03_RootLaws.j0 k a0 a1 t214 true))) = some r := H
  have A5 := Aside0.mk A50
  clear A50
  have HC6 := Aside0.mk H
  clear H
  go_enter Try.func4, Try.ntmps4
  go_upto_region 4 with (first | ((with_reducible refine gate_callee (f := 8) rfl ?_); refine goesL_ (some 7) rfl rfl Try.func8 (by kernel_rfl) rfl #[] rfl (by (try simp only [List.map_toArray, List.map_cons, List.map_nil]); first | done | rfl | (simp only [List.length_drop, List.length_take]; rfl)) ?_; (with_reducible refine (overfalllaw03_awake.calls k  true _ A3.out).mono ?_); rintro e w7 ⟨rfl, hb⟩; refine ⟨_, rfl, ?_⟩; have n0_ := Aside0.mk (below_step (by repeat (first | (with_reducible first | exact HB.out | apply below_alloc | apply pw_below_drewN | apply below_drew1) | exact HB.out)) hb); clear HB; have HB := n0_; clear n0_; (try clear hb); (try clear hb2); (try clear hk); (try clear hi)) | ((with_reducible refine gate_callee (f := 12) rfl ?_); refine goesL_ (some 11) rfl rfl Try.func12 (by kernel_rfl) rfl #[.int .i64 a0, .int .u64 a1] rfl (by (try simp only [List.map_toArray, List.map_cons, List.map_nil]); first | done | rfl | (simp only [List.length_drop, List.length_take]; rfl)) ?_; (with_reducible refine (root_Law.calls k a0 a1 t214 _ A5.out).mono ?_); rintro e w8 ⟨rfl, hb⟩; refine ⟨_, rfl, ?_⟩; have n0_ := Aside0.mk (below_step (by repeat (first | (with_reducible first | exact HB.out | apply below_alloc | apply pw_below_drewN | apply below_drew1) | exact HB.out)) hb); clear HB; have HB := n0_; clear n0_; (try clear hb); (try clear hb2); (try clear hk); (try clear hi)))
  (try simp only [Act.put, List.setIfInBounds_toArray, List.set_cons_zero, List.set_cons_succ])
  go_cut [20] (fun v20 wc => ∃ (kq : Nat) (x20_5 : Bool), v20 = .bool x20_5 ∧ Aside0 (overfalllaw03_RootLaws.j0 kq a0 a1 t214 x20_5 = some r) ∧ Aside0 (kq ≤ k) ∧ Aside0 (Below w.heap.size w wc))
  case first =>
   have H := HC6.out
   clear HC6
   replace H := Option.bind_eq_some_iff.mp H
   obtain ⟨t215, A90, H⟩ := H
   replace H : (if t214 = t215 then (overfalllaw03_RootLaws.j0 k a0 a1 t214 (decide (t214 < 0))) else (overfalllaw03_RootLaws.j0 k a0 a1 t214 true)) = some r := H
   have A9 := Aside0.mk A90
   clear A90
   by_cases c10 : t214 = t215
   ·rw [if_pos c10] at H
    have c10b0 : (t214 == t215) = true := beq_iff_eq.mpr c10
    have c10b1 : (t214 != t215) = false := bne_eq_false_iff_eq.mpr c10
    clear c10
    (first | rw [c10b0] | (simp only [i64_w, i32_w]; rw [c10b0]) | skip)
    have H' := Aside0.mk H
    clear H
    go_wp2_with (first | ((with_reducible refine gate_callee (f := 13) rfl ?_); refine goesL_ (some 15) rfl rfl Try.func13 (by kernel_rfl) rfl #[.int .i64 a0, .int .u64 a1] rfl (by (try simp only [List.map_toArray, List.map_cons, List.map_nil]); first | done | rfl | (simp only [List.length_drop, List.length_take]; rfl)) ?_; (with_reducible refine (overfallref03_Law.calls k a0 a1 t215 _ A9.out).mono ?_); rintro e w11 ⟨rfl, hb⟩; refine ⟨_, rfl, ?_⟩; have n0_ := Aside0.mk (below_step (by repeat (first | (with_reducible first | exact HB.out | apply below_alloc | apply pw_below_drewN | apply below_drew1) | exact HB.out)) hb); clear HB; have HB := n0_; clear n0_; (try clear hb); (try clear hb2); (try clear hk); (try clear hi)))
    go_meet
    case rel => exact ⟨_, (decide (t214 < 0)), (by first | rfl | (simp; done) | (simp [*]; done)), H', ⟨by first | omega | exact Nat.le_refl _⟩, ⟨by repeat (first | (with_reducible first | exact HB.out | apply below_alloc | apply pw_below_drewN | apply below_drew1) | exact HB.out)⟩⟩
   ·rw [if_neg c10] at H
    have c10b0 : (t214 == t215) = false := beq_eq_false_iff_ne.mpr c10
    have c10b1 : (t214 != t215) = true := bne_iff_ne.mpr c10
    (first | rw [c10b0] | (simp only [i64_w, i32_w]; rw [c10b0]) | skip)
    have H' := Aside0.mk H
    clear H
    go_wp2_with (first | ((with_reducible refine gate_callee (f := 13) rfl ?_); refine goesL_ (some 15) rfl rfl Try.func13 (by kernel_rfl) rfl #[.int .i64 a0, .int .u64 a1] rfl (by (try simp only [List.map_toArray, List.map_cons, List.map_nil]); first | done | rfl | (simp only [List.length_drop, List.length_take]; rfl)) ?_; (with_reducible refine (overfallref03_Law.calls k a0 a1 t215 _ A9.out).mono ?_); rintro e w12 ⟨rfl, hb⟩; refine ⟨_, rfl, ?_⟩; have n0_ := Aside0.mk (below_step (by repeat (first | (with_reducible first | exact HB.out | apply below_alloc | apply pw_below_drewN | apply below_drew1) | exact HB.out)) hb); clear HB; have HB := n0_; clear n0_; (try clear hb); (try clear hb2); (try clear hk); (try clear hi)))
    go_meet
    case rel => exact ⟨_, (true), (by first | rfl | (simp; done) | (simp [*]; done)), H', ⟨by first | omega | exact Nat.le_refl _⟩, ⟨by repeat (first | (with_reducible first | exact HB.out | apply below_alloc | apply pw_below_drewN | apply below_drew1) | exact HB.out)⟩⟩
  case rest =>
   clear HC6
   try clear c1
   try clear p2
   try clear c4
   try clear c8
   try clear c10
   try clear c10b0
   try clear c10b1
   try clear c12
   obtain ⟨kq, x20_5, rfl, HA, HJ5, HB⟩ := hcut
   cases kq with
   | zero => exact absurd HA.out (by simp [overfalllaw03_RootLaws.j0])
   | succ kj5 =>
    have H := HA.out
    clear HA
    simp only [overfalllaw03_RootLaws.j0] at H
    by_cases c13 : x20_5 = true
    ·subst c13
     have H1 : (none) = some r := by rw [if_pos rfl] at H; exact H
     clear H
     have H := H1
     clear H1
     exact absurd H (by simp)
    ·replace c13 := Bool.eq_false_iff.mpr c13
     subst c13
     have H1 : (if a0 < 0 then (some (t214 == 0)) else ((overfallref01_Mul.f kj5 (IntKind.u64.wrap (a0)) (IntKind.u64.wrap (a0))).bind fun bt216 => ((overfallref03_Fits.f kj5 (IntKind.u64.wrap (t214)) a1 bt216.1 bt216.2).bind fun t219 => (if t219 = true then ((overfallref03_Fits.f kj5 (IntKind.u64.wrap ((IntKind.u64.wrap (t214)) + 1)) a1 bt216.1 bt216.2).bind fun t220 => (if t220 = true then (none) else (some (decide (t214 ≤ a0))))) else (none))))) = some r := by rw [if_neg (show ¬ (false = true) by decide)] at H; exact H
     clear H
     have H := H1
     clear H1
     by_cases c14 : a0 < 0
     ·rw [if_pos c14] at H
      have c14b0 : decide (a0 < 0) = true := decide_eq_true c14
      clear c14
      obtain rfl := Option.some.inj H
      go_wp2
      go_ret
      exact ⟨by first | rfl | (simp [errW_none, errW_some] <;> rfl) | (simp [*, errW_none, errW_some] <;> rfl), by repeat (first | (with_reducible first | exact HB.out | apply below_alloc | apply pw_below_drewN | apply below_drew1) | exact HB.out)⟩
     ·rw [if_neg c14] at H
      have c14b0 : decide (a0 < 0) = false := decide_eq_false c14
      clear c14
      replace H := Option.bind_eq_some_iff.mp H
      obtain ⟨⟨t216, t217⟩, A150, H⟩ := H
      replace H : ((overfallref03_Fits.f kj5 (IntKind.u64.wrap (t214)) a1 t216 t217).bind fun t219 => (if t219 = true then ((overfallref03_Fits.f kj5 (IntKind.u64.wrap ((IntKind.u64.wrap (t214)) + 1)) a1 t216 t217).bind fun t220 => (if t220 = true then (none) else (some (decide (t214 ≤ a0))))) else (none))) = some r := H
      have A15 := Aside0.mk A150
      clear A150
      replace H := Option.bind_eq_some_iff.mp H
      obtain ⟨t219, A160, H⟩ := H
      replace H : (if t219 = true then ((overfallref03_Fits.f kj5 (IntKind.u64.wrap ((IntKind.u64.wrap (t214)) + 1)) a1 t216 t217).bind fun t220 => (if t220 = true then (none) else (some (decide (t214 ≤ a0))))) else (none)) = some r := H
      have A16 := Aside0.mk A160
      clear A160
      by_cases c17 : t219 = true
      ·subst c17
       have H1 : ((overfallref03_Fits.f kj5 (IntKind.u64.wrap ((IntKind.u64.wrap (t214)) + 1)) a1 t216 t217).bind fun t220 => (if t220 = true then (none) else (some (decide (t214 ≤ a0))))) = some r := by rw [if_pos rfl] at H; exact H
       clear H
       have H := H1
       clear H1
       replace H := Option.bind_eq_some_iff.mp H
       obtain ⟨t220, A180, H⟩ := H
       replace H : (if t220 = true then (none) else (some (decide (t214 ≤ a0)))) = some r := H
       have A18 := Aside0.mk A180
       clear A180
       by_cases c19 : t220 = true
       ·subst c19
        have H1 : (none) = some r := by rw [if_pos rfl] at H; exact H
        clear H
        have H := H1
        clear H1
        exact absurd H (by simp)
       ·replace c19 := Bool.eq_false_iff.mpr c19
        subst c19
        have H1 : (some (decide (t214 ≤ a0))) = some r := by rw [if_neg (show ¬ (false = true) by decide)] at H; exact H
        clear H
        have H := H1
        clear H1
        obtain rfl := Option.some.inj H
        go_wp2_with (first | ((with_reducible refine gate_callee (f := 14) rfl ?_); refine goesL_ (some 29) rfl rfl Try.func14 (by kernel_rfl) rfl #[.int .u64 (IntKind.u64.wrap (a0)), .int .u64 (IntKind.u64.wrap (a0))] rfl (by (try simp only [List.map_toArray, List.map_cons, List.map_nil]); first | done | rfl | (simp only [List.length_drop, List.length_take]; rfl)) ?_; (with_reducible refine (overfallref01_Mul.calls kj5 (IntKind.u64.wrap (a0)) (IntKind.u64.wrap (a0)) t216 t217 _ A15.out).mono ?_); rintro e w20 ⟨rfl, hb⟩; refine ⟨_, rfl, ?_⟩; have n0_ := Aside0.mk (below_step (by repeat (first | (with_reducible first | exact HB.out | apply below_alloc | apply pw_below_drewN | apply below_drew1) | exact HB.out)) hb); clear HB; have HB := n0_; clear n0_; (try clear hb); (try clear hb2); (try clear hk); (try clear hi)) | ((with_reducible refine gate_dst (N := 6) rfl ?_); refine box_event ?hg (N := 6) ?hd (cs := #[.int .u64 0, .int .u64 0]) (t := 26) ?hr ?_; (case hd => rfl); (case hg => rfl); (case hr => first | (go_simp; done) | (go_simp; rfl)); intro gb218 hg w21 hbox hb; have n0_ := Aside0.mk (below_step (by repeat (first | (with_reducible first | exact HB.out | apply below_alloc | apply pw_below_drewN | apply below_drew1) | exact HB.out)) hb); have n1_ := Aside0.mk (hbox); have n2_ := Aside0.mk ((by rw [hg]; exact (below_size (by repeat (first | (with_reducible first | exact HB.out | apply below_alloc | apply pw_below_drewN | apply below_drew1) | exact HB.out))) : w.heap.size ≤ gb218)); have n3_ := Aside0.mk ((by rw [hg]; exact (below_size (by repeat (first | (with_reducible first | exact HB.out | apply below_alloc | apply pw_below_drewN | apply below_drew1) | exact HB.out))) : w.heap.size ≤ gb218)); clear HB; have HB := n0_; have BK218 := n1_; have GW218 := n2_; have GE218 := n3_; clear n0_ n1_ n2_ n3_; clear hb hbox hg; have hcz22_0 : w21.cell? ⟨gb218, 0, none⟩ = some (.int .u64 0) := (blk_cell BK218.out 0).trans rfl; have hcz22_1 : w21.cell? ⟨gb218, 1, none⟩ = some (.int .u64 0) := (blk_cell BK218.out 1).trans rfl; have hfz22_0 := blk_frozen BK218.out 0; have hfz22_1 := blk_frozen BK218.out 1) | ((with_reducible refine gate_callee (f := 11) rfl ?_); refine goesL_ (some 34) rfl rfl Try.func11 (by kernel_rfl) rfl #[.int .u64 (IntKind.u64.wrap (t214)), .int .u64 a1, .agg #[.int .u64 t216, .int .u64 t217]] rfl (by (try simp only [List.map_toArray, List.map_cons, List.map_nil]); first | done | rfl | (simp only [List.length_drop, List.length_take]; rfl)) ?_; (with_reducible refine (overfallref03_Fits.calls kj5 (IntKind.u64.wrap (t214)) a1 t216 t217 true _ A16.out).mono ?_); rintro e w23 ⟨rfl, hb⟩; refine ⟨_, rfl, ?_⟩; have n0_ := Aside0.mk (blk_below (g := gb218) (o := .cells #[.int .u64 t216, .int .u64 t217] 26 (0, 0)) (by refine blk_put (cs := #[.int .u64 t216, .int .u64 0]) ?_ 1 _ rfl; refine blk_put (cs := #[.int .u64 0, .int .u64 0]) ?_ 0 _ rfl; exact BK218.out) hb); have n1_ := Aside0.mk (below_step (by repeat (first | (with_reducible first | exact HB.out | apply below_alloc | apply pw_below_drewN | apply below_drew1 | refine below_set ?_ GE218.out) | exact HB.out)) hb); clear BK218; clear HB; have BK218 := n0_; have HB := n1_; clear n0_ n1_; (try clear hb); (try clear hb2); (try clear hk); (try clear hi); have hcz24_0 : w23.cell? ⟨gb218, 0, none⟩ = some (.int .u64 t216) := (blk_cell BK218.out 0).trans rfl; have hcz24_1 : w23.cell? ⟨gb218, 1, none⟩ = some (.int .u64 t217) := (blk_cell BK218.out 1).trans rfl; have hfz24_0 := blk_frozen BK218.out 0; have hfz24_1 := blk_frozen BK218.out 1) | (go_at_call 11; (with_reducible refine (overfallref03_Fits.calls kj5 (IntKind.u64.wrap ((IntKind.u64.wrap (t214)) + 1)) a1 t216 t217 false _ A18.out).mono ?_); rintro e w25 ⟨rfl, hb⟩; have n0_ := Aside0.mk (blk_below (by exact BK218.out) hb); have n1_ := Aside0.mk (below_step (by repeat (first | (with_reducible first | exact HB.out | apply below_alloc | apply pw_below_drewN | apply below_drew1 | refine below_set ?_ GE218.out) | exact HB.out)) hb); clear BK218; clear HB; have BK218 := n0_; have HB := n1_; clear n0_ n1_; (try clear hb); (try clear hb2); (try clear hk); (try clear hi)))
        go_ret
        exact ⟨by first | rfl | (simp [errW_none, errW_some] <;> rfl) | (simp [*, errW_none, errW_some] <;> rfl), by repeat (first | (with_reducible first | exact HB.out | apply below_alloc | apply pw_below_drewN | apply below_drew1 | refine below_set ?_ GE218.out) | exact HB.out)⟩
      ·replace c17 := Bool.eq_false_iff.mpr c17
       subst c17
       have H1 : (none) = some r := by rw [if_neg (show ¬ (false = true) by decide)] at H; exact H
       clear H
       have H := H1
       clear H1
       exact absurd H (by simp)
 ·replace c4 := Bool.eq_false_iff.mpr c4
  subst c4
  have H1 : (none) = some r := by rw [if_neg (show ¬ (false = true) by decide)] at H; exact H
  clear H
  have H := H1
  clear H1
  exact absurd H (by simp)

/-- THE ONE PURE STATEMENT of overfalllaw03_RootLaws: yours. -/
def overfalllaw03_RootLaws.Pure : Prop := ∀ (a0 : Int) (a1 : Int), (Lit.int .i64 a0).wf = true → (Lit.int .u64 a1).wf = true → ∃ k, overfalllaw03_RootLaws.f k a0 a1 = some true
theorem overfalllaw03_RootLaws.walk (P : overfalllaw03_RootLaws.Pure) (a0 : Int) (a1 : Int) (w : World) (w0 : (Lit.int .i64 a0).wf = true) (w1 : (Lit.int .u64 a1).wf = true) :
  Calls Try.prog 4 #[.int .i64 a0, .int .u64 a1] w fun e w' => e = .returned (.bool true) ∧ Below w.heap.size w w' := by
 obtain ⟨k, h⟩ := P a0 a1 w0 w1
 refine (overfalllaw03_RootLaws.calls k a0 a1 true w h).mono ?_
 rintro e w' ⟨rfl, hd⟩
 exact ⟨rfl, hd⟩

end Go.Proofs.Ytbpjgkidhlkiiaa.G

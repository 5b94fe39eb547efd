-- Laid by a program of this claim's session (wip/tools/myprint.py) over the kit's printer.
import Derived.Test.YtiiffgmbkajkhaaLx0
import Derived.Test.YtiiffgmbkajkhaaLx2
import Derived.Test.YtiiffgmbkajkhaaLx4
namespace Go.Proofs.Ytiiffgmbkajkhaa.L
open Go.RowKit Go.Proofs.YtiiffgmbkajkhaaW.PrintWords Go.Proofs.YtiiffgmbkajkhaaW.PrintLast Go.Proofs.YtiiffgmbkajkhaaW.PrintMore
attribute [local go_sem] max2_int min2_int max_two min_two max_three min_three max_four min_four   -- for this text's walks alone
set_option linter.unusedVariables false
set_option linter.unusedSimpArgs false

/-! ### codel_State_More: function 16 -/
def codel_State_More.f (k : Nat) (a0_0 : Bool) (a0_1 : Int) (a0_2 : Bool) (a0_3 : Int) (a0_4 : Int) (a0_5 : Int) (a1_0 : Int) (a1_1 : Int) (a2 : Int) (a3 : Int) (a4 : Int) : Option (Bool × Int × Bool × Int × Int × Int × Int) := (codel_State_note.f k a0_0 a0_1 a0_2 a0_3 a0_4 a0_5 a1_0 a1_1 a2 a3 a4).bind fun bt221 => (if bt221.2.2.2.2.2.2 = true then ((codel_State_later.f k bt221.1 bt221.2.1 bt221.2.2.1 bt221.2.2.2.1 bt221.2.2.2.2.1 bt221.2.2.2.2.2.1 a1_0 a1_1 bt221.2.2.2.1).bind fun t228 => ((codel_State_due.f bt221.1 bt221.2.1 bt221.2.2.1 t228 bt221.2.2.2.2.1 bt221.2.2.2.2.2.1 a2).bind fun bt229 => (some (bt229.1, bt229.2.1, bt229.2.2.1, bt229.2.2.2.1, bt229.2.2.2.2.1, bt229.2.2.2.2.2.1, bt229.2.2.2.2.2.2)))) else (some (bt221.1, bt221.2.1, false, bt221.2.2.2.1, bt221.2.2.2.2.1, bt221.2.2.2.2.2.1, 0)))
theorem codel_State_More.mono : ∀ a0 a1 a2 a3 a4 a5 a6 a7 a8 a9 a10 k, LeO (codel_State_More.f k a0 a1 a2 a3 a4 a5 a6 a7 a8 a9 a10) (codel_State_More.f (k + 1) a0 a1 a2 a3 a4 a5 a6 a7 a8 a9 a10) := by
 intro a0 a1 a2 a3 a4 a5 a6 a7 a8 a9 a10 k
 unfold codel_State_More.f
 repeat' first
   | (with_reducible exact codel_State_later.mono _ _ _ _ _ _ _ _ _ _)
   | (with_reducible exact codel_State_note.mono _ _ _ _ _ _ _ _ _ _ _ _)
   | (with_reducible exact LeO.refl _)
   | (with_reducible exact LeO.none _)
   | (with_reducible refine LeO.ite ?_ ?_)
   | (with_reducible refine LeO.bind ?_ (fun _ => ?_))
   | exact codel_State_later.mono _ _ _ _ _ _ _ _ _ _
   | exact codel_State_note.mono _ _ _ _ _ _ _ _ _ _ _ _
   | exact LeO.none _
   | refine LeO.ite ?_ ?_
   | refine LeO.bind ?_ (fun _ => ?_)
set_option maxHeartbeats 8000000 in
set_option maxRecDepth 100000 in
theorem codel_State_More.calls (k : Nat) (a0_0 : Bool) (a0_1 : Int) (a0_2 : Bool) (a0_3 : Int) (a0_4 : Int) (a0_5 : Int) (a1_0 : Int) (a1_1 : Int) (a2 : Int) (a3 : Int) (a4 : Int) (r1 : Bool) (r2 : Int) (r3 : Bool) (r4 : Int) (r5 : Int) (r6 : Int) (r7 : Int) (w : World) (h : codel_State_More.f k a0_0 a0_1 a0_2 a0_3 a0_4 a0_5 a1_0 a1_1 a2 a3 a4 = some (r1, r2, r3, r4, r5, r6, r7)) :
  Calls Try.prog 16 #[.agg #[.bool a0_0, .int .i64 a0_1, .bool a0_2, .int .i64 a0_3, .int .u64 a0_4, .int .u64 a0_5], .agg #[.int .i64 a1_0, .int .i64 a1_1], .int .i64 a2, .int .i64 a3, .int .i64 a4] w fun e w' => e = .returned (.tuple #[.agg #[.bool r1, .int .i64 r2, .bool r3, .int .i64 r4, .int .u64 r5, .int .u64 r6], .int .i64 r7]) ∧ Below w.heap.size w w' := by
 have hu24 := Try.underlying24
 have hu26 := Try.underlying26
 have HB := m_ (Below.refl w.heap.size w)
 have H : ((codel_State_note.f k a0_0 a0_1 a0_2 a0_3 a0_4 a0_5 a1_0 a1_1 a2 a3 a4).bind fun bt221 => (if bt221.2.2.2.2.2.2 = true then ((codel_State_later.f k bt221.1 bt221.2.1 bt221.2.2.1 bt221.2.2.2.1 bt221.2.2.2.2.1 bt221.2.2.2.2.2.1 a1_0 a1_1 bt221.2.2.2.1).bind fun t228 => ((codel_State_due.f bt221.1 bt221.2.1 bt221.2.2.1 t228 bt221.2.2.2.2.1 bt221.2.2.2.2.2.1 a2).bind fun bt229 => (some (bt229.1, bt229.2.1, bt229.2.2.1, bt229.2.2.2.1, bt229.2.2.2.2.1, bt229.2.2.2.2.2.1, bt229.2.2.2.2.2.2)))) else (some (bt221.1, bt221.2.1, false, bt221.2.2.2.1, bt221.2.2.2.2.1, bt221.2.2.2.2.2.1, 0)))) = some (r1, r2, r3, r4, r5, r6, r7) := h
 clear h
 replace H := Option.bind_eq_some_iff.mp H
 obtain ⟨⟨t221, t222, t223, t224, t225, t226, t227⟩, A60, H⟩ := H
 replace H : (if t227 = true then ((codel_State_later.f k t221 t222 t223 t224 t225 t226 a1_0 a1_1 t224).bind fun t228 => ((codel_State_due.f t221 t222 t223 t228 t225 t226 a2).bind fun bt229 => (some (bt229.1, bt229.2.1, bt229.2.2.1, bt229.2.2.2.1, bt229.2.2.2.2.1, bt229.2.2.2.2.2.1, bt229.2.2.2.2.2.2)))) else (some (t221, t222, false, t224, t225, t226, 0))) = some (r1, r2, r3, r4, r5, r6, r7) := H
 have A6 := Aside0.mk A60
 clear A60
 by_cases c7 : t227 = true
 ·subst c7
  have H1 : ((codel_State_later.f k t221 t222 t223 t224 t225 t226 a1_0 a1_1 t224).bind fun t228 => ((codel_State_due.f t221 t222 t223 t228 t225 t226 a2).bind fun bt229 => (some (bt229.1, bt229.2.1, bt229.2.2.1, bt229.2.2.2.1, bt229.2.2.2.2.1, bt229.2.2.2.2.2.1, bt229.2.2.2.2.2.2)))) = some (r1, r2, r3, r4, r5, r6, r7) := by rw [if_pos rfl] at H; exact H
  clear H
  have H := H1
  clear H1
  replace H := Option.bind_eq_some_iff.mp H
  obtain ⟨t228, A80, H⟩ := H
  replace H : ((codel_State_due.f t221 t222 t223 t228 t225 t226 a2).bind fun bt229 => (some (bt229.1, bt229.2.1, bt229.2.2.1, bt229.2.2.2.1, bt229.2.2.2.2.1, bt229.2.2.2.2.2.1, bt229.2.2.2.2.2.2))) = some (r1, r2, r3, r4, r5, r6, r7) := H
  have A8 := Aside0.mk A80
  clear A80
  replace H := Option.bind_eq_some_iff.mp H
  obtain ⟨⟨t229, t230, t231, t232, t233, t234, t235⟩, A90, H⟩ := H
  replace H : (some (t229, t230, t231, t232, t233, t234, t235)) = some (r1, r2, r3, r4, r5, r6, r7) := H
  have A9 := Aside0.mk A90
  clear A90
  simp only [Option.some.injEq, Prod.mk.injEq] at H
  obtain ⟨rfl, rfl, rfl, rfl, rfl, rfl, rfl⟩ := H
  go_enter Try.func16, Try.ntmps16
  have mk_ : True := trivial
  go_wp2_with (first | ((first | (with_reducible refine gate_dst (N := 24) rfl ?_) | (with_reducible refine gate_dst (N := 26) rfl ?_)); clear mk_; generalize hq_ : World.setCell (World.setCell (World.setCell (World.setCell (World.setCell (World.setCell (w18) _ _) _ _) _ _) _ _) _ _) _ _ = wq; have n0_ : Aside0 (wq.heap[gb218]? = some (.cells #[.bool t221, .int .i64 t222, .bool t223, .int .i64 t224, .int .u64 t225, .int .u64 t226] 24 (0, 0))) := ⟨by rw [← hq_]; apply put6_; exact BK218.out⟩; have n1_ : Aside0 (wq.heap[gb219]? = some (.cells #[.int .i64 a1_0, .int .i64 a1_1] 26 (0, 0))) := ⟨by rw [← hq_]; refine far6_ NB219_218 ?_; exact BK219.out⟩; have n2_ : Aside0 (wq.heap[gb220]? = some (.cells #[.bool false, .int .i64 0, .bool false, .int .i64 0, .int .u64 0, .int .u64 0] 24 (0, 0))) := ⟨by rw [← hq_]; refine far6_ NB220_218 ?_; exact BK220.out⟩; have n3_ : Aside0 (Below w.heap.size w wq) := ⟨by rw [← hq_]; repeat (first | (with_reducible first | exact HB.out | refine below_set ?_ GE218.out | refine below_set ?_ GE219.out | refine below_set ?_ GE220.out) | exact HB.out)⟩; clear BK218 BK219 BK220 HB hq_; have BK218 := n0_; have BK219 := n1_; have BK220 := n2_; have HB := n3_; clear n0_ n1_ n2_ n3_; have hcq218_0 : wq.cell? ⟨gb218, 0, none⟩ = some (.bool t221) := (blk_cell BK218.out 0).trans rfl; have hfq218_0 := blk_frozen BK218.out 0; have hcq218_1 : wq.cell? ⟨gb218, 1, none⟩ = some (.int .i64 t222) := (blk_cell BK218.out 1).trans rfl; have hfq218_1 := blk_frozen BK218.out 1; have hcq218_2 : wq.cell? ⟨gb218, 2, none⟩ = some (.bool t223) := (blk_cell BK218.out 2).trans rfl; have hfq218_2 := blk_frozen BK218.out 2; have hcq218_3 : wq.cell? ⟨gb218, 3, none⟩ = some (.int .i64 t224) := (blk_cell BK218.out 3).trans rfl; have hfq218_3 := blk_frozen BK218.out 3; have hcq218_4 : wq.cell? ⟨gb218, 4, none⟩ = some (.int .u64 t225) := (blk_cell BK218.out 4).trans rfl; have hfq218_4 := blk_frozen BK218.out 4; have hcq218_5 : wq.cell? ⟨gb218, 5, none⟩ = some (.int .u64 t226) := (blk_cell BK218.out 5).trans rfl; have hfq218_5 := blk_frozen BK218.out 5; have hcq219_0 : wq.cell? ⟨gb219, 0, none⟩ = some (.int .i64 a1_0) := (blk_cell BK219.out 0).trans rfl; have hfq219_0 := blk_frozen BK219.out 0; have hcq219_1 : wq.cell? ⟨gb219, 1, none⟩ = some (.int .i64 a1_1) := (blk_cell BK219.out 1).trans rfl; have hfq219_1 := blk_frozen BK219.out 1; have hcq220_0 : wq.cell? ⟨gb220, 0, none⟩ = some (.bool false) := (blk_cell BK220.out 0).trans rfl; have hfq220_0 := blk_frozen BK220.out 0; have hcq220_1 : wq.cell? ⟨gb220, 1, none⟩ = some (.int .i64 0) := (blk_cell BK220.out 1).trans rfl; have hfq220_1 := blk_frozen BK220.out 1; have hcq220_2 : wq.cell? ⟨gb220, 2, none⟩ = some (.bool false) := (blk_cell BK220.out 2).trans rfl; have hfq220_2 := blk_frozen BK220.out 2; have hcq220_3 : wq.cell? ⟨gb220, 3, none⟩ = some (.int .i64 0) := (blk_cell BK220.out 3).trans rfl; have hfq220_3 := blk_frozen BK220.out 3; have hcq220_4 : wq.cell? ⟨gb220, 4, none⟩ = some (.int .u64 0) := (blk_cell BK220.out 4).trans rfl; have hfq220_4 := blk_frozen BK220.out 4; have hcq220_5 : wq.cell? ⟨gb220, 5, none⟩ = some (.int .u64 0) := (blk_cell BK220.out 5).trans rfl; have hfq220_5 := blk_frozen BK220.out 5) | ((with_reducible refine gate_dst (N := 5) rfl ?_); refine box_event ?hg (N := 5) ?hd (cs := #[.bool a0_0, .int .i64 a0_1, .bool a0_2, .int .i64 a0_3, .int .u64 a0_4, .int .u64 a0_5]) (t := 24) ?hr ?_; (case hd => rfl); (case hg => rfl); (case hr => first | (go_simp; done) | (go_simp; rfl)); intro gb218 hg w10 hbox hb; have BK218 := m_ (hbox); have GW218 := ge_ (by repeat (with_reducible first | exact HB.out)) hg; have GE218 := GW218; replace HB := st_ (by repeat (with_reducible first | exact HB.out)) hb; clear hb hbox hg) | ((with_reducible refine gate_dst (N := 6) rfl ?_); refine box_event ?hg (N := 6) ?hd (cs := #[.int .i64 a1_0, .int .i64 a1_1]) (t := 26) ?hr ?_; (case hd => rfl); (case hg => rfl); (case hr => first | (go_simp; done) | (go_simp; rfl)); intro gb219 hg w11 hbox hb; have BK219 := m_ (hbox); have GW219 := ge_ (by repeat (with_reducible first | exact HB.out | apply bs_ GE218)) hg; have GE219 := GW219; have NB218_219 := nl_ BK218 hg; have NB219_218 := ng_ BK218 hg; replace BK218 := bb_ BK218 hb; replace HB := st_ (by repeat (with_reducible first | exact HB.out | apply bs_ GE218)) hb; clear hb hbox hg) | ((with_reducible refine gate_dst (N := 10) rfl ?_); refine box_event ?hg (N := 10) ?hd (cs := #[.bool false, .int .i64 0, .bool false, .int .i64 0, .int .u64 0, .int .u64 0]) (t := 24) ?hr ?_; (case hd => rfl); (case hg => rfl); (case hr => first | (go_simp; done) | (go_simp; rfl)); intro gb220 hg w12 hbox hb; have BK220 := m_ (hbox); have GW220 := ge_ (by repeat (with_reducible first | exact HB.out | apply bs_ GE218 | apply bs_ GE219)) hg; have GE220 := GW220; have NB218_220 := nl_ BK218 hg; have NB220_218 := ng_ BK218 hg; have NB219_220 := nl_ BK219 hg; have NB220_219 := ng_ BK219 hg; replace BK218 := bb_ BK218 hb; replace BK219 := bb_ BK219 hb; replace HB := st_ (by repeat (with_reducible first | exact HB.out | apply bs_ GE218 | apply bs_ GE219)) hb; clear hb hbox hg; have hnb13 := NB218_219.out; have hnc13 := NB219_218.out; have hnb14 := NB218_220.out; have hnc14 := NB220_218.out; obtain ⟨hcz15_0, hcz15_1, hcz15_2, hcz15_3, hcz15_4, hcz15_5, hfz15_0, hfz15_1, hfz15_2, hfz15_3, hfz15_4, hfz15_5⟩ := cf6 BK218; have hnb16 := NB219_220.out; have hnc16 := NB220_219.out; obtain ⟨hcz17_0, hcz17_1, hfz17_0, hfz17_1⟩ := cf2 BK219) | ((with_reducible refine gate_callee (f := 27) rfl ?_); refine goesL_ (some 19) rfl rfl Try.func27 (by kernel_rfl) rfl #[.agg #[.bool a0_0, .int .i64 a0_1, .bool a0_2, .int .i64 a0_3, .int .u64 a0_4, .int .u64 a0_5], .agg #[.int .i64 a1_0, .int .i64 a1_1], .int .i64 a2, .int .i64 a3, .int .i64 a4] rfl (by first | rfl | (simp only [List.map_toArray, List.map_cons, List.map_nil]; first | done | rfl)) ?_; (with_reducible refine (codel_State_note.calls k a0_0 a0_1 a0_2 a0_3 a0_4 a0_5 a1_0 a1_1 a2 a3 a4 t221 t222 t223 t224 t225 t226 true _ A6.out).mono ?_); rintro e w18 ⟨rfl, hb⟩; refine ⟨_, rfl, ?_⟩; replace BK218 := bb_ BK218 hb; replace BK219 := bb_ BK219 hb; replace BK220 := bb_ BK220 hb; replace HB := st_ (by repeat (with_reducible first | exact HB.out | apply bs_ GE218 | apply bs_ GE219 | apply bs_ GE220)) hb; (try clear hb); obtain ⟨hcz19_0, hcz19_1, hcz19_2, hcz19_3, hcz19_4, hcz19_5, hfz19_0, hfz19_1, hfz19_2, hfz19_3, hfz19_4, hfz19_5⟩ := cf6 BK218; obtain ⟨hcz20_0, hcz20_1, hfz20_0, hfz20_1⟩ := cf2 BK219) | ((with_reducible refine gate_callee (f := 32) rfl ?_); refine goesL_ (some 30) rfl rfl Try.func32 (by kernel_rfl) rfl #[.agg #[.bool t221, .int .i64 t222, .bool t223, .int .i64 t224, .int .u64 t225, .int .u64 t226], .agg #[.int .i64 a1_0, .int .i64 a1_1], .int .i64 t224] rfl (by first | rfl | (simp only [List.map_toArray, List.map_cons, List.map_nil]; first | done | rfl)) ?_; (with_reducible refine (codel_State_later.calls k t221 t222 t223 t224 t225 t226 a1_0 a1_1 t224 t228 _ A8.out).mono ?_); rintro e w21 ⟨rfl, hb⟩; refine ⟨_, rfl, ?_⟩; replace BK218 := m_ (blk_below (g := gb218) (o := .cells #[.bool t221, .int .i64 t222, .bool t223, .int .i64 t224, .int .u64 t225, .int .u64 t226] 24 (0, 0)) (by exact BK218.out) hb); replace BK219 := m_ (blk_below (g := gb219) (o := .cells #[.int .i64 a1_0, .int .i64 a1_1] 26 (0, 0)) (by exact BK219.out) hb); replace BK220 := m_ (blk_below (g := gb220) (o := .cells #[.bool false, .int .i64 0, .bool false, .int .i64 0, .int .u64 0, .int .u64 0] 24 (0, 0)) (by exact BK220.out) hb); replace HB := st_ (by repeat (with_reducible first | exact HB.out | apply bs_ GE218 | apply bs_ GE219 | apply bs_ GE220)) hb; (try clear hb); obtain ⟨hcz22_0, hcz22_1, hcz22_2, hcz22_3, hcz22_4, hcz22_5, hfz22_0, hfz22_1, hfz22_2, hfz22_3, hfz22_4, hfz22_5⟩ := cf6 BK218) | ((with_reducible refine gate_callee (f := 28) rfl ?_); refine goesL_ (some 34) rfl rfl Try.func28 (by kernel_rfl) rfl #[.agg #[.bool t221, .int .i64 t222, .bool t223, .int .i64 t228, .int .u64 t225, .int .u64 t226], .int .i64 a2] rfl (by first | rfl | (simp only [List.map_toArray, List.map_cons, List.map_nil]; first | done | rfl)) ?_; (with_reducible refine (codel_State_due.calls t221 t222 t223 t228 t225 t226 a2 t229 t230 t231 t232 t233 t234 t235 _ A9.out).mono ?_); rintro e w23 ⟨rfl, hb⟩; refine ⟨_, rfl, ?_⟩; replace BK218 := m_ (blk_below (g := gb218) (o := .cells #[.bool t221, .int .i64 t222, .bool t223, .int .i64 t228, .int .u64 t225, .int .u64 t226] 24 (0, 0)) (by refine blk_put (cs := #[.bool t221, .int .i64 t222, .bool t223, .int .i64 t224, .int .u64 t225, .int .u64 t226]) ?_ 3 _ rfl; exact BK218.out) hb); replace BK219 := m_ (blk_below (g := gb219) (o := .cells #[.int .i64 a1_0, .int .i64 a1_1] 26 (0, 0)) (by refine blk_far ?_ NB219_218.out _; exact BK219.out) hb); replace BK220 := m_ (blk_below (g := gb220) (o := .cells #[.bool false, .int .i64 0, .bool false, .int .i64 0, .int .u64 0, .int .u64 0] 24 (0, 0)) (by refine blk_far ?_ NB220_218.out _; exact BK220.out) hb); replace HB := st_ (by repeat (with_reducible first | exact HB.out | apply bs_ GE218 | apply bs_ GE219 | apply bs_ GE220)) hb; (try clear hb); obtain ⟨hcz24_0, hcz24_1, hcz24_2, hcz24_3, hcz24_4, hcz24_5, hfz24_0, hfz24_1, hfz24_2, hfz24_3, hfz24_4, hfz24_5⟩ := cf6 BK220))
  refine bodyPost_ret (results_ct rfl _ _ gb220 24 #[.bool t229, .int .i64 t230, .bool t231, .int .i64 t232, .int .u64 t233, .int .u64 t234] (0, 0) _ rfl (by apply put6_; exact BK220.out) Try.underlying24 rfl (by kernel_rfl)) rfl ?_
  exact ⟨by first | rfl | (simp [errW_none, errW_some] <;> rfl) | (simp [*, errW_none, errW_some] <;> rfl), by repeat (with_reducible first | exact HB.out | apply bs_ GE218 | apply bs_ GE219 | apply bs_ GE220)⟩
 ·replace c7 := Bool.eq_false_iff.mpr c7
  subst c7
  have H1 : (some (t221, t222, false, t224, t225, t226, 0)) = some (r1, r2, r3, r4, r5, r6, r7) := by rw [if_neg (show ¬ (false = true) by decide)] at H; exact H
  clear H
  have H := H1
  clear H1
  simp only [Option.some.injEq, Prod.mk.injEq] at H
  obtain ⟨rfl, rfl, rfl, rfl, rfl, rfl, rfl⟩ := H
  go_enter Try.func16, Try.ntmps16
  have mk_ : True := trivial
  go_wp2_with (first | ((first | (with_reducible refine gate_dst (N := 24) rfl ?_) | (with_reducible refine gate_dst (N := 26) rfl ?_)); clear mk_; generalize hq_ : World.setCell (World.setCell (World.setCell (World.setCell (World.setCell (World.setCell (w33) _ _) _ _) _ _) _ _) _ _) _ _ = wq; have n0_ : Aside0 (wq.heap[gb218]? = some (.cells #[.bool t221, .int .i64 t222, .bool t223, .int .i64 t224, .int .u64 t225, .int .u64 t226] 24 (0, 0))) := ⟨by rw [← hq_]; apply put6_; exact BK218.out⟩; have n1_ : Aside0 (wq.heap[gb219]? = some (.cells #[.int .i64 a1_0, .int .i64 a1_1] 26 (0, 0))) := ⟨by rw [← hq_]; refine far6_ NB219_218 ?_; exact BK219.out⟩; have n2_ : Aside0 (wq.heap[gb220]? = some (.cells #[.bool false, .int .i64 0, .bool false, .int .i64 0, .int .u64 0, .int .u64 0] 24 (0, 0))) := ⟨by rw [← hq_]; refine far6_ NB220_218 ?_; exact BK220.out⟩; have n3_ : Aside0 (Below w.heap.size w wq) := ⟨by rw [← hq_]; repeat (first | (with_reducible first | exact HB.out | refine below_set ?_ GE218.out | refine below_set ?_ GE219.out | refine below_set ?_ GE220.out) | exact HB.out)⟩; clear BK218 BK219 BK220 HB hq_; have BK218 := n0_; have BK219 := n1_; have BK220 := n2_; have HB := n3_; clear n0_ n1_ n2_ n3_; have hcq218_0 : wq.cell? ⟨gb218, 0, none⟩ = some (.bool t221) := (blk_cell BK218.out 0).trans rfl; have hfq218_0 := blk_frozen BK218.out 0; have hcq218_1 : wq.cell? ⟨gb218, 1, none⟩ = some (.int .i64 t222) := (blk_cell BK218.out 1).trans rfl; have hfq218_1 := blk_frozen BK218.out 1; have hcq218_2 : wq.cell? ⟨gb218, 2, none⟩ = some (.bool t223) := (blk_cell BK218.out 2).trans rfl; have hfq218_2 := blk_frozen BK218.out 2; have hcq218_3 : wq.cell? ⟨gb218, 3, none⟩ = some (.int .i64 t224) := (blk_cell BK218.out 3).trans rfl; have hfq218_3 := blk_frozen BK218.out 3; have hcq218_4 : wq.cell? ⟨gb218, 4, none⟩ = some (.int .u64 t225) := (blk_cell BK218.out 4).trans rfl; have hfq218_4 := blk_frozen BK218.out 4; have hcq218_5 : wq.cell? ⟨gb218, 5, none⟩ = some (.int .u64 t226) := (blk_cell BK218.out 5).trans rfl; have hfq218_5 := blk_frozen BK218.out 5; have hcq219_0 : wq.cell? ⟨gb219, 0, none⟩ = some (.int .i64 a1_0) := (blk_cell BK219.out 0).trans rfl; have hfq219_0 := blk_frozen BK219.out 0; have hcq219_1 : wq.cell? ⟨gb219, 1, none⟩ = some (.int .i64 a1_1) := (blk_cell BK219.out 1).trans rfl; have hfq219_1 := blk_frozen BK219.out 1; have hcq220_0 : wq.cell? ⟨gb220, 0, none⟩ = some (.bool false) := (blk_cell BK220.out 0).trans rfl; have hfq220_0 := blk_frozen BK220.out 0; have hcq220_1 : wq.cell? ⟨gb220, 1, none⟩ = some (.int .i64 0) := (blk_cell BK220.out 1).trans rfl; have hfq220_1 := blk_frozen BK220.out 1; have hcq220_2 : wq.cell? ⟨gb220, 2, none⟩ = some (.bool false) := (blk_cell BK220.out 2).trans rfl; have hfq220_2 := blk_frozen BK220.out 2; have hcq220_3 : wq.cell? ⟨gb220, 3, none⟩ = some (.int .i64 0) := (blk_cell BK220.out 3).trans rfl; have hfq220_3 := blk_frozen BK220.out 3; have hcq220_4 : wq.cell? ⟨gb220, 4, none⟩ = some (.int .u64 0) := (blk_cell BK220.out 4).trans rfl; have hfq220_4 := blk_frozen BK220.out 4; have hcq220_5 : wq.cell? ⟨gb220, 5, none⟩ = some (.int .u64 0) := (blk_cell BK220.out 5).trans rfl; have hfq220_5 := blk_frozen BK220.out 5) | ((with_reducible refine gate_dst (N := 5) rfl ?_); refine box_event ?hg (N := 5) ?hd (cs := #[.bool a0_0, .int .i64 a0_1, .bool a0_2, .int .i64 a0_3, .int .u64 a0_4, .int .u64 a0_5]) (t := 24) ?hr ?_; (case hd => rfl); (case hg => rfl); (case hr => first | (go_simp; done) | (go_simp; rfl)); intro gb218 hg w25 hbox hb; have BK218 := m_ (hbox); have GW218 := ge_ (by repeat (with_reducible first | exact HB.out)) hg; have GE218 := GW218; replace HB := st_ (by repeat (with_reducible first | exact HB.out)) hb; clear hb hbox hg) | ((with_reducible refine gate_dst (N := 6) rfl ?_); refine box_event ?hg (N := 6) ?hd (cs := #[.int .i64 a1_0, .int .i64 a1_1]) (t := 26) ?hr ?_; (case hd => rfl); (case hg => rfl); (case hr => first | (go_simp; done) | (go_simp; rfl)); intro gb219 hg w26 hbox hb; have BK219 := m_ (hbox); have GW219 := ge_ (by repeat (with_reducible first | exact HB.out | apply bs_ GE218)) hg; have GE219 := GW219; have NB218_219 := nl_ BK218 hg; have NB219_218 := ng_ BK218 hg; replace BK218 := bb_ BK218 hb; replace HB := st_ (by repeat (with_reducible first | exact HB.out | apply bs_ GE218)) hb; clear hb hbox hg) | ((with_reducible refine gate_dst (N := 10) rfl ?_); refine box_event ?hg (N := 10) ?hd (cs := #[.bool false, .int .i64 0, .bool false, .int .i64 0, .int .u64 0, .int .u64 0]) (t := 24) ?hr ?_; (case hd => rfl); (case hg => rfl); (case hr => first | (go_simp; done) | (go_simp; rfl)); intro gb220 hg w27 hbox hb; have BK220 := m_ (hbox); have GW220 := ge_ (by repeat (with_reducible first | exact HB.out | apply bs_ GE218 | apply bs_ GE219)) hg; have GE220 := GW220; have NB218_220 := nl_ BK218 hg; have NB220_218 := ng_ BK218 hg; have NB219_220 := nl_ BK219 hg; have NB220_219 := ng_ BK219 hg; replace BK218 := bb_ BK218 hb; replace BK219 := bb_ BK219 hb; replace HB := st_ (by repeat (with_reducible first | exact HB.out | apply bs_ GE218 | apply bs_ GE219)) hb; clear hb hbox hg; have hnb28 := NB218_219.out; have hnc28 := NB219_218.out; have hnb29 := NB218_220.out; have hnc29 := NB220_218.out; obtain ⟨hcz30_0, hcz30_1, hcz30_2, hcz30_3, hcz30_4, hcz30_5, hfz30_0, hfz30_1, hfz30_2, hfz30_3, hfz30_4, hfz30_5⟩ := cf6 BK218; have hnb31 := NB219_220.out; have hnc31 := NB220_219.out; obtain ⟨hcz32_0, hcz32_1, hfz32_0, hfz32_1⟩ := cf2 BK219) | ((with_reducible refine gate_callee (f := 27) rfl ?_); refine goesL_ (some 19) rfl rfl Try.func27 (by kernel_rfl) rfl #[.agg #[.bool a0_0, .int .i64 a0_1, .bool a0_2, .int .i64 a0_3, .int .u64 a0_4, .int .u64 a0_5], .agg #[.int .i64 a1_0, .int .i64 a1_1], .int .i64 a2, .int .i64 a3, .int .i64 a4] rfl (by first | rfl | (simp only [List.map_toArray, List.map_cons, List.map_nil]; first | done | rfl)) ?_; (with_reducible refine (codel_State_note.calls k a0_0 a0_1 a0_2 a0_3 a0_4 a0_5 a1_0 a1_1 a2 a3 a4 t221 t222 t223 t224 t225 t226 false _ A6.out).mono ?_); rintro e w33 ⟨rfl, hb⟩; refine ⟨_, rfl, ?_⟩; replace BK218 := bb_ BK218 hb; replace BK219 := bb_ BK219 hb; replace BK220 := bb_ BK220 hb; replace HB := st_ (by repeat (with_reducible first | exact HB.out | apply bs_ GE218 | apply bs_ GE219 | apply bs_ GE220)) hb; (try clear hb); obtain ⟨hcz34_0, hcz34_1, hcz34_2, hcz34_3, hcz34_4, hcz34_5, hfz34_0, hfz34_1, hfz34_2, hfz34_3, hfz34_4, hfz34_5⟩ := cf6 BK218; obtain ⟨hcz35_0, hcz35_1, hcz35_2, hcz35_3, hcz35_4, hcz35_5, hfz35_0, hfz35_1, hfz35_2, hfz35_3, hfz35_4, hfz35_5⟩ := cf6 BK220))
  refine bodyPost_ret (results_ct rfl _ _ gb220 24 #[.bool t221, .int .i64 t222, .bool false, .int .i64 t224, .int .u64 t225, .int .u64 t226] (0, 0) _ rfl (by apply put6_; refine blk_far ?_ NB220_218.out _; exact BK220.out) Try.underlying24 rfl (by kernel_rfl)) rfl ?_
  exact ⟨by first | rfl | (simp [errW_none, errW_some] <;> rfl) | (simp [*, errW_none, errW_some] <;> rfl), by repeat (with_reducible first | exact HB.out | apply bs_ GE218 | apply bs_ GE219 | apply bs_ GE220)⟩

/-! ### overfallref02_Size: function 22 -/
def overfallref02_Size.f (a0 : Int) : Option (Int × Int × Bool) := if a0 ≥ 0 then (some (0, IntKind.u64.wrap (a0), false)) else (some (0, IntKind.u64.wrap ((IntKind.u64.wrap (wrap64 (-(wrap64 (a0 + 1))))) + 1), true))
set_option maxHeartbeats 8000000 in
set_option maxRecDepth 100000 in
theorem overfallref02_Size.calls (a0 : Int) (r1 : Int) (r2 : Int) (r3 : Bool) (w : World) (h : overfallref02_Size.f a0 = some (r1, r2, r3)) :
  Calls Try.prog 22 #[.int .i64 a0] w fun e w' => e = .returned (.tuple #[.agg #[.int .u64 r1, .int .u64 r2], .bool r3]) ∧ Below w.heap.size w w' := by
 have hu50 := Try.underlying50
 have HB := m_ (Below.refl w.heap.size w)
 have H : (if a0 ≥ 0 then (some (0, IntKind.u64.wrap (a0), false)) else (some (0, IntKind.u64.wrap ((IntKind.u64.wrap (wrap64 (-(wrap64 (a0 + 1))))) + 1), true))) = some (r1, r2, r3) := h
 clear h
 by_cases c2 : a0 ≥ 0
 ·rw [if_pos c2] at H
  have c2b0 : decide (0 ≤ a0) = true := decide_eq_true c2
  clear c2
  simp only [Option.some.injEq, Prod.mk.injEq] at H
  obtain ⟨rfl, rfl, rfl⟩ := H
  go_enter Try.func22, Try.ntmps22
  go_wp2_with (first | ((with_reducible refine gate_dst (N := 2) rfl ?_); refine box_event ?hg (N := 2) ?hd (cs := #[.int .u64 0, .int .u64 0]) (t := 50) ?hr ?_; (case hd => rfl); (case hg => rfl); (case hr => first | (go_simp; done) | (go_simp; rfl)); intro gb236 hg w3 hbox hb; have BK236 := m_ (hbox); have GW236 := ge_ (by repeat (with_reducible first | exact HB.out)) hg; have GE236 := GW236; replace HB := st_ (by repeat (with_reducible first | exact HB.out)) hb; clear hb hbox hg; obtain ⟨hcz4_0, hcz4_1, hfz4_0, hfz4_1⟩ := cf2 BK236))
  refine bodyPost_ret (results_ct rfl _ _ gb236 50 #[.int .u64 0, .int .u64 (IntKind.u64.wrap (a0))] (0, 0) _ rfl (by apply put2_; exact BK236.out) Try.underlying50 rfl (by kernel_rfl)) rfl ?_
  exact ⟨by first | rfl | (simp [errW_none, errW_some] <;> rfl) | (simp [*, errW_none, errW_some] <;> rfl), by repeat (with_reducible first | exact HB.out | apply bs_ GE236)⟩
 ·rw [if_neg c2] at H
  have c2b0 : decide (0 ≤ a0) = false := decide_eq_false c2
  clear c2
  simp only [Option.some.injEq, Prod.mk.injEq] at H
  obtain ⟨rfl, rfl, rfl⟩ := H
  go_enter Try.func22, Try.ntmps22
  go_wp2_with (first | ((with_reducible refine gate_dst (N := 2) rfl ?_); refine box_event ?hg (N := 2) ?hd (cs := #[.int .u64 0, .int .u64 0]) (t := 50) ?hr ?_; (case hd => rfl); (case hg => rfl); (case hr => first | (go_simp; done) | (go_simp; rfl)); intro gb236 hg w5 hbox hb; have BK236 := m_ (hbox); have GW236 := ge_ (by repeat (with_reducible first | exact HB.out)) hg; have GE236 := GW236; replace HB := st_ (by repeat (with_reducible first | exact HB.out)) hb; clear hb hbox hg; obtain ⟨hcz6_0, hcz6_1, hfz6_0, hfz6_1⟩ := cf2 BK236))
  refine bodyPost_ret (results_ct rfl _ _ gb236 50 #[.int .u64 0, .int .u64 (IntKind.u64.wrap ((IntKind.u64.wrap (wrap64 (-(wrap64 (a0 + 1))))) + 1))] (0, 0) _ rfl (by apply put2_; exact BK236.out) Try.underlying50 rfl (by kernel_rfl)) rfl ?_
  exact ⟨by first | rfl | (simp [errW_none, errW_some] <;> rfl) | (simp [*, errW_none, errW_some] <;> rfl), by repeat (with_reducible first | exact HB.out | apply bs_ GE236)⟩

/-! ### overfallref01_Digits: function 34 -/
mutual
def overfallref01_Digits.l0 : Nat → List Int → Int → Int → Int → Option (List Int)
 | 0, _, _, _, _ => none
 | k + 1, x3, x4, x238000, x238001 => if x4 < 4 then (if 0 ≤ (wrap64 (16 * x4)) then (if x3.length < 17592186044416 then (overfallref01_Digits.l0 k (x3 ++ [wrap64 (Int.tmod (shr .u64 x238001 (wrap64 (16 * x4))) 65536)]) (wrap64 (x4 + 1)) x238000 x238001) else (none)) else (none)) else (overfallref01_Digits.l1 k x3 0 x238000 x238001)
def overfallref01_Digits.l1 : Nat → List Int → Int → Int → Int → Option (List Int)
 | 0, _, _, _, _ => none
 | k + 1, x3, x5, x238000, x238001 => if x5 < 4 then (if 0 ≤ (wrap64 (16 * x5)) then (if x3.length < 17592186044416 then (overfallref01_Digits.l1 k (x3 ++ [wrap64 (Int.tmod (shr .u64 x238000 (wrap64 (16 * x5))) 65536)]) (wrap64 (x5 + 1)) x238000 x238001) else (none)) else (none)) else (some x3)
end
def overfallref01_Digits.f (k : Nat) (a0_0 : Int) (a0_1 : Int) : Option (List Int) := overfallref01_Digits.l0 k ([] : List Int) 0 a0_0 a0_1
theorem overfallref01_Digits.mono_l : ∀ k, (∀ y0 y1 y2 y3, LeO (overfallref01_Digits.l0 k y0 y1 y2 y3) (overfallref01_Digits.l0 (k + 1) y0 y1 y2 y3)) ∧ (∀ y0 y1 y2 y3, LeO (overfallref01_Digits.l1 k y0 y1 y2 y3) (overfallref01_Digits.l1 (k + 1) y0 y1 y2 y3))
 | 0 => ⟨fun _ _ _ _ r h => by simp [overfallref01_Digits.l0] at h, fun _ _ _ _ r h => by simp [overfallref01_Digits.l1] at h⟩
 | k + 1 => by
  obtain ⟨ih0, ih1⟩ := overfallref01_Digits.mono_l k
  refine ⟨?_, ?_⟩
  ·intro y0 y1 y2 y3
   unfold overfallref01_Digits.l0
   repeat' first
   | (with_reducible exact ih0 _ _ _ _)
   | (with_reducible exact ih1 _ _ _ _)
   | (with_reducible exact LeO.refl _)
   | (with_reducible exact LeO.none _)
   | (with_reducible refine LeO.ite ?_ ?_)
   | (with_reducible refine LeO.bind ?_ (fun _ => ?_))
   | exact ih0 _ _ _ _
   | exact ih1 _ _ _ _
   | exact LeO.none _
   | refine LeO.ite ?_ ?_
   | refine LeO.bind ?_ (fun _ => ?_)
  ·intro y0 y1 y2 y3
   unfold overfallref01_Digits.l1
   repeat' first
   | (with_reducible exact ih0 _ _ _ _)
   | (with_reducible exact ih1 _ _ _ _)
   | (with_reducible exact LeO.refl _)
   | (with_reducible exact LeO.none _)
   | (with_reducible refine LeO.ite ?_ ?_)
   | (with_reducible refine LeO.bind ?_ (fun _ => ?_))
   | exact ih0 _ _ _ _
   | exact ih1 _ _ _ _
   | exact LeO.none _
   | refine LeO.ite ?_ ?_
   | refine LeO.bind ?_ (fun _ => ?_)
theorem overfallref01_Digits.mono : ∀ a0 a1 k, LeO (overfallref01_Digits.f k a0 a1) (overfallref01_Digits.f (k + 1) a0 a1) := by
 intro a0 a1 k
 obtain ⟨ih0, ih1⟩ := overfallref01_Digits.mono_l k
 unfold overfallref01_Digits.f
 repeat' first
   | (with_reducible exact ih0 _ _ _ _)
   | (with_reducible exact ih1 _ _ _ _)
   | (with_reducible exact LeO.refl _)
   | (with_reducible exact LeO.none _)
   | (with_reducible refine LeO.ite ?_ ?_)
   | (with_reducible refine LeO.bind ?_ (fun _ => ?_))
   | exact ih0 _ _ _ _
   | exact ih1 _ _ _ _
   | exact LeO.none _
   | refine LeO.ite ?_ ?_
   | refine LeO.bind ?_ (fun _ => ?_)
set_option maxHeartbeats 8000000 in
set_option maxRecDepth 100000 in
theorem overfallref01_Digits.calls (k : Nat) (a0_0 : Int) (a0_1 : Int) (r : List Int) (w : World) (h : overfallref01_Digits.f k a0_0 a0_1 = some r) :
  Calls Try.prog 34 #[.agg #[.int .u64 a0_0, .int .u64 a0_1]] w fun e w' => ∃ v0_ : Value, e = .returned (v0_) ∧ Kd.R (Kd.int .i64) 3 w' w.heap.size (fun _ => True) v0_ r ∧ Below w.heap.size w w' := by
 have hu50 := Try.underlying50
 have HB := m_ (Below.refl w.heap.size w)
 have H : (overfallref01_Digits.l0 k ([] : List Int) 0 a0_0 a0_1) = some r := h
 clear h
 have H' := Aside0.mk H
 clear H
 go_enter Try.func34, Try.ntmps34
 go_wp2_with (first | ((with_reducible refine gate_dst (N := 1) rfl ?_); refine box_event ?hg (N := 1) ?hd (cs := #[.int .u64 a0_0, .int .u64 a0_1]) (t := 50) ?hr ?_; (case hd => rfl); (case hg => rfl); (case hr => first | (go_simp; done) | (go_simp; rfl)); intro gb237 hg w2 hbox hb; have BK237 := m_ (hbox); have GW237 := ge_ (by repeat (with_reducible first | exact HB.out)) hg; have GE237 := GW237; replace HB := st_ (by repeat (with_reducible first | exact HB.out)) hb; clear hb hbox hg))
 go_loopg [3, 4] k (fun kq v3 v4 w' => ∃ (x3_1 : List Int) (x4_1 : Int), v4 = .int .i64 x4_1 ∧ Aside0 (overfallref01_Digits.l0 kq x3_1 x4_1 a0_0 a0_1 = some r) ∧ Aside0 (kq ≤ k) ∧ Aside0 (Kd.R (Kd.int .i64) 3 w' w.heap.size (fun _ => True) v3 x3_1) ∧ Aside0 (w'.heap[gb237]? = some (.cells #[.int .u64 a0_0, .int .u64 a0_1] 50 (0, 0))) ∧ Aside0 (Below w.heap.size w w'))
 case atStart => exact ⟨(([] : List Int)), (0), (by first | rfl | (simp; done) | (simp [*]; done)), H', ⟨Nat.le_refl _⟩, ⟨by first | exact Kd.R_nil _ _ _ _ _ | exact Kd.N_nil _ _ _ _ _ | exact Kd.V_nil _ _ _ _ _ | exact Kd.Q_nil _ _ _ _ _ | exact Kd.S_nil _ _ _ _ _⟩, ⟨by exact BK237.out⟩, ⟨by repeat (with_reducible first | exact HB.out | apply bs_ GE237)⟩⟩
 case round =>
  clear H'
  try clear p2
  obtain ⟨x3_1, x4_1, rfl, HA, HK1, HO_3, BK237, HB⟩ := hrel
  cases gk with
  | zero => exact absurd HA.out (by simp [overfallref01_Digits.l0])
  | succ k1 =>
   have H := HA.out
   clear HA
   simp only [overfallref01_Digits.l0] at H
   by_cases c3 : x4_1 < 4
   ·rw [if_pos c3] at H
    have c3b0 : decide (x4_1 < 4) = true := decide_eq_true c3
    clear c3
    obtain ⟨ji4, hji4⟩ : ∃ j_ : Int, (wrap64 (16 * x4_1)) = j_ := ⟨_, rfl⟩
    replace H : (if 0 ≤ (ji4) then (if x3_1.length < 17592186044416 then (overfallref01_Digits.l0 k1 (x3_1 ++ [wrap64 (Int.tmod (shr .u64 a0_1 (ji4)) 65536)]) (wrap64 (x4_1 + 1)) a0_0 a0_1) else (none)) else (none)) = some r := by first | (rw [hji4] at H; exact H) | (simp only [hji4] at H ⊢; exact H)
    have hji4w : (IntKind.i64.wrap (16 * x4_1)) = ji4 := (i64_w _).trans hji4
    by_cases c5 : 0 ≤ (ji4)
    ·rw [if_pos c5] at H
     have c5b0 := eq_true c5
     have c5b1 : decide (0 ≤ (ji4)) = true := decide_eq_true c5
     clear c5
     obtain ⟨ji6, hji6⟩ : ∃ j_ : Int, (shr .u64 a0_1 (ji4)) = j_ := ⟨_, rfl⟩
     replace H : (if x3_1.length < 17592186044416 then (overfallref01_Digits.l0 k1 (x3_1 ++ [wrap64 (Int.tmod (ji6) 65536)]) (wrap64 (x4_1 + 1)) a0_0 a0_1) else (none)) = some r := by first | (rw [hji6] at H; exact H) | (simp only [hji6] at H ⊢; exact H)
     have hji6_ : (a0_1 / 2 ^ min (ji4).toNat 64) = ji6 := hji6
     have hji6z : (ji4) ≤ 64 → (a0_1 / 2 ^ (ji4).toNat) = ji6 := shr_small hji6
     by_cases c7 : x3_1.length < 17592186044416
     ·rw [if_pos c7] at H
      have LMc7 := Aside0.mk c7
      clear c7
      obtain ⟨y238, hy238⟩ : ∃ y_ : List Int, y_ = (x3_1 ++ [wrap64 (Int.tmod (ji6) 65536)]) := ⟨_, rfl⟩
      replace H : (overfallref01_Digits.l0 k1 y238 (wrap64 (x4_1 + 1)) a0_0 a0_1) = some r := by first | (rw [hy238]; with_reducible exact H) | (have H2_ := (Option.bind_some _ _).symm.trans H; rw [hy238]; with_reducible exact H2_) | (have H2_ := (Option.bind_some _ _).symm.trans H; with_reducible exact H2_) | with_reducible exact H | (rw [hy238]; exact H) | exact H
      have Ny238 := Aside0.mk hy238
      clear hy238
      have H' := Aside0.mk H
      clear H
      obtain ⟨hcz8_0, hcz8_1, hfz8_0, hfz8_1⟩ := cf2 BK237
      go_wp2_with (first | ((with_reducible refine gate_builtin (b := .append) (xs := #[.tmp 10, .tmp 18]) rfl ?_); at_builtin; refine Kd.R_append (Kd.int .i64) (w0 := w) w.heap.size rfl (.tmp 10) (.tmp 18) 64 3 (.int .i64 0) 8 rfl Try.underlying64 info3 rfl (by decide) (by omega) u3 x3_1 (wrap64 (Int.tmod (ji6) 65536)) [.int .i64 (wrap64 (Int.tmod (ji6) 65536))] (fun _ => True) (fun _ => False) rfl rfl ?aP (fun _ hk => hk.elim) ?aF ?aO ?aB ?aS ?aL ?_; (case aP => exact rfl); (case aB => exact (by repeat (with_reducible first | exact HB.out | apply bs_ GE237))); (case aF => exact (fun _ _ => trivial)); (case aO => exact (by (with_reducible repeat (first | apply Kd.R_alloc | apply Kd.R_drewN | apply Kd.R_drew)); exact HO_3.out)); (case aS => exact (below_size (by repeat (with_reducible first | exact HB.out | apply bs_ GE237)))); (case aL => have := LMc7.out; omega); intro v239 w9 ho hb hg hat; rw [← Ny238.out] at ho; have HO240 := m_ (ho); replace BK237 := m_ (blk_grown (by exact BK237.out) hg (Kd.R_ne HO_3.out BK237.out (by decide))); replace HB := m_ (hb); clear HO_3; clear ho hb hg hat))
      go_roundg k1
      case measure => have := HK1.out; omega
      case rel => exact ⟨(y238), (wrap64 (x4_1 + 1)), (by first | rfl | (simp; done) | (simp [*]; done)), H', ⟨by have := HK1.out; omega⟩, ⟨by (with_reducible repeat (first | apply Kd.R_alloc | apply Kd.R_drewN | apply Kd.R_drew)); exact HO240.out⟩, ⟨by exact BK237.out⟩, ⟨by repeat (with_reducible first | exact HB.out | apply bs_ GE237)⟩⟩
     ·rw [if_neg c7] at H
      exact absurd H (by simp)
    ·rw [if_neg c5] at H
     exact absurd H (by simp)
   ·rw [if_neg c3] at H
    have c3b0 : decide (x4_1 < 4) = false := decide_eq_false c3
    clear c3
    have H' := Aside0.mk H
    clear H
    go_wp2
    go_loopg [3, 5] k1 (fun kq v3 v5 w' => ∃ (x3_2 : List Int) (x5_2 : Int), v5 = .int .i64 x5_2 ∧ Aside0 (overfallref01_Digits.l1 kq x3_2 x5_2 a0_0 a0_1 = some r) ∧ Aside0 (kq ≤ k1) ∧ Aside0 (Kd.R (Kd.int .i64) 3 w' w.heap.size (fun _ => True) v3 x3_2) ∧ Aside0 (w'.heap[gb237]? = some (.cells #[.int .u64 a0_0, .int .u64 a0_1] 50 (0, 0))) ∧ Aside0 (Below w.heap.size w w'))
    case atStart => exact ⟨(x3_1), (0), (by first | rfl | (simp; done) | (simp [*]; done)), H', ⟨Nat.le_refl _⟩, ⟨by (with_reducible repeat (first | apply Kd.R_alloc | apply Kd.R_drewN | apply Kd.R_drew)); exact HO_3.out⟩, ⟨by exact BK237.out⟩, ⟨by repeat (with_reducible first | exact HB.out | apply bs_ GE237)⟩⟩
    case round =>
     clear H'
     try clear p2
     try clear c3
     try clear c3b0
     try clear c5
     try clear c5b0
     try clear c5b1
     try clear p6
     try clear c7
     try clear hcz8_0
     try clear hcz8_1
     try clear hfz8_0
     try clear hfz8_1
     try clear p2
     obtain ⟨x3_2, x5_2, rfl, HA, HK2, HO_3, BK237, HB⟩ := hrel
     cases gk with
     | zero => exact absurd HA.out (by simp [overfallref01_Digits.l1])
     | succ k2 =>
      have H := HA.out
      clear HA
      simp only [overfallref01_Digits.l1] at H
      by_cases c10 : x5_2 < 4
      ·rw [if_pos c10] at H
       have c10b0 : decide (x5_2 < 4) = true := decide_eq_true c10
       clear c10
       obtain ⟨ji11, hji11⟩ : ∃ j_ : Int, (wrap64 (16 * x5_2)) = j_ := ⟨_, rfl⟩
       replace H : (if 0 ≤ (ji11) then (if x3_2.length < 17592186044416 then (overfallref01_Digits.l1 k2 (x3_2 ++ [wrap64 (Int.tmod (shr .u64 a0_0 (ji11)) 65536)]) (wrap64 (x5_2 + 1)) a0_0 a0_1) else (none)) else (none)) = some r := by first | (rw [hji11] at H; exact H) | (simp only [hji11] at H ⊢; exact H)
       have hji11w : (IntKind.i64.wrap (16 * x5_2)) = ji11 := (i64_w _).trans hji11
       by_cases c12 : 0 ≤ (ji11)
       ·rw [if_pos c12] at H
        have c12b0 := eq_true c12
        have c12b1 : decide (0 ≤ (ji11)) = true := decide_eq_true c12
        clear c12
        obtain ⟨ji13, hji13⟩ : ∃ j_ : Int, (shr .u64 a0_0 (ji11)) = j_ := ⟨_, rfl⟩
        replace H : (if x3_2.length < 17592186044416 then (overfallref01_Digits.l1 k2 (x3_2 ++ [wrap64 (Int.tmod (ji13) 65536)]) (wrap64 (x5_2 + 1)) a0_0 a0_1) else (none)) = some r := by first | (rw [hji13] at H; exact H) | (simp only [hji13] at H ⊢; exact H)
        have hji13_ : (a0_0 / 2 ^ min (ji11).toNat 64) = ji13 := hji13
        have hji13z : (ji11) ≤ 64 → (a0_0 / 2 ^ (ji11).toNat) = ji13 := shr_small hji13
        by_cases c14 : x3_2.length < 17592186044416
        ·rw [if_pos c14] at H
         have LMc14 := Aside0.mk c14
         clear c14
         obtain ⟨y241, hy241⟩ : ∃ y_ : List Int, y_ = (x3_2 ++ [wrap64 (Int.tmod (ji13) 65536)]) := ⟨_, rfl⟩
         replace H : (overfallref01_Digits.l1 k2 y241 (wrap64 (x5_2 + 1)) a0_0 a0_1) = some r := by first | (rw [hy241]; with_reducible exact H) | (have H2_ := (Option.bind_some _ _).symm.trans H; rw [hy241]; with_reducible exact H2_) | (have H2_ := (Option.bind_some _ _).symm.trans H; with_reducible exact H2_) | with_reducible exact H | (rw [hy241]; exact H) | exact H
         have Ny241 := Aside0.mk hy241
         clear hy241
         have H' := Aside0.mk H
         clear H
         obtain ⟨hcz15_0, hcz15_1, hfz15_0, hfz15_1⟩ := cf2 BK237
         go_wp2_with (first | ((with_reducible refine gate_builtin (b := .append) (xs := #[.tmp 24, .tmp 32]) rfl ?_); at_builtin; refine Kd.R_append (Kd.int .i64) (w0 := w) w.heap.size rfl (.tmp 24) (.tmp 32) 64 3 (.int .i64 0) 8 rfl Try.underlying64 info3 rfl (by decide) (by omega) u3 x3_2 (wrap64 (Int.tmod (ji13) 65536)) [.int .i64 (wrap64 (Int.tmod (ji13) 65536))] (fun _ => True) (fun _ => False) rfl rfl ?aP (fun _ hk => hk.elim) ?aF ?aO ?aB ?aS ?aL ?_; (case aP => exact rfl); (case aB => exact (by repeat (with_reducible first | exact HB.out | apply bs_ GE237))); (case aF => exact (fun _ _ => trivial)); (case aO => exact (by (with_reducible repeat (first | apply Kd.R_alloc | apply Kd.R_drewN | apply Kd.R_drew)); exact HO_3.out)); (case aS => exact (below_size (by repeat (with_reducible first | exact HB.out | apply bs_ GE237)))); (case aL => have := LMc14.out; omega); intro v242 w16 ho hb hg hat; rw [← Ny241.out] at ho; have HO243 := m_ (ho); replace BK237 := m_ (blk_grown (by exact BK237.out) hg (Kd.R_ne HO_3.out BK237.out (by decide))); replace HB := m_ (hb); clear HO_3; clear ho hb hg hat))
         go_roundg k2
         case measure => have := HK1.out; have := HK2.out; omega
         case rel => exact ⟨(y241), (wrap64 (x5_2 + 1)), (by first | rfl | (simp; done) | (simp [*]; done)), H', ⟨by have := HK1.out; have := HK2.out; omega⟩, ⟨by (with_reducible repeat (first | apply Kd.R_alloc | apply Kd.R_drewN | apply Kd.R_drew)); exact HO243.out⟩, ⟨by exact BK237.out⟩, ⟨by repeat (with_reducible first | exact HB.out | apply bs_ GE237)⟩⟩
        ·rw [if_neg c14] at H
         exact absurd H (by simp)
       ·rw [if_neg c12] at H
        exact absurd H (by simp)
      ·rw [if_neg c10] at H
       have c10b0 : decide (x5_2 < 4) = false := decide_eq_false c10
       clear c10
       obtain rfl := Option.some.inj H
       go_wp2
       go_ret
       exact ⟨_, by first | rfl | (simp [errW_none, errW_some] <;> rfl) | (simp [*, errW_none, errW_some] <;> rfl), by (with_reducible repeat (first | apply Kd.R_alloc | apply Kd.R_drewN | apply Kd.R_drew)); exact HO_3.out, by repeat (with_reducible first | exact HB.out | apply bs_ GE237)⟩

/-! ### overfallref01_Value: function 35 -/
def overfallref01_Value.l0 : Nat → List Int → Int → Int → Int → Option (Int × Int)
 | 0, _, _, _, _ => none
 | k + 1, x0, x4, x246000, x246001 => if x4 ≥ 0 then (if 0 ≤ x4 then (if x4 < (x0.length : Int) then (if 0 ≤ (wrap64 (x4 + 4)) then (if (wrap64 (x4 + 4)) < (x0.length : Int) then (overfallref01_Value.l0 k x0 (wrap64 (x4 - 1)) (IntKind.u64.wrap ((IntKind.u64.wrap (x246000 * 65536)) + (IntKind.u64.wrap (rd x0 (wrap64 (x4 + 4)))))) (IntKind.u64.wrap ((IntKind.u64.wrap (x246001 * 65536)) + (IntKind.u64.wrap (rd x0 x4))))) else (none)) else (none)) else (none)) else (none)) else (some (x246000, x246001))
def overfallref01_Value.f (k : Nat) (l0 : List Int) : Option (Int × Int) := overfallref01_Value.l0 k l0 3 0 0
theorem overfallref01_Value.mono_l : ∀ k, (∀ y0 y1 y2 y3, LeO (overfallref01_Value.l0 k y0 y1 y2 y3) (overfallref01_Value.l0 (k + 1) y0 y1 y2 y3))
 | 0 => fun _ _ _ _ r h => by simp [overfallref01_Value.l0] at h
 | k + 1 => by
  have ih0 := overfallref01_Value.mono_l k
  ·intro y0 y1 y2 y3
   unfold overfallref01_Value.l0
   repeat' first
   | (with_reducible exact ih0 _ _ _ _)
   | (with_reducible exact LeO.refl _)
   | (with_reducible exact LeO.none _)
   | (with_reducible refine LeO.ite ?_ ?_)
   | (with_reducible refine LeO.bind ?_ (fun _ => ?_))
   | exact ih0 _ _ _ _
   | exact LeO.none _
   | refine LeO.ite ?_ ?_
   | refine LeO.bind ?_ (fun _ => ?_)
theorem overfallref01_Value.mono : ∀ a0 k, LeO (overfallref01_Value.f k a0) (overfallref01_Value.f (k + 1) a0) := by
 intro a0 k
 have ih0 := overfallref01_Value.mono_l k
 unfold overfallref01_Value.f
 repeat' first
   | (with_reducible exact ih0 _ _ _ _)
   | (with_reducible exact LeO.refl _)
   | (with_reducible exact LeO.none _)
   | (with_reducible refine LeO.ite ?_ ?_)
   | (with_reducible refine LeO.bind ?_ (fun _ => ?_))
   | exact ih0 _ _ _ _
   | exact LeO.none _
   | refine LeO.ite ?_ ?_
   | refine LeO.bind ?_ (fun _ => ?_)
def overfallref01_Value.T5 : Bool × List (List Nat × List Nat) := (true, [([], []), ([0], [0]), ([1], [1]), ([], []), ([], []), ([3, 4], [3, 4]), ([5], [5]), ([6], [6]), ([2, 7], [2, 7]), ([0, 1, 2, 3, 4, 5, 6, 7, 8], []), ([9, 8, 0, 1, 2, 3, 4, 5, 6, 7, 8], [8, 9])])
def overfallref01_Value.B5 : List Nat := [0, 1, 3, 0, 0, 24, 56, 120, 255, 511, 1023]
theorem overfallref01_Value.tab5 : rtab .any (opsOf Try.f35 5) = overfallref01_Value.T5 := by kernel_rfl
theorem overfallref01_Value.bits5 : waitsOk overfallref01_Value.T5.2 overfallref01_Value.B5 = true := by kernel_rfl
def overfallref01_Value.T6 : Bool × List (List Nat × List Nat) := (true, [([], []), ([0], [0]), ([1], [1]), ([], []), ([], []), ([4], [4]), ([3, 5], [3, 5]), ([6], [6]), ([7], [7]), ([2, 8], [2, 8]), ([0, 1, 2, 3, 4, 5, 6, 7, 8, 9], []), ([10, 9, 0, 1, 2, 3, 4, 5, 6, 7, 8, 9], [9, 10])])
def overfallref01_Value.B6 : List Nat := [0, 1, 3, 0, 0, 16, 56, 120, 248, 511, 1023, 2047]
theorem overfallref01_Value.tab6 : rtab .any (opsOf Try.f35 6) = overfallref01_Value.T6 := by kernel_rfl
theorem overfallref01_Value.bits6 : waitsOk overfallref01_Value.T6.2 overfallref01_Value.B6 = true := by kernel_rfl
set_option maxHeartbeats 8000000 in
set_option maxRecDepth 100000 in
theorem overfallref01_Value.calls (k : Nat) (A0 : Option Addr) (c0 : Nat) (l0 : List Int) (r1 : Int) (r2 : Int) (w : World) (hr0 : Kd.C (Kd.int .i64) w A0 l0.length l0) (hc0 : l0.length ≤ c0) (h : overfallref01_Value.f k l0 = some (r1, r2)) :
  Calls Try.prog 35 #[.slice A0 l0.length c0] w fun e w' => e = .returned (.agg #[.int .u64 r1, .int .u64 r2]) ∧ Below w.heap.size w w' := by
 have hu50 := Try.underlying50
 have HR0 := Aside0.mk hr0
 have HC0 := Aside0.mk hc0
 clear hr0 hc0
 have HB := m_ (Below.refl w.heap.size w)
 have H : (overfallref01_Value.l0 k l0 3 0 0) = some (r1, r2) := h
 clear h
 have H' := Aside0.mk H
 clear H
 go_enter Try.func35, Try.ntmps35
 go_wp2_with (first | ((with_reducible refine gate_dst (N := 2) rfl ?_); refine box_event ?hg (N := 2) ?hd (cs := #[.int .u64 0, .int .u64 0]) (t := 50) ?hr ?_; (case hd => rfl); (case hg => rfl); (case hr => first | (go_simp; done) | (go_simp; rfl)); intro gb244 hg w2 hbox hb; have BK244 := m_ (hbox); have GW244 := ge_ (by repeat (with_reducible first | exact HB.out)) hg; have GE244 := GW244; replace HB := st_ (by repeat (with_reducible first | exact HB.out)) hb; clear hb hbox hg) | ((with_reducible refine gate_dst (N := 3) rfl ?_); refine box_event ?hg (N := 3) ?hd (cs := #[.int .u64 0, .int .u64 0]) (t := 50) ?hr ?_; (case hd => rfl); (case hg => rfl); (case hr => first | (go_simp; done) | (go_simp; rfl)); intro gb245 hg w3 hbox hb; have BK245 := m_ (hbox); have GW245 := ge_ (by repeat (with_reducible first | exact HB.out | apply bs_ GE244)) hg; have GE245 := GW245; have NB244_245 := nl_ BK244 hg; have NB245_244 := ng_ BK244 hg; replace BK244 := bb_ BK244 hb; replace HB := st_ (by repeat (with_reducible first | exact HB.out | apply bs_ GE244)) hb; clear hb hbox hg; have hnb4 := NB245_244.out; have hnc4 := NB244_245.out; obtain ⟨hcz5_0, hcz5_1, hfz5_0, hfz5_1⟩ := cf2 BK245))
 go_loopg [4] k (fun kq v4 w' => ∃ (x4_1 : Int) (x246000_1 : Int) (x246001_1 : Int), v4 = .int .i64 x4_1 ∧ Aside0 (overfallref01_Value.l0 kq l0 x4_1 x246000_1 x246001_1 = some (r1, r2)) ∧ Aside0 (kq ≤ k) ∧ Aside0 (w'.heap[gb244]? = some (.cells #[.int .u64 0, .int .u64 0] 50 (0, 0))) ∧ Aside0 (w'.heap[gb245]? = some (.cells #[.int .u64 x246000_1, .int .u64 x246001_1] 50 (0, 0))) ∧ Aside0 (Below w.heap.size w w'))
 case atStart => exact ⟨(3), (0), (0), (by first | rfl | (simp; done) | (simp [*]; done)), H', ⟨Nat.le_refl _⟩, ⟨by refine far2_ NB244_245 ?_; exact BK244.out⟩, ⟨by apply put2_; exact BK245.out⟩, ⟨by repeat (with_reducible first | exact HB.out | apply bs_ GE244 | apply bs_ GE245)⟩⟩
 case round =>
  clear H'
  try clear p2
  try clear c3
  try clear c4
  try clear hcz5_0
  try clear hcz5_1
  try clear hfz5_0
  try clear hfz5_1
  obtain ⟨x4_1, x246000_1, x246001_1, rfl, HA, HK1, BK244, BK245, HB⟩ := hrel
  cases gk with
  | zero => exact absurd HA.out (by simp [overfallref01_Value.l0])
  | succ k1 =>
   have H := HA.out
   clear HA
   simp only [overfallref01_Value.l0] at H
   by_cases c6 : x4_1 ≥ 0
   ·rw [if_pos c6] at H
    have c6b0 : decide (0 ≤ x4_1) = true := decide_eq_true c6
    clear c6
    by_cases c7 : 0 ≤ x4_1
    ·rw [if_pos c7] at H
     have c7b0 : decide (0 ≤ x4_1) = true := decide_eq_true c7
     clear c7
     by_cases c8 : x4_1 < (l0.length : Int)
     ·rw [if_pos c8] at H
      have c8b0 : decide (x4_1 < (l0.length : Int)) = true := decide_eq_true c8
      clear c8
      obtain ⟨ji9, hji9⟩ : ∃ j_ : Int, (wrap64 (x4_1 + 4)) = j_ := ⟨_, rfl⟩
      replace H : (if 0 ≤ (ji9) then (if (ji9) < (l0.length : Int) then (overfallref01_Value.l0 k1 l0 (wrap64 (x4_1 - 1)) (IntKind.u64.wrap ((IntKind.u64.wrap (x246000_1 * 65536)) + (IntKind.u64.wrap (rd l0 (ji9))))) (IntKind.u64.wrap ((IntKind.u64.wrap (x246001_1 * 65536)) + (IntKind.u64.wrap (rd l0 x4_1))))) else (none)) else (none)) = some (r1, r2) := by first | (rw [hji9] at H; exact H) | (simp only [hji9] at H ⊢; exact H)
      have hji9w : (IntKind.i64.wrap (x4_1 + 4)) = ji9 := (i64_w _).trans hji9
      by_cases c10 : 0 ≤ (ji9)
      ·rw [if_pos c10] at H
       have c10b0 : decide (0 ≤ (ji9)) = true := decide_eq_true c10
       clear c10
       by_cases c11 : (ji9) < (l0.length : Int)
       ·rw [if_pos c11] at H
        have c11b0 : decide ((ji9) < (l0.length : Int)) = true := decide_eq_true c11
        clear c11
        have H' := Aside0.mk H
        clear H
        try go_wp2
        replace BK244 := m_ (blk_drew BK244.out)
        replace BK245 := m_ (blk_drew BK245.out)
        replace HB := m_ (below_drew1 HB.out)
        have p246 : 0 ≤ (x4_1 : Int) := of_decide_eq_true (by first | (with_reducible assumption) | assumption)
        have q246 : x4_1 < (l0.length : Int) := of_decide_eq_true (by first | (with_reducible assumption) | assumption)
        obtain ⟨ad246, e246, hx246_0⟩ := Kd.at_int HR0.out x4_1 p246 q246
        have hw246_0 := hx246_0
        cases e246
        replace hx246_0 := (HB.out.cell (World.block_lt_of_cell? w _ hx246_0)).trans hx246_0
        replace p246 := eq_true p246
        replace q246 := eq_true q246
        refine start_ (n := 11) (S := fun w' => w'.cell? ⟨gb245, 0, none⟩ = some (.int .u64 x246000_1) ∧ w'.cell? ⟨gb245, 1, none⟩ = some (.int .u64 x246001_1) ∧ w'.cell? (ad246.add (x4_1).toNat) = some (.int .i64 (rd l0 x4_1))) (ds := [10]) #[false, false, false, false, false, false, false, false, false, false, false] (by kernel_rfl) rfl rfl ⟨(blk_cell BK245.out 0).trans rfl, (blk_cell BK245.out 1).trans rfl, ((HB.out.cell (World.block_lt_of_cell? w _ hw246_0)).trans hw246_0)⟩ (fun hHeld => ?_); refine with_tabW overfallref01_Value.tab5 overfallref01_Value.bits5 (fun HT_ HW_ => ?_)
        generalize wr.drew = w12 at BK244 BK245 HB hx246_0 hHeld ⊢
        refine pure_ (i := 0) (N := some 10) (v := ?_) (a' := ?_) #[true, false, false, false, false, false, false, false, false, false, false] rfl rfl (any_of HT_.out (by kernel_rfl)) (fun _ _ _ h => h) (Or.inl ⟨by rfl, ?_⟩) ?_ ?_
        rotate_left
        ·intro w'
         go_simp
         with_reducible rfl
        rotate_left
        ·simp only [Act.put, sa_, s0_, ss_, i64_w, i32_w]
         rfl
        refine pure_ (i := 3) (N := some 13) (v := ?_) (a' := ?_) #[true, false, false, true, false, false, false, false, false, false, false] rfl rfl (any_of HT_.out (by kernel_rfl)) (fun _ _ _ h => h) (Or.inl ⟨by rfl, ?_⟩) ?_ ?_
        rotate_left
        ·intro w'
         go_simp
         with_reducible rfl
        rotate_left
        ·simp only [Act.put, sa_, s0_, ss_, i64_w, i32_w]
         rfl
        refine pure_ (i := 4) (N := some 14) (v := ?_) (a' := ?_) #[true, false, false, true, true, false, false, false, false, false, false] rfl rfl (any_of HT_.out (by kernel_rfl)) (fun _ _ _ h => h) (Or.inl ⟨by rfl, ?_⟩) ?_ ?_
        rotate_left
        ·intro w'
         go_simp
         with_reducible rfl
        rotate_left
        ·simp only [Act.put, sa_, s0_, ss_, i64_w, i32_w]
         rfl
        refine pure_ (i := 5) (N := some 15) (v := ?_) (a' := ?_) #[true, false, false, true, true, true, false, false, false, false, false] rfl rfl (any_of HT_.out (by kernel_rfl)) (fun _ _ _ h => h) (Or.inl ⟨by rfl, ?_⟩) ?_ ?_
        rotate_left
        ·intro w'
         go_simp
         with_reducible rfl
        rotate_left
        ·simp only [Act.put, sa_, s0_, ss_, i64_w, i32_w]
         rfl
        refine take_ (i := 1) (N := some 11) (v := ?_) (a' := ?_) #[true, true, false, true, true, true, false, false, false, false, false] rfl rfl (take_ofW HT_.out HW_.out (by kernel_rfl)) (fun _ _ _ h => h) (Or.inl ⟨by rfl, ?_⟩) hHeld ?_ ?_
        rotate_left
        ·rintro w' ⟨s0, s1, s2⟩
         go_simp
         with_reducible rfl
        rotate_left
        ·simp only [Act.put, sa_, s0_, ss_, i64_w, i32_w]
         rfl
        refine pure_ (i := 2) (N := some 12) (v := ?_) (a' := ?_) #[true, true, true, true, true, true, false, false, false, false, false] rfl rfl (any_of HT_.out (by kernel_rfl)) (fun _ _ _ h => h) (Or.inl ⟨by rfl, ?_⟩) ?_ ?_
        rotate_left
        ·intro w'
         go_simp
         with_reducible rfl
        rotate_left
        ·simp only [Act.put, sa_, s0_, ss_, i64_w, i32_w]
         rfl
        refine take_ (i := 6) (N := some 16) (v := ?_) (a' := ?_) #[true, true, true, true, true, true, true, false, false, false, false] rfl rfl (take_ofW HT_.out HW_.out (by kernel_rfl)) (fun _ _ _ h => h) (Or.inl ⟨by rfl, ?_⟩) hHeld ?_ ?_
        rotate_left
        ·rintro w' ⟨s0, s1, s2⟩
         go_simp
         with_reducible rfl
        rotate_left
        ·simp only [Act.put, sa_, s0_, ss_, i64_w, i32_w]
         rfl
        refine pure_ (i := 7) (N := some 17) (v := ?_) (a' := ?_) #[true, true, true, true, true, true, true, true, false, false, false] rfl rfl (any_of HT_.out (by kernel_rfl)) (fun _ _ _ h => h) (Or.inl ⟨by rfl, ?_⟩) ?_ ?_
        rotate_left
        ·intro w'
         go_simp
         with_reducible rfl
        rotate_left
        ·simp only [Act.put, sa_, s0_, ss_, i64_w, i32_w]
         rfl
        refine pure_ (i := 8) (N := some 18) (v := ?_) (a' := ?_) #[true, true, true, true, true, true, true, true, true, false, false] rfl rfl (any_of HT_.out (by kernel_rfl)) (fun _ _ _ h => h) (Or.inl ⟨by rfl, ?_⟩) ?_ ?_
        rotate_left
        ·intro w'
         go_simp
         with_reducible rfl
        rotate_left
        ·simp only [Act.put, sa_, s0_, ss_, i64_w, i32_w]
         rfl
        refine pure_ (i := 9) (N := some 19) (v := ?_) (a' := ?_) #[true, true, true, true, true, true, true, true, true, true, false] rfl rfl (any_of HT_.out (by kernel_rfl)) (fun _ _ _ h => h) (Or.inl ⟨by rfl, ?_⟩) ?_ ?_
        rotate_left
        ·intro w'
         go_simp
         with_reducible rfl
        rotate_left
        ·simp only [Act.put, sa_, s0_, ss_, i64_w, i32_w]
         rfl
        refine last_ (i := 10) (N := none) #[true, true, true, true, true, true, true, true, true, true, true] rfl rfl (one_of HT_.out (by kernel_rfl)) (by decide) (fun K hK => ?_)
        have hs13 : w12.cell? ⟨gb245, 1, none⟩ = some (.int .u64 x246001_1) := (blk_cell BK245.out 1).trans rfl
        have hfs13 := blk_frozen BK245.out 1
        have hns13_0 := NB244_245.out
        have hms13_0 := NB245_244.out
        refine skip_ (w1 := ?_) (by rfl) rfl ?_ ?_
        rotate_left
        ·go_simp
         rfl
        refine hK.out _ _ ?_
        clear hK K
        refine done_ (done_of HT_.out (by kernel_rfl)) ?_
        try go_wp2
        have n0_ : Aside0 ((w12.setCell ⟨gb245, 1, none⟩ (.int .u64 (IntKind.u64.wrap ((IntKind.u64.wrap (x246001_1 * 65536)) + (IntKind.u64.wrap (rd l0 x4_1)))))).heap[gb244]? = some (.cells #[.int .u64 0, .int .u64 0] 50 (0, 0))) := ⟨by refine blk_far ?_ NB244_245.out _; exact BK244.out⟩
        have n1_ : Aside0 ((w12.setCell ⟨gb245, 1, none⟩ (.int .u64 (IntKind.u64.wrap ((IntKind.u64.wrap (x246001_1 * 65536)) + (IntKind.u64.wrap (rd l0 x4_1)))))).heap[gb245]? = some (.cells #[.int .u64 x246000_1, .int .u64 (IntKind.u64.wrap ((IntKind.u64.wrap (x246001_1 * 65536)) + (IntKind.u64.wrap (rd l0 x4_1))))] 50 (0, 0))) := ⟨by refine blk_put (cs := #[.int .u64 x246000_1, .int .u64 x246001_1]) ?_ 1 _ rfl; exact BK245.out⟩
        have n2_ : Aside0 (Below w.heap.size w (w12.setCell ⟨gb245, 1, none⟩ (.int .u64 (IntKind.u64.wrap ((IntKind.u64.wrap (x246001_1 * 65536)) + (IntKind.u64.wrap (rd l0 x4_1))))))) := ⟨by repeat (with_reducible first | exact HB.out | apply bs_ GE244 | apply bs_ GE245)⟩
        (try clear BK244)
        (try clear BK245)
        (try clear HB)
        generalize (w12.setCell ⟨gb245, 1, none⟩ (.int .u64 (IntKind.u64.wrap ((IntKind.u64.wrap (x246001_1 * 65536)) + (IntKind.u64.wrap (rd l0 x4_1)))))) = w14 at n0_ n1_ n2_ ⊢
        have BK244 := n0_
        have BK245 := n1_
        have HB := n2_
        clear n0_ n1_ n2_
        replace BK244 := m_ (blk_drew BK244.out)
        replace BK245 := m_ (blk_drew BK245.out)
        replace HB := m_ (below_drew1 HB.out)
        have p247 : 0 ≤ ((ji9) : Int) := of_decide_eq_true (by first | (with_reducible assumption) | assumption)
        have q247 : (ji9) < (l0.length : Int) := of_decide_eq_true (by first | (with_reducible assumption) | assumption)
        obtain ⟨ad247, e247, hx247_0⟩ := Kd.at_int HR0.out (ji9) p247 q247
        have hw247_0 := hx247_0
        obtain rfl : ad246 = ad247 := (by injection e247)
        replace hx247_0 := (HB.out.cell (World.block_lt_of_cell? w _ hx247_0)).trans hx247_0
        replace p247 := eq_true p247
        replace q247 := eq_true q247
        refine start_ (n := 12) (S := fun w' => w'.cell? ⟨gb245, 0, none⟩ = some (.int .u64 x246000_1) ∧ w'.cell? ⟨gb245, 1, none⟩ = some (.int .u64 (IntKind.u64.wrap ((IntKind.u64.wrap (x246001_1 * 65536)) + (IntKind.u64.wrap (rd l0 x4_1))))) ∧ w'.cell? (ad246.add ((ji9)).toNat) = some (.int .i64 (rd l0 (ji9)))) (ds := [11]) #[false, false, false, false, false, false, false, false, false, false, false, false] (by kernel_rfl) rfl rfl ⟨(blk_cell BK245.out 0).trans rfl, (blk_cell BK245.out 1).trans rfl, ((HB.out.cell (World.block_lt_of_cell? w _ hw247_0)).trans hw247_0)⟩ (fun hHeld => ?_); refine with_tabW overfallref01_Value.tab6 overfallref01_Value.bits6 (fun HT_ HW_ => ?_)
        generalize w14.drew = w15 at BK244 BK245 HB hx247_0 hHeld ⊢
        refine pure_ (i := 0) (N := some 20) (v := ?_) (a' := ?_) #[true, false, false, false, false, false, false, false, false, false, false, false] rfl rfl (any_of HT_.out (by kernel_rfl)) (fun _ _ _ h => h) (Or.inl ⟨by rfl, ?_⟩) ?_ ?_
        rotate_left
        ·intro w'
         go_simp
         with_reducible rfl
        rotate_left
        ·simp only [Act.put, sa_, s0_, ss_, i64_w, i32_w]
         rfl
        refine pure_ (i := 3) (N := some 23) (v := ?_) (a' := ?_) #[true, false, false, true, false, false, false, false, false, false, false, false] rfl rfl (any_of HT_.out (by kernel_rfl)) (fun _ _ _ h => h) (Or.inl ⟨by rfl, ?_⟩) ?_ ?_
        rotate_left
        ·intro w'
         go_simp
         with_reducible rfl
        rotate_left
        ·simp only [Act.put, sa_, s0_, ss_, i64_w, i32_w]
         rfl
        refine pure_ (i := 4) (N := some 24) (v := ?_) (a' := ?_) #[true, false, false, true, true, false, false, false, false, false, false, false] rfl rfl (any_of HT_.out (by kernel_rfl)) (fun _ _ _ h => h) (Or.inl ⟨by rfl, ?_⟩) ?_ ?_
        rotate_left
        ·intro w'
         go_simp
         with_reducible rfl
        rotate_left
        ·simp only [Act.put, sa_, s0_, ss_, i64_w, i32_w]
         rfl
        refine pure_ (i := 5) (N := some 25) (v := ?_) (a' := ?_) #[true, false, false, true, true, true, false, false, false, false, false, false] rfl rfl (any_of HT_.out (by kernel_rfl)) (fun _ _ _ h => h) (Or.inl ⟨by rfl, ?_⟩) ?_ ?_
        rotate_left
        ·intro w'
         go_simp
         with_reducible rfl
        rotate_left
        ·simp only [Act.put, sa_, s0_, ss_, i64_w, i32_w]
         rfl
        refine pure_ (i := 6) (N := some 26) (v := ?_) (a' := ?_) #[true, false, false, true, true, true, true, false, false, false, false, false] rfl rfl (any_of HT_.out (by kernel_rfl)) (fun _ _ _ h => h) (Or.inl ⟨by rfl, ?_⟩) ?_ ?_
        rotate_left
        ·intro w'
         go_simp
         with_reducible rfl
        rotate_left
        ·simp only [Act.put, sa_, s0_, ss_, i64_w, i32_w]
         rfl
        refine take_ (i := 1) (N := some 21) (v := ?_) (a' := ?_) #[true, true, false, true, true, true, true, false, false, false, false, false] rfl rfl (take_ofW HT_.out HW_.out (by kernel_rfl)) (fun _ _ _ h => h) (Or.inl ⟨by rfl, ?_⟩) hHeld ?_ ?_
        rotate_left
        ·rintro w' ⟨s0, s1, s2⟩
         go_simp
         with_reducible rfl
        rotate_left
        ·simp only [Act.put, sa_, s0_, ss_, i64_w, i32_w]
         rfl
        refine pure_ (i := 2) (N := some 22) (v := ?_) (a' := ?_) #[true, true, true, true, true, true, true, false, false, false, false, false] rfl rfl (any_of HT_.out (by kernel_rfl)) (fun _ _ _ h => h) (Or.inl ⟨by rfl, ?_⟩) ?_ ?_
        rotate_left
        ·intro w'
         go_simp
         with_reducible rfl
        rotate_left
        ·simp only [Act.put, sa_, s0_, ss_, i64_w, i32_w]
         rfl
        refine take_ (i := 7) (N := some 27) (v := ?_) (a' := ?_) #[true, true, true, true, true, true, true, true, false, false, false, false] rfl rfl (take_ofW HT_.out HW_.out (by kernel_rfl)) (fun _ _ _ h => h) (Or.inl ⟨by rfl, ?_⟩) hHeld ?_ ?_
        rotate_left
        ·rintro w' ⟨s0, s1, s2⟩
         go_simp
         with_reducible rfl
        rotate_left
        ·simp only [Act.put, sa_, s0_, ss_, i64_w, i32_w]
         rfl
        refine pure_ (i := 8) (N := some 28) (v := ?_) (a' := ?_) #[true, true, true, true, true, true, true, true, true, false, false, false] rfl rfl (any_of HT_.out (by kernel_rfl)) (fun _ _ _ h => h) (Or.inl ⟨by rfl, ?_⟩) ?_ ?_
        rotate_left
        ·intro w'
         go_simp
         with_reducible rfl
        rotate_left
        ·simp only [Act.put, sa_, s0_, ss_, i64_w, i32_w]
         rfl
        refine pure_ (i := 9) (N := some 29) (v := ?_) (a' := ?_) #[true, true, true, true, true, true, true, true, true, true, false, false] rfl rfl (any_of HT_.out (by kernel_rfl)) (fun _ _ _ h => h) (Or.inl ⟨by rfl, ?_⟩) ?_ ?_
        rotate_left
        ·intro w'
         go_simp
         with_reducible rfl
        rotate_left
        ·simp only [Act.put, sa_, s0_, ss_, i64_w, i32_w]
         rfl
        refine pure_ (i := 10) (N := some 30) (v := ?_) (a' := ?_) #[true, true, true, true, true, true, true, true, true, true, true, false] rfl rfl (any_of HT_.out (by kernel_rfl)) (fun _ _ _ h => h) (Or.inl ⟨by rfl, ?_⟩) ?_ ?_
        rotate_left
        ·intro w'
         go_simp
         with_reducible rfl
        rotate_left
        ·simp only [Act.put, sa_, s0_, ss_, i64_w, i32_w]
         rfl
        refine last_ (i := 11) (N := none) #[true, true, true, true, true, true, true, true, true, true, true, true] rfl rfl (one_of HT_.out (by kernel_rfl)) (by decide) (fun K hK => ?_)
        have hs16 : w15.cell? ⟨gb245, 0, none⟩ = some (.int .u64 x246000_1) := (blk_cell BK245.out 0).trans rfl
        have hfs16 := blk_frozen BK245.out 0
        have hns16_0 := NB244_245.out
        have hms16_0 := NB245_244.out
        refine skip_ (w1 := ?_) (by rfl) rfl ?_ ?_
        rotate_left
        ·go_simp
         rfl
        refine hK.out _ _ ?_
        clear hK K
        refine done_ (done_of HT_.out (by kernel_rfl)) ?_
        try go_wp2
        go_roundg k1
        case measure => have := HK1.out; omega
        case rel => exact ⟨(wrap64 (x4_1 - 1)), (IntKind.u64.wrap ((IntKind.u64.wrap (x246000_1 * 65536)) + (IntKind.u64.wrap (rd l0 (ji9))))), (IntKind.u64.wrap ((IntKind.u64.wrap (x246001_1 * 65536)) + (IntKind.u64.wrap (rd l0 x4_1)))), (by first | rfl | (simp; done) | (simp [*]; done)), H', ⟨by have := HK1.out; omega⟩, ⟨by refine blk_far ?_ NB244_245.out _; exact BK244.out⟩, ⟨by refine blk_put (cs := #[.int .u64 x246000_1, .int .u64 (IntKind.u64.wrap ((IntKind.u64.wrap (x246001_1 * 65536)) + (IntKind.u64.wrap (rd l0 x4_1))))]) ?_ 0 _ rfl; exact BK245.out⟩, ⟨by repeat (with_reducible first | exact HB.out | apply bs_ GE244 | apply bs_ GE245)⟩⟩
       ·rw [if_neg c11] at H
        exact absurd H (by simp)
      ·rw [if_neg c10] at H
       exact absurd H (by simp)
     ·rw [if_neg c8] at H
      exact absurd H (by simp)
    ·rw [if_neg c7] at H
     exact absurd H (by simp)
   ·rw [if_neg c6] at H
    have c6b0 : decide (0 ≤ x4_1) = false := decide_eq_false c6
    clear c6
    simp only [Option.some.injEq, Prod.mk.injEq] at H
    obtain ⟨rfl, rfl⟩ := H
    have hnb17 := NB245_244.out
    have hnc17 := NB244_245.out
    obtain ⟨hcz18_0, hcz18_1, hfz18_0, hfz18_1⟩ := cf2 BK245
    obtain ⟨hcz19_0, hcz19_1, hfz19_0, hfz19_1⟩ := cf2 BK244
    go_wp2
    refine bodyPost_ret (results_cell_row rfl _ _ gb244 50 #[.int .u64 x246000_1, .int .u64 x246001_1] (0, 0) _ rfl (by apply put2_; exact BK244.out) Try.underlying50 rfl (by kernel_rfl)) rfl ?_
    exact ⟨by first | rfl | (simp [errW_none, errW_some] <;> rfl) | (simp [*, errW_none, errW_some] <;> rfl), by repeat (with_reducible first | exact HB.out | apply bs_ GE244 | apply bs_ GE245)⟩

end Go.Proofs.Ytiiffgmbkajkhaa.L

-- Laid by a program of this claim's session (wip/tools/myprint.py) over the kit's printer.
import Derived.Test.YtiiffgmbkajkhaaLx0
namespace Go.Proofs.Ytiiffgmbkajkhaa.L
open Go.RowKit Go.Proofs.YtiiffgmbkajkhaaW.PrintWords Go.Proofs.YtiiffgmbkajkhaaW.PrintLast Go.Proofs.YtiiffgmbkajkhaaW.PrintMore
attribute [local go_sem] max2_int min2_int max_two min_two max_three min_three max_four min_four   -- for this text's walks alone
set_option linter.unusedVariables false
set_option linter.unusedSimpArgs false

/-! ### fix_end: function 41 -/
def fix_end.f (a0 : Bool) : Option (Int) := if a0 = true then (some (-9223372036854775808)) else (some 9223372036854775807)
set_option maxHeartbeats 8000000 in
set_option maxRecDepth 100000 in
theorem fix_end.calls (a0 : Bool) (r : Int) (w : World) (h : fix_end.f a0 = some r) :
  Calls Try.prog 41 #[.bool a0] w fun e w' => e = .returned (.int .i64 r) ∧ Drawn0 w w' := by
 have H : (if a0 = true then (some (-9223372036854775808)) else (some 9223372036854775807)) = some r := h
 clear h
 by_cases c2 : a0 = true
 ·subst c2
  have H1 : (some (-9223372036854775808)) = some r := by rw [if_pos rfl] at H; exact H
  clear H
  have H := H1
  clear H1
  obtain rfl := Option.some.inj H
  go_enter Try.func41, Try.ntmps41
  go_wp2
  go_ret
  exact ⟨by first | rfl | (simp; done) | (simp [*]; done), by repeat (first | exact Drawn0.refl _ | apply Drawn0.step)⟩
 ·replace c2 := Bool.eq_false_iff.mpr c2
  subst c2
  have H1 : (some 9223372036854775807) = some r := by rw [if_neg (show ¬ (false = true) by decide)] at H; exact H
  clear H
  have H := H1
  clear H1
  obtain rfl := Option.some.inj H
  go_enter Try.func41, Try.ntmps41
  go_wp2
  go_ret
  exact ⟨by first | rfl | (simp; done) | (simp [*]; done), by repeat (first | exact Drawn0.refl _ | apply Drawn0.step)⟩

/-! ### fix_Add: function 36 -/
def fix_Add.f (a0 : Int) (a1 : Int) : Option (Int) := if ((decide (a0 < 0)) == (decide (a1 < 0))) = true then (if ((decide ((wrap64 (a0 + a1)) < 0)) != (decide (a0 < 0))) = true then ((fix_end.f (decide (a0 < 0))).bind fun t101 => (some t101)) else (some (wrap64 (a0 + a1)))) else (some (wrap64 (a0 + a1)))
set_option maxHeartbeats 8000000 in
set_option maxRecDepth 100000 in
theorem fix_Add.calls (a0 : Int) (a1 : Int) (r : Int) (w : World) (h : fix_Add.f a0 a1 = some r) :
  Calls Try.prog 36 #[.int .i64 a0, .int .i64 a1] w fun e w' => e = .returned (.int .i64 r) ∧ Drawn0 w w' := by
 have H : (if ((decide (a0 < 0)) == (decide (a1 < 0))) = true then (if ((decide ((wrap64 (a0 + a1)) < 0)) != (decide (a0 < 0))) = true then ((fix_end.f (decide (a0 < 0))).bind fun t101 => (some t101)) else (some (wrap64 (a0 + a1)))) else (some (wrap64 (a0 + a1)))) = some r := h
 clear h
 by_cases c3 : ((decide (a0 < 0)) == (decide (a1 < 0))) = true
 ·rw [if_pos c3] at H
  have c3b0 : ((decide (a0 < 0)) == (decide (a1 < 0))) = true := c3
  (try (have c3b1 : decide ((decide (a0 < 0)) = (decide (a1 < 0))) = true := by simpa using c3))
  (try (have c3b2 : ((decide (a0 < 0)) == (decide (a1 < 0))) = true := by simpa using c3))
  clear c3
  by_cases c4 : ((decide ((wrap64 (a0 + a1)) < 0)) != (decide (a0 < 0))) = true
  ·rw [if_pos c4] at H
   have c4b0 : ((decide ((wrap64 (a0 + a1)) < 0)) != (decide (a0 < 0))) = true := c4
   (try (have c4b1 : decide ((decide ((wrap64 (a0 + a1)) < 0)) = (decide (a0 < 0))) = false := by simpa using c4))
   (try (have c4b2 : ((decide ((wrap64 (a0 + a1)) < 0)) == (decide (a0 < 0))) = false := by simpa using c4))
   (try (have c4b3 : ¬ ((decide ((wrap64 (a0 + a1)) < 0)) = (decide (a0 < 0))) := by simpa using c4))
   clear c4
   replace H := Option.bind_eq_some_iff.mp H
   obtain ⟨t101, A50, H⟩ := H
   replace H : (some t101) = some r := H
   have A5 := Aside0.mk A50
   clear A50
   obtain rfl := Option.some.inj H
   go_enter Try.func36, Try.ntmps36
   go_wp2_with (first | ((with_reducible refine gate_callee (f := 41) rfl ?_); refine goesL_ (some 23) rfl rfl Try.func41 (by kernel_rfl) rfl #[.bool (decide (a0 < 0))] rfl (by first | rfl | (simp only [List.map_toArray, List.map_cons, List.map_nil]; first | done | rfl)) ?_; (with_reducible refine (fix_end.calls (decide (a0 < 0)) t101 _ A5.out).mono ?_); rintro e w' ⟨rfl, ⟨nd, rfl⟩⟩; refine ⟨_, rfl, ?_⟩))
   go_ret
   exact ⟨by first | rfl | (simp; done) | (simp [*]; done), by repeat (first | exact Drawn0.refl _ | apply Drawn0.step)⟩
  ·rw [if_neg c4] at H
   have c4b0 : ((decide ((wrap64 (a0 + a1)) < 0)) != (decide (a0 < 0))) = false := by simpa using c4
   (try (have c4b1 : decide ((decide ((wrap64 (a0 + a1)) < 0)) = (decide (a0 < 0))) = true := by simpa using c4))
   (try (have c4b2 : ((decide ((wrap64 (a0 + a1)) < 0)) == (decide (a0 < 0))) = true := by simpa using c4))
   clear c4
   obtain rfl := Option.some.inj H
   go_enter Try.func36, Try.ntmps36
   go_wp2
   go_ret
   exact ⟨by first | rfl | (simp; done) | (simp [*]; done), by repeat (first | exact Drawn0.refl _ | apply Drawn0.step)⟩
 ·rw [if_neg c3] at H
  have c3b0 : ((decide (a0 < 0)) == (decide (a1 < 0))) = false := by simpa using c3
  (try (have c3b1 : decide ((decide (a0 < 0)) = (decide (a1 < 0))) = false := by simpa using c3))
  (try (have c3b2 : ((decide (a0 < 0)) == (decide (a1 < 0))) = false := by simpa using c3))
  (try (have c3b3 : ¬ ((decide (a0 < 0)) = (decide (a1 < 0))) := by simpa using c3))
  clear c3
  obtain rfl := Option.some.inj H
  go_enter Try.func36, Try.ntmps36
  go_wp2
  go_ret
  exact ⟨by first | rfl | (simp; done) | (simp [*]; done), by repeat (first | exact Drawn0.refl _ | apply Drawn0.step)⟩

/-! ### codel_State_note: function 27 -/
def codel_State_note.j0 : Nat → Int → Bool → Bool → Int → Bool → Int → Int → Int → Int → Int → Option (Bool × Int × Bool × Int × Int × Int × Bool)
 | 0, _, _, _, _, _, _, _, _, _, _ => none
 | k + 1, x2, x12, x103000, x103001, x103002, x103003, x103004, x103005, x104000, x104001 => if x103000 = true then (if x12 = true then (some (x103000, x103001, x103002, x103003, x103004, x103005, decide (x2 ≥ x103001))) else ((fix_Add.f x2 x104001).bind fun t105 => (some (x103000, t105, x103002, x103003, x103004, x103005, false)))) else (some (x103000, 0, x103002, x103003, x103004, x103005, false))
def codel_State_note.f (k : Nat) (a0_0 : Bool) (a0_1 : Int) (a0_2 : Bool) (a0_3 : Int) (a0_4 : Int) (a0_5 : Int) (a1_0 : Int) (a1_1 : Int) (a2 : Int) (a3 : Int) (a4 : Int) : Option (Bool × Int × Bool × Int × Int × Int × Bool) := if a3 ≥ a1_0 then (codel_State_note.j0 k a2 a0_0 (decide (a4 > 1)) a0_1 a0_2 a0_3 a0_4 a0_5 a1_0 a1_1) else (codel_State_note.j0 k a2 a0_0 false a0_1 a0_2 a0_3 a0_4 a0_5 a1_0 a1_1)
theorem codel_State_note.mono_l : ∀ k, (∀ y0 y1 y2 y3 y4 y5 y6 y7 y8 y9, LeO (codel_State_note.j0 k y0 y1 y2 y3 y4 y5 y6 y7 y8 y9) (codel_State_note.j0 (k + 1) y0 y1 y2 y3 y4 y5 y6 y7 y8 y9))
 | 0 => fun _ _ _ _ _ _ _ _ _ _ r h => by simp [codel_State_note.j0] at h
 | k + 1 => by
  have ih0 := codel_State_note.mono_l k
  ·intro y0 y1 y2 y3 y4 y5 y6 y7 y8 y9
   unfold codel_State_note.j0
   repeat' first
   | (with_reducible exact ih0 _ _ _ _ _ _ _ _ _ _)
   | (with_reducible exact LeO.refl _)
   | (with_reducible exact LeO.none _)
   | (with_reducible refine LeO.ite ?_ ?_)
   | (with_reducible refine LeO.bind ?_ (fun _ => ?_))
   | exact ih0 _ _ _ _ _ _ _ _ _ _
   | exact LeO.none _
   | refine LeO.ite ?_ ?_
   | refine LeO.bind ?_ (fun _ => ?_)
theorem codel_State_note.mono : ∀ a0 a1 a2 a3 a4 a5 a6 a7 a8 a9 a10 k, LeO (codel_State_note.f k a0 a1 a2 a3 a4 a5 a6 a7 a8 a9 a10) (codel_State_note.f (k + 1) a0 a1 a2 a3 a4 a5 a6 a7 a8 a9 a10) := by
 intro a0 a1 a2 a3 a4 a5 a6 a7 a8 a9 a10 k
 have ih0 := codel_State_note.mono_l k
 unfold codel_State_note.f
 repeat' first
   | (with_reducible exact ih0 _ _ _ _ _ _ _ _ _ _)
   | (with_reducible exact LeO.refl _)
   | (with_reducible exact LeO.none _)
   | (with_reducible refine LeO.ite ?_ ?_)
   | (with_reducible refine LeO.bind ?_ (fun _ => ?_))
   | exact ih0 _ _ _ _ _ _ _ _ _ _
   | exact LeO.none _
   | refine LeO.ite ?_ ?_
   | refine LeO.bind ?_ (fun _ => ?_)
def codel_State_note.T7 : Bool × List (List Nat × List Nat) := (true, [([], []), ([], []), ([1], [1]), ([2], [2]), ([3], [3]), ([3, 4], [3, 4]), ([5, 3], [5]), ([6], [6]), ([6], [6]), ([8, 6], [6, 8]), ([7, 9, 6], [6, 7, 9]), ([6, 10], [6, 10]), ([0, 6, 0], [0]), ([11, 12, 0, 1, 2, 3, 4, 5, 6, 7, 8, 9, 10, 11, 12], [11])])
def codel_State_note.B7 : List Nat := [0, 0, 2, 6, 14, 30, 62, 126, 126, 382, 1022, 2046, 127, 8191]
theorem codel_State_note.tab7 : rtab .any (opsOf Try.f27 7) = codel_State_note.T7 := by kernel_rfl
theorem codel_State_note.bits7 : waitsOk codel_State_note.T7.2 codel_State_note.B7 = true := by kernel_rfl
set_option maxHeartbeats 8000000 in
set_option maxRecDepth 100000 in
theorem codel_State_note.calls (k : Nat) (a0_0 : Bool) (a0_1 : Int) (a0_2 : Bool) (a0_3 : Int) (a0_4 : Int) (a0_5 : Int) (a1_0 : Int) (a1_1 : Int) (a2 : Int) (a3 : Int) (a4 : Int) (r1 : Bool) (r2 : Int) (r3 : Bool) (r4 : Int) (r5 : Int) (r6 : Int) (r7 : Bool) (w : World) (h : codel_State_note.f k a0_0 a0_1 a0_2 a0_3 a0_4 a0_5 a1_0 a1_1 a2 a3 a4 = some (r1, r2, r3, r4, r5, r6, r7)) :
  Calls Try.prog 27 #[.agg #[.bool a0_0, .int .i64 a0_1, .bool a0_2, .int .i64 a0_3, .int .u64 a0_4, .int .u64 a0_5], .agg #[.int .i64 a1_0, .int .i64 a1_1], .int .i64 a2, .int .i64 a3, .int .i64 a4] w fun e w' => e = .returned (.tuple #[.agg #[.bool r1, .int .i64 r2, .bool r3, .int .i64 r4, .int .u64 r5, .int .u64 r6], .bool r7]) ∧ Below w.heap.size w w' := by
 have hu24 := Try.underlying24
 have hu26 := Try.underlying26
 have HB := m_ (Below.refl w.heap.size w)
 have H : (if a3 ≥ a1_0 then (codel_State_note.j0 k a2 a0_0 (decide (a4 > 1)) a0_1 a0_2 a0_3 a0_4 a0_5 a1_0 a1_1) else (codel_State_note.j0 k a2 a0_0 false a0_1 a0_2 a0_3 a0_4 a0_5 a1_0 a1_1)) = some (r1, r2, r3, r4, r5, r6, r7) := h
 clear h
 have HC6 := Aside0.mk H
 clear H
 go_enter Try.func27, Try.ntmps27
 go_upto_region 2 with (first | ((with_reducible refine gate_dst (N := 5) rfl ?_); refine box_event ?hg (N := 5) ?hd (cs := #[.bool a0_0, .int .i64 a0_1, .bool a0_2, .int .i64 a0_3, .int .u64 a0_4, .int .u64 a0_5]) (t := 24) ?hr ?_; (case hd => rfl); (case hg => rfl); (case hr => first | (go_simp; done) | (go_simp; rfl)); intro gb102 hg w7 hbox hb; have BK102 := m_ (hbox); have GW102 := ge_ (by repeat (with_reducible first | exact HB.out | apply below_drew1 | apply pw_below_drewN)) hg; have GE102 := GW102; replace HB := st_ (by repeat (with_reducible first | exact HB.out | apply below_drew1 | apply pw_below_drewN)) hb; clear hb hbox hg) | ((with_reducible refine gate_dst (N := 6) rfl ?_); refine box_event ?hg (N := 6) ?hd (cs := #[.int .i64 a1_0, .int .i64 a1_1]) (t := 26) ?hr ?_; (case hd => rfl); (case hg => rfl); (case hr => first | (go_simp; done) | (go_simp; rfl)); intro gb103 hg w8 hbox hb; have BK103 := m_ (hbox); have GW103 := ge_ (by repeat (with_reducible first | exact HB.out | apply bs_ GE102 | apply below_drew1 | apply pw_below_drewN)) hg; have GE103 := GW103; have NB102_103 := nl_ BK102 hg; have NB103_102 := ng_ BK102 hg; replace BK102 := bb_ BK102 hb; replace HB := st_ (by repeat (with_reducible first | exact HB.out | apply bs_ GE102 | apply below_drew1 | apply pw_below_drewN)) hb; clear hb hbox hg) | ((with_reducible refine gate_dst (N := 10) rfl ?_); refine box_event ?hg (N := 10) ?hd (cs := #[.bool false, .int .i64 0, .bool false, .int .i64 0, .int .u64 0, .int .u64 0]) (t := 24) ?hr ?_; (case hd => rfl); (case hg => rfl); (case hr => first | (go_simp; done) | (go_simp; rfl)); intro gb104 hg w9 hbox hb; have BK104 := m_ (hbox); have GW104 := ge_ (by repeat (with_reducible first | exact HB.out | apply bs_ GE102 | apply bs_ GE103 | apply below_drew1 | apply pw_below_drewN)) hg; have GE104 := GW104; have NB102_104 := nl_ BK102 hg; have NB104_102 := ng_ BK102 hg; have NB103_104 := nl_ BK103 hg; have NB104_103 := ng_ BK103 hg; replace BK102 := bb_ BK102 hb; replace BK103 := bb_ BK103 hb; replace HB := st_ (by repeat (with_reducible first | exact HB.out | apply bs_ GE102 | apply bs_ GE103 | apply below_drew1 | apply pw_below_drewN)) hb; clear hb hbox hg; have hnb10 := NB102_103.out; have hnc10 := NB103_102.out; have hnb11 := NB102_104.out; have hnc11 := NB104_102.out; obtain ⟨hcz12_0, hcz12_1, hcz12_2, hcz12_3, hcz12_4, hcz12_5, hfz12_0, hfz12_1, hfz12_2, hfz12_3, hfz12_4, hfz12_5⟩ := cf6 BK102))
 (try simp only [Act.put, sa_, s0_, ss_])
 go_cut [] (fun wc => ∃ (kq : Nat) (x103000_5 : Bool), Aside0 (codel_State_note.j0 kq a2 a0_0 x103000_5 a0_1 a0_2 a0_3 a0_4 a0_5 a1_0 a1_1 = some (r1, r2, r3, r4, r5, r6, r7)) ∧ Aside0 (kq ≤ k) ∧ Aside0 (wc.heap[gb102]? = some (.cells #[.bool x103000_5, .int .i64 a0_1, .bool a0_2, .int .i64 a0_3, .int .u64 a0_4, .int .u64 a0_5] 24 (0, 0))) ∧ Aside0 (wc.heap[gb103]? = some (.cells #[.int .i64 a1_0, .int .i64 a1_1] 26 (0, 0))) ∧ Aside0 (wc.heap[gb104]? = some (.cells #[.bool false, .int .i64 0, .bool false, .int .i64 0, .int .u64 0, .int .u64 0] 24 (0, 0))) ∧ Aside0 (Below w.heap.size w wc))
 case first =>
  have H := HC6.out
  clear HC6
  by_cases c13 : a3 ≥ a1_0
  ·rw [if_pos c13] at H
   have c13b0 : decide (a1_0 ≤ a3) = true := decide_eq_true c13
   clear c13
   (first | rw [c13b0] | (simp only [i64_w, i32_w]; rw [c13b0]) | skip)
   have H' := Aside0.mk H
   clear H
   have hnb14 := NB103_102.out
   have hnc14 := NB102_103.out
   have hnb15 := NB103_104.out
   have hnc15 := NB104_103.out
   obtain ⟨hcz16_0, hcz16_1, hfz16_0, hfz16_1⟩ := cf2 BK103
   have hnb17 := NB102_104.out
   have hnc17 := NB104_102.out
   obtain ⟨hcz18_0, hcz18_1, hcz18_2, hcz18_3, hcz18_4, hcz18_5, hfz18_0, hfz18_1, hfz18_2, hfz18_3, hfz18_4, hfz18_5⟩ := cf6 BK102
   go_wp2
   go_meet
   case rel => exact ⟨_, (decide (a4 > 1)), H', ⟨by first | omega | exact Nat.le_refl _⟩, ⟨by refine blk_put (cs := #[.bool a0_0, .int .i64 a0_1, .bool a0_2, .int .i64 a0_3, .int .u64 a0_4, .int .u64 a0_5]) ?_ 0 _ rfl; exact BK102.out⟩, ⟨by refine blk_far ?_ NB103_102.out _; exact BK103.out⟩, ⟨by refine blk_far ?_ NB104_102.out _; exact BK104.out⟩, ⟨by repeat (with_reducible first | exact HB.out | apply bs_ GE102 | apply bs_ GE103 | apply bs_ GE104 | apply below_drew1 | apply pw_below_drewN)⟩⟩
  ·rw [if_neg c13] at H
   have c13b0 : decide (a1_0 ≤ a3) = false := decide_eq_false c13
   clear c13
   (first | rw [c13b0] | (simp only [i64_w, i32_w]; rw [c13b0]) | skip)
   have H' := Aside0.mk H
   clear H
   have hnb19 := NB103_102.out
   have hnc19 := NB102_103.out
   have hnb20 := NB103_104.out
   have hnc20 := NB104_103.out
   obtain ⟨hcz21_0, hcz21_1, hfz21_0, hfz21_1⟩ := cf2 BK103
   have hnb22 := NB102_104.out
   have hnc22 := NB104_102.out
   obtain ⟨hcz23_0, hcz23_1, hcz23_2, hcz23_3, hcz23_4, hcz23_5, hfz23_0, hfz23_1, hfz23_2, hfz23_3, hfz23_4, hfz23_5⟩ := cf6 BK102
   go_wp2
   go_meet
   case rel => exact ⟨_, (false), H', ⟨by first | omega | exact Nat.le_refl _⟩, ⟨by refine blk_put (cs := #[.bool a0_0, .int .i64 a0_1, .bool a0_2, .int .i64 a0_3, .int .u64 a0_4, .int .u64 a0_5]) ?_ 0 _ rfl; exact BK102.out⟩, ⟨by refine blk_far ?_ NB103_102.out _; exact BK103.out⟩, ⟨by refine blk_far ?_ NB104_102.out _; exact BK104.out⟩, ⟨by repeat (with_reducible first | exact HB.out | apply bs_ GE102 | apply bs_ GE103 | apply bs_ GE104 | apply below_drew1 | apply pw_below_drewN)⟩⟩
 case rest =>
  clear HC6
  try clear c1
  try clear c2
  try clear p2
  try clear c10
  try clear c11
  try clear c13
  try clear c13b0
  try clear c14
  try clear c15
  try clear c17
  try clear c19
  try clear c20
  try clear c22
  try clear hcz12_0
  try clear hcz12_1
  try clear hcz12_2
  try clear hcz12_3
  try clear hcz12_4
  try clear hcz12_5
  try clear hcz16_0
  try clear hcz16_1
  try clear hcz18_0
  try clear hcz18_1
  try clear hcz18_2
  try clear hcz18_3
  try clear hcz18_4
  try clear hcz18_5
  try clear hcz21_0
  try clear hcz21_1
  try clear hcz23_0
  try clear hcz23_1
  try clear hcz23_2
  try clear hcz23_3
  try clear hcz23_4
  try clear hcz23_5
  try clear hfz12_0
  try clear hfz12_1
  try clear hfz12_2
  try clear hfz12_3
  try clear hfz12_4
  try clear hfz12_5
  try clear hfz16_0
  try clear hfz16_1
  try clear hfz18_0
  try clear hfz18_1
  try clear hfz18_2
  try clear hfz18_3
  try clear hfz18_4
  try clear hfz18_5
  try clear hfz21_0
  try clear hfz21_1
  try clear hfz23_0
  try clear hfz23_1
  try clear hfz23_2
  try clear hfz23_3
  try clear hfz23_4
  try clear hfz23_5
  (try clear BK102); (try clear BK103); (try clear BK104); (try clear HB)
  obtain ⟨kq, x103000_5, HA, HJ5, BK102, BK103, BK104, HB⟩ := hcut
  cases kq with
  | zero => exact absurd HA.out (by simp [codel_State_note.j0])
  | succ kj5 =>
   have H := HA.out
   clear HA
   simp only [codel_State_note.j0] at H
   by_cases c24 : x103000_5 = true
   ·subst c24
    have H1 : (if a0_0 = true then (some (true, a0_1, a0_2, a0_3, a0_4, a0_5, decide (a2 ≥ a0_1))) else ((fix_Add.f a2 a1_1).bind fun t105 => (some (true, t105, a0_2, a0_3, a0_4, a0_5, false)))) = some (r1, r2, r3, r4, r5, r6, r7) := by rw [if_pos rfl] at H; exact H
    clear H
    have H := H1
    clear H1
    by_cases c25 : a0_0 = true
    ·subst c25
     have H1 : (some (true, a0_1, a0_2, a0_3, a0_4, a0_5, decide (a2 ≥ a0_1))) = some (r1, r2, r3, r4, r5, r6, r7) := by rw [if_pos rfl] at H; exact H
     clear H
     have H := H1
     clear H1
     simp only [Option.some.injEq, Prod.mk.injEq] at H
     obtain ⟨rfl, rfl, rfl, rfl, rfl, rfl, rfl⟩ := H
     have hnb26 := NB102_103.out
     have hnc26 := NB103_102.out
     have hnb27 := NB102_104.out
     have hnc27 := NB104_102.out
     obtain ⟨hcz28_0, hcz28_1, hcz28_2, hcz28_3, hcz28_4, hcz28_5, hfz28_0, hfz28_1, hfz28_2, hfz28_3, hfz28_4, hfz28_5⟩ := cf6 BK102
     try go_wp2
     replace BK102 := m_ (blk_drew BK102.out)
     replace BK103 := m_ (blk_drew BK103.out)
     replace BK104 := m_ (blk_drew BK104.out)
     replace HB := m_ (below_drew1 HB.out)
     refine start_ (n := 14) (S := fun w' => w'.cell? ⟨gb102, 0, none⟩ = some (.bool true) ∧ w'.cell? ⟨gb102, 1, none⟩ = some (.int .i64 a0_1) ∧ w'.cell? ⟨gb102, 2, none⟩ = some (.bool a0_2) ∧ w'.cell? ⟨gb102, 3, none⟩ = some (.int .i64 a0_3) ∧ w'.cell? ⟨gb102, 4, none⟩ = some (.int .u64 a0_4) ∧ w'.cell? ⟨gb102, 5, none⟩ = some (.int .u64 a0_5)) (ds := []) #[false, false, false, false, false, false, false, false, false, false, false, false, false, false] (by kernel_rfl) rfl rfl ⟨(blk_cell BK102.out 0).trans rfl, (blk_cell BK102.out 1).trans rfl, (blk_cell BK102.out 2).trans rfl, (blk_cell BK102.out 3).trans rfl, (blk_cell BK102.out 4).trans rfl, (blk_cell BK102.out 5).trans rfl⟩ (fun hHeld => ?_); refine with_tabW codel_State_note.tab7 codel_State_note.bits7 (fun HT_ HW_ => ?_)
     generalize wc.drew = w29 at BK102 BK103 BK104 HB hHeld ⊢
     refine pure_ (i := 1) (N := some 38) (v := ?_) (a' := ?_) #[false, true, false, false, false, false, false, false, false, false, false, false, false, false] rfl rfl (any_of HT_.out (by kernel_rfl)) (fun _ _ _ h => h) (Or.inl ⟨by rfl, ?_⟩) ?_ ?_
     rotate_left
     ·intro w'
      go_simp
      with_reducible rfl
     rotate_left
     ·simp only [Act.put, sa_, s0_, ss_, i64_w, i32_w]
      rfl
     refine take_ (i := 0) (N := some 37) (v := ?_) (a' := ?_) #[true, true, false, false, false, false, false, false, false, false, false, false, false, false] rfl rfl (take_ofW HT_.out HW_.out (by kernel_rfl)) (fun _ _ _ h => h) (Or.inl ⟨by rfl, ?_⟩) hHeld ?_ ?_
     rotate_left
     ·rintro w' ⟨s0, s1, s2, s3, s4, s5⟩
      go_simp
      with_reducible rfl
     rotate_left
     ·simp only [Act.put, sa_, s0_, ss_, i64_w, i32_w]
      rfl
     refine take_ (i := 2) (N := some 39) (v := ?_) (a' := ?_) #[true, true, true, false, false, false, false, false, false, false, false, false, false, false] rfl rfl (take_ofW HT_.out HW_.out (by kernel_rfl)) (fun _ _ _ h => h) (Or.inl ⟨by rfl, ?_⟩) hHeld ?_ ?_
     rotate_left
     ·rintro w' ⟨s0, s1, s2, s3, s4, s5⟩
      go_simp
      with_reducible rfl
     rotate_left
     ·simp only [Act.put, sa_, s0_, ss_, i64_w, i32_w]
      rfl
     refine pure_ (i := 3) (N := some 40) (v := ?_) (a' := ?_) #[true, true, true, true, false, false, false, false, false, false, false, false, false, false] rfl rfl (any_of HT_.out (by kernel_rfl)) (fun _ _ _ h => h) (Or.inl ⟨by rfl, ?_⟩) ?_ ?_
     rotate_left
     ·intro w'
      go_simp
      with_reducible rfl
     rotate_left
     ·simp only [Act.put, sa_, s0_, ss_, i64_w, i32_w]
      rfl
     refine pure_ (i := 4) (N := some 41) (v := ?_) (a' := ?_) #[true, true, true, true, true, false, false, false, false, false, false, false, false, false] rfl rfl (any_of HT_.out (by kernel_rfl)) (fun _ _ _ h => h) (Or.inl ⟨by rfl, ?_⟩) ?_ ?_
     rotate_left
     ·intro w'
      go_simp
      with_reducible rfl
     rotate_left
     ·simp only [Act.put, sa_, s0_, ss_, i64_w, i32_w]
      rfl
     refine pure_ (i := 5) (N := some 42) (v := ?_) (a' := ?_) #[true, true, true, true, true, true, false, false, false, false, false, false, false, false] rfl rfl (any_of HT_.out (by kernel_rfl)) (fun _ _ _ h => h) (Or.inl ⟨by rfl, ?_⟩) ?_ ?_
     rotate_left
     ·intro w'
      go_simp
      with_reducible rfl
     rotate_left
     ·simp only [Act.put, sa_, s0_, ss_, i64_w, i32_w]
      rfl
     refine pure_ (i := 6) (N := some 43) (v := ?_) (a' := ?_) #[true, true, true, true, true, true, true, false, false, false, false, false, false, false] rfl rfl (any_of HT_.out (by kernel_rfl)) (fun _ _ _ h => h) (Or.inl ⟨by rfl, ?_⟩) ?_ ?_
     rotate_left
     ·intro w'
      go_simp
      with_reducible rfl
     rotate_left
     ·simp only [Act.put, sa_, s0_, ss_, i64_w, i32_w]
      rfl
     refine pure_ (i := 7) (N := some 44) (v := ?_) (a' := ?_) #[true, true, true, true, true, true, true, true, false, false, false, false, false, false] rfl rfl (any_of HT_.out (by kernel_rfl)) (fun _ _ _ h => h) (Or.inl ⟨by rfl, ?_⟩) ?_ ?_
     rotate_left
     ·intro w'
      go_simp
      with_reducible rfl
     rotate_left
     ·simp only [Act.put, sa_, s0_, ss_, i64_w, i32_w]
      rfl
     refine pure_ (i := 8) (N := some 45) (v := ?_) (a' := ?_) #[true, true, true, true, true, true, true, true, true, false, false, false, false, false] rfl rfl (any_of HT_.out (by kernel_rfl)) (fun _ _ _ h => h) (Or.inl ⟨by rfl, ?_⟩) ?_ ?_
     rotate_left
     ·intro w'
      go_simp
      with_reducible rfl
     rotate_left
     ·simp only [Act.put, sa_, s0_, ss_, i64_w, i32_w]
      rfl
     refine take_ (i := 9) (N := some 46) (v := ?_) (a' := ?_) #[true, true, true, true, true, true, true, true, true, true, false, false, false, false] rfl rfl (take_ofW HT_.out HW_.out (by kernel_rfl)) (fun _ _ _ h => h) (Or.inl ⟨by rfl, ?_⟩) hHeld ?_ ?_
     rotate_left
     ·rintro w' ⟨s0, s1, s2, s3, s4, s5⟩
      go_simp
      with_reducible rfl
     rotate_left
     ·simp only [Act.put, sa_, s0_, ss_, i64_w, i32_w]
      rfl
     refine pure_ (i := 10) (N := some 47) (v := ?_) (a' := ?_) #[true, true, true, true, true, true, true, true, true, true, true, false, false, false] rfl rfl (any_of HT_.out (by kernel_rfl)) (fun _ _ _ h => h) (Or.inl ⟨by rfl, ?_⟩) ?_ ?_
     rotate_left
     ·intro w'
      go_simp
      with_reducible rfl
     rotate_left
     ·simp only [Act.put, sa_, s0_, ss_, i64_w, i32_w]
      rfl
     refine pure_ (i := 11) (N := some 48) (v := ?_) (a' := ?_) #[true, true, true, true, true, true, true, true, true, true, true, true, false, false] rfl rfl (any_of HT_.out (by kernel_rfl)) (fun _ _ _ h => h) (Or.inl ⟨by rfl, ?_⟩) ?_ ?_
     rotate_left
     ·intro w'
      go_simp
      with_reducible rfl
     rotate_left
     ·simp only [Act.put, sa_, s0_, ss_, i64_w, i32_w]
      rfl
     refine one_ (i := 12) (N := none) #[true, true, true, true, true, true, true, true, true, true, true, true, true, false] rfl rfl (one_of HT_.out (by kernel_rfl)) (by decide) (fun K hK => ?_)
     have hs30 : w29.cell? ⟨gb104, 0, none⟩ = some (.bool false) := (blk_cell BK104.out 0).trans rfl
     have hfs30 := blk_frozen BK104.out 0
     have hns30_0 := NB102_104.out
     have hns30_1 := NB103_104.out
     have hms30_0 := NB104_102.out
     have hms30_1 := NB104_103.out
     have hs31 : w29.cell? ⟨gb104, 1, none⟩ = some (.int .i64 0) := (blk_cell BK104.out 1).trans rfl
     have hfs31 := blk_frozen BK104.out 1
     have hns31_0 := NB102_104.out
     have hns31_1 := NB103_104.out
     have hms31_0 := NB104_102.out
     have hms31_1 := NB104_103.out
     have hs32 : w29.cell? ⟨gb104, 2, none⟩ = some (.bool false) := (blk_cell BK104.out 2).trans rfl
     have hfs32 := blk_frozen BK104.out 2
     have hns32_0 := NB102_104.out
     have hns32_1 := NB103_104.out
     have hms32_0 := NB104_102.out
     have hms32_1 := NB104_103.out
     have hs33 : w29.cell? ⟨gb104, 3, none⟩ = some (.int .i64 0) := (blk_cell BK104.out 3).trans rfl
     have hfs33 := blk_frozen BK104.out 3
     have hns33_0 := NB102_104.out
     have hns33_1 := NB103_104.out
     have hms33_0 := NB104_102.out
     have hms33_1 := NB104_103.out
     have hs34 : w29.cell? ⟨gb104, 4, none⟩ = some (.int .u64 0) := (blk_cell BK104.out 4).trans rfl
     have hfs34 := blk_frozen BK104.out 4
     have hns34_0 := NB102_104.out
     have hns34_1 := NB103_104.out
     have hms34_0 := NB104_102.out
     have hms34_1 := NB104_103.out
     have hs35 : w29.cell? ⟨gb104, 5, none⟩ = some (.int .u64 0) := (blk_cell BK104.out 5).trans rfl
     have hfs35 := blk_frozen BK104.out 5
     have hns35_0 := NB102_104.out
     have hns35_1 := NB103_104.out
     have hms35_0 := NB104_102.out
     have hms35_1 := NB104_103.out
     refine skip_ (w1 := ?_) (by rfl) rfl ?_ ?_
     rotate_left
     ·go_simp
      rfl
     refine hK.out _ _ ⟨(cfar6_ NB102_104 (hHeld.1)), (cfar6_ NB102_104 (hHeld.2.1)), (cfar6_ NB102_104 (hHeld.2.2.1)), (cfar6_ NB102_104 (hHeld.2.2.2.1)), (cfar6_ NB102_104 (hHeld.2.2.2.2.1)), (cfar6_ NB102_104 (hHeld.2.2.2.2.2))⟩ (fun hHeld => ?_)
     clear hK K
     refine pure_ (i := 13) (N := some 11) (v := ?_) (a' := ?_) #[true, true, true, true, true, true, true, true, true, true, true, true, true, true] rfl rfl (any_of HT_.out (by kernel_rfl)) (fun _ _ _ h => h) (Or.inl ⟨by rfl, ?_⟩) ?_ ?_
     rotate_left
     ·intro w'
      go_simp
      with_reducible rfl
     rotate_left
     ·simp only [Act.put, sa_, s0_, ss_, i64_w, i32_w]
      rfl
     refine done_ (done_of HT_.out (by kernel_rfl)) ?_
     try go_wp2
     refine bodyPost_ret (results_ct rfl _ _ gb104 24 #[.bool true, .int .i64 a0_1, .bool a0_2, .int .i64 a0_3, .int .u64 a0_4, .int .u64 a0_5] (0, 0) _ rfl (by apply put6_; exact BK104.out) Try.underlying24 rfl (by kernel_rfl)) rfl ?_
     exact ⟨by first | rfl | (simp [errW_none, errW_some] <;> rfl) | (simp [*, errW_none, errW_some] <;> rfl), by repeat (with_reducible first | exact HB.out | apply bs_ GE102 | apply bs_ GE103 | apply bs_ GE104 | apply below_drew1 | apply pw_below_drewN)⟩
    ·replace c25 := Bool.eq_false_iff.mpr c25
     subst c25
     have H1 : ((fix_Add.f a2 a1_1).bind fun t105 => (some (true, t105, a0_2, a0_3, a0_4, a0_5, false))) = some (r1, r2, r3, r4, r5, r6, r7) := by rw [if_neg (show ¬ (false = true) by decide)] at H; exact H
     clear H
     have H := H1
     clear H1
     replace H := Option.bind_eq_some_iff.mp H
     obtain ⟨t105, A360, H⟩ := H
     replace H : (some (true, t105, a0_2, a0_3, a0_4, a0_5, false)) = some (r1, r2, r3, r4, r5, r6, r7) := H
     have A36 := Aside0.mk A360
     clear A360
     simp only [Option.some.injEq, Prod.mk.injEq] at H
     obtain ⟨rfl, rfl, rfl, rfl, rfl, rfl, rfl⟩ := H
     have hnb37 := NB102_103.out
     have hnc37 := NB103_102.out
     have hnb38 := NB102_104.out
     have hnc38 := NB104_102.out
     obtain ⟨hcz39_0, hcz39_1, hcz39_2, hcz39_3, hcz39_4, hcz39_5, hfz39_0, hfz39_1, hfz39_2, hfz39_3, hfz39_4, hfz39_5⟩ := cf6 BK102
     have hnb40 := NB103_104.out
     have hnc40 := NB104_103.out
     obtain ⟨hcz41_0, hcz41_1, hfz41_0, hfz41_1⟩ := cf2 BK103
     try go_wp2_with (first | ((with_reducible refine gate_callee (f := 36) rfl ?_); refine goesL_ (some 35) rfl rfl Try.func36 (by kernel_rfl) rfl #[.int .i64 a2, .int .i64 a1_1] rfl (by first | rfl | (simp only [List.map_toArray, List.map_cons, List.map_nil]; first | done | rfl)) ?_; (with_reducible refine (fix_Add.calls a2 a1_1 t105 _ A36.out).mono ?_); rintro e w' ⟨rfl, ⟨nd, rfl⟩⟩; refine ⟨_, rfl, ?_⟩; (try (rw [drewN_self wc]; generalize hq_ : World.drewN wc _ = wc; have n0_ : Aside0 (wc.heap[gb102]? = some (.cells #[.bool true, .int .i64 a0_1, .bool a0_2, .int .i64 a0_3, .int .u64 a0_4, .int .u64 a0_5] 24 (0, 0))) := ⟨by rw [← hq_]; exact (by exact BK102.out)⟩; have n1_ : Aside0 (wc.heap[gb103]? = some (.cells #[.int .i64 a1_0, .int .i64 a1_1] 26 (0, 0))) := ⟨by rw [← hq_]; exact (by exact BK103.out)⟩; have n2_ : Aside0 (wc.heap[gb104]? = some (.cells #[.bool false, .int .i64 0, .bool false, .int .i64 0, .int .u64 0, .int .u64 0] 24 (0, 0))) := ⟨by rw [← hq_]; exact (by exact BK104.out)⟩; have n3_ : Aside0 (Below w.heap.size w wc) := ⟨by rw [← hq_]; exact (by repeat (with_reducible first | exact HB.out | apply bs_ GE102 | apply bs_ GE103 | apply bs_ GE104 | apply below_drew1 | apply pw_below_drewN))⟩; clear BK102 BK103 BK104 HB hq_; have BK102 := n0_; have BK103 := n1_; have BK104 := n2_; have HB := n3_; clear n0_ n1_ n2_ n3_)); (try (have hcy102_0 : wc.cell? ⟨gb102, 0, none⟩ = some (.bool true) := (blk_cell BK102.out 0).trans rfl)); (try have hfy102_0 := blk_frozen BK102.out 0); (try (have hcy102_1 : wc.cell? ⟨gb102, 1, none⟩ = some (.int .i64 a0_1) := (blk_cell BK102.out 1).trans rfl)); (try have hfy102_1 := blk_frozen BK102.out 1); (try (have hcy102_2 : wc.cell? ⟨gb102, 2, none⟩ = some (.bool a0_2) := (blk_cell BK102.out 2).trans rfl)); (try have hfy102_2 := blk_frozen BK102.out 2); (try (have hcy102_3 : wc.cell? ⟨gb102, 3, none⟩ = some (.int .i64 a0_3) := (blk_cell BK102.out 3).trans rfl)); (try have hfy102_3 := blk_frozen BK102.out 3); (try (have hcy102_4 : wc.cell? ⟨gb102, 4, none⟩ = some (.int .u64 a0_4) := (blk_cell BK102.out 4).trans rfl)); (try have hfy102_4 := blk_frozen BK102.out 4); (try (have hcy102_5 : wc.cell? ⟨gb102, 5, none⟩ = some (.int .u64 a0_5) := (blk_cell BK102.out 5).trans rfl)); (try have hfy102_5 := blk_frozen BK102.out 5); (try (have hcy103_0 : wc.cell? ⟨gb103, 0, none⟩ = some (.int .i64 a1_0) := (blk_cell BK103.out 0).trans rfl)); (try have hfy103_0 := blk_frozen BK103.out 0); (try (have hcy103_1 : wc.cell? ⟨gb103, 1, none⟩ = some (.int .i64 a1_1) := (blk_cell BK103.out 1).trans rfl)); (try have hfy103_1 := blk_frozen BK103.out 1)))
     have n0_ : Aside0 ((wc.setCell ⟨gb102, 1, none⟩ (.int .i64 t105)).heap[gb102]? = some (.cells #[.bool true, .int .i64 t105, .bool a0_2, .int .i64 a0_3, .int .u64 a0_4, .int .u64 a0_5] 24 (0, 0))) := ⟨by refine blk_put (cs := #[.bool true, .int .i64 a0_1, .bool a0_2, .int .i64 a0_3, .int .u64 a0_4, .int .u64 a0_5]) ?_ 1 _ rfl; exact BK102.out⟩
     have n1_ : Aside0 ((wc.setCell ⟨gb102, 1, none⟩ (.int .i64 t105)).heap[gb103]? = some (.cells #[.int .i64 a1_0, .int .i64 a1_1] 26 (0, 0))) := ⟨by refine blk_far ?_ NB103_102.out _; exact BK103.out⟩
     have n2_ : Aside0 ((wc.setCell ⟨gb102, 1, none⟩ (.int .i64 t105)).heap[gb104]? = some (.cells #[.bool false, .int .i64 0, .bool false, .int .i64 0, .int .u64 0, .int .u64 0] 24 (0, 0))) := ⟨by refine blk_far ?_ NB104_102.out _; exact BK104.out⟩
     have n3_ : Aside0 (Below w.heap.size w (wc.setCell ⟨gb102, 1, none⟩ (.int .i64 t105))) := ⟨by repeat (with_reducible first | exact HB.out | apply bs_ GE102 | apply bs_ GE103 | apply bs_ GE104 | apply below_drew1 | apply pw_below_drewN)⟩
     (try clear BK102)
     (try clear BK103)
     (try clear BK104)
     (try clear HB)
     generalize (wc.setCell ⟨gb102, 1, none⟩ (.int .i64 t105)) = w42 at n0_ n1_ n2_ n3_ ⊢
     have BK102 := n0_
     have BK103 := n1_
     have BK104 := n2_
     have HB := n3_
     clear n0_ n1_ n2_ n3_
     replace BK102 := m_ (blk_drew BK102.out)
     replace BK103 := m_ (blk_drew BK103.out)
     replace BK104 := m_ (blk_drew BK104.out)
     replace HB := m_ (below_drew1 HB.out)
     refine start_ (n := 14) (S := fun w' => w'.cell? ⟨gb102, 0, none⟩ = some (.bool true) ∧ w'.cell? ⟨gb102, 1, none⟩ = some (.int .i64 t105) ∧ w'.cell? ⟨gb102, 2, none⟩ = some (.bool a0_2) ∧ w'.cell? ⟨gb102, 3, none⟩ = some (.int .i64 a0_3) ∧ w'.cell? ⟨gb102, 4, none⟩ = some (.int .u64 a0_4) ∧ w'.cell? ⟨gb102, 5, none⟩ = some (.int .u64 a0_5)) (ds := []) #[false, false, false, false, false, false, false, false, false, false, false, false, false, false] (by kernel_rfl) rfl rfl ⟨(blk_cell BK102.out 0).trans rfl, (blk_cell BK102.out 1).trans rfl, (blk_cell BK102.out 2).trans rfl, (blk_cell BK102.out 3).trans rfl, (blk_cell BK102.out 4).trans rfl, (blk_cell BK102.out 5).trans rfl⟩ (fun hHeld => ?_); refine with_tabW codel_State_note.tab7 codel_State_note.bits7 (fun HT_ HW_ => ?_)
     generalize w42.drew = w43 at BK102 BK103 BK104 HB hHeld ⊢
     refine pure_ (i := 1) (N := some 38) (v := ?_) (a' := ?_) #[false, true, false, false, false, false, false, false, false, false, false, false, false, false] rfl rfl (any_of HT_.out (by kernel_rfl)) (fun _ _ _ h => h) (Or.inl ⟨by rfl, ?_⟩) ?_ ?_
     rotate_left
     ·intro w'
      go_simp
      with_reducible rfl
     rotate_left
     ·simp only [Act.put, sa_, s0_, ss_, i64_w, i32_w]
      rfl
     refine take_ (i := 0) (N := some 37) (v := ?_) (a' := ?_) #[true, true, false, false, false, false, false, false, false, false, false, false, false, false] rfl rfl (take_ofW HT_.out HW_.out (by kernel_rfl)) (fun _ _ _ h => h) (Or.inl ⟨by rfl, ?_⟩) hHeld ?_ ?_
     rotate_left
     ·rintro w' ⟨s0, s1, s2, s3, s4, s5⟩
      go_simp
      with_reducible rfl
     rotate_left
     ·simp only [Act.put, sa_, s0_, ss_, i64_w, i32_w]
      rfl
     refine take_ (i := 2) (N := some 39) (v := ?_) (a' := ?_) #[true, true, true, false, false, false, false, false, false, false, false, false, false, false] rfl rfl (take_ofW HT_.out HW_.out (by kernel_rfl)) (fun _ _ _ h => h) (Or.inl ⟨by rfl, ?_⟩) hHeld ?_ ?_
     rotate_left
     ·rintro w' ⟨s0, s1, s2, s3, s4, s5⟩
      go_simp
      with_reducible rfl
     rotate_left
     ·simp only [Act.put, sa_, s0_, ss_, i64_w, i32_w]
      rfl
     refine pure_ (i := 3) (N := some 40) (v := ?_) (a' := ?_) #[true, true, true, true, false, false, false, false, false, false, false, false, false, false] rfl rfl (any_of HT_.out (by kernel_rfl)) (fun _ _ _ h => h) (Or.inl ⟨by rfl, ?_⟩) ?_ ?_
     rotate_left
     ·intro w'
      go_simp
      with_reducible rfl
     rotate_left
     ·simp only [Act.put, sa_, s0_, ss_, i64_w, i32_w]
      rfl
     refine pure_ (i := 4) (N := some 41) (v := ?_) (a' := ?_) #[true, true, true, true, true, false, false, false, false, false, false, false, false, false] rfl rfl (any_of HT_.out (by kernel_rfl)) (fun _ _ _ h => h) (Or.inl ⟨by rfl, ?_⟩) ?_ ?_
     rotate_left
     ·intro w'
      go_simp
      with_reducible rfl
     rotate_left
     ·simp only [Act.put, sa_, s0_, ss_, i64_w, i32_w]
      rfl
     refine pure_ (i := 5) (N := some 42) (v := ?_) (a' := ?_) #[true, true, true, true, true, true, false, false, false, false, false, false, false, false] rfl rfl (any_of HT_.out (by kernel_rfl)) (fun _ _ _ h => h) (Or.inl ⟨by rfl, ?_⟩) ?_ ?_
     rotate_left
     ·intro w'
      go_simp
      with_reducible rfl
     rotate_left
     ·simp only [Act.put, sa_, s0_, ss_, i64_w, i32_w]
      rfl
     refine pure_ (i := 6) (N := some 43) (v := ?_) (a' := ?_) #[true, true, true, true, true, true, true, false, false, false, false, false, false, false] rfl rfl (any_of HT_.out (by kernel_rfl)) (fun _ _ _ h => h) (Or.inl ⟨by rfl, ?_⟩) ?_ ?_
     rotate_left
     ·intro w'
      go_simp
      with_reducible rfl
     rotate_left
     ·simp only [Act.put, sa_, s0_, ss_, i64_w, i32_w]
      rfl
     refine pure_ (i := 7) (N := some 44) (v := undef) (a' := ?_) #[true, true, true, true, true, true, true, true, false, false, false, false, false, false] rfl rfl (any_of HT_.out (by kernel_rfl)) (fun _ _ _ h => h) (Or.inr ⟨by rfl, rfl⟩) ?_ ?_
     rotate_left
     ·simp only [Act.put, sa_, s0_, ss_, i64_w, i32_w]
      rfl
     refine pure_ (i := 8) (N := some 45) (v := undef) (a' := ?_) #[true, true, true, true, true, true, true, true, true, false, false, false, false, false] rfl rfl (any_of HT_.out (by kernel_rfl)) (fun _ _ _ h => h) (Or.inr ⟨by rfl, rfl⟩) ?_ ?_
     rotate_left
     ·simp only [Act.put, sa_, s0_, ss_, i64_w, i32_w]
      rfl
     refine pure_ (i := 9) (N := some 46) (v := undef) (a' := ?_) #[true, true, true, true, true, true, true, true, true, true, false, false, false, false] rfl rfl (any_of HT_.out (by kernel_rfl)) (fun _ _ _ h => h) (Or.inr ⟨by rfl, rfl⟩) ?_ ?_
     rotate_left
     ·simp only [Act.put, sa_, s0_, ss_, i64_w, i32_w]
      rfl
     refine pure_ (i := 10) (N := some 47) (v := undef) (a' := ?_) #[true, true, true, true, true, true, true, true, true, true, true, false, false, false] rfl rfl (any_of HT_.out (by kernel_rfl)) (fun _ _ _ h => h) (Or.inr ⟨by rfl, rfl⟩) ?_ ?_
     rotate_left
     ·simp only [Act.put, sa_, s0_, ss_, i64_w, i32_w]
      rfl
     refine pure_ (i := 11) (N := some 48) (v := ?_) (a' := ?_) #[true, true, true, true, true, true, true, true, true, true, true, true, false, false] rfl rfl (any_of HT_.out (by kernel_rfl)) (fun _ _ _ h => h) (Or.inl ⟨by rfl, ?_⟩) ?_ ?_
     rotate_left
     ·intro w'
      go_simp
      with_reducible rfl
     rotate_left
     ·simp only [Act.put, sa_, s0_, ss_, i64_w, i32_w]
      rfl
     refine one_ (i := 12) (N := none) #[true, true, true, true, true, true, true, true, true, true, true, true, true, false] rfl rfl (one_of HT_.out (by kernel_rfl)) (by decide) (fun K hK => ?_)
     have hs44 : w43.cell? ⟨gb104, 0, none⟩ = some (.bool false) := (blk_cell BK104.out 0).trans rfl
     have hfs44 := blk_frozen BK104.out 0
     have hns44_0 := NB102_104.out
     have hns44_1 := NB103_104.out
     have hms44_0 := NB104_102.out
     have hms44_1 := NB104_103.out
     have hs45 : w43.cell? ⟨gb104, 1, none⟩ = some (.int .i64 0) := (blk_cell BK104.out 1).trans rfl
     have hfs45 := blk_frozen BK104.out 1
     have hns45_0 := NB102_104.out
     have hns45_1 := NB103_104.out
     have hms45_0 := NB104_102.out
     have hms45_1 := NB104_103.out
     have hs46 : w43.cell? ⟨gb104, 2, none⟩ = some (.bool false) := (blk_cell BK104.out 2).trans rfl
     have hfs46 := blk_frozen BK104.out 2
     have hns46_0 := NB102_104.out
     have hns46_1 := NB103_104.out
     have hms46_0 := NB104_102.out
     have hms46_1 := NB104_103.out
     have hs47 : w43.cell? ⟨gb104, 3, none⟩ = some (.int .i64 0) := (blk_cell BK104.out 3).trans rfl
     have hfs47 := blk_frozen BK104.out 3
     have hns47_0 := NB102_104.out
     have hns47_1 := NB103_104.out
     have hms47_0 := NB104_102.out
     have hms47_1 := NB104_103.out
     have hs48 : w43.cell? ⟨gb104, 4, none⟩ = some (.int .u64 0) := (blk_cell BK104.out 4).trans rfl
     have hfs48 := blk_frozen BK104.out 4
     have hns48_0 := NB102_104.out
     have hns48_1 := NB103_104.out
     have hms48_0 := NB104_102.out
     have hms48_1 := NB104_103.out
     have hs49 : w43.cell? ⟨gb104, 5, none⟩ = some (.int .u64 0) := (blk_cell BK104.out 5).trans rfl
     have hfs49 := blk_frozen BK104.out 5
     have hns49_0 := NB102_104.out
     have hns49_1 := NB103_104.out
     have hms49_0 := NB104_102.out
     have hms49_1 := NB104_103.out
     refine skip_ (w1 := ?_) (by rfl) rfl ?_ ?_
     rotate_left
     ·go_simp
      rfl
     refine hK.out _ _ ⟨(cfar6_ NB102_104 (hHeld.1)), (cfar6_ NB102_104 (hHeld.2.1)), (cfar6_ NB102_104 (hHeld.2.2.1)), (cfar6_ NB102_104 (hHeld.2.2.2.1)), (cfar6_ NB102_104 (hHeld.2.2.2.2.1)), (cfar6_ NB102_104 (hHeld.2.2.2.2.2))⟩ (fun hHeld => ?_)
     clear hK K
     refine pure_ (i := 13) (N := some 11) (v := ?_) (a' := ?_) #[true, true, true, true, true, true, true, true, true, true, true, true, true, true] rfl rfl (any_of HT_.out (by kernel_rfl)) (fun _ _ _ h => h) (Or.inl ⟨by rfl, ?_⟩) ?_ ?_
     rotate_left
     ·intro w'
      go_simp
      with_reducible rfl
     rotate_left
     ·simp only [Act.put, sa_, s0_, ss_, i64_w, i32_w]
      rfl
     refine done_ (done_of HT_.out (by kernel_rfl)) ?_
     try go_wp2
     refine bodyPost_ret (results_ct rfl _ _ gb104 24 #[.bool true, .int .i64 t105, .bool a0_2, .int .i64 a0_3, .int .u64 a0_4, .int .u64 a0_5] (0, 0) _ rfl (by apply put6_; exact BK104.out) Try.underlying24 rfl (by kernel_rfl)) rfl ?_
     exact ⟨by first | rfl | (simp [errW_none, errW_some] <;> rfl) | (simp [*, errW_none, errW_some] <;> rfl), by repeat (with_reducible first | exact HB.out | apply bs_ GE102 | apply bs_ GE103 | apply bs_ GE104 | apply below_drew1 | apply pw_below_drewN)⟩
   ·replace c24 := Bool.eq_false_iff.mpr c24
    subst c24
    have H1 : (some (false, 0, a0_2, a0_3, a0_4, a0_5, false)) = some (r1, r2, r3, r4, r5, r6, r7) := by rw [if_neg (show ¬ (false = true) by decide)] at H; exact H
    clear H
    have H := H1
    clear H1
    simp only [Option.some.injEq, Prod.mk.injEq] at H
    obtain ⟨rfl, rfl, rfl, rfl, rfl, rfl, rfl⟩ := H
    have hnb50 := NB102_103.out
    have hnc50 := NB103_102.out
    have hnb51 := NB102_104.out
    have hnc51 := NB104_102.out
    obtain ⟨hcz52_0, hcz52_1, hcz52_2, hcz52_3, hcz52_4, hcz52_5, hfz52_0, hfz52_1, hfz52_2, hfz52_3, hfz52_4, hfz52_5⟩ := cf6 BK102
    try go_wp2
    have n0_ : Aside0 ((wc.setCell ⟨gb102, 1, none⟩ (.int .i64 0)).heap[gb102]? = some (.cells #[.bool false, .int .i64 0, .bool a0_2, .int .i64 a0_3, .int .u64 a0_4, .int .u64 a0_5] 24 (0, 0))) := ⟨by refine blk_put (cs := #[.bool false, .int .i64 a0_1, .bool a0_2, .int .i64 a0_3, .int .u64 a0_4, .int .u64 a0_5]) ?_ 1 _ rfl; exact BK102.out⟩
    have n1_ : Aside0 ((wc.setCell ⟨gb102, 1, none⟩ (.int .i64 0)).heap[gb103]? = some (.cells #[.int .i64 a1_0, .int .i64 a1_1] 26 (0, 0))) := ⟨by refine blk_far ?_ NB103_102.out _; exact BK103.out⟩
    have n2_ : Aside0 ((wc.setCell ⟨gb102, 1, none⟩ (.int .i64 0)).heap[gb104]? = some (.cells #[.bool false, .int .i64 0, .bool false, .int .i64 0, .int .u64 0, .int .u64 0] 24 (0, 0))) := ⟨by refine blk_far ?_ NB104_102.out _; exact BK104.out⟩
    have n3_ : Aside0 (Below w.heap.size w (wc.setCell ⟨gb102, 1, none⟩ (.int .i64 0))) := ⟨by repeat (with_reducible first | exact HB.out | apply bs_ GE102 | apply bs_ GE103 | apply bs_ GE104 | apply below_drew1 | apply pw_below_drewN)⟩
    (try clear BK102)
    (try clear BK103)
    (try clear BK104)
    (try clear HB)
    generalize (wc.setCell ⟨gb102, 1, none⟩ (.int .i64 0)) = w53 at n0_ n1_ n2_ n3_ ⊢
    have BK102 := n0_
    have BK103 := n1_
    have BK104 := n2_
    have HB := n3_
    clear n0_ n1_ n2_ n3_
    replace BK102 := m_ (blk_drew BK102.out)
    replace BK103 := m_ (blk_drew BK103.out)
    replace BK104 := m_ (blk_drew BK104.out)
    replace HB := m_ (below_drew1 HB.out)
    refine start_ (n := 14) (S := fun w' => w'.cell? ⟨gb102, 0, none⟩ = some (.bool false) ∧ w'.cell? ⟨gb102, 1, none⟩ = some (.int .i64 0) ∧ w'.cell? ⟨gb102, 2, none⟩ = some (.bool a0_2) ∧ w'.cell? ⟨gb102, 3, none⟩ = some (.int .i64 a0_3) ∧ w'.cell? ⟨gb102, 4, none⟩ = some (.int .u64 a0_4) ∧ w'.cell? ⟨gb102, 5, none⟩ = some (.int .u64 a0_5)) (ds := []) #[false, false, false, false, false, false, false, false, false, false, false, false, false, false] (by kernel_rfl) rfl rfl ⟨(blk_cell BK102.out 0).trans rfl, (blk_cell BK102.out 1).trans rfl, (blk_cell BK102.out 2).trans rfl, (blk_cell BK102.out 3).trans rfl, (blk_cell BK102.out 4).trans rfl, (blk_cell BK102.out 5).trans rfl⟩ (fun hHeld => ?_); refine with_tabW codel_State_note.tab7 codel_State_note.bits7 (fun HT_ HW_ => ?_)
    generalize w53.drew = w54 at BK102 BK103 BK104 HB hHeld ⊢
    refine pure_ (i := 1) (N := some 38) (v := ?_) (a' := ?_) #[false, true, false, false, false, false, false, false, false, false, false, false, false, false] rfl rfl (any_of HT_.out (by kernel_rfl)) (fun _ _ _ h => h) (Or.inl ⟨by rfl, ?_⟩) ?_ ?_
    rotate_left
    ·intro w'
     go_simp
     with_reducible rfl
    rotate_left
    ·simp only [Act.put, sa_, s0_, ss_, i64_w, i32_w]
     rfl
    refine take_ (i := 0) (N := some 37) (v := ?_) (a' := ?_) #[true, true, false, false, false, false, false, false, false, false, false, false, false, false] rfl rfl (take_ofW HT_.out HW_.out (by kernel_rfl)) (fun _ _ _ h => h) (Or.inl ⟨by rfl, ?_⟩) hHeld ?_ ?_
    rotate_left
    ·rintro w' ⟨s0, s1, s2, s3, s4, s5⟩
     go_simp
     with_reducible rfl
    rotate_left
    ·simp only [Act.put, sa_, s0_, ss_, i64_w, i32_w]
     rfl
    refine take_ (i := 2) (N := some 39) (v := ?_) (a' := ?_) #[true, true, true, false, false, false, false, false, false, false, false, false, false, false] rfl rfl (take_ofW HT_.out HW_.out (by kernel_rfl)) (fun _ _ _ h => h) (Or.inl ⟨by rfl, ?_⟩) hHeld ?_ ?_
    rotate_left
    ·rintro w' ⟨s0, s1, s2, s3, s4, s5⟩
     go_simp
     with_reducible rfl
    rotate_left
    ·simp only [Act.put, sa_, s0_, ss_, i64_w, i32_w]
     rfl
    refine pure_ (i := 3) (N := some 40) (v := ?_) (a' := ?_) #[true, true, true, true, false, false, false, false, false, false, false, false, false, false] rfl rfl (any_of HT_.out (by kernel_rfl)) (fun _ _ _ h => h) (Or.inl ⟨by rfl, ?_⟩) ?_ ?_
    rotate_left
    ·intro w'
     go_simp
     with_reducible rfl
    rotate_left
    ·simp only [Act.put, sa_, s0_, ss_, i64_w, i32_w]
     rfl
    refine pure_ (i := 4) (N := some 41) (v := undef) (a' := ?_) #[true, true, true, true, true, false, false, false, false, false, false, false, false, false] rfl rfl (any_of HT_.out (by kernel_rfl)) (fun _ _ _ h => h) (Or.inr ⟨by rfl, rfl⟩) ?_ ?_
    rotate_left
    ·simp only [Act.put, sa_, s0_, ss_, i64_w, i32_w]
     rfl
    refine pure_ (i := 5) (N := some 42) (v := ?_) (a' := ?_) #[true, true, true, true, true, true, false, false, false, false, false, false, false, false] rfl rfl (any_of HT_.out (by kernel_rfl)) (fun _ _ _ h => h) (Or.inl ⟨by rfl, ?_⟩) ?_ ?_
    rotate_left
    ·intro w'
     go_simp
     with_reducible rfl
    rotate_left
    ·simp only [Act.put, sa_, s0_, ss_, i64_w, i32_w]
     rfl
    refine pure_ (i := 6) (N := some 43) (v := ?_) (a' := ?_) #[true, true, true, true, true, true, true, false, false, false, false, false, false, false] rfl rfl (any_of HT_.out (by kernel_rfl)) (fun _ _ _ h => h) (Or.inl ⟨by rfl, ?_⟩) ?_ ?_
    rotate_left
    ·intro w'
     go_simp
     with_reducible rfl
    rotate_left
    ·simp only [Act.put, sa_, s0_, ss_, i64_w, i32_w]
     rfl
    refine pure_ (i := 7) (N := some 44) (v := undef) (a' := ?_) #[true, true, true, true, true, true, true, true, false, false, false, false, false, false] rfl rfl (any_of HT_.out (by kernel_rfl)) (fun _ _ _ h => h) (Or.inr ⟨by rfl, rfl⟩) ?_ ?_
    rotate_left
    ·simp only [Act.put, sa_, s0_, ss_, i64_w, i32_w]
     rfl
    refine pure_ (i := 8) (N := some 45) (v := undef) (a' := ?_) #[true, true, true, true, true, true, true, true, true, false, false, false, false, false] rfl rfl (any_of HT_.out (by kernel_rfl)) (fun _ _ _ h => h) (Or.inr ⟨by rfl, rfl⟩) ?_ ?_
    rotate_left
    ·simp only [Act.put, sa_, s0_, ss_, i64_w, i32_w]
     rfl
    refine pure_ (i := 9) (N := some 46) (v := undef) (a' := ?_) #[true, true, true, true, true, true, true, true, true, true, false, false, false, false] rfl rfl (any_of HT_.out (by kernel_rfl)) (fun _ _ _ h => h) (Or.inr ⟨by rfl, rfl⟩) ?_ ?_
    rotate_left
    ·simp only [Act.put, sa_, s0_, ss_, i64_w, i32_w]
     rfl
    refine pure_ (i := 10) (N := some 47) (v := undef) (a' := ?_) #[true, true, true, true, true, true, true, true, true, true, true, false, false, false] rfl rfl (any_of HT_.out (by kernel_rfl)) (fun _ _ _ h => h) (Or.inr ⟨by rfl, rfl⟩) ?_ ?_
    rotate_left
    ·simp only [Act.put, sa_, s0_, ss_, i64_w, i32_w]
     rfl
    refine pure_ (i := 11) (N := some 48) (v := ?_) (a' := ?_) #[true, true, true, true, true, true, true, true, true, true, true, true, false, false] rfl rfl (any_of HT_.out (by kernel_rfl)) (fun _ _ _ h => h) (Or.inl ⟨by rfl, ?_⟩) ?_ ?_
    rotate_left
    ·intro w'
     go_simp
     with_reducible rfl
    rotate_left
    ·simp only [Act.put, sa_, s0_, ss_, i64_w, i32_w]
     rfl
    refine one_ (i := 12) (N := none) #[true, true, true, true, true, true, true, true, true, true, true, true, true, false] rfl rfl (one_of HT_.out (by kernel_rfl)) (by decide) (fun K hK => ?_)
    have hs55 : w54.cell? ⟨gb104, 0, none⟩ = some (.bool false) := (blk_cell BK104.out 0).trans rfl
    have hfs55 := blk_frozen BK104.out 0
    have hns55_0 := NB102_104.out
    have hns55_1 := NB103_104.out
    have hms55_0 := NB104_102.out
    have hms55_1 := NB104_103.out
    have hs56 : w54.cell? ⟨gb104, 1, none⟩ = some (.int .i64 0) := (blk_cell BK104.out 1).trans rfl
    have hfs56 := blk_frozen BK104.out 1
    have hns56_0 := NB102_104.out
    have hns56_1 := NB103_104.out
    have hms56_0 := NB104_102.out
    have hms56_1 := NB104_103.out
    have hs57 : w54.cell? ⟨gb104, 2, none⟩ = some (.bool false) := (blk_cell BK104.out 2).trans rfl
    have hfs57 := blk_frozen BK104.out 2
    have hns57_0 := NB102_104.out
    have hns57_1 := NB103_104.out
    have hms57_0 := NB104_102.out
    have hms57_1 := NB104_103.out
    have hs58 : w54.cell? ⟨gb104, 3, none⟩ = some (.int .i64 0) := (blk_cell BK104.out 3).trans rfl
    have hfs58 := blk_frozen BK104.out 3
    have hns58_0 := NB102_104.out
    have hns58_1 := NB103_104.out
    have hms58_0 := NB104_102.out
    have hms58_1 := NB104_103.out
    have hs59 : w54.cell? ⟨gb104, 4, none⟩ = some (.int .u64 0) := (blk_cell BK104.out 4).trans rfl
    have hfs59 := blk_frozen BK104.out 4
    have hns59_0 := NB102_104.out
    have hns59_1 := NB103_104.out
    have hms59_0 := NB104_102.out
    have hms59_1 := NB104_103.out
    have hs60 : w54.cell? ⟨gb104, 5, none⟩ = some (.int .u64 0) := (blk_cell BK104.out 5).trans rfl
    have hfs60 := blk_frozen BK104.out 5
    have hns60_0 := NB102_104.out
    have hns60_1 := NB103_104.out
    have hms60_0 := NB104_102.out
    have hms60_1 := NB104_103.out
    refine skip_ (w1 := ?_) (by rfl) rfl ?_ ?_
    rotate_left
    ·go_simp
     rfl
    refine hK.out _ _ ⟨(cfar6_ NB102_104 (hHeld.1)), (cfar6_ NB102_104 (hHeld.2.1)), (cfar6_ NB102_104 (hHeld.2.2.1)), (cfar6_ NB102_104 (hHeld.2.2.2.1)), (cfar6_ NB102_104 (hHeld.2.2.2.2.1)), (cfar6_ NB102_104 (hHeld.2.2.2.2.2))⟩ (fun hHeld => ?_)
    clear hK K
    refine pure_ (i := 13) (N := some 11) (v := ?_) (a' := ?_) #[true, true, true, true, true, true, true, true, true, true, true, true, true, true] rfl rfl (any_of HT_.out (by kernel_rfl)) (fun _ _ _ h => h) (Or.inl ⟨by rfl, ?_⟩) ?_ ?_
    rotate_left
    ·intro w'
     go_simp
     with_reducible rfl
    rotate_left
    ·simp only [Act.put, sa_, s0_, ss_, i64_w, i32_w]
     rfl
    refine done_ (done_of HT_.out (by kernel_rfl)) ?_
    try go_wp2
    refine bodyPost_ret (results_ct rfl _ _ gb104 24 #[.bool false, .int .i64 0, .bool a0_2, .int .i64 a0_3, .int .u64 a0_4, .int .u64 a0_5] (0, 0) _ rfl (by apply put6_; exact BK104.out) Try.underlying24 rfl (by kernel_rfl)) rfl ?_
    exact ⟨by first | rfl | (simp [errW_none, errW_some] <;> rfl) | (simp [*, errW_none, errW_some] <;> rfl), by repeat (with_reducible first | exact HB.out | apply bs_ GE102 | apply bs_ GE103 | apply bs_ GE104 | apply below_drew1 | apply pw_below_drewN)⟩

/-! ### codel_State_due: function 28 -/
def codel_State_due.f (a0_0 : Bool) (a0_1 : Int) (a0_2 : Bool) (a0_3 : Int) (a0_4 : Int) (a0_5 : Int) (a1 : Int) : Option (Bool × Int × Bool × Int × Int × Int × Int) := if a1 < a0_3 then (some (a0_0, a0_1, a0_2, a0_3, a0_4, a0_5, 0)) else (if a0_4 < 18446744073709551615 then (some (a0_0, a0_1, a0_2, a0_3, IntKind.u64.wrap (a0_4 + 1), a0_5, 1)) else (some (a0_0, a0_1, a0_2, a0_3, a0_4, a0_5, 1)))
set_option maxHeartbeats 8000000 in
set_option maxRecDepth 100000 in
theorem codel_State_due.calls (a0_0 : Bool) (a0_1 : Int) (a0_2 : Bool) (a0_3 : Int) (a0_4 : Int) (a0_5 : Int) (a1 : Int) (r1 : Bool) (r2 : Int) (r3 : Bool) (r4 : Int) (r5 : Int) (r6 : Int) (r7 : Int) (w : World) (h : codel_State_due.f a0_0 a0_1 a0_2 a0_3 a0_4 a0_5 a1 = some (r1, r2, r3, r4, r5, r6, r7)) :
  Calls Try.prog 28 #[.agg #[.bool a0_0, .int .i64 a0_1, .bool a0_2, .int .i64 a0_3, .int .u64 a0_4, .int .u64 a0_5], .int .i64 a1] w fun e w' => e = .returned (.tuple #[.agg #[.bool r1, .int .i64 r2, .bool r3, .int .i64 r4, .int .u64 r5, .int .u64 r6], .int .i64 r7]) ∧ Below w.heap.size w w' := by
 have hu24 := Try.underlying24
 have HB := m_ (Below.refl w.heap.size w)
 have H : (if a1 < a0_3 then (some (a0_0, a0_1, a0_2, a0_3, a0_4, a0_5, 0)) else (if a0_4 < 18446744073709551615 then (some (a0_0, a0_1, a0_2, a0_3, IntKind.u64.wrap (a0_4 + 1), a0_5, 1)) else (some (a0_0, a0_1, a0_2, a0_3, a0_4, a0_5, 1)))) = some (r1, r2, r3, r4, r5, r6, r7) := h
 clear h
 by_cases c3 : a1 < a0_3
 ·rw [if_pos c3] at H
  have c3b0 : decide (a1 < a0_3) = true := decide_eq_true c3
  clear c3
  simp only [Option.some.injEq, Prod.mk.injEq] at H
  obtain ⟨rfl, rfl, rfl, rfl, rfl, rfl, rfl⟩ := H
  go_enter Try.func28, Try.ntmps28
  go_wp2_with (first | ((with_reducible refine gate_dst (N := 2) rfl ?_); refine box_event ?hg (N := 2) ?hd (cs := #[.bool a0_0, .int .i64 a0_1, .bool a0_2, .int .i64 a0_3, .int .u64 a0_4, .int .u64 a0_5]) (t := 24) ?hr ?_; (case hd => rfl); (case hg => rfl); (case hr => first | (go_simp; done) | (go_simp; rfl)); intro gb106 hg w4 hbox hb; have BK106 := m_ (hbox); have GW106 := ge_ (by repeat (with_reducible first | exact HB.out)) hg; have GE106 := GW106; replace HB := st_ (by repeat (with_reducible first | exact HB.out)) hb; clear hb hbox hg) | ((with_reducible refine gate_dst (N := 4) rfl ?_); refine box_event ?hg (N := 4) ?hd (cs := #[.bool false, .int .i64 0, .bool false, .int .i64 0, .int .u64 0, .int .u64 0]) (t := 24) ?hr ?_; (case hd => rfl); (case hg => rfl); (case hr => first | (go_simp; done) | (go_simp; rfl)); intro gb107 hg w5 hbox hb; have BK107 := m_ (hbox); have GW107 := ge_ (by repeat (with_reducible first | exact HB.out | apply bs_ GE106)) hg; have GE107 := GW107; have NB106_107 := nl_ BK106 hg; have NB107_106 := ng_ BK106 hg; replace BK106 := bb_ BK106 hb; replace HB := st_ (by repeat (with_reducible first | exact HB.out | apply bs_ GE106)) hb; clear hb hbox hg; have hnb6 := NB106_107.out; have hnc6 := NB107_106.out; obtain ⟨hcz7_0, hcz7_1, hcz7_2, hcz7_3, hcz7_4, hcz7_5, hfz7_0, hfz7_1, hfz7_2, hfz7_3, hfz7_4, hfz7_5⟩ := cf6 BK106; obtain ⟨hcz8_0, hcz8_1, hcz8_2, hcz8_3, hcz8_4, hcz8_5, hfz8_0, hfz8_1, hfz8_2, hfz8_3, hfz8_4, hfz8_5⟩ := cf6 BK107))
  refine bodyPost_ret (results_ct rfl _ _ gb107 24 #[.bool a0_0, .int .i64 a0_1, .bool a0_2, .int .i64 a0_3, .int .u64 a0_4, .int .u64 a0_5] (0, 0) _ rfl (by apply put6_; exact BK107.out) Try.underlying24 rfl (by kernel_rfl)) rfl ?_
  exact ⟨by first | rfl | (simp [errW_none, errW_some] <;> rfl) | (simp [*, errW_none, errW_some] <;> rfl), by repeat (with_reducible first | exact HB.out | apply bs_ GE106 | apply bs_ GE107)⟩
 ·rw [if_neg c3] at H
  have c3b0 : decide (a1 < a0_3) = false := decide_eq_false c3
  clear c3
  by_cases c9 : a0_4 < 18446744073709551615
  ·rw [if_pos c9] at H
   have c9b0 : decide (a0_4 < 18446744073709551615) = true := decide_eq_true c9
   clear c9
   simp only [Option.some.injEq, Prod.mk.injEq] at H
   obtain ⟨rfl, rfl, rfl, rfl, rfl, rfl, rfl⟩ := H
   go_enter Try.func28, Try.ntmps28
   go_wp2_with (first | ((with_reducible refine gate_dst (N := 2) rfl ?_); refine box_event ?hg (N := 2) ?hd (cs := #[.bool a0_0, .int .i64 a0_1, .bool a0_2, .int .i64 a0_3, .int .u64 a0_4, .int .u64 a0_5]) (t := 24) ?hr ?_; (case hd => rfl); (case hg => rfl); (case hr => first | (go_simp; done) | (go_simp; rfl)); intro gb106 hg w10 hbox hb; have BK106 := m_ (hbox); have GW106 := ge_ (by repeat (with_reducible first | exact HB.out)) hg; have GE106 := GW106; replace HB := st_ (by repeat (with_reducible first | exact HB.out)) hb; clear hb hbox hg) | ((with_reducible refine gate_dst (N := 4) rfl ?_); refine box_event ?hg (N := 4) ?hd (cs := #[.bool false, .int .i64 0, .bool false, .int .i64 0, .int .u64 0, .int .u64 0]) (t := 24) ?hr ?_; (case hd => rfl); (case hg => rfl); (case hr => first | (go_simp; done) | (go_simp; rfl)); intro gb107 hg w11 hbox hb; have BK107 := m_ (hbox); have GW107 := ge_ (by repeat (with_reducible first | exact HB.out | apply bs_ GE106)) hg; have GE107 := GW107; have NB106_107 := nl_ BK106 hg; have NB107_106 := ng_ BK106 hg; replace BK106 := bb_ BK106 hb; replace HB := st_ (by repeat (with_reducible first | exact HB.out | apply bs_ GE106)) hb; clear hb hbox hg; have hnb12 := NB106_107.out; have hnc12 := NB107_106.out; obtain ⟨hcz13_0, hcz13_1, hcz13_2, hcz13_3, hcz13_4, hcz13_5, hfz13_0, hfz13_1, hfz13_2, hfz13_3, hfz13_4, hfz13_5⟩ := cf6 BK106; obtain ⟨hcz14_0, hcz14_1, hcz14_2, hcz14_3, hcz14_4, hcz14_5, hfz14_0, hfz14_1, hfz14_2, hfz14_3, hfz14_4, hfz14_5⟩ := cf6 BK107))
   refine bodyPost_ret (results_ct rfl _ _ gb107 24 #[.bool a0_0, .int .i64 a0_1, .bool a0_2, .int .i64 a0_3, .int .u64 (IntKind.u64.wrap (a0_4 + 1)), .int .u64 a0_5] (0, 0) _ rfl (by apply put6_; refine blk_far ?_ NB107_106.out _; exact BK107.out) Try.underlying24 rfl (by kernel_rfl)) rfl ?_
   exact ⟨by first | rfl | (simp [errW_none, errW_some] <;> rfl) | (simp [*, errW_none, errW_some] <;> rfl), by repeat (with_reducible first | exact HB.out | apply bs_ GE106 | apply bs_ GE107)⟩
  ·rw [if_neg c9] at H
   have c9b0 : decide (a0_4 < 18446744073709551615) = false := decide_eq_false c9
   clear c9
   simp only [Option.some.injEq, Prod.mk.injEq] at H
   obtain ⟨rfl, rfl, rfl, rfl, rfl, rfl, rfl⟩ := H
   go_enter Try.func28, Try.ntmps28
   go_wp2_with (first | ((with_reducible refine gate_dst (N := 2) rfl ?_); refine box_event ?hg (N := 2) ?hd (cs := #[.bool a0_0, .int .i64 a0_1, .bool a0_2, .int .i64 a0_3, .int .u64 a0_4, .int .u64 a0_5]) (t := 24) ?hr ?_; (case hd => rfl); (case hg => rfl); (case hr => first | (go_simp; done) | (go_simp; rfl)); intro gb106 hg w15 hbox hb; have BK106 := m_ (hbox); have GW106 := ge_ (by repeat (with_reducible first | exact HB.out)) hg; have GE106 := GW106; replace HB := st_ (by repeat (with_reducible first | exact HB.out)) hb; clear hb hbox hg) | ((with_reducible refine gate_dst (N := 4) rfl ?_); refine box_event ?hg (N := 4) ?hd (cs := #[.bool false, .int .i64 0, .bool false, .int .i64 0, .int .u64 0, .int .u64 0]) (t := 24) ?hr ?_; (case hd => rfl); (case hg => rfl); (case hr => first | (go_simp; done) | (go_simp; rfl)); intro gb107 hg w16 hbox hb; have BK107 := m_ (hbox); have GW107 := ge_ (by repeat (with_reducible first | exact HB.out | apply bs_ GE106)) hg; have GE107 := GW107; have NB106_107 := nl_ BK106 hg; have NB107_106 := ng_ BK106 hg; replace BK106 := bb_ BK106 hb; replace HB := st_ (by repeat (with_reducible first | exact HB.out | apply bs_ GE106)) hb; clear hb hbox hg; have hnb17 := NB106_107.out; have hnc17 := NB107_106.out; obtain ⟨hcz18_0, hcz18_1, hcz18_2, hcz18_3, hcz18_4, hcz18_5, hfz18_0, hfz18_1, hfz18_2, hfz18_3, hfz18_4, hfz18_5⟩ := cf6 BK106; obtain ⟨hcz19_0, hcz19_1, hcz19_2, hcz19_3, hcz19_4, hcz19_5, hfz19_0, hfz19_1, hfz19_2, hfz19_3, hfz19_4, hfz19_5⟩ := cf6 BK107))
   refine bodyPost_ret (results_ct rfl _ _ gb107 24 #[.bool a0_0, .int .i64 a0_1, .bool a0_2, .int .i64 a0_3, .int .u64 a0_4, .int .u64 a0_5] (0, 0) _ rfl (by apply put6_; exact BK107.out) Try.underlying24 rfl (by kernel_rfl)) rfl ?_
   exact ⟨by first | rfl | (simp [errW_none, errW_some] <;> rfl) | (simp [*, errW_none, errW_some] <;> rfl), by repeat (with_reducible first | exact HB.out | apply bs_ GE106 | apply bs_ GE107)⟩

/-! ### bits_Mul64: function 50 -/
def bits_Mul64.f (a0 : Int) (a1 : Int) : Option (Int × Int) := some (IntKind.u64.wrap ((IntKind.u64.wrap ((IntKind.u64.wrap ((a0 / 4294967296) * (a1 / 4294967296))) + ((IntKind.u64.wrap ((IntKind.u64.wrap ((a0 / 4294967296) * (Go.bits .and .u64 a1 4294967295))) + ((IntKind.u64.wrap ((Go.bits .and .u64 a0 4294967295) * (Go.bits .and .u64 a1 4294967295))) / 4294967296))) / 4294967296))) + ((IntKind.u64.wrap ((Go.bits .and .u64 (IntKind.u64.wrap ((IntKind.u64.wrap ((a0 / 4294967296) * (Go.bits .and .u64 a1 4294967295))) + ((IntKind.u64.wrap ((Go.bits .and .u64 a0 4294967295) * (Go.bits .and .u64 a1 4294967295))) / 4294967296))) 4294967295) + (IntKind.u64.wrap ((Go.bits .and .u64 a0 4294967295) * (a1 / 4294967296))))) / 4294967296)), IntKind.u64.wrap (a0 * a1))
set_option maxHeartbeats 8000000 in
set_option maxRecDepth 100000 in
theorem bits_Mul64.calls (a0 : Int) (a1 : Int) (r1 : Int) (r2 : Int) (w : World) (h : bits_Mul64.f a0 a1 = some (r1, r2)) :
  Calls Try.prog 50 #[.int .u64 a0, .int .u64 a1] w fun e w' => e = .returned (.tuple #[.int .u64 r1, .int .u64 r2]) ∧ Drawn0 w w' := by
 have H : (some (IntKind.u64.wrap ((IntKind.u64.wrap ((IntKind.u64.wrap ((a0 / 4294967296) * (a1 / 4294967296))) + ((IntKind.u64.wrap ((IntKind.u64.wrap ((a0 / 4294967296) * (Go.bits .and .u64 a1 4294967295))) + ((IntKind.u64.wrap ((Go.bits .and .u64 a0 4294967295) * (Go.bits .and .u64 a1 4294967295))) / 4294967296))) / 4294967296))) + ((IntKind.u64.wrap ((Go.bits .and .u64 (IntKind.u64.wrap ((IntKind.u64.wrap ((a0 / 4294967296) * (Go.bits .and .u64 a1 4294967295))) + ((IntKind.u64.wrap ((Go.bits .and .u64 a0 4294967295) * (Go.bits .and .u64 a1 4294967295))) / 4294967296))) 4294967295) + (IntKind.u64.wrap ((Go.bits .and .u64 a0 4294967295) * (a1 / 4294967296))))) / 4294967296)), IntKind.u64.wrap (a0 * a1))) = some (r1, r2) := h
 clear h
 simp only [Option.some.injEq, Prod.mk.injEq] at H
 obtain ⟨rfl, rfl⟩ := H
 go_enter Try.func50, Try.ntmps50
 go_wp2
 go_ret2
 exact ⟨by first | rfl | (simp; done) | (simp [*]; done), by repeat (first | exact Drawn0.refl _ | apply Drawn0.step)⟩

/-! ### wide_Mul: function 43 -/
def wide_Mul.f (a0 : Int) (a1 : Int) : Option (Int × Int) := (bits_Mul64.f a0 a1).bind fun bt109 => (some (bt109.1, bt109.2))
set_option maxHeartbeats 8000000 in
set_option maxRecDepth 100000 in
theorem wide_Mul.calls (a0 : Int) (a1 : Int) (r1 : Int) (r2 : Int) (w : World) (h : wide_Mul.f a0 a1 = some (r1, r2)) :
  Calls Try.prog 43 #[.int .u64 a0, .int .u64 a1] w fun e w' => e = .returned (.agg #[.int .u64 r1, .int .u64 r2]) ∧ Below w.heap.size w w' := by
 have hu70 := Try.underlying70
 have HB := m_ (Below.refl w.heap.size w)
 have H : ((bits_Mul64.f a0 a1).bind fun bt109 => (some (bt109.1, bt109.2))) = some (r1, r2) := h
 clear h
 replace H := Option.bind_eq_some_iff.mp H
 obtain ⟨⟨t109, t110⟩, A30, H⟩ := H
 replace H : (some (t109, t110)) = some (r1, r2) := H
 have A3 := Aside0.mk A30
 clear A30
 simp only [Option.some.injEq, Prod.mk.injEq] at H
 obtain ⟨rfl, rfl⟩ := H
 go_enter Try.func43, Try.ntmps43
 go_wp2_with (first | ((with_reducible refine gate_dst (N := 4) rfl ?_); refine box_event ?hg (N := 4) ?hd (cs := #[.int .u64 0, .int .u64 0]) (t := 70) ?hr ?_; (case hd => rfl); (case hg => rfl); (case hr => first | (go_simp; done) | (go_simp; rfl)); intro gb108 hg w4 hbox hb; have BK108 := m_ (hbox); have GW108 := ge_ (by repeat (with_reducible first | exact HB.out | apply below_drew1 | apply pw_below_drewN)) hg; have GE108 := GW108; replace HB := st_ (by repeat (with_reducible first | exact HB.out | apply below_drew1 | apply pw_below_drewN)) hb; clear hb hbox hg) | ((with_reducible refine gate_callee (f := 50) rfl ?_); refine goesL_ (some 10) rfl rfl Try.func50 (by kernel_rfl) rfl #[.int .u64 a0, .int .u64 a1] rfl (by first | rfl | (simp only [List.map_toArray, List.map_cons, List.map_nil]; first | done | rfl)) ?_; (with_reducible refine (bits_Mul64.calls a0 a1 t109 t110 _ A3.out).mono ?_); rintro e w' ⟨rfl, ⟨nd, rfl⟩⟩; refine ⟨_, rfl, ?_⟩; (try (rw [drewN_self w4]; generalize hq_ : World.drewN w4 _ = w4; have n0_ : Aside0 (w4.heap[gb108]? = some (.cells #[.int .u64 0, .int .u64 0] 70 (0, 0))) := ⟨by rw [← hq_]; exact (by exact BK108.out)⟩; have n1_ : Aside0 (Below w.heap.size w w4) := ⟨by rw [← hq_]; exact (by repeat (with_reducible first | exact HB.out | apply bs_ GE108 | apply below_drew1 | apply pw_below_drewN))⟩; clear BK108 HB hq_; have BK108 := n0_; have HB := n1_; clear n0_ n1_)); obtain ⟨hcz5_0, hcz5_1, hfz5_0, hfz5_1⟩ := cf2 BK108))
 refine bodyPost_ret (results_cell_row rfl _ _ gb108 70 #[.int .u64 t109, .int .u64 t110] (0, 0) _ rfl (by apply put2_; exact BK108.out) Try.underlying70 rfl (by kernel_rfl)) rfl ?_
 exact ⟨by first | rfl | (simp [errW_none, errW_some] <;> rfl) | (simp [*, errW_none, errW_some] <;> rfl), by repeat (with_reducible first | exact HB.out | apply bs_ GE108 | apply below_drew1 | apply pw_below_drewN)⟩

end Go.Proofs.Ytiiffgmbkajkhaa.L

-- Laid by a program of this claim's session (wip/tools/myprint.py) over the kit's printer.
import Derived.Test.YtdgbehbiigggmaaYx0
import Derived.Test.YtdgbehbiigggmaaYx7
import Derived.Test.YtdgbehbiigggmaaYx8
namespace Go.Proofs.Ytdgbehbiigggmaa.Y
open Go.RowKit Go.Proofs.YtdgbehbiigggmaaW.PrintWords Go.Proofs.YtdgbehbiigggmaaW.PrintLast Go.Proofs.YtdgbehbiigggmaaW.PrintMore
attribute [local go_sem] max2_int min2_int max_two min_two max_three min_three max_four min_four   -- for this text's walks alone
set_option linter.unusedVariables false
set_option linter.unusedSimpArgs false

/-! ### overfallref01_Parse: function 30 -/
theorem less_flip_ : ∀ (a b : List UInt8), Op.bytesLess b a = !(Op.bytesLess a b || a == b)
  | [], [] => rfl
  | [], _ :: _ => rfl
  | _ :: _, [] => rfl
  | x :: a, y :: b => by
    have ih := less_flip_ a b
    simp only [Op.bytesLess, ih]
    rcases Nat.lt_trichotomy x.toNat y.toNat with h | h | h
    · have h1 : x < y := h
      have h2 : ¬ y < x := fun z => absurd (show y.toNat < x.toNat from z) (by omega)
      have h3 : (y == x) = false := by rw [beq_eq_false_iff_ne]; rintro rfl; omega
      simp [h1, h2, h3]
    · have e : x = y := UInt8.toNat_inj.mp h
      subst e
      have h1 : ¬ x < x := fun z => absurd (show x.toNat < x.toNat from z) (by omega)
      simp [h1]
    · have h1 : y < x := h
      have h2 : ¬ x < y := fun z => absurd (show x.toNat < y.toNat from z) (by omega)
      have h3 : (x == y) = false := by rw [beq_eq_false_iff_ne]; rintro rfl; omega
      have h4 : ¬ x = y := by rintro rfl; omega
      simp [h1, h2, h3, h4]
mutual
def overfallref01_Parse.l0 : Nat → ByteArray → Int → Option (Int × Int × Int)
 | 0, _, _ => none
 | k + 1, x0, x4 => if x4 < (x0.size : Int) then (if 0 ≤ x4 then (if (bt x0 x4) < 48 then (some (0, 0, 9)) else (if (bt x0 x4) > 57 then (some (0, 0, 9)) else (overfallref01_Parse.l0 k x0 (wrap64 (x4 + 1))))) else (none)) else (if (x0.size : Int) = 0 then (overfallref01_Parse.j1 k x0 true) else (if (x0.size : Int) > 1 then (if 0 < (x0.size : Int) then (overfallref01_Parse.j1 k x0 ((bt x0 0) == 48)) else (none)) else (overfallref01_Parse.j1 k x0 false)))
def overfallref01_Parse.j1 : Nat → ByteArray → Bool → Option (Int × Int × Int)
 | 0, _, _ => none
 | k + 1, x0, x37 => if x37 = true then (some (0, 0, 9)) else (if (x0.size : Int) > 39 then (overfallref01_Parse.j2 k x0 true) else (if (x0.size : Int) = 39 then (overfallref01_Parse.j2 k x0 (Op.bytesLess ([51, 52, 48, 50, 56, 50, 51, 54, 54, 57, 50, 48, 57, 51, 56, 52, 54, 51, 52, 54, 51, 51, 55, 52, 54, 48, 55, 52, 51, 49, 55, 54, 56, 50, 49, 49, 52, 53, 53] : List UInt8) x0.toList)) else (overfallref01_Parse.j2 k x0 false)))
def overfallref01_Parse.j2 : Nat → ByteArray → Bool → Option (Int × Int × Int)
 | 0, _, _ => none
 | k + 1, x0, x55 => if x55 = true then (some (0, 0, 8)) else (overfallref01_Parse.l1 k x0 0 0 0)
def overfallref01_Parse.l1 : Nat → ByteArray → Int → Int → Int → Option (Int × Int × Int)
 | 0, _, _, _, _ => none
 | k + 1, x0, x7, x181000, x181001 => if x7 < (x0.size : Int) then ((overfallref01_Left.f k x181000 x181001 3).bind fun bt181 => ((overfallref01_Twice.f k x181000 x181001).bind fun bt183 => ((overfallref01_Add.f k bt181.1 bt181.2 bt183.1 bt183.2).bind fun bt185 => (if 0 ≤ x7 then ((overfallref01_Add.f k bt185.1 bt185.2.1 0 (((bt x0 x7) - 48) % 256)).bind fun bt188 => (overfallref01_Parse.l1 k x0 (wrap64 (x7 + 1)) bt188.1 bt188.2.1)) else (none))))) else (some (x181000, x181001, 0))
end
def overfallref01_Parse.f (k : Nat) (a0 : ByteArray) : Option (Int × Int × Int) := overfallref01_Parse.l0 k a0 0
theorem overfallref01_Parse.mono_l : ∀ k, (∀ y0 y1, LeO (overfallref01_Parse.l0 k y0 y1) (overfallref01_Parse.l0 (k + 1) y0 y1)) ∧ (∀ y0 y1, LeO (overfallref01_Parse.j1 k y0 y1) (overfallref01_Parse.j1 (k + 1) y0 y1)) ∧ (∀ y0 y1, LeO (overfallref01_Parse.j2 k y0 y1) (overfallref01_Parse.j2 (k + 1) y0 y1)) ∧ (∀ y0 y1 y2 y3, LeO (overfallref01_Parse.l1 k y0 y1 y2 y3) (overfallref01_Parse.l1 (k + 1) y0 y1 y2 y3))
 | 0 => ⟨fun _ _ r h => by simp [overfallref01_Parse.l0] at h, fun _ _ r h => by simp [overfallref01_Parse.j1] at h, fun _ _ r h => by simp [overfallref01_Parse.j2] at h, fun _ _ _ _ r h => by simp [overfallref01_Parse.l1] at h⟩
 | k + 1 => by
  obtain ⟨ih0, ih1, ih2, ih3⟩ := overfallref01_Parse.mono_l k
  refine ⟨?_, ?_, ?_, ?_⟩
  ·intro y0 y1
   unfold overfallref01_Parse.l0
   repeat' first
   | (with_reducible exact ih0 _ _)
   | (with_reducible exact ih1 _ _)
   | (with_reducible exact ih2 _ _)
   | (with_reducible exact ih3 _ _ _ _)
   | (with_reducible exact overfallref01_Add.mono _ _ _ _ _)
   | (with_reducible exact overfallref01_Left.mono _ _ _ _)
   | (with_reducible exact overfallref01_Twice.mono _ _ _)
   | (with_reducible exact LeO.refl _)
   | (with_reducible exact LeO.none _)
   | (with_reducible refine LeO.ite ?_ ?_)
   | (with_reducible refine LeO.bind ?_ (fun _ => ?_))
   | exact ih0 _ _
   | exact ih1 _ _
   | exact ih2 _ _
   | exact ih3 _ _ _ _
   | exact overfallref01_Add.mono _ _ _ _ _
   | exact overfallref01_Left.mono _ _ _ _
   | exact overfallref01_Twice.mono _ _ _
   | exact LeO.none _
   | refine LeO.ite ?_ ?_
   | refine LeO.bind ?_ (fun _ => ?_)
  ·intro y0 y1
   unfold overfallref01_Parse.j1
   repeat' first
   | (with_reducible exact ih0 _ _)
   | (with_reducible exact ih1 _ _)
   | (with_reducible exact ih2 _ _)
   | (with_reducible exact ih3 _ _ _ _)
   | (with_reducible exact overfallref01_Add.mono _ _ _ _ _)
   | (with_reducible exact overfallref01_Left.mono _ _ _ _)
   | (with_reducible exact overfallref01_Twice.mono _ _ _)
   | (with_reducible exact LeO.refl _)
   | (with_reducible exact LeO.none _)
   | (with_reducible refine LeO.ite ?_ ?_)
   | (with_reducible refine LeO.bind ?_ (fun _ => ?_))
   | exact ih0 _ _
   | exact ih1 _ _
   | exact ih2 _ _
   | exact ih3 _ _ _ _
   | exact overfallref01_Add.mono _ _ _ _ _
   | exact overfallref01_Left.mono _ _ _ _
   | exact overfallref01_Twice.mono _ _ _
   | exact LeO.none _
   | refine LeO.ite ?_ ?_
   | refine LeO.bind ?_ (fun _ => ?_)
  ·intro y0 y1
   unfold overfallref01_Parse.j2
   repeat' first
   | (with_reducible exact ih0 _ _)
   | (with_reducible exact ih1 _ _)
   | (with_reducible exact ih2 _ _)
   | (with_reducible exact ih3 _ _ _ _)
   | (with_reducible exact overfallref01_Add.mono _ _ _ _ _)
   | (with_reducible exact overfallref01_Left.mono _ _ _ _)
   | (with_reducible exact overfallref01_Twice.mono _ _ _)
   | (with_reducible exact LeO.refl _)
   | (with_reducible exact LeO.none _)
   | (with_reducible refine LeO.ite ?_ ?_)
   | (with_reducible refine LeO.bind ?_ (fun _ => ?_))
   | exact ih0 _ _
   | exact ih1 _ _
   | exact ih2 _ _
   | exact ih3 _ _ _ _
   | exact overfallref01_Add.mono _ _ _ _ _
   | exact overfallref01_Left.mono _ _ _ _
   | exact overfallref01_Twice.mono _ _ _
   | exact LeO.none _
   | refine LeO.ite ?_ ?_
   | refine LeO.bind ?_ (fun _ => ?_)
  ·intro y0 y1 y2 y3
   unfold overfallref01_Parse.l1
   repeat' first
   | (with_reducible exact ih0 _ _)
   | (with_reducible exact ih1 _ _)
   | (with_reducible exact ih2 _ _)
   | (with_reducible exact ih3 _ _ _ _)
   | (with_reducible exact overfallref01_Add.mono _ _ _ _ _)
   | (with_reducible exact overfallref01_Left.mono _ _ _ _)
   | (with_reducible exact overfallref01_Twice.mono _ _ _)
   | (with_reducible exact LeO.refl _)
   | (with_reducible exact LeO.none _)
   | (with_reducible refine LeO.ite ?_ ?_)
   | (with_reducible refine LeO.bind ?_ (fun _ => ?_))
   | exact ih0 _ _
   | exact ih1 _ _
   | exact ih2 _ _
   | exact ih3 _ _ _ _
   | exact overfallref01_Add.mono _ _ _ _ _
   | exact overfallref01_Left.mono _ _ _ _
   | exact overfallref01_Twice.mono _ _ _
   | exact LeO.none _
   | refine LeO.ite ?_ ?_
   | refine LeO.bind ?_ (fun _ => ?_)
theorem overfallref01_Parse.mono : ∀ a0 k, LeO (overfallref01_Parse.f k a0) (overfallref01_Parse.f (k + 1) a0) := by
 intro a0 k
 obtain ⟨ih0, ih1, ih2, ih3⟩ := overfallref01_Parse.mono_l k
 unfold overfallref01_Parse.f
 repeat' first
   | (with_reducible exact ih0 _ _)
   | (with_reducible exact ih1 _ _)
   | (with_reducible exact ih2 _ _)
   | (with_reducible exact ih3 _ _ _ _)
   | (with_reducible exact overfallref01_Add.mono _ _ _ _ _)
   | (with_reducible exact overfallref01_Left.mono _ _ _ _)
   | (with_reducible exact overfallref01_Twice.mono _ _ _)
   | (with_reducible exact LeO.refl _)
   | (with_reducible exact LeO.none _)
   | (with_reducible refine LeO.ite ?_ ?_)
   | (with_reducible refine LeO.bind ?_ (fun _ => ?_))
   | exact ih0 _ _
   | exact ih1 _ _
   | exact ih2 _ _
   | exact ih3 _ _ _ _
   | exact overfallref01_Add.mono _ _ _ _ _
   | exact overfallref01_Left.mono _ _ _ _
   | exact overfallref01_Twice.mono _ _ _
   | exact LeO.none _
   | refine LeO.ite ?_ ?_
   | refine LeO.bind ?_ (fun _ => ?_)
def overfallref01_Parse.T15 : Bool × List (List Nat × List Nat) := (true, [([], []), ([0], [0]), ([], []), ([2, 1], [2]), ([1, 3, 3], [1, 3]), ([4], [4]), ([5], [5]), ([5], [5]), ([6, 4, 0, 1, 2, 3, 4, 5, 6], [6])])
def overfallref01_Parse.B15 : List Nat := [0, 1, 0, 7, 15, 31, 63, 63, 127]
theorem overfallref01_Parse.tab15 : rtab .any (opsOf Try.f30 15) = overfallref01_Parse.T15 := by kernel_rfl
theorem overfallref01_Parse.bits15 : waitsOk overfallref01_Parse.T15.2 overfallref01_Parse.B15 = true := by kernel_rfl
def overfallref01_Parse.T16 : Bool × List (List Nat × List Nat) := (true, [([], []), ([], []), ([], []), ([1, 2], [1, 2]), ([3], [3]), ([4], [4]), ([5], [5]), ([0, 6], [0, 6]), ([7], [7]), ([8], [8]), ([8], [8]), ([9, 7, 0, 1, 2, 3, 4, 5, 6, 7, 8, 9], [9])])
def overfallref01_Parse.B16 : List Nat := [0, 0, 0, 6, 14, 30, 62, 127, 255, 511, 511, 1023]
theorem overfallref01_Parse.tab16 : rtab .any (opsOf Try.f30 16) = overfallref01_Parse.T16 := by kernel_rfl
theorem overfallref01_Parse.bits16 : waitsOk overfallref01_Parse.T16.2 overfallref01_Parse.B16 = true := by kernel_rfl
set_option maxHeartbeats 8000000 in
set_option maxRecDepth 100000 in
theorem overfallref01_Parse.calls (k : Nat) (a0 : ByteArray) (r1 : Int) (r2 : Int) (r3 : Int) (w : World) (h : overfallref01_Parse.f k a0 = some (r1, r2, r3)) :
  Calls Try.prog 30 #[.string a0] w fun e w' => e = .returned (.tuple #[.agg #[.int .u64 r1, .int .u64 r2], .int .i64 r3]) ∧ Below w.heap.size w w' := by
 have hu29 := Try.underlying29
 have HB := Aside0.mk (Below.refl w.heap.size w)
 have H : (overfallref01_Parse.l0 k a0 0) = some (r1, r2, r3) := h
 clear h
 have H' := Aside0.mk H
 clear H
 go_enter Try.func30, Try.ntmps30
 go_wp2_with (first | ((with_reducible refine gate_dst (N := 2) rfl ?_); (try (refine gate_guard (by rfl) ?_; dsimp only)); refine box_event ?hg (N := 2) ?hd (cs := #[.int .u64 0, .int .u64 0]) (t := 29) ?hr ?_; (case hd => rfl); (case hg => rfl); (case hr => first | (go_simp; done) | (go_simp; rfl)); intro gb179 hg w2 hbox hb; have n0_ := Aside0.mk (below_step (by repeat (first | (with_reducible first | exact HB.out | apply below_alloc | apply pw_below_drewN | apply below_drew1) | exact HB.out)) hb); have n1_ := Aside0.mk (hbox); have n2_ := Aside0.mk ((by rw [hg]; exact (below_size (by repeat (first | (with_reducible first | exact HB.out | apply below_alloc | apply pw_below_drewN | apply below_drew1) | exact HB.out))) : w.heap.size ≤ gb179)); have n3_ := Aside0.mk ((by rw [hg]; exact (below_size (by repeat (first | (with_reducible first | exact HB.out | apply below_alloc | apply pw_below_drewN | apply below_drew1) | exact HB.out))) : w.heap.size ≤ gb179)); clear HB; have HB := n0_; have BK179 := n1_; have GW179 := n2_; have GE179 := n3_; clear n0_ n1_ n2_ n3_; clear hb hbox hg))
 go_loopg [4] k (fun kq v4 w' => ∃ (x4_1 : Int) (x180000_1 : Int) (x180001_1 : Int), v4 = .int .i64 x4_1 ∧ Aside0 (overfallref01_Parse.l0 kq a0 x4_1 = some (r1, r2, r3)) ∧ Aside0 (kq ≤ k) ∧ Aside0 (w'.heap[gb179]? = some (.cells #[.int .u64 x180000_1, .int .u64 x180001_1] 29 (0, 0))) ∧ Aside0 (Below w.heap.size w w'))
 case atStart => exact ⟨(0), (0), (0), (by first | rfl | (simp; done) | (simp [*]; done)), H', ⟨Nat.le_refl _⟩, ⟨by exact BK179.out⟩, ⟨by repeat (first | (with_reducible first | exact HB.out | apply below_alloc | apply pw_below_drewN | apply below_drew1 | refine below_set ?_ GE179.out) | exact HB.out)⟩⟩
 case round =>
  clear H'
  try clear p2
  obtain ⟨x4_1, x180000_1, x180001_1, rfl, HA, HK1, BK179, HB⟩ := hrel
  cases gk with
  | zero => exact absurd HA.out (by simp [overfallref01_Parse.l0])
  | succ k1 =>
   have H := HA.out
   clear HA
   simp only [overfallref01_Parse.l0] at H
   by_cases c3 : x4_1 < (a0.size : Int)
   ·rw [if_pos c3] at H
    have c3b0 : decide (x4_1 < (a0.size : Int)) = true := decide_eq_true c3
    clear c3
    by_cases c4 : 0 ≤ x4_1
    ·rw [if_pos c4] at H
     have c4b0 : decide (0 ≤ x4_1) = true := decide_eq_true c4
     clear c4
     by_cases c6 : (bt a0 x4_1) < 48
     ·rw [if_pos c6] at H
      have c6b0 : decide ((bt a0 x4_1) < 48) = true := decide_eq_true c6
      clear c6
      simp only [Option.some.injEq, Prod.mk.injEq] at H
      obtain ⟨rfl, rfl, rfl⟩ := H
      have p5 : 0 ≤ (x4_1 : Int) := of_decide_eq_true (by first | (with_reducible assumption) | assumption)
      have q5 : x4_1 < (a0.size : Int) := of_decide_eq_true (by first | (with_reducible assumption) | assumption)
      have hx5 := bt_at a0 x4_1
      replace p5 := eq_true p5
      replace q5 := eq_true q5
      have hcz7_0 : wr.cell? ⟨gb179, 0, none⟩ = some (.int .u64 x180000_1) := (blk_cell BK179.out 0).trans rfl
      have hcz7_1 : wr.cell? ⟨gb179, 1, none⟩ = some (.int .u64 x180001_1) := (blk_cell BK179.out 1).trans rfl
      have hfz7_0 := blk_frozen BK179.out 0
      have hfz7_1 := blk_frozen BK179.out 1
      go_wp2
      refine bodyPost_ret (results_ct rfl _ _ gb179 29 #[.int .u64 0, .int .u64 0] (0, 0) _ rfl (by refine blk_put (cs := #[.int .u64 0, .int .u64 x180001_1]) ?_ 1 _ rfl; refine blk_put (cs := #[.int .u64 x180000_1, .int .u64 x180001_1]) ?_ 0 _ rfl; exact BK179.out) Try.underlying29 rfl (by kernel_rfl)) rfl ?_
      exact ⟨by first | rfl | (simp [errW_none, errW_some] <;> rfl) | (simp [*, errW_none, errW_some] <;> rfl), by repeat (first | (with_reducible first | exact HB.out | apply below_alloc | apply pw_below_drewN | apply below_drew1 | refine below_set ?_ GE179.out) | exact HB.out)⟩
     ·rw [if_neg c6] at H
      have c6b0 : decide ((bt a0 x4_1) < 48) = false := decide_eq_false c6
      clear c6
      by_cases c9 : (bt a0 x4_1) > 57
      ·rw [if_pos c9] at H
       have c9b0 : decide (57 < (bt a0 x4_1)) = true := decide_eq_true c9
       clear c9
       simp only [Option.some.injEq, Prod.mk.injEq] at H
       obtain ⟨rfl, rfl, rfl⟩ := H
       have p5 : 0 ≤ (x4_1 : Int) := of_decide_eq_true (by first | (with_reducible assumption) | assumption)
       have q5 : x4_1 < (a0.size : Int) := of_decide_eq_true (by first | (with_reducible assumption) | assumption)
       have hx5 := bt_at a0 x4_1
       replace p5 := eq_true p5
       replace q5 := eq_true q5
       have p8 : 0 ≤ (x4_1 : Int) := of_decide_eq_true (by first | (with_reducible assumption) | assumption)
       have q8 : x4_1 < (a0.size : Int) := of_decide_eq_true (by first | (with_reducible assumption) | assumption)
       have hx8 := bt_at a0 x4_1
       replace p8 := eq_true p8
       replace q8 := eq_true q8
       have hcz10_0 : wr.cell? ⟨gb179, 0, none⟩ = some (.int .u64 x180000_1) := (blk_cell BK179.out 0).trans rfl
       have hcz10_1 : wr.cell? ⟨gb179, 1, none⟩ = some (.int .u64 x180001_1) := (blk_cell BK179.out 1).trans rfl
       have hfz10_0 := blk_frozen BK179.out 0
       have hfz10_1 := blk_frozen BK179.out 1
       go_wp2
       refine bodyPost_ret (results_ct rfl _ _ gb179 29 #[.int .u64 0, .int .u64 0] (0, 0) _ rfl (by refine blk_put (cs := #[.int .u64 0, .int .u64 x180001_1]) ?_ 1 _ rfl; refine blk_put (cs := #[.int .u64 x180000_1, .int .u64 x180001_1]) ?_ 0 _ rfl; exact BK179.out) Try.underlying29 rfl (by kernel_rfl)) rfl ?_
       exact ⟨by first | rfl | (simp [errW_none, errW_some] <;> rfl) | (simp [*, errW_none, errW_some] <;> rfl), by repeat (first | (with_reducible first | exact HB.out | apply below_alloc | apply pw_below_drewN | apply below_drew1 | refine below_set ?_ GE179.out) | exact HB.out)⟩
      ·rw [if_neg c9] at H
       have c9b0 : decide (57 < (bt a0 x4_1)) = false := decide_eq_false c9
       clear c9
       have H' := Aside0.mk H
       clear H
       have p5 : 0 ≤ (x4_1 : Int) := of_decide_eq_true (by first | (with_reducible assumption) | assumption)
       have q5 : x4_1 < (a0.size : Int) := of_decide_eq_true (by first | (with_reducible assumption) | assumption)
       have hx5 := bt_at a0 x4_1
       replace p5 := eq_true p5
       replace q5 := eq_true q5
       have p8 : 0 ≤ (x4_1 : Int) := of_decide_eq_true (by first | (with_reducible assumption) | assumption)
       have q8 : x4_1 < (a0.size : Int) := of_decide_eq_true (by first | (with_reducible assumption) | assumption)
       have hx8 := bt_at a0 x4_1
       replace p8 := eq_true p8
       replace q8 := eq_true q8
       go_wp2
       go_roundg k1
       case measure => have := HK1.out; omega
       case rel => exact ⟨(wrap64 (x4_1 + 1)), (x180000_1), (x180001_1), (by first | rfl | (simp; done) | (simp [*]; done)), H', ⟨by have := HK1.out; omega⟩, ⟨by exact BK179.out⟩, ⟨by repeat (first | (with_reducible first | exact HB.out | apply below_alloc | apply pw_below_drewN | apply below_drew1 | refine below_set ?_ GE179.out) | exact HB.out)⟩⟩
    ·rw [if_neg c4] at H
     exact absurd H (by simp)
   ·rw [if_neg c3] at H
    have c3b0 : decide (x4_1 < (a0.size : Int)) = false := decide_eq_false c3
    clear c3
    have HC11 := Aside0.mk H
    clear H
    go_upto_region 6 with (fail)
    go_cut [37] (fun v37 wc => ∃ (kq : Nat) (x37_10 : Bool), v37 = .bool x37_10 ∧ Aside0 (overfallref01_Parse.j1 kq a0 x37_10 = some (r1, r2, r3)) ∧ Aside0 (kq ≤ k1) ∧ Aside0 (wc.heap[gb179]? = some (.cells #[.int .u64 x180000_1, .int .u64 x180001_1] 29 (0, 0))) ∧ Aside0 (Below w.heap.size w wc))
    case first =>
     have H := HC11.out
     clear HC11
     by_cases c12 : (a0.size : Int) = 0
     ·rw [if_pos c12] at H
      have c12b0 : ((a0.size : Int) == 0) = true := beq_iff_eq.mpr c12
      have c12b1 : ((a0.size : Int) != 0) = false := bne_eq_false_iff_eq.mpr c12
      clear c12
      (first | rw [c12b0] | (simp only [i64_w, i32_w]; rw [c12b0]) | skip)
      have H' := Aside0.mk H
      clear H
      go_wp2
      go_meet
      case rel => exact ⟨_, (true), (by first | rfl | (simp; done) | (simp [*]; done)), H', ⟨by have := HK1.out; first | omega | exact Nat.le_refl _⟩, ⟨by exact BK179.out⟩, ⟨by repeat (first | (with_reducible first | exact HB.out | apply below_alloc | apply pw_below_drewN | apply below_drew1 | refine below_set ?_ GE179.out) | exact HB.out)⟩⟩
     ·rw [if_neg c12] at H
      have c12b0 : ((a0.size : Int) == 0) = false := beq_eq_false_iff_ne.mpr c12
      have c12b1 : ((a0.size : Int) != 0) = true := bne_iff_ne.mpr c12
      (first | rw [c12b0] | (simp only [i64_w, i32_w]; rw [c12b0]) | skip)
      by_cases c13 : (a0.size : Int) > 1
      ·rw [if_pos c13] at H
       have c13b0 : decide (1 < (a0.size : Int)) = true := decide_eq_true c13
       have c13b1 : decide (1 < a0.size) = true := decide_eq_true (by omega)
       clear c13
       by_cases c14 : 0 < (a0.size : Int)
       ·rw [if_pos c14] at H
        have c14b0 : decide (0 < (a0.size : Int)) = true := decide_eq_true c14
        have c14b1 : decide (0 < a0.size) = true := decide_eq_true (by omega)
        clear c14
        have H' := Aside0.mk H
        clear H
        have p15 : 0 ≤ (0 : Int) := (by omega)
        have q15 : 0 < a0.size := (by have : (0 : Int) < (a0.size : Int) := of_decide_eq_true (by first | (with_reducible assumption) | assumption); omega)
        have hx15 : ∀ h : 0 < a0.size, ((a0[0]'h).toNat : Int) = bt a0 0 := bt_at a0 0
        clear p15
        have qi15 : (0 < (a0.size : Int)) = True := eq_true (of_decide_eq_true (by first | (with_reducible assumption) | assumption))
        replace q15 := eq_true q15
        go_wp2
        go_meet
        case rel => exact ⟨_, (((bt a0 0) == 48)), (by first | rfl | (simp; done) | (simp [*]; done)), H', ⟨by have := HK1.out; first | omega | exact Nat.le_refl _⟩, ⟨by exact BK179.out⟩, ⟨by repeat (first | (with_reducible first | exact HB.out | apply below_alloc | apply pw_below_drewN | apply below_drew1 | refine below_set ?_ GE179.out) | exact HB.out)⟩⟩
       ·rw [if_neg c14] at H
        exact absurd H (by simp)
      ·rw [if_neg c13] at H
       have c13b0 : decide (1 < (a0.size : Int)) = false := decide_eq_false c13
       have c13b1 : decide (1 < a0.size) = false := decide_eq_false (by omega)
       clear c13
       have H' := Aside0.mk H
       clear H
       go_wp2
       go_meet
       case rel => exact ⟨_, (false), (by first | rfl | (simp; done) | (simp [*]; done)), H', ⟨by have := HK1.out; first | omega | exact Nat.le_refl _⟩, ⟨by exact BK179.out⟩, ⟨by repeat (first | (with_reducible first | exact HB.out | apply below_alloc | apply pw_below_drewN | apply below_drew1 | refine below_set ?_ GE179.out) | exact HB.out)⟩⟩
    case rest =>
     clear HC11
     try clear c1
     try clear p1
     try clear q1
     try clear hx1
     try clear qi1
     try clear p2
     try clear c3
     try clear c3b0
     try clear c4
     try clear c4b0
     try clear p5
     try clear q5
     try clear hx5
     try clear c6
     try clear c6b0
     try clear p6
     try clear p8
     try clear q8
     try clear hx8
     try clear c9
     try clear c9b0
     try clear c12
     try clear c12b0
     try clear c12b1
     try clear c13
     try clear c13b0
     try clear c13b1
     try clear c14
     try clear c14b0
     try clear c14b1
     try clear p15
     try clear q15
     try clear hx15
     try clear qi15
     try clear hcz10_0
     try clear hcz10_1
     try clear hcz7_0
     try clear hcz7_1
     try clear hfz10_0
     try clear hfz10_1
     try clear hfz7_0
     try clear hfz7_1
     try clear p15
     try clear p2
     try clear p5
     try clear p8
     try clear q15
     try clear q5
     try clear q8
     (try clear BK179); (try clear HB)
     obtain ⟨kq, x37_10, rfl, HA, HJ10, BK179, HB⟩ := hcut
     cases kq with
     | zero => exact absurd HA.out (by simp [overfallref01_Parse.j1])
     | succ kj10 =>
      have H := HA.out
      clear HA
      simp only [overfallref01_Parse.j1] at H
      by_cases c16 : x37_10 = true
      ·subst c16
       have H1 : (some (0, 0, 9)) = some (r1, r2, r3) := by rw [if_pos rfl] at H; exact H
       clear H
       have H := H1
       clear H1
       simp only [Option.some.injEq, Prod.mk.injEq] at H
       obtain ⟨rfl, rfl, rfl⟩ := H
       have hcz17_0 : wc.cell? ⟨gb179, 0, none⟩ = some (.int .u64 x180000_1) := (blk_cell BK179.out 0).trans rfl
       have hcz17_1 : wc.cell? ⟨gb179, 1, none⟩ = some (.int .u64 x180001_1) := (blk_cell BK179.out 1).trans rfl
       have hfz17_0 := blk_frozen BK179.out 0
       have hfz17_1 := blk_frozen BK179.out 1
       go_wp2
       refine bodyPost_ret (results_ct rfl _ _ gb179 29 #[.int .u64 0, .int .u64 0] (0, 0) _ rfl (by refine blk_put (cs := #[.int .u64 0, .int .u64 x180001_1]) ?_ 1 _ rfl; refine blk_put (cs := #[.int .u64 x180000_1, .int .u64 x180001_1]) ?_ 0 _ rfl; exact BK179.out) Try.underlying29 rfl (by kernel_rfl)) rfl ?_
       exact ⟨by first | rfl | (simp [errW_none, errW_some] <;> rfl) | (simp [*, errW_none, errW_some] <;> rfl), by repeat (first | (with_reducible first | exact HB.out | apply below_alloc | apply pw_below_drewN | apply below_drew1 | refine below_set ?_ GE179.out) | exact HB.out)⟩
      ·replace c16 := Bool.eq_false_iff.mpr c16
       subst c16
       have H1 : (if (a0.size : Int) > 39 then (overfallref01_Parse.j2 kj10 a0 true) else (if (a0.size : Int) = 39 then (overfallref01_Parse.j2 kj10 a0 (Op.bytesLess ([51, 52, 48, 50, 56, 50, 51, 54, 54, 57, 50, 48, 57, 51, 56, 52, 54, 51, 52, 54, 51, 51, 55, 52, 54, 48, 55, 52, 51, 49, 55, 54, 56, 50, 49, 49, 52, 53, 53] : List UInt8) a0.toList)) else (overfallref01_Parse.j2 kj10 a0 false))) = some (r1, r2, r3) := by rw [if_neg (show ¬ (false = true) by decide)] at H; exact H
       clear H
       have H := H1
       clear H1
       have HC18 := Aside0.mk H
       clear H
       go_upto_region 9 with (fail)
       go_cut [55] (fun v55 wc => ∃ (kq : Nat) (x55_17 : Bool), v55 = .bool x55_17 ∧ Aside0 (overfallref01_Parse.j2 kq a0 x55_17 = some (r1, r2, r3)) ∧ Aside0 (kq ≤ kj10) ∧ Aside0 (wc.heap[gb179]? = some (.cells #[.int .u64 x180000_1, .int .u64 x180001_1] 29 (0, 0))) ∧ Aside0 (Below w.heap.size w wc))
       case first =>
        have H := HC18.out
        clear HC18
        by_cases c19 : (a0.size : Int) > 39
        ·rw [if_pos c19] at H
         have c19b0 : decide (39 < (a0.size : Int)) = true := decide_eq_true c19
         have c19b1 : decide (39 < a0.size) = true := decide_eq_true (by omega)
         clear c19
         (first | rw [c19b0] | (simp only [i64_w, i32_w]; rw [c19b0]) | skip)
         have H' := Aside0.mk H
         clear H
         go_wp2
         go_meet
         case rel => exact ⟨_, (true), (by first | rfl | (simp; done) | (simp [*]; done)), H', ⟨by have := HK1.out; have := HJ10.out; first | omega | exact Nat.le_refl _⟩, ⟨by exact BK179.out⟩, ⟨by repeat (first | (with_reducible first | exact HB.out | apply below_alloc | apply pw_below_drewN | apply below_drew1 | refine below_set ?_ GE179.out) | exact HB.out)⟩⟩
        ·rw [if_neg c19] at H
         have c19b0 : decide (39 < (a0.size : Int)) = false := decide_eq_false c19
         have c19b1 : decide (39 < a0.size) = false := decide_eq_false (by omega)
         clear c19
         (first | rw [c19b0] | (simp only [i64_w, i32_w]; rw [c19b0]) | skip)
         by_cases c20 : (a0.size : Int) = 39
         ·rw [if_pos c20] at H
          have hs39 : a0.size = 39 := by omega
          have c20b0 : ((a0.size : Int) == 39) = true := beq_iff_eq.mpr c20
          have c20b1 : ((a0.size : Int) != 39) = false := bne_eq_false_iff_eq.mpr c20
          clear c20
          have H' := Aside0.mk H
          clear H
          obtain ⟨mz, hmz⟩ : ∃ m_ : ByteArray, (⟨#[51, 52, 48, 50, 56, 50, 51, 54, 54, 57, 50, 48, 57, 51, 56, 52, 54, 51, 52, 54, 51, 51, 55, 52, 54, 48, 55, 52, 51, 49, 55, 54, 56, 50, 49, 49, 52, 53, 53]⟩ : ByteArray) = m_ := ⟨_, rfl⟩
          have hms : mz.size = 39 := by rw [← hmz]; rfl
          rw [hmz]
          have Hmz := Aside0.mk hmz
          clear hmz
          go_wp2
          have hz : Sem.run Try.prog (binOp BinOp.gtr 9 (Value.string a0) (Value.string mz)) wc = Result.ok (Value.bool (!(Op.bytesLess a0.toList mz.toList || a0.toList == mz.toList))) wc := rfl
          rw [hz]
          clear hz
          rw [← less_flip_]
          rw [show mz.toList = ([51, 52, 48, 50, 56, 50, 51, 54, 54, 57, 50, 48, 57, 51, 56, 52, 54, 51, 52, 54, 51, 51, 55, 52, 54, 48, 55, 52, 51, 49, 55, 54, 56, 50, 49, 49, 52, 53, 53] : List UInt8) from by rw [← Hmz.out]; exact ByteArray.toList_eq _]
          go_wp2
          obtain ⟨hmz⟩ := Hmz
          subst hmz
          go_meet
          case rel => exact ⟨_, ((Op.bytesLess ([51, 52, 48, 50, 56, 50, 51, 54, 54, 57, 50, 48, 57, 51, 56, 52, 54, 51, 52, 54, 51, 51, 55, 52, 54, 48, 55, 52, 51, 49, 55, 54, 56, 50, 49, 49, 52, 53, 53] : List UInt8) a0.toList)), (by first | rfl | (simp; done) | (simp [*]; done)), H', ⟨by have := HK1.out; have := HJ10.out; first | omega | exact Nat.le_refl _⟩, ⟨by exact BK179.out⟩, ⟨by repeat (first | (with_reducible first | exact HB.out | apply below_alloc | apply pw_below_drewN | apply below_drew1 | refine below_set ?_ GE179.out) | exact HB.out)⟩⟩
         ·rw [if_neg c20] at H
          have c20b0 : ((a0.size : Int) == 39) = false := beq_eq_false_iff_ne.mpr c20
          have c20b1 : ((a0.size : Int) != 39) = true := bne_iff_ne.mpr c20
          have H' := Aside0.mk H
          clear H
          go_wp2
          go_meet
          case rel => exact ⟨_, (false), (by first | rfl | (simp; done) | (simp [*]; done)), H', ⟨by have := HK1.out; have := HJ10.out; first | omega | exact Nat.le_refl _⟩, ⟨by exact BK179.out⟩, ⟨by repeat (first | (with_reducible first | exact HB.out | apply below_alloc | apply pw_below_drewN | apply below_drew1 | refine below_set ?_ GE179.out) | exact HB.out)⟩⟩
       case rest =>
        clear HC18
        try clear c1
        try clear p1
        try clear q1
        try clear hx1
        try clear qi1
        try clear c2
        try clear p2
        try clear c3
        try clear c3b0
        try clear c4
        try clear c4b0
        try clear p5
        try clear q5
        try clear hx5
        try clear c6
        try clear c6b0
        try clear p6
        try clear p8
        try clear q8
        try clear hx8
        try clear c9
        try clear c9b0
        try clear c12
        try clear c12b0
        try clear c12b1
        try clear c13
        try clear c13b0
        try clear c13b1
        try clear c14
        try clear c14b0
        try clear c14b1
        try clear p15
        try clear q15
        try clear hx15
        try clear qi15
        try clear c16
        try clear c19
        try clear c19b0
        try clear c19b1
        try clear c20
        try clear c20b0
        try clear c20b1
        try clear hcz10_0
        try clear hcz10_1
        try clear hcz17_0
        try clear hcz17_1
        try clear hcz7_0
        try clear hcz7_1
        try clear hfz10_0
        try clear hfz10_1
        try clear hfz17_0
        try clear hfz17_1
        try clear hfz7_0
        try clear hfz7_1
        try clear p1
        try clear p15
        try clear p2
        try clear p5
        try clear p6
        try clear p8
        try clear q1
        try clear q15
        try clear q5
        try clear q8
        (try clear BK179); (try clear HB)
        obtain ⟨kq, x55_17, rfl, HA, HJ17, BK179, HB⟩ := hcut
        cases kq with
        | zero => exact absurd HA.out (by simp [overfallref01_Parse.j2])
        | succ kj17 =>
         have H := HA.out
         clear HA
         simp only [overfallref01_Parse.j2] at H
         by_cases c21 : x55_17 = true
         ·subst c21
          have H1 : (some (0, 0, 8)) = some (r1, r2, r3) := by rw [if_pos rfl] at H; exact H
          clear H
          have H := H1
          clear H1
          simp only [Option.some.injEq, Prod.mk.injEq] at H
          obtain ⟨rfl, rfl, rfl⟩ := H
          have hcz22_0 : wc.cell? ⟨gb179, 0, none⟩ = some (.int .u64 x180000_1) := (blk_cell BK179.out 0).trans rfl
          have hcz22_1 : wc.cell? ⟨gb179, 1, none⟩ = some (.int .u64 x180001_1) := (blk_cell BK179.out 1).trans rfl
          have hfz22_0 := blk_frozen BK179.out 0
          have hfz22_1 := blk_frozen BK179.out 1
          go_wp2
          refine bodyPost_ret (results_ct rfl _ _ gb179 29 #[.int .u64 0, .int .u64 0] (0, 0) _ rfl (by refine blk_put (cs := #[.int .u64 0, .int .u64 x180001_1]) ?_ 1 _ rfl; refine blk_put (cs := #[.int .u64 x180000_1, .int .u64 x180001_1]) ?_ 0 _ rfl; exact BK179.out) Try.underlying29 rfl (by kernel_rfl)) rfl ?_
          exact ⟨by first | rfl | (simp [errW_none, errW_some] <;> rfl) | (simp [*, errW_none, errW_some] <;> rfl), by repeat (first | (with_reducible first | exact HB.out | apply below_alloc | apply pw_below_drewN | apply below_drew1 | refine below_set ?_ GE179.out) | exact HB.out)⟩
         ·replace c21 := Bool.eq_false_iff.mpr c21
          subst c21
          have H1 : (overfallref01_Parse.l1 kj17 a0 0 0 0) = some (r1, r2, r3) := by rw [if_neg (show ¬ (false = true) by decide)] at H; exact H
          clear H
          have H := H1
          clear H1
          have H' := Aside0.mk H
          clear H
          go_wp2_with (first | ((with_reducible refine gate_dst (N := 6) rfl ?_); (try (refine gate_guard (by rfl) ?_; dsimp only)); refine box_event ?hg (N := 6) ?hd (cs := #[.int .u64 0, .int .u64 0]) (t := 29) ?hr ?_; (case hd => rfl); (case hg => rfl); (case hr => first | (go_simp; done) | (go_simp; rfl)); intro gb180 hg w23 hbox hb; have n0_ := Aside0.mk (blk_below (by exact BK179.out) hb); have n1_ := Aside0.mk (below_step (by repeat (first | (with_reducible first | exact HB.out | apply below_alloc | apply pw_below_drewN | apply below_drew1 | refine below_set ?_ GE179.out) | exact HB.out)) hb); have n2_ := Aside0.mk (hbox); have n3_ := Aside0.mk ((by rw [hg]; exact (below_size (by repeat (first | (with_reducible first | exact HB.out | apply below_alloc | apply pw_below_drewN | apply below_drew1 | refine below_set ?_ GE179.out) | exact HB.out))) : w.heap.size ≤ gb180)); have n4_ := Aside0.mk ((by rw [hg]; exact (below_size (by repeat (first | (with_reducible first | exact HB.out | apply below_alloc | apply pw_below_drewN | apply below_drew1 | refine below_set ?_ GE179.out) | exact HB.out))) : w.heap.size ≤ gb180)); have n5_ := Aside0.mk ((by rw [hg]; exact Nat.ne_of_lt (blk_lt (by exact BK179.out)) : gb179 ≠ gb180)); have n6_ := Aside0.mk ((by rw [hg]; exact Nat.ne_of_gt (blk_lt (by exact BK179.out)) : gb180 ≠ gb179)); clear BK179; clear HB; have BK179 := n0_; have HB := n1_; have BK180 := n2_; have GW180 := n3_; have GE180 := n4_; have NB179_180 := n5_; have NB180_179 := n6_; clear n0_ n1_ n2_ n3_ n4_ n5_ n6_; clear hb hbox hg; have hnb24 := NB180_179.out; have hnc24 := NB179_180.out; have hcz25_0 : w23.cell? ⟨gb180, 0, none⟩ = some (.int .u64 0) := (blk_cell BK180.out 0).trans rfl; have hcz25_1 : w23.cell? ⟨gb180, 1, none⟩ = some (.int .u64 0) := (blk_cell BK180.out 1).trans rfl; have hfz25_0 := blk_frozen BK180.out 0; have hfz25_1 := blk_frozen BK180.out 1))
          go_loopg [7] kj17 (fun kq v7 w' => ∃ (x7_4 : Int) (x181000_4 : Int) (x181001_4 : Int), v7 = .int .i64 x7_4 ∧ Aside0 (overfallref01_Parse.l1 kq a0 x7_4 x181000_4 x181001_4 = some (r1, r2, r3)) ∧ Aside0 (kq ≤ kj17) ∧ Aside0 (w'.heap[gb179]? = some (.cells #[.int .u64 x180000_1, .int .u64 x180001_1] 29 (0, 0))) ∧ Aside0 (w'.heap[gb180]? = some (.cells #[.int .u64 x181000_4, .int .u64 x181001_4] 29 (0, 0))) ∧ Aside0 (Below w.heap.size w w'))
          case atStart => exact ⟨(0), (0), (0), (by first | rfl | (simp; done) | (simp [*]; done)), H', ⟨Nat.le_refl _⟩, ⟨by refine blk_far ?_ NB179_180.out _; refine blk_far ?_ NB179_180.out _; exact BK179.out⟩, ⟨by refine blk_put (cs := #[.int .u64 0, .int .u64 0]) ?_ 1 _ rfl; refine blk_put (cs := #[.int .u64 0, .int .u64 0]) ?_ 0 _ rfl; exact BK180.out⟩, ⟨by repeat (first | (with_reducible first | exact HB.out | apply below_alloc | apply pw_below_drewN | apply below_drew1 | refine below_set ?_ GE179.out | refine below_set ?_ GE180.out) | exact HB.out)⟩⟩
          case round =>
           clear H'
           try clear c1
           try clear p1
           try clear q1
           try clear hx1
           try clear qi1
           try clear c2
           try clear p2
           try clear c3
           try clear c3b0
           try clear c4
           try clear c4b0
           try clear p5
           try clear q5
           try clear hx5
           try clear c6
           try clear c6b0
           try clear p6
           try clear p8
           try clear q8
           try clear hx8
           try clear c9
           try clear c9b0
           try clear c12
           try clear c12b0
           try clear c12b1
           try clear c13
           try clear c13b0
           try clear c13b1
           try clear c14
           try clear c14b0
           try clear c14b1
           try clear p15
           try clear q15
           try clear hx15
           try clear qi15
           try clear c16
           try clear c19
           try clear c19b0
           try clear c19b1
           try clear c20
           try clear c20b0
           try clear c20b1
           try clear c21
           try clear c24
           try clear hcz10_0
           try clear hcz10_1
           try clear hcz17_0
           try clear hcz17_1
           try clear hcz22_0
           try clear hcz22_1
           try clear hcz25_0
           try clear hcz25_1
           try clear hcz7_0
           try clear hcz7_1
           try clear hfz10_0
           try clear hfz10_1
           try clear hfz17_0
           try clear hfz17_1
           try clear hfz22_0
           try clear hfz22_1
           try clear hfz25_0
           try clear hfz25_1
           try clear hfz7_0
           try clear hfz7_1
           try clear p1
           try clear p15
           try clear p2
           try clear p5
           try clear p6
           try clear p8
           try clear q1
           try clear q15
           try clear q5
           try clear q8
           obtain ⟨x7_4, x181000_4, x181001_4, rfl, HA, HK4, BK179, BK180, HB⟩ := hrel
           cases gk with
           | zero => exact absurd HA.out (by simp [overfallref01_Parse.l1])
           | succ k4 =>
            have H := HA.out
            clear HA
            simp only [overfallref01_Parse.l1] at H
            by_cases c26 : x7_4 < (a0.size : Int)
            ·rw [if_pos c26] at H
             have c26b0 : decide (x7_4 < (a0.size : Int)) = true := decide_eq_true c26
             clear c26
             replace H := Option.bind_eq_some_iff.mp H
             obtain ⟨⟨t181, t182⟩, A270, H⟩ := H
             replace H : ((overfallref01_Twice.f k4 x181000_4 x181001_4).bind fun bt183 => ((overfallref01_Add.f k4 t181 t182 bt183.1 bt183.2).bind fun bt185 => (if 0 ≤ x7_4 then ((overfallref01_Add.f k4 bt185.1 bt185.2.1 0 (((bt a0 x7_4) - 48) % 256)).bind fun bt188 => (overfallref01_Parse.l1 k4 a0 (wrap64 (x7_4 + 1)) bt188.1 bt188.2.1)) else (none)))) = some (r1, r2, r3) := H
             have A27 := Aside0.mk A270
             clear A270
             replace H := Option.bind_eq_some_iff.mp H
             obtain ⟨⟨t183, t184⟩, A280, H⟩ := H
             replace H : ((overfallref01_Add.f k4 t181 t182 t183 t184).bind fun bt185 => (if 0 ≤ x7_4 then ((overfallref01_Add.f k4 bt185.1 bt185.2.1 0 (((bt a0 x7_4) - 48) % 256)).bind fun bt188 => (overfallref01_Parse.l1 k4 a0 (wrap64 (x7_4 + 1)) bt188.1 bt188.2.1)) else (none))) = some (r1, r2, r3) := H
             have A28 := Aside0.mk A280
             clear A280
             replace H := Option.bind_eq_some_iff.mp H
             obtain ⟨⟨t185, t186, t187⟩, A290, H⟩ := H
             replace H : (if 0 ≤ x7_4 then ((overfallref01_Add.f k4 t185 t186 0 (((bt a0 x7_4) - 48) % 256)).bind fun bt188 => (overfallref01_Parse.l1 k4 a0 (wrap64 (x7_4 + 1)) bt188.1 bt188.2.1)) else (none)) = some (r1, r2, r3) := H
             have A29 := Aside0.mk A290
             clear A290
             by_cases c30 : 0 ≤ x7_4
             ·rw [if_pos c30] at H
              have c30b0 : decide (0 ≤ x7_4) = true := decide_eq_true c30
              clear c30
              replace H := Option.bind_eq_some_iff.mp H
              obtain ⟨⟨t188, t189, t190⟩, A320, H⟩ := H
              replace H : (overfallref01_Parse.l1 k4 a0 (wrap64 (x7_4 + 1)) t188 t189) = some (r1, r2, r3) := H
              have A32 := Aside0.mk A320
              clear A320
              have H' := Aside0.mk H
              clear H
              try go_wp2
              have n0_ := Aside0.mk (blk_drew BK179.out)
              have n1_ := Aside0.mk (blk_drew BK180.out)
              have n2_ := Aside0.mk (below_drew1 HB.out)
              clear BK179
              clear BK180
              clear HB
              have BK179 := n0_
              have BK180 := n1_
              have HB := n2_
              clear n0_ n1_ n2_
              refine start_ (n := 9) (S := fun w' => w'.cell? ⟨gb180, 0, none⟩ = some (.int .u64 x181000_4) ∧ w'.cell? ⟨gb180, 1, none⟩ = some (.int .u64 x181001_4)) (ds := [8]) #[false, false, false, false, false, false, false, false, false] (by kernel_rfl) rfl rfl ⟨(blk_cell BK180.out 0).trans rfl, (blk_cell BK180.out 1).trans rfl⟩ (fun hHeld => ?_); refine with_tabW overfallref01_Parse.tab15 overfallref01_Parse.bits15 (fun HT_ HW_ => ?_)
              generalize wr.drew = w33 at BK179 BK180 HB hHeld ⊢
              refine take_ (i := 0) (N := some 65) (v := ?_) (a' := ?_) #[true, false, false, false, false, false, false, false, false] rfl rfl (take_ofW HT_.out HW_.out (by kernel_rfl)) (fun _ _ _ h => h) (Or.inl ⟨by rfl, ?_⟩) hHeld ?_ ?_
              rotate_left
              ·rintro w' ⟨s0, s1⟩
               go_simp
               with_reducible rfl
              rotate_left
              ·simp only [Act.put, List.setIfInBounds_toArray, List.set_cons_zero, List.set_cons_succ, i64_w, i32_w]
               rfl
              refine take_ (i := 2) (N := some 67) (v := ?_) (a' := ?_) #[true, false, true, false, false, false, false, false, false] rfl rfl (take_ofW HT_.out HW_.out (by kernel_rfl)) (fun _ _ _ h => h) (Or.inl ⟨by rfl, ?_⟩) hHeld ?_ ?_
              rotate_left
              ·rintro w' ⟨s0, s1⟩
               go_simp
               with_reducible rfl
              rotate_left
              ·simp only [Act.put, List.setIfInBounds_toArray, List.set_cons_zero, List.set_cons_succ, i64_w, i32_w]
               rfl
              refine one_ (i := 1) (N := some 66) #[true, true, true, false, false, false, false, false, false] rfl rfl (one_of HT_.out (by kernel_rfl)) (by decide) (fun K hK => ?_)
              refine goes_ Try.func20 (by kernel_rfl) rfl #[.agg #[.int .u64 x181000_4, .int .u64 x181001_4], .int .i64 3] (by rfl) rfl rfl (by (try simp only [List.map_toArray, List.map_cons, List.map_nil]); first | done | rfl | (simp only [List.length_drop, List.length_take]; rfl)) ?_
              with_reducible refine (overfallref01_Left.calls k4 x181000_4 x181001_4 3 t181 t182 _ A27.out).mono ?_
              rintro e w34 ⟨rfl, hb⟩
              refine ⟨_, rfl, ?_⟩
              have n0_ := Aside0.mk (blk_below (by exact BK179.out) hb)
              have n1_ := Aside0.mk (blk_below (by exact BK180.out) hb)
              have n2_ := Aside0.mk (below_step (by repeat (first | (with_reducible first | exact HB.out | apply below_alloc | apply pw_below_drewN | apply below_drew1 | refine below_set ?_ GE179.out | refine below_set ?_ GE180.out) | exact HB.out)) hb)
              clear BK179
              clear BK180
              clear HB
              have BK179 := n0_
              have BK180 := n1_
              have HB := n2_
              clear n0_ n1_ n2_
              (try clear hb)
              (try clear hb2)
              (try clear hk)
              (try clear hi)
              refine hK.out _ _ ⟨(blk_cell BK180.out 0).trans rfl, (blk_cell BK180.out 1).trans rfl⟩ (fun hHeld => ?_)
              clear hK K
              refine norm_ (a' := ?_) ?_ ?_
              rotate_left
              ·show Act.put _ (some 66) _ = _
               simp only [Act.put, List.setIfInBounds_toArray, List.set_cons_zero, List.set_cons_succ, i64_w, i32_w]
               rfl
              refine one_ (i := 3) (N := some 68) #[true, true, true, true, false, false, false, false, false] rfl rfl (one_of HT_.out (by kernel_rfl)) (by decide) (fun K hK => ?_)
              refine goes_ Try.func38 (by kernel_rfl) rfl #[.agg #[.int .u64 x181000_4, .int .u64 x181001_4]] (by rfl) rfl rfl (by (try simp only [List.map_toArray, List.map_cons, List.map_nil]); first | done | rfl | (simp only [List.length_drop, List.length_take]; rfl)) ?_
              with_reducible refine (overfallref01_Twice.calls k4 x181000_4 x181001_4 t183 t184 _ A28.out).mono ?_
              rintro e w35 ⟨rfl, hb⟩
              refine ⟨_, rfl, ?_⟩
              have n0_ := Aside0.mk (blk_below (by exact BK179.out) hb)
              have n1_ := Aside0.mk (blk_below (by exact BK180.out) hb)
              have n2_ := Aside0.mk (below_step (by repeat (first | (with_reducible first | exact HB.out | apply below_alloc | apply pw_below_drewN | apply below_drew1 | refine below_set ?_ GE179.out | refine below_set ?_ GE180.out) | exact HB.out)) hb)
              clear BK179
              clear BK180
              clear HB
              have BK179 := n0_
              have BK180 := n1_
              have HB := n2_
              clear n0_ n1_ n2_
              (try clear hb)
              (try clear hb2)
              (try clear hk)
              (try clear hi)
              refine hK.out _ _ ⟨(blk_cell BK180.out 0).trans rfl, (blk_cell BK180.out 1).trans rfl⟩ (fun hHeld => ?_)
              clear hK K
              refine norm_ (a' := ?_) ?_ ?_
              rotate_left
              ·show Act.put _ (some 68) _ = _
               simp only [Act.put, List.setIfInBounds_toArray, List.set_cons_zero, List.set_cons_succ, i64_w, i32_w]
               rfl
              refine one_ (i := 4) (N := some 69) #[true, true, true, true, true, false, false, false, false] rfl rfl (one_of HT_.out (by kernel_rfl)) (by decide) (fun K hK => ?_)
              refine goes_ Try.func24 (by kernel_rfl) rfl #[.agg #[.int .u64 t181, .int .u64 t182], .agg #[.int .u64 t183, .int .u64 t184]] (by rfl) rfl rfl (by (try simp only [List.map_toArray, List.map_cons, List.map_nil]); first | done | rfl | (simp only [List.length_drop, List.length_take]; rfl)) ?_
              with_reducible refine (overfallref01_Add.calls k4 t181 t182 t183 t184 t185 t186 t187 _ A29.out).mono ?_
              rintro e w36 ⟨rfl, hb⟩
              refine ⟨_, rfl, ?_⟩
              have n0_ := Aside0.mk (blk_below (by exact BK179.out) hb)
              have n1_ := Aside0.mk (blk_below (by exact BK180.out) hb)
              have n2_ := Aside0.mk (below_step (by repeat (first | (with_reducible first | exact HB.out | apply below_alloc | apply pw_below_drewN | apply below_drew1 | refine below_set ?_ GE179.out | refine below_set ?_ GE180.out) | exact HB.out)) hb)
              clear BK179
              clear BK180
              clear HB
              have BK179 := n0_
              have BK180 := n1_
              have HB := n2_
              clear n0_ n1_ n2_
              (try clear hb)
              (try clear hb2)
              (try clear hk)
              (try clear hi)
              refine hK.out _ _ ⟨(blk_cell BK180.out 0).trans rfl, (blk_cell BK180.out 1).trans rfl⟩ (fun hHeld => ?_)
              clear hK K
              refine norm_ (a' := ?_) ?_ ?_
              rotate_left
              ·show Act.put _ (some 69) _ = _
               simp only [Act.put, List.setIfInBounds_toArray, List.set_cons_zero, List.set_cons_succ, i64_w, i32_w]
               rfl
              refine pure_ (i := 5) (N := some 64) (v := ?_) (a' := ?_) #[true, true, true, true, true, true, false, false, false] rfl rfl (any_of HT_.out (by kernel_rfl)) (fun _ _ _ h => h) (Or.inl ⟨by rfl, ?_⟩) ?_ ?_
              rotate_left
              ·intro w'
               go_simp
               with_reducible rfl
              rotate_left
              ·simp only [Act.put, List.setIfInBounds_toArray, List.set_cons_zero, List.set_cons_succ, i64_w, i32_w]
               rfl
              refine pure_ (i := 6) (N := some 70) (v := ?_) (a' := ?_) #[true, true, true, true, true, true, true, false, false] rfl rfl (any_of HT_.out (by kernel_rfl)) (fun _ _ _ h => h) (Or.inl ⟨by rfl, ?_⟩) ?_ ?_
              rotate_left
              ·intro w'
               go_simp
               with_reducible rfl
              rotate_left
              ·simp only [Act.put, List.setIfInBounds_toArray, List.set_cons_zero, List.set_cons_succ, i64_w, i32_w]
               rfl
              refine pure_ (i := 7) (N := some 71) (v := ?_) (a' := ?_) #[true, true, true, true, true, true, true, true, false] rfl rfl (any_of HT_.out (by kernel_rfl)) (fun _ _ _ h => h) (Or.inl ⟨by rfl, ?_⟩) ?_ ?_
              rotate_left
              ·intro w'
               go_simp
               with_reducible rfl
              rotate_left
              ·simp only [Act.put, List.setIfInBounds_toArray, List.set_cons_zero, List.set_cons_succ, i64_w, i32_w]
               rfl
              refine last_ (i := 8) (N := none) #[true, true, true, true, true, true, true, true, true] rfl rfl (one_of HT_.out (by kernel_rfl)) (by decide) (fun K hK => ?_)
              have hs37 : w36.cell? ⟨gb180, 0, none⟩ = some (.int .u64 x181000_4) := (blk_cell BK180.out 0).trans rfl
              have hfs37 := blk_frozen BK180.out 0
              have hns37_0 := NB179_180.out
              have hms37_0 := NB180_179.out
              have hs38 : w36.cell? ⟨gb180, 1, none⟩ = some (.int .u64 x181001_4) := (blk_cell BK180.out 1).trans rfl
              have hfs38 := blk_frozen BK180.out 1
              have hns38_0 := NB179_180.out
              have hms38_0 := NB180_179.out
              refine skip_ (w1 := ?_) (by rfl) rfl ?_ ?_
              rotate_left
              ·go_simp
               rfl
              refine hK.out _ _ ?_
              clear hK K
              refine done_ (done_of HT_.out (by kernel_rfl)) ?_
              try go_wp2
              have n0_ : Aside0 (((w36.setCell ⟨gb180, 0, none⟩ (.int .u64 t185)).setCell ⟨gb180, 1, none⟩ (.int .u64 t186)).heap[gb179]? = some (.cells #[.int .u64 x180000_1, .int .u64 x180001_1] 29 (0, 0))) := ⟨by refine blk_far ?_ NB179_180.out _; refine blk_far ?_ NB179_180.out _; exact BK179.out⟩
              have n1_ : Aside0 (((w36.setCell ⟨gb180, 0, none⟩ (.int .u64 t185)).setCell ⟨gb180, 1, none⟩ (.int .u64 t186)).heap[gb180]? = some (.cells #[.int .u64 t185, .int .u64 t186] 29 (0, 0))) := ⟨by refine blk_put (cs := #[.int .u64 t185, .int .u64 x181001_4]) ?_ 1 _ rfl; refine blk_put (cs := #[.int .u64 x181000_4, .int .u64 x181001_4]) ?_ 0 _ rfl; exact BK180.out⟩
              have n2_ : Aside0 (Below w.heap.size w ((w36.setCell ⟨gb180, 0, none⟩ (.int .u64 t185)).setCell ⟨gb180, 1, none⟩ (.int .u64 t186))) := ⟨by repeat (first | (with_reducible first | exact HB.out | apply below_alloc | apply pw_below_drewN | apply below_drew1 | refine below_set ?_ GE179.out | refine below_set ?_ GE180.out) | exact HB.out)⟩
              (try clear BK179)
              (try clear BK180)
              (try clear HB)
              generalize ((w36.setCell ⟨gb180, 0, none⟩ (.int .u64 t185)).setCell ⟨gb180, 1, none⟩ (.int .u64 t186)) = w39 at n0_ n1_ n2_ ⊢
              have BK179 := n0_
              have BK180 := n1_
              have HB := n2_
              clear n0_ n1_ n2_
              have n0_ := Aside0.mk (blk_drew BK179.out)
              have n1_ := Aside0.mk (blk_drew BK180.out)
              have n2_ := Aside0.mk (below_drew1 HB.out)
              clear BK179
              clear BK180
              clear HB
              have BK179 := n0_
              have BK180 := n1_
              have HB := n2_
              clear n0_ n1_ n2_
              have p31 : 0 ≤ (x7_4 : Int) := of_decide_eq_true (by first | (with_reducible assumption) | assumption)
              have q31 : x7_4 < (a0.size : Int) := of_decide_eq_true (by first | (with_reducible assumption) | assumption)
              have hx31 := bt_at a0 x7_4
              replace p31 := eq_true p31
              replace q31 := eq_true q31
              refine start_ (n := 12) (S := fun w' => w'.cell? ⟨gb180, 0, none⟩ = some (.int .u64 t185) ∧ w'.cell? ⟨gb180, 1, none⟩ = some (.int .u64 t186)) (ds := [11]) #[false, false, false, false, false, false, false, false, false, false, false, false] (by kernel_rfl) rfl rfl ⟨(blk_cell BK180.out 0).trans rfl, (blk_cell BK180.out 1).trans rfl⟩ (fun hHeld => ?_); refine with_tabW overfallref01_Parse.tab16 overfallref01_Parse.bits16 (fun HT_ HW_ => ?_)
              generalize w39.drew = w40 at BK179 BK180 HB hHeld ⊢
              refine pure_ (i := 1) (N := some 74) (v := ?_) (a' := ?_) #[false, true, false, false, false, false, false, false, false, false, false, false] rfl rfl (any_of HT_.out (by kernel_rfl)) (fun _ _ _ h => h) (Or.inl ⟨by rfl, ?_⟩) ?_ ?_
              rotate_left
              ·intro w'
               go_simp
               with_reducible rfl
              rotate_left
              ·simp only [Act.put, List.setIfInBounds_toArray, List.set_cons_zero, List.set_cons_succ, i64_w, i32_w]
               rfl
              refine pure_ (i := 2) (N := some 75) (v := ?_) (a' := ?_) #[false, true, true, false, false, false, false, false, false, false, false, false] rfl rfl (any_of HT_.out (by kernel_rfl)) (fun _ _ _ h => h) (Or.inl ⟨by rfl, ?_⟩) ?_ ?_
              rotate_left
              ·intro w'
               go_simp
               with_reducible rfl
              rotate_left
              ·simp only [Act.put, List.setIfInBounds_toArray, List.set_cons_zero, List.set_cons_succ, i64_w, i32_w]
               rfl
              refine take_ (i := 0) (N := some 73) (v := ?_) (a' := ?_) #[true, true, true, false, false, false, false, false, false, false, false, false] rfl rfl (take_ofW HT_.out HW_.out (by kernel_rfl)) (fun _ _ _ h => h) (Or.inl ⟨by rfl, ?_⟩) hHeld ?_ ?_
              rotate_left
              ·rintro w' ⟨s0, s1⟩
               go_simp
               with_reducible rfl
              rotate_left
              ·simp only [Act.put, List.setIfInBounds_toArray, List.set_cons_zero, List.set_cons_succ, i64_w, i32_w]
               rfl
              refine take_ (i := 3) (N := some 76) (v := ?_) (a' := ?_) #[true, true, true, true, false, false, false, false, false, false, false, false] rfl rfl (take_ofW HT_.out HW_.out (by kernel_rfl)) (fun _ _ _ h => h) (Or.inl ⟨by rfl, ?_⟩) hHeld ?_ ?_
              rotate_left
              ·rintro w' ⟨s0, s1⟩
               go_simp
               with_reducible rfl
              rotate_left
              ·simp only [Act.put, List.setIfInBounds_toArray, List.set_cons_zero, List.set_cons_succ, i64_w, i32_w]
               rfl
              refine pure_ (i := 4) (N := some 77) (v := ?_) (a' := ?_) #[true, true, true, true, true, false, false, false, false, false, false, false] rfl rfl (any_of HT_.out (by kernel_rfl)) (fun _ _ _ h => h) (Or.inl ⟨by rfl, ?_⟩) ?_ ?_
              rotate_left
              ·intro w'
               go_simp
               with_reducible rfl
              rotate_left
              ·simp only [Act.put, List.setIfInBounds_toArray, List.set_cons_zero, List.set_cons_succ, i64_w, i32_w]
               rfl
              refine pure_ (i := 5) (N := some 78) (v := ?_) (a' := ?_) #[true, true, true, true, true, true, false, false, false, false, false, false] rfl rfl (any_of HT_.out (by kernel_rfl)) (fun _ _ _ h => h) (Or.inl ⟨by rfl, ?_⟩) ?_ ?_
              rotate_left
              ·intro w'
               go_simp
               with_reducible rfl
              rotate_left
              ·simp only [Act.put, List.setIfInBounds_toArray, List.set_cons_zero, List.set_cons_succ, i64_w, i32_w]
               rfl
              refine pure_ (i := 6) (N := some 79) (v := ?_) (a' := ?_) #[true, true, true, true, true, true, true, false, false, false, false, false] rfl rfl (any_of HT_.out (by kernel_rfl)) (fun _ _ _ h => h) (Or.inl ⟨by rfl, ?_⟩) ?_ ?_
              rotate_left
              ·intro w'
               go_simp
               with_reducible rfl
              rotate_left
              ·simp only [Act.put, List.setIfInBounds_toArray, List.set_cons_zero, List.set_cons_succ, i64_w, i32_w]
               rfl
              refine one_ (i := 7) (N := some 80) #[true, true, true, true, true, true, true, true, false, false, false, false] rfl rfl (one_of HT_.out (by kernel_rfl)) (by decide) (fun K hK => ?_)
              refine goes_ Try.func24 (by kernel_rfl) rfl #[.agg #[.int .u64 t185, .int .u64 t186], .agg #[.int .u64 0, .int .u64 (((bt a0 x7_4) - 48) % 256)]] (by rfl) rfl rfl (by have hw_ : IntKind.u64.wrap (IntKind.u8.wrap ((bt a0 x7_4) - 48)) = (((bt a0 x7_4) - 48) % 256) := (by show (((bt a0 x7_4) - 48) % 256) % 18446744073709551616 = _; omega); (try simp only [List.map_toArray, List.map_cons, List.map_nil]); congr 1; congr 1; rw [← hw_]; rfl) ?_
              with_reducible refine (overfallref01_Add.calls k4 t185 t186 0 (((bt a0 x7_4) - 48) % 256) t188 t189 t190 _ A32.out).mono ?_
              rintro e w41 ⟨rfl, hb⟩
              refine ⟨_, rfl, ?_⟩
              have n0_ := Aside0.mk (blk_below (by exact BK179.out) hb)
              have n1_ := Aside0.mk (blk_below (by exact BK180.out) hb)
              have n2_ := Aside0.mk (below_step (by repeat (first | (with_reducible first | exact HB.out | apply below_alloc | apply pw_below_drewN | apply below_drew1 | refine below_set ?_ GE179.out | refine below_set ?_ GE180.out) | exact HB.out)) hb)
              clear BK179
              clear BK180
              clear HB
              have BK179 := n0_
              have BK180 := n1_
              have HB := n2_
              clear n0_ n1_ n2_
              (try clear hb)
              (try clear hb2)
              (try clear hk)
              (try clear hi)
              refine hK.out _ _ ⟨(blk_cell BK180.out 0).trans rfl, (blk_cell BK180.out 1).trans rfl⟩ (fun hHeld => ?_)
              clear hK K
              refine norm_ (a' := ?_) ?_ ?_
              rotate_left
              ·show Act.put _ (some 80) _ = _
               simp only [Act.put, List.setIfInBounds_toArray, List.set_cons_zero, List.set_cons_succ, i64_w, i32_w]
               rfl
              refine pure_ (i := 8) (N := some 72) (v := ?_) (a' := ?_) #[true, true, true, true, true, true, true, true, true, false, false, false] rfl rfl (any_of HT_.out (by kernel_rfl)) (fun _ _ _ h => h) (Or.inl ⟨by rfl, ?_⟩) ?_ ?_
              rotate_left
              ·intro w'
               go_simp
               with_reducible rfl
              rotate_left
              ·simp only [Act.put, List.setIfInBounds_toArray, List.set_cons_zero, List.set_cons_succ, i64_w, i32_w]
               rfl
              refine pure_ (i := 9) (N := some 81) (v := ?_) (a' := ?_) #[true, true, true, true, true, true, true, true, true, true, false, false] rfl rfl (any_of HT_.out (by kernel_rfl)) (fun _ _ _ h => h) (Or.inl ⟨by rfl, ?_⟩) ?_ ?_
              rotate_left
              ·intro w'
               go_simp
               with_reducible rfl
              rotate_left
              ·simp only [Act.put, List.setIfInBounds_toArray, List.set_cons_zero, List.set_cons_succ, i64_w, i32_w]
               rfl
              refine pure_ (i := 10) (N := some 82) (v := ?_) (a' := ?_) #[true, true, true, true, true, true, true, true, true, true, true, false] rfl rfl (any_of HT_.out (by kernel_rfl)) (fun _ _ _ h => h) (Or.inl ⟨by rfl, ?_⟩) ?_ ?_
              rotate_left
              ·intro w'
               go_simp
               with_reducible rfl
              rotate_left
              ·simp only [Act.put, List.setIfInBounds_toArray, List.set_cons_zero, List.set_cons_succ, i64_w, i32_w]
               rfl
              refine last_ (i := 11) (N := none) #[true, true, true, true, true, true, true, true, true, true, true, true] rfl rfl (one_of HT_.out (by kernel_rfl)) (by decide) (fun K hK => ?_)
              have hs42 : w41.cell? ⟨gb180, 0, none⟩ = some (.int .u64 t185) := (blk_cell BK180.out 0).trans rfl
              have hfs42 := blk_frozen BK180.out 0
              have hns42_0 := NB179_180.out
              have hms42_0 := NB180_179.out
              have hs43 : w41.cell? ⟨gb180, 1, none⟩ = some (.int .u64 t186) := (blk_cell BK180.out 1).trans rfl
              have hfs43 := blk_frozen BK180.out 1
              have hns43_0 := NB179_180.out
              have hms43_0 := NB180_179.out
              refine skip_ (w1 := ?_) (by rfl) rfl ?_ ?_
              rotate_left
              ·go_simp
               rfl
              refine hK.out _ _ ?_
              clear hK K
              refine done_ (done_of HT_.out (by kernel_rfl)) ?_
              try go_wp2
              go_roundg k4
              case measure => have := HK1.out; have := HJ10.out; have := HJ17.out; have := HK4.out; omega
              case rel => exact ⟨(wrap64 (x7_4 + 1)), (t188), (t189), (by first | rfl | (simp; done) | (simp [*]; done)), H', ⟨by have := HK1.out; have := HJ10.out; have := HJ17.out; have := HK4.out; omega⟩, ⟨by refine blk_far ?_ NB179_180.out _; refine blk_far ?_ NB179_180.out _; exact BK179.out⟩, ⟨by refine blk_put (cs := #[.int .u64 t188, .int .u64 t186]) ?_ 1 _ rfl; refine blk_put (cs := #[.int .u64 t185, .int .u64 t186]) ?_ 0 _ rfl; exact BK180.out⟩, ⟨by repeat (first | (with_reducible first | exact HB.out | apply below_alloc | apply pw_below_drewN | apply below_drew1 | refine below_set ?_ GE179.out | refine below_set ?_ GE180.out) | exact HB.out)⟩⟩
             ·rw [if_neg c30] at H
              exact absurd H (by simp)
            ·rw [if_neg c26] at H
             have c26b0 : decide (x7_4 < (a0.size : Int)) = false := decide_eq_false c26
             clear c26
             simp only [Option.some.injEq, Prod.mk.injEq] at H
             obtain ⟨rfl, rfl, rfl⟩ := H
             have hnb44 := NB180_179.out
             have hnc44 := NB179_180.out
             have hcz45_0 : wr.cell? ⟨gb180, 0, none⟩ = some (.int .u64 x181000_4) := (blk_cell BK180.out 0).trans rfl
             have hcz45_1 : wr.cell? ⟨gb180, 1, none⟩ = some (.int .u64 x181001_4) := (blk_cell BK180.out 1).trans rfl
             have hfz45_0 := blk_frozen BK180.out 0
             have hfz45_1 := blk_frozen BK180.out 1
             have hcz46_0 : wr.cell? ⟨gb179, 0, none⟩ = some (.int .u64 x180000_1) := (blk_cell BK179.out 0).trans rfl
             have hcz46_1 : wr.cell? ⟨gb179, 1, none⟩ = some (.int .u64 x180001_1) := (blk_cell BK179.out 1).trans rfl
             have hfz46_0 := blk_frozen BK179.out 0
             have hfz46_1 := blk_frozen BK179.out 1
             go_wp2
             refine bodyPost_ret (results_ct rfl _ _ gb179 29 #[.int .u64 x181000_4, .int .u64 x181001_4] (0, 0) _ rfl (by refine blk_put (cs := #[.int .u64 x181000_4, .int .u64 x180001_1]) ?_ 1 _ rfl; refine blk_put (cs := #[.int .u64 x180000_1, .int .u64 x180001_1]) ?_ 0 _ rfl; exact BK179.out) Try.underlying29 rfl (by kernel_rfl)) rfl ?_
             exact ⟨by first | rfl | (simp [errW_none, errW_some] <;> rfl) | (simp [*, errW_none, errW_some] <;> rfl), by repeat (first | (with_reducible first | exact HB.out | apply below_alloc | apply pw_below_drewN | apply below_drew1 | refine below_set ?_ GE179.out | refine below_set ?_ GE180.out) | exact HB.out)⟩

end Go.Proofs.Ytdgbehbiigggmaa.Y

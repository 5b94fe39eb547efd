-- Laid by a program of this claim's session (wip/tools/myprint.py) over the kit's printer.
import Derived.Test.YtdgbehbiigggmaaGx0
import Derived.Test.YtdgbehbiigggmaaGx1
import Derived.Test.YtdgbehbiigggmaaGx3
import Derived.Test.YtdgbehbiigggmaaGx4
import Derived.Test.YtdgbehbiigggmaaGx5
import Derived.Test.YtdgbehbiigggmaaGx9
import Derived.Test.YtdgbehbiigggmaaGx11
import Derived.Test.YtdgbehbiigggmaaGx14
namespace Go.Proofs.Ytdgbehbiigggmaa.G
open Go.RowKit Go.Proofs.YtdgbehbiigggmaaW.PrintWords Go.Proofs.YtdgbehbiigggmaaW.PrintLast Go.Proofs.YtdgbehbiigggmaaW.PrintMore
attribute [local go_sem] max2_int min2_int max_two min_two max_three min_three max_four min_four   -- for this text's walks alone
set_option linter.unusedVariables false
set_option linter.unusedSimpArgs false

attribute [local go_sem high] eqA25
/-! ### overfalllaw01_WidePowers: function 7 -/
def overfalllaw01_WidePowers.j0 : Nat → Int → Bool → Int → Int → Option (Bool)
  | 0, _, _, _, _ => none
  | k + 1, x5, x28, x339000, x339001 => if x28 = true then (none) else (if 0 ≤ x5 then ((wide_Num_Div.f k x339000 x339001 (shl .u64 1 x5)).bind fun bt345 => ((wide_Num_Left.f bt345.1 bt345.2.1 x5).bind fun bt349 => ((wide_Of.f bt345.2.2).bind fun bt351 => ((wide_Num_Add.f bt349.1 bt349.2 bt351.1 bt351.2).bind fun bt353 => ((wide_Num_Right.f x339000 x339001 x5).bind fun bt357 => (if (bt345.1 == bt357.1 && (bt345.2.1 == bt357.2)) = true then (if (bt353.1 == x339000 && (bt353.2.1 == x339001)) = true then ((wide_Mul.f x339001 (shl .u64 1 x5)).bind fun bt359 => ((wide_Of.f x339001).bind fun bt361 => ((wide_Num_Left.f bt361.1 bt361.2 x5).bind fun bt363 => (if (bt359.1 == bt363.1 && (bt359.2 == bt363.2)) = true then ((wide_Num_Left.f x339000 x339001 x5).bind fun bt365 => ((wide_Num_Left.f bt365.1 bt365.2 x5).bind fun bt367 => ((wide_Num_Left.f x339000 x339001 (wrap64 (2 * x5))).bind fun bt369 => (if (bt367.1 == bt369.1 && (bt367.2 == bt369.2)) = true then ((wide_Num_Right.f x339000 x339001 x5).bind fun bt371 => ((wide_Num_Right.f bt371.1 bt371.2 x5).bind fun bt373 => ((wide_Num_Right.f x339000 x339001 (wrap64 (2 * x5))).bind fun bt375 => (some (bt373.1 == bt375.1 && (bt373.2 == bt375.2)))))) else (none))))) else (none))))) else (none)) else (none))))))) else (none))
def overfalllaw01_WidePowers.f (k : Nat) (a0_0 : Int) (a0_1 : Int) (a1 : Int) : Option (Bool) := (overfalllaw01_awake.f k).bind fun t339 => (if t339 = true then ((wide_Num_Bits.f k a0_0 a0_1).bind fun t340 => (if (wrap64 (t340 + (wrap64 (Int.tmod a1 64)))) ≤ 128 then ((wide_Num_Left.f a0_0 a0_1 (wrap64 (Int.tmod a1 64))).bind fun bt341 => ((wide_Num_Right.f bt341.1 bt341.2 (wrap64 (Int.tmod a1 64))).bind fun bt343 => (overfalllaw01_WidePowers.j0 k (wrap64 (Int.tmod a1 64)) (!(bt343.1 == a0_0) || (!(bt343.2 == a0_1))) a0_0 a0_1))) else (overfalllaw01_WidePowers.j0 k (wrap64 (Int.tmod a1 64)) false a0_0 a0_1))) else (none))
theorem overfalllaw01_WidePowers.mono_l : ∀ k, (∀ y0 y1 y2 y3, LeO (overfalllaw01_WidePowers.j0 k y0 y1 y2 y3) (overfalllaw01_WidePowers.j0 (k + 1) y0 y1 y2 y3))
  | 0 => fun _ _ _ _ r h => by simp [overfalllaw01_WidePowers.j0] at h
  | k + 1 => by
    have ih0 := overfalllaw01_WidePowers.mono_l k
    · intro y0 y1 y2 y3
      unfold overfalllaw01_WidePowers.j0
      repeat' first
      | (with_reducible exact ih0 _ _ _ _)
      | (with_reducible exact overfalllaw01_awake.mono _)
      | (with_reducible exact wide_Num_Bits.mono _ _ _)
      | (with_reducible exact wide_Num_Div.mono _ _ _ _)
      | (with_reducible exact LeO.refl _)
      | (with_reducible exact LeO.none _)
      | (with_reducible refine LeO.ite ?_ ?_)
      | (with_reducible refine LeO.bind ?_ (fun _ => ?_))
      | exact ih0 _ _ _ _
      | exact overfalllaw01_awake.mono _
      | exact wide_Num_Bits.mono _ _ _
      | exact wide_Num_Div.mono _ _ _ _
      | exact LeO.none _
      | refine LeO.ite ?_ ?_
      | refine LeO.bind ?_ (fun _ => ?_)
theorem overfalllaw01_WidePowers.mono : ∀ a0 a1 a2 k, LeO (overfalllaw01_WidePowers.f k a0 a1 a2) (overfalllaw01_WidePowers.f (k + 1) a0 a1 a2) := by
  intro a0 a1 a2 k
  have ih0 := overfalllaw01_WidePowers.mono_l k
  unfold overfalllaw01_WidePowers.f
  repeat' first
      | (with_reducible exact ih0 _ _ _ _)
      | (with_reducible exact overfalllaw01_awake.mono _)
      | (with_reducible exact wide_Num_Bits.mono _ _ _)
      | (with_reducible exact wide_Num_Div.mono _ _ _ _)
      | (with_reducible exact LeO.refl _)
      | (with_reducible exact LeO.none _)
      | (with_reducible refine LeO.ite ?_ ?_)
      | (with_reducible refine LeO.bind ?_ (fun _ => ?_))
      | exact ih0 _ _ _ _
      | exact overfalllaw01_awake.mono _
      | exact wide_Num_Bits.mono _ _ _
      | exact wide_Num_Div.mono _ _ _ _
      | exact LeO.none _
      | refine LeO.ite ?_ ?_
      | refine LeO.bind ?_ (fun _ => ?_)
def overfalllaw01_WidePowers.T4 : Bool × List (List Nat × List Nat) := (true, [([], []), ([0], [0]), ([], []), ([1, 2], [1, 2]), ([3], [3]), ([4, 1], [4]), ([5], [5]), ([5], [5]), ([6, 7, 5, 5], [5, 6, 7]), ([5], [5]), ([8, 9, 8, 5], [5, 8, 9]), ([5], [5]), ([10, 11, 5], [5, 10, 11]), ([5, 12], [5, 12])])
def overfalllaw01_WidePowers.B4 : List Nat := [0, 1, 0, 7, 15, 31, 63, 63, 255, 63, 1023, 63, 4095, 8191]
theorem overfalllaw01_WidePowers.tab4 : rtab .any (opsOf Try.f7 4) = overfalllaw01_WidePowers.T4 := by kernel_rfl
theorem overfalllaw01_WidePowers.bits4 : waitsOk overfalllaw01_WidePowers.T4.2 overfalllaw01_WidePowers.B4 = true := by kernel_rfl
def overfalllaw01_WidePowers.T6 : Bool × List (List Nat × List Nat) := (true, [([], []), ([], []), ([1], [1]), ([0, 2], [0, 2]), ([3], [3]), ([4], [4]), ([4], [4]), ([], []), ([7, 5, 3, 0, 1, 2, 3, 4, 5, 7], [5, 7]), ([6, 8, 0, 1, 2, 3, 4, 5, 6, 7, 8], [6])])
def overfalllaw01_WidePowers.B6 : List Nat := [0, 0, 2, 7, 15, 31, 31, 0, 191, 511]
theorem overfalllaw01_WidePowers.tab6 : rtab .any (opsOf Try.f7 6) = overfalllaw01_WidePowers.T6 := by kernel_rfl
theorem overfalllaw01_WidePowers.bits6 : waitsOk overfalllaw01_WidePowers.T6.2 overfalllaw01_WidePowers.B6 = true := by kernel_rfl
def overfalllaw01_WidePowers.T8 : Bool × List (List Nat × List Nat) := (true, [([], []), ([], []), ([], []), ([1, 2], [1, 2]), ([0, 3], [0, 3]), ([4, 3], [4]), ([5], [5]), ([5], [5]), ([6, 7, 5], [5, 6, 7]), ([5, 8], [5, 8]), ([9, 5], [9]), ([10], [10]), ([11, 10], [10, 11]), ([10], [10]), ([13, 10], [10, 13]), ([12, 14, 10, 10], [10, 12, 14]), ([10], [10]), ([16, 10], [10, 16]), ([17, 15, 10], [10, 17]), ([10], [10]), ([18, 19, 18, 10], [10, 18, 19]), ([15, 20, 10], [10, 15, 20]), ([10, 21], [10, 21]), ([22, 20], [22]), ([23], [23]), ([23], [23]), ([24, 25, 23, 23], [23, 24, 25]), ([23], [23]), ([26, 27, 26, 23], [23, 26, 27]), ([23], [23]), ([23], [23]), ([30, 23], [23, 30]), ([29, 31, 28, 23], [23, 29, 31]), ([28, 32, 23], [23, 28, 32]), ([23, 33], [23, 33]), ([34, 32], [34]), ([35], [35]), ([35], [35]), ([36, 37, 35, 35], [35, 36, 37]), ([35], [35]), ([38, 39, 38, 35], [35, 38, 39]), ([35], [35]), ([35], [35]), ([42, 35], [35, 42]), ([41, 43, 40, 35], [35, 41, 43]), ([40, 44, 35], [35, 40, 44]), ([35, 45], [35, 45]), ([46, 44, 0, 1, 2, 3, 4, 5, 6, 7, 8, 9, 10, 11, 12, 13, 14, 15, 16, 17, 18, 19, 20, 21, 22, 23, 24, 25, 26, 27, 28, 29, 30, 31, 32, 33, 34, 35, 36, 37, 38, 39, 40, 41, 42, 43, 44, 45, 46], [46])])
def overfalllaw01_WidePowers.B8 : List Nat := [0, 0, 0, 6, 15, 31, 63, 63, 255, 511, 1023, 2047, 4095, 2047, 10239, 32767, 2047, 67583, 262143, 2047, 1048575, 2097151, 4194303, 8388607, 16777215, 16777215, 67108863, 16777215, 268435455, 16777215, 16777215, 1090519039, 4294967295, 8589934591, 17179869183, 34359738367, 68719476735, 68719476735, 274877906943, 68719476735, 1099511627775, 68719476735, 68719476735, 4466765987839, 17592186044415, 35184372088831, 70368744177663, 140737488355327]
theorem overfalllaw01_WidePowers.tab8 : rtab .any (opsOf Try.f7 8) = overfalllaw01_WidePowers.T8 := by kernel_rfl
theorem overfalllaw01_WidePowers.bits8 : waitsOk overfalllaw01_WidePowers.T8.2 overfalllaw01_WidePowers.B8 = true := by kernel_rfl
set_option maxHeartbeats 8000000 in
set_option maxRecDepth 100000 in
theorem overfalllaw01_WidePowers.calls (k : Nat) (a0_0 : Int) (a0_1 : Int) (a1 : Int) (r : Bool) (w : World) (h : overfalllaw01_WidePowers.f k a0_0 a0_1 a1 = some r) :
    Calls Try.prog 7 #[.agg #[.int .u64 a0_0, .int .u64 a0_1], .int .u8 a1] w fun e w' => e = .returned (.bool r) ∧ Below w.heap.size w w' := by
  have hu25 := Try.underlying25
  have HB := Aside0.mk (Below.refl w.heap.size w)
  have H : ((overfalllaw01_awake.f k).bind fun t339 => (if t339 = true then ((wide_Num_Bits.f k a0_0 a0_1).bind fun t340 => (if (wrap64 (t340 + (wrap64 (Int.tmod a1 64)))) ≤ 128 then ((wide_Num_Left.f a0_0 a0_1 (wrap64 (Int.tmod a1 64))).bind fun bt341 => ((wide_Num_Right.f bt341.1 bt341.2 (wrap64 (Int.tmod a1 64))).bind fun bt343 => (overfalllaw01_WidePowers.j0 k (wrap64 (Int.tmod a1 64)) (!(bt343.1 == a0_0) || (!(bt343.2 == a0_1))) a0_0 a0_1))) else (overfalllaw01_WidePowers.j0 k (wrap64 (Int.tmod a1 64)) false a0_0 a0_1))) else (none))) = some r := h
  clear h
  replace H := Option.bind_eq_some_iff.mp H
  obtain ⟨t339, A30, H⟩ := H
  replace H : (if t339 = true then ((wide_Num_Bits.f k a0_0 a0_1).bind fun t340 => (if (wrap64 (t340 + (wrap64 (Int.tmod a1 64)))) ≤ 128 then ((wide_Num_Left.f a0_0 a0_1 (wrap64 (Int.tmod a1 64))).bind fun bt341 => ((wide_Num_Right.f bt341.1 bt341.2 (wrap64 (Int.tmod a1 64))).bind fun bt343 => (overfalllaw01_WidePowers.j0 k (wrap64 (Int.tmod a1 64)) (!(bt343.1 == a0_0) || (!(bt343.2 == a0_1))) a0_0 a0_1))) else (overfalllaw01_WidePowers.j0 k (wrap64 (Int.tmod a1 64)) false a0_0 a0_1))) else (none)) = some r := H
  have A3 := Aside0.mk A30
  clear A30
  by_cases c4 : t339 = true
  · subst c4
    have H1 : ((wide_Num_Bits.f k a0_0 a0_1).bind fun t340 => (if (wrap64 (t340 + (wrap64 (Int.tmod a1 64)))) ≤ 128 then ((wide_Num_Left.f a0_0 a0_1 (wrap64 (Int.tmod a1 64))).bind fun bt341 => ((wide_Num_Right.f bt341.1 bt341.2 (wrap64 (Int.tmod a1 64))).bind fun bt343 => (overfalllaw01_WidePowers.j0 k (wrap64 (Int.tmod a1 64)) (!(bt343.1 == a0_0) || (!(bt343.2 == a0_1))) a0_0 a0_1))) else (overfalllaw01_WidePowers.j0 k (wrap64 (Int.tmod a1 64)) false a0_0 a0_1))) = some r := by rw [if_pos rfl] at H; exact H
    clear H
    have H := H1
    clear H1
    have HC5 := Aside0.mk H
    clear H
    go_enter Try.func7, Try.ntmps7
    go_upto_region 4 with (first | ((with_reducible refine gate_dst (N := 2) rfl ?_); refine box_event ?hg (N := 2) ?hd (cs := #[.int .u64 a0_0, .int .u64 a0_1]) (t := 25) ?hr ?_; (case hd => rfl); (case hg => rfl); (case hr => first | (go_simp; done) | (go_simp; rfl)); intro gb338 hg w6 hbox hb; have n0_ := Aside0.mk (below_step (by repeat (first | (with_reducible first | exact HB.out | apply below_alloc | apply pw_below_drewN | apply below_drew1) | exact HB.out)) hb); have n1_ := Aside0.mk (hbox); have n2_ := Aside0.mk ((by rw [hg]; exact (below_size (by repeat (first | (with_reducible first | exact HB.out | apply below_alloc | apply pw_below_drewN | apply below_drew1) | exact HB.out))) : w.heap.size ≤ gb338)); have n3_ := Aside0.mk ((by rw [hg]; exact (below_size (by repeat (first | (with_reducible first | exact HB.out | apply below_alloc | apply pw_below_drewN | apply below_drew1) | exact HB.out))) : w.heap.size ≤ gb338)); clear HB; have HB := n0_; have BK338 := n1_; have GW338 := n2_; have GE338 := n3_; clear n0_ n1_ n2_ n3_; clear hb hbox hg) | ((with_reducible refine gate_callee (f := 11) rfl ?_); refine goesL_ (some 10) rfl rfl Try.func11 (by kernel_rfl) rfl #[] rfl (by (try simp only [List.map_toArray, List.map_cons, List.map_nil]); first | done | rfl | (simp only [List.length_drop, List.length_take]; rfl)) ?_; (with_reducible refine (overfalllaw01_awake.calls k  true _ A3.out).mono ?_); rintro e w7 ⟨rfl, hb⟩; refine ⟨_, rfl, ?_⟩; have n0_ := Aside0.mk (blk_below (g := gb338) (o := .cells #[.int .u64 a0_0, .int .u64 a0_1] 25 (0, 0)) (by exact BK338.out) hb); have n1_ := Aside0.mk (below_step (by repeat (first | (with_reducible first | exact HB.out | apply below_alloc | apply pw_below_drewN | apply below_drew1 | refine below_set ?_ GE338.out) | exact HB.out)) hb); clear BK338; clear HB; have BK338 := n0_; have HB := n1_; clear n0_ n1_; (try clear hb); (try clear hb2); (try clear hk); (try clear hi)))
    (try simp only [Act.put, List.setIfInBounds_toArray, List.set_cons_zero, List.set_cons_succ])
    go_cut [28] (fun v28 wc => ∃ (kq : Nat) (x28_4 : Bool), v28 = .bool x28_4 ∧ Aside0 (overfalllaw01_WidePowers.j0 kq (wrap64 (Int.tmod a1 64)) x28_4 a0_0 a0_1 = some r) ∧ Aside0 (kq ≤ k) ∧ Aside0 (wc.heap[gb338]? = some (.cells #[.int .u64 a0_0, .int .u64 a0_1] 25 (0, 0))) ∧ Aside0 (Below w.heap.size w wc))
    case first =>
      have H := HC5.out
      clear HC5
      replace H := Option.bind_eq_some_iff.mp H
      obtain ⟨t340, A80, H⟩ := H
      replace H : (if (wrap64 (t340 + (wrap64 (Int.tmod a1 64)))) ≤ 128 then ((wide_Num_Left.f a0_0 a0_1 (wrap64 (Int.tmod a1 64))).bind fun bt341 => ((wide_Num_Right.f bt341.1 bt341.2 (wrap64 (Int.tmod a1 64))).bind fun bt343 => (overfalllaw01_WidePowers.j0 k (wrap64 (Int.tmod a1 64)) (!(bt343.1 == a0_0) || (!(bt343.2 == a0_1))) a0_0 a0_1))) else (overfalllaw01_WidePowers.j0 k (wrap64 (Int.tmod a1 64)) false a0_0 a0_1)) = some r := H
      have A8 := Aside0.mk A80
      clear A80
      by_cases c9 : (wrap64 (t340 + (wrap64 (Int.tmod a1 64)))) ≤ 128
      · rw [if_pos c9] at H
        have c9b0 : decide ((wrap64 (t340 + (wrap64 (Int.tmod a1 64)))) ≤ 128) = true := decide_eq_true c9
        clear c9
        (first | rw [c9b0] | (simp only [i64_w, i32_w]; rw [c9b0]) | skip)
        replace H := Option.bind_eq_some_iff.mp H
        obtain ⟨⟨t341, t342⟩, A100, H⟩ := H
        replace H : ((wide_Num_Right.f t341 t342 (wrap64 (Int.tmod a1 64))).bind fun bt343 => (overfalllaw01_WidePowers.j0 k (wrap64 (Int.tmod a1 64)) (!(bt343.1 == a0_0) || (!(bt343.2 == a0_1))) a0_0 a0_1)) = some r := H
        have A10 := Aside0.mk A100
        clear A100
        replace H := Option.bind_eq_some_iff.mp H
        obtain ⟨⟨t343, t344⟩, A110, H⟩ := H
        replace H : (overfalllaw01_WidePowers.j0 k (wrap64 (Int.tmod a1 64)) (!(t343 == a0_0) || (!(t344 == a0_1))) a0_0 a0_1) = some r := H
        have A11 := Aside0.mk A110
        clear A110
        have H' := Aside0.mk H
        clear H
        try go_wp2
        have n0_ := Aside0.mk (blk_drew BK338.out)
        have n1_ := Aside0.mk (below_drew1 HB.out)
        clear BK338
        clear HB
        have BK338 := n0_
        have HB := n1_
        clear n0_ n1_
        refine start_ (n := 14) (S := fun w' => w'.cell? ⟨gb338, 0, none⟩ = some (.int .u64 a0_0) ∧ w'.cell? ⟨gb338, 1, none⟩ = some (.int .u64 a0_1)) (ds := []) #[false, false, false, false, false, false, false, false, false, false, false, false, false, false] (by kernel_rfl) rfl rfl ⟨(blk_cell BK338.out 0).trans rfl, (blk_cell BK338.out 1).trans rfl⟩ (fun hHeld => ?_); refine with_tabW overfalllaw01_WidePowers.tab4 overfalllaw01_WidePowers.bits4 (fun HT_ HW_ => ?_)
        generalize w7.drew = w12 at BK338 HB hHeld ⊢
        refine pure_ (i := 2) (N := some 17) (v := ?_) (a' := ?_) #[false, false, true, false, false, false, false, false, false, false, false, false, false, false] rfl rfl (any_of HT_.out (by kernel_rfl)) (fun _ _ _ h => h) (Or.inl ⟨by rfl, ?_⟩) ?_ ?_
        rotate_left
        · intro w'
          go_simp
          with_reducible rfl
        rotate_left
        · simp only [Act.put, List.setIfInBounds_toArray, List.set_cons_zero, List.set_cons_succ, i64_w, i32_w]
          rfl
        refine take_ (i := 0) (N := some 15) (v := ?_) (a' := ?_) #[true, false, true, false, false, false, false, false, false, false, false, false, false, false] rfl rfl (take_ofW HT_.out HW_.out (by kernel_rfl)) (fun _ _ _ h => h) (Or.inl ⟨by rfl, ?_⟩) hHeld ?_ ?_
        rotate_left
        · rintro w' ⟨s0, s1⟩
          go_simp
          with_reducible rfl
        rotate_left
        · simp only [Act.put, List.setIfInBounds_toArray, List.set_cons_zero, List.set_cons_succ, i64_w, i32_w]
          rfl
        refine one_ (i := 1) (N := some 16) #[true, true, true, false, false, false, false, false, false, false, false, false, false, false] rfl rfl (one_of HT_.out (by kernel_rfl)) (by decide) (fun K hK => ?_)
        refine goes_ Try.func26 (by kernel_rfl) rfl #[.agg #[.int .u64 a0_0, .int .u64 a0_1]] (by rfl) rfl rfl (by (try simp only [List.map_toArray, List.map_cons, List.map_nil]); first | done | rfl | (simp only [List.length_drop, List.length_take]; rfl)) ?_
        with_reducible refine (wide_Num_Bits.calls k a0_0 a0_1 t340 _ A8.out).mono ?_
        rintro e w13 ⟨rfl, hb⟩
        refine ⟨_, rfl, ?_⟩
        have n0_ := Aside0.mk (blk_below (g := gb338) (o := .cells #[.int .u64 a0_0, .int .u64 a0_1] 25 (0, 0)) (by exact BK338.out) hb)
        have n1_ := Aside0.mk (below_step (by repeat (first | (with_reducible first | exact HB.out | apply below_alloc | apply pw_below_drewN | apply below_drew1 | refine below_set ?_ GE338.out) | exact HB.out)) hb)
        clear BK338
        clear HB
        have BK338 := n0_
        have HB := n1_
        clear n0_ n1_
        (try clear hb)
        (try clear hb2)
        (try clear hk)
        (try clear hi)
        refine hK.out _ _ ⟨(blk_cell BK338.out 0).trans rfl, (blk_cell BK338.out 1).trans rfl⟩ (fun hHeld => ?_)
        clear hK K
        refine norm_ (a' := ?_) ?_ ?_
        rotate_left
        · show Act.put _ (some 16) _ = _
          simp only [Act.put, List.setIfInBounds_toArray, List.set_cons_zero, List.set_cons_succ, i64_w, i32_w]
          rfl
        refine pure_ (i := 3) (N := some 18) (v := ?_) (a' := ?_) #[true, true, true, true, false, false, false, false, false, false, false, false, false, false] rfl rfl (any_of HT_.out (by kernel_rfl)) (fun _ _ _ h => h) (Or.inl ⟨by rfl, ?_⟩) ?_ ?_
        rotate_left
        · intro w'
          go_simp
          with_reducible rfl
        rotate_left
        · simp only [Act.put, List.setIfInBounds_toArray, List.set_cons_zero, List.set_cons_succ, i64_w, i32_w]
          rfl
        refine pure_ (i := 4) (N := some 19) (v := ?_) (a' := ?_) #[true, true, true, true, true, false, false, false, false, false, false, false, false, false] rfl rfl (any_of HT_.out (by kernel_rfl)) (fun _ _ _ h => h) (Or.inl ⟨by rfl, ?_⟩) ?_ ?_
        rotate_left
        · intro w'
          go_simp
          with_reducible rfl
        rotate_left
        · simp only [Act.put, List.setIfInBounds_toArray, List.set_cons_zero, List.set_cons_succ, i64_w, i32_w]
          rfl
        refine pure_ (i := 5) (N := some 20) (v := ?_) (a' := ?_) #[true, true, true, true, true, true, false, false, false, false, false, false, false, false] rfl rfl (any_of HT_.out (by kernel_rfl)) (fun _ _ _ h => h) (Or.inl ⟨by rfl, ?_⟩) ?_ ?_
        rotate_left
        · intro w'
          go_simp
          with_reducible rfl
        rotate_left
        · simp only [Act.put, List.setIfInBounds_toArray, List.set_cons_zero, List.set_cons_succ, i64_w, i32_w]
          rfl
        refine pure_ (i := 7) (N := some 22) (v := ?_) (a' := ?_) #[true, true, true, true, true, true, false, true, false, false, false, false, false, false] rfl rfl (any_of HT_.out (by kernel_rfl)) (fun _ _ _ h => h) (Or.inl ⟨by rfl, ?_⟩) ?_ ?_
        rotate_left
        · intro w'
          go_simp
          with_reducible rfl
        rotate_left
        · simp only [Act.put, List.setIfInBounds_toArray, List.set_cons_zero, List.set_cons_succ, i64_w, i32_w]
          rfl
        refine pure_ (i := 9) (N := some 24) (v := ?_) (a' := ?_) #[true, true, true, true, true, true, false, true, false, true, false, false, false, false] rfl rfl (any_of HT_.out (by kernel_rfl)) (fun _ _ _ h => h) (Or.inl ⟨by rfl, ?_⟩) ?_ ?_
        rotate_left
        · intro w'
          go_simp
          with_reducible rfl
        rotate_left
        · simp only [Act.put, List.setIfInBounds_toArray, List.set_cons_zero, List.set_cons_succ, i64_w, i32_w]
          rfl
        refine take_ (i := 6) (N := some 21) (v := ?_) (a' := ?_) #[true, true, true, true, true, true, true, true, false, true, false, false, false, false] rfl rfl (take_ofW HT_.out HW_.out (by kernel_rfl)) (fun _ _ _ h => h) (Or.inl ⟨by rfl, ?_⟩) hHeld ?_ ?_
        rotate_left
        · rintro w' ⟨s0, s1⟩
          go_simp
          with_reducible rfl
        rotate_left
        · simp only [Act.put, List.setIfInBounds_toArray, List.set_cons_zero, List.set_cons_succ, i64_w, i32_w]
          rfl
        refine take_ (i := 11) (N := some 26) (v := ?_) (a' := ?_) #[true, true, true, true, true, true, true, true, false, true, false, true, false, false] rfl rfl (take_ofW HT_.out HW_.out (by kernel_rfl)) (fun _ _ _ h => h) (Or.inl ⟨by rfl, ?_⟩) hHeld ?_ ?_
        rotate_left
        · rintro w' ⟨s0, s1⟩
          go_simp
          with_reducible rfl
        rotate_left
        · simp only [Act.put, List.setIfInBounds_toArray, List.set_cons_zero, List.set_cons_succ, i64_w, i32_w]
          rfl
        refine one_ (i := 8) (N := some 23) #[true, true, true, true, true, true, true, true, true, true, false, true, false, false] rfl rfl (one_of HT_.out (by kernel_rfl)) (by decide) (fun K hK => ?_)
        refine goes_ Try.func19 (by kernel_rfl) rfl #[.agg #[.int .u64 a0_0, .int .u64 a0_1], .int .i64 (wrap64 (Int.tmod a1 64))] (by rfl) rfl rfl (by (try simp only [List.map_toArray, List.map_cons, List.map_nil]); first | done | rfl | (simp only [List.length_drop, List.length_take]; rfl)) ?_
        with_reducible refine (wide_Num_Left.calls a0_0 a0_1 (wrap64 (Int.tmod a1 64)) t341 t342 _ A10.out).mono ?_
        rintro e w14 ⟨rfl, hb⟩
        refine ⟨_, rfl, ?_⟩
        have n0_ := Aside0.mk (blk_below (g := gb338) (o := .cells #[.int .u64 a0_0, .int .u64 a0_1] 25 (0, 0)) (by exact BK338.out) hb)
        have n1_ := Aside0.mk (below_step (by repeat (first | (with_reducible first | exact HB.out | apply below_alloc | apply pw_below_drewN | apply below_drew1 | refine below_set ?_ GE338.out) | exact HB.out)) hb)
        clear BK338
        clear HB
        have BK338 := n0_
        have HB := n1_
        clear n0_ n1_
        (try clear hb)
        (try clear hb2)
        (try clear hk)
        (try clear hi)
        refine hK.out _ _ ⟨(blk_cell BK338.out 0).trans rfl, (blk_cell BK338.out 1).trans rfl⟩ (fun hHeld => ?_)
        clear hK K
        refine norm_ (a' := ?_) ?_ ?_
        rotate_left
        · show Act.put _ (some 23) _ = _
          simp only [Act.put, List.setIfInBounds_toArray, List.set_cons_zero, List.set_cons_succ, i64_w, i32_w]
          rfl
        refine one_ (i := 10) (N := some 25) #[true, true, true, true, true, true, true, true, true, true, true, true, false, false] rfl rfl (one_of HT_.out (by kernel_rfl)) (by decide) (fun K hK => ?_)
        refine goes_ Try.func21 (by kernel_rfl) rfl #[.agg #[.int .u64 t341, .int .u64 t342], .int .i64 (wrap64 (Int.tmod a1 64))] (by rfl) rfl rfl (by (try simp only [List.map_toArray, List.map_cons, List.map_nil]); first | done | rfl | (simp only [List.length_drop, List.length_take]; rfl)) ?_
        with_reducible refine (wide_Num_Right.calls t341 t342 (wrap64 (Int.tmod a1 64)) t343 t344 _ A11.out).mono ?_
        rintro e w15 ⟨rfl, hb⟩
        refine ⟨_, rfl, ?_⟩
        have n0_ := Aside0.mk (blk_below (g := gb338) (o := .cells #[.int .u64 a0_0, .int .u64 a0_1] 25 (0, 0)) (by exact BK338.out) hb)
        have n1_ := Aside0.mk (below_step (by repeat (first | (with_reducible first | exact HB.out | apply below_alloc | apply pw_below_drewN | apply below_drew1 | refine below_set ?_ GE338.out) | exact HB.out)) hb)
        clear BK338
        clear HB
        have BK338 := n0_
        have HB := n1_
        clear n0_ n1_
        (try clear hb)
        (try clear hb2)
        (try clear hk)
        (try clear hi)
        refine hK.out _ _ ⟨(blk_cell BK338.out 0).trans rfl, (blk_cell BK338.out 1).trans rfl⟩ (fun hHeld => ?_)
        clear hK K
        refine norm_ (a' := ?_) ?_ ?_
        rotate_left
        · show Act.put _ (some 25) _ = _
          simp only [Act.put, List.setIfInBounds_toArray, List.set_cons_zero, List.set_cons_succ, i64_w, i32_w]
          rfl
        refine pure_ (i := 12) (N := some 27) (v := ?_) (a' := ?_) #[true, true, true, true, true, true, true, true, true, true, true, true, true, false] rfl rfl (any_of HT_.out (by kernel_rfl)) (fun _ _ _ h => h) (Or.inl ⟨by rfl, ?_⟩) ?_ ?_
        rotate_left
        · intro w'
          go_simp
          with_reducible rfl
        rotate_left
        · simp only [Act.put, List.setIfInBounds_toArray, List.set_cons_zero, List.set_cons_succ, i64_w, i32_w]
          rfl
        refine pure_ (i := 13) (N := some 28) (v := ?_) (a' := ?_) #[true, true, true, true, true, true, true, true, true, true, true, true, true, true] rfl rfl (any_of HT_.out (by kernel_rfl)) (fun _ _ _ h => h) (Or.inl ⟨by rfl, ?_⟩) ?_ ?_
        rotate_left
        · intro w'
          go_simp
          with_reducible rfl
        rotate_left
        · simp only [Act.put, List.setIfInBounds_toArray, List.set_cons_zero, List.set_cons_succ, i64_w, i32_w]
          rfl
        refine done_ (done_of HT_.out (by kernel_rfl)) ?_
        try go_wp2
        go_meet
        case rel => exact ⟨_, ((!(t343 == a0_0) || (!(t344 == a0_1)))), (by first | rfl | (simp; done) | (simp [*]; done)), H', ⟨by first | omega | exact Nat.le_refl _⟩, ⟨by exact BK338.out⟩, ⟨by repeat (first | (with_reducible first | exact HB.out | apply below_alloc | apply pw_below_drewN | apply below_drew1 | refine below_set ?_ GE338.out) | exact HB.out)⟩⟩
      · rw [if_neg c9] at H
        have c9b0 : decide ((wrap64 (t340 + (wrap64 (Int.tmod a1 64)))) ≤ 128) = false := decide_eq_false c9
        clear c9
        (first | rw [c9b0] | (simp only [i64_w, i32_w]; rw [c9b0]) | skip)
        have H' := Aside0.mk H
        clear H
        try go_wp2
        have n0_ := Aside0.mk (blk_drew BK338.out)
        have n1_ := Aside0.mk (below_drew1 HB.out)
        clear BK338
        clear HB
        have BK338 := n0_
        have HB := n1_
        clear n0_ n1_
        refine start_ (n := 14) (S := fun w' => w'.cell? ⟨gb338, 0, none⟩ = some (.int .u64 a0_0) ∧ w'.cell? ⟨gb338, 1, none⟩ = some (.int .u64 a0_1)) (ds := []) #[false, false, false, false, false, false, false, false, false, false, false, false, false, false] (by kernel_rfl) rfl rfl ⟨(blk_cell BK338.out 0).trans rfl, (blk_cell BK338.out 1).trans rfl⟩ (fun hHeld => ?_); refine with_tabW overfalllaw01_WidePowers.tab4 overfalllaw01_WidePowers.bits4 (fun HT_ HW_ => ?_)
        generalize w7.drew = w16 at BK338 HB hHeld ⊢
        refine pure_ (i := 2) (N := some 17) (v := ?_) (a' := ?_) #[false, false, true, false, false, false, false, false, false, false, false, false, false, false] rfl rfl (any_of HT_.out (by kernel_rfl)) (fun _ _ _ h => h) (Or.inl ⟨by rfl, ?_⟩) ?_ ?_
        rotate_left
        · intro w'
          go_simp
          with_reducible rfl
        rotate_left
        · simp only [Act.put, List.setIfInBounds_toArray, List.set_cons_zero, List.set_cons_succ, i64_w, i32_w]
          rfl
        refine take_ (i := 0) (N := some 15) (v := ?_) (a' := ?_) #[true, false, true, false, false, false, false, false, false, false, false, false, false, false] rfl rfl (take_ofW HT_.out HW_.out (by kernel_rfl)) (fun _ _ _ h => h) (Or.inl ⟨by rfl, ?_⟩) hHeld ?_ ?_
        rotate_left
        · rintro w' ⟨s0, s1⟩
          go_simp
          with_reducible rfl
        rotate_left
        · simp only [Act.put, List.setIfInBounds_toArray, List.set_cons_zero, List.set_cons_succ, i64_w, i32_w]
          rfl
        refine one_ (i := 1) (N := some 16) #[true, true, true, false, false, false, false, false, false, false, false, false, false, false] rfl rfl (one_of HT_.out (by kernel_rfl)) (by decide) (fun K hK => ?_)
        refine goes_ Try.func26 (by kernel_rfl) rfl #[.agg #[.int .u64 a0_0, .int .u64 a0_1]] (by rfl) rfl rfl (by (try simp only [List.map_toArray, List.map_cons, List.map_nil]); first | done | rfl | (simp only [List.length_drop, List.length_take]; rfl)) ?_
        with_reducible refine (wide_Num_Bits.calls k a0_0 a0_1 t340 _ A8.out).mono ?_
        rintro e w17 ⟨rfl, hb⟩
        refine ⟨_, rfl, ?_⟩
        have n0_ := Aside0.mk (blk_below (g := gb338) (o := .cells #[.int .u64 a0_0, .int .u64 a0_1] 25 (0, 0)) (by exact BK338.out) hb)
        have n1_ := Aside0.mk (below_step (by repeat (first | (with_reducible first | exact HB.out | apply below_alloc | apply pw_below_drewN | apply below_drew1 | refine below_set ?_ GE338.out) | exact HB.out)) hb)
        clear BK338
        clear HB
        have BK338 := n0_
        have HB := n1_
        clear n0_ n1_
        (try clear hb)
        (try clear hb2)
        (try clear hk)
        (try clear hi)
        refine hK.out _ _ ⟨(blk_cell BK338.out 0).trans rfl, (blk_cell BK338.out 1).trans rfl⟩ (fun hHeld => ?_)
        clear hK K
        refine norm_ (a' := ?_) ?_ ?_
        rotate_left
        · show Act.put _ (some 16) _ = _
          simp only [Act.put, List.setIfInBounds_toArray, List.set_cons_zero, List.set_cons_succ, i64_w, i32_w]
          rfl
        refine pure_ (i := 3) (N := some 18) (v := ?_) (a' := ?_) #[true, true, true, true, false, false, false, false, false, false, false, false, false, false] rfl rfl (any_of HT_.out (by kernel_rfl)) (fun _ _ _ h => h) (Or.inl ⟨by rfl, ?_⟩) ?_ ?_
        rotate_left
        · intro w'
          go_simp
          with_reducible rfl
        rotate_left
        · simp only [Act.put, List.setIfInBounds_toArray, List.set_cons_zero, List.set_cons_succ, i64_w, i32_w]
          rfl
        refine pure_ (i := 4) (N := some 19) (v := ?_) (a' := ?_) #[true, true, true, true, true, false, false, false, false, false, false, false, false, false] rfl rfl (any_of HT_.out (by kernel_rfl)) (fun _ _ _ h => h) (Or.inl ⟨by rfl, ?_⟩) ?_ ?_
        rotate_left
        · intro w'
          go_simp
          with_reducible rfl
        rotate_left
        · simp only [Act.put, List.setIfInBounds_toArray, List.set_cons_zero, List.set_cons_succ, i64_w, i32_w]
          rfl
        refine pure_ (i := 5) (N := some 20) (v := ?_) (a' := ?_) #[true, true, true, true, true, true, false, false, false, false, false, false, false, false] rfl rfl (any_of HT_.out (by kernel_rfl)) (fun _ _ _ h => h) (Or.inl ⟨by rfl, ?_⟩) ?_ ?_
        rotate_left
        · intro w'
          go_simp
          with_reducible rfl
        rotate_left
        · simp only [Act.put, List.setIfInBounds_toArray, List.set_cons_zero, List.set_cons_succ, i64_w, i32_w]
          rfl
        refine pure_ (i := 6) (N := some 21) (v := undef) (a' := ?_) #[true, true, true, true, true, true, true, false, false, false, false, false, false, false] rfl rfl (any_of HT_.out (by kernel_rfl)) (fun _ _ _ h => h) (Or.inr ⟨by rfl, rfl⟩) ?_ ?_
        rotate_left
        · simp only [Act.put, List.setIfInBounds_toArray, List.set_cons_zero, List.set_cons_succ, i64_w, i32_w]
          rfl
        refine pure_ (i := 7) (N := some 22) (v := undef) (a' := ?_) #[true, true, true, true, true, true, true, true, false, false, false, false, false, false] rfl rfl (any_of HT_.out (by kernel_rfl)) (fun _ _ _ h => h) (Or.inr ⟨by rfl, rfl⟩) ?_ ?_
        rotate_left
        · simp only [Act.put, List.setIfInBounds_toArray, List.set_cons_zero, List.set_cons_succ, i64_w, i32_w]
          rfl
        refine pure_ (i := 8) (N := some 23) (v := undef) (a' := ?_) #[true, true, true, true, true, true, true, true, true, false, false, false, false, false] rfl rfl (any_of HT_.out (by kernel_rfl)) (fun _ _ _ h => h) (Or.inr ⟨by rfl, rfl⟩) ?_ ?_
        rotate_left
        · simp only [Act.put, List.setIfInBounds_toArray, List.set_cons_zero, List.set_cons_succ, i64_w, i32_w]
          rfl
        refine pure_ (i := 9) (N := some 24) (v := undef) (a' := ?_) #[true, true, true, true, true, true, true, true, true, true, false, false, false, false] rfl rfl (any_of HT_.out (by kernel_rfl)) (fun _ _ _ h => h) (Or.inr ⟨by rfl, rfl⟩) ?_ ?_
        rotate_left
        · simp only [Act.put, List.setIfInBounds_toArray, List.set_cons_zero, List.set_cons_succ, i64_w, i32_w]
          rfl
        refine pure_ (i := 10) (N := some 25) (v := undef) (a' := ?_) #[true, true, true, true, true, true, true, true, true, true, true, false, false, false] rfl rfl (any_of HT_.out (by kernel_rfl)) (fun _ _ _ h => h) (Or.inr ⟨by rfl, rfl⟩) ?_ ?_
        rotate_left
        · simp only [Act.put, List.setIfInBounds_toArray, List.set_cons_zero, List.set_cons_succ, i64_w, i32_w]
          rfl
        refine pure_ (i := 11) (N := some 26) (v := undef) (a' := ?_) #[true, true, true, true, true, true, true, true, true, true, true, true, false, false] rfl rfl (any_of HT_.out (by kernel_rfl)) (fun _ _ _ h => h) (Or.inr ⟨by rfl, rfl⟩) ?_ ?_
        rotate_left
        · simp only [Act.put, List.setIfInBounds_toArray, List.set_cons_zero, List.set_cons_succ, i64_w, i32_w]
          rfl
        refine pure_ (i := 12) (N := some 27) (v := undef) (a' := ?_) #[true, true, true, true, true, true, true, true, true, true, true, true, true, false] rfl rfl (any_of HT_.out (by kernel_rfl)) (fun _ _ _ h => h) (Or.inr ⟨by rfl, rfl⟩) ?_ ?_
        rotate_left
        · simp only [Act.put, List.setIfInBounds_toArray, List.set_cons_zero, List.set_cons_succ, i64_w, i32_w]
          rfl
        refine pure_ (i := 13) (N := some 28) (v := ?_) (a' := ?_) #[true, true, true, true, true, true, true, true, true, true, true, true, true, true] rfl rfl (any_of HT_.out (by kernel_rfl)) (fun _ _ _ h => h) (Or.inl ⟨by rfl, ?_⟩) ?_ ?_
        rotate_left
        · intro w'
          go_simp
          with_reducible rfl
        rotate_left
        · simp only [Act.put, List.setIfInBounds_toArray, List.set_cons_zero, List.set_cons_succ, i64_w, i32_w]
          rfl
        refine done_ (done_of HT_.out (by kernel_rfl)) ?_
        try go_wp2
        go_meet
        case rel => exact ⟨_, (false), (by first | rfl | (simp; done) | (simp [*]; done)), H', ⟨by first | omega | exact Nat.le_refl _⟩, ⟨by exact BK338.out⟩, ⟨by repeat (first | (with_reducible first | exact HB.out | apply below_alloc | apply pw_below_drewN | apply below_drew1 | refine below_set ?_ GE338.out) | exact HB.out)⟩⟩
    case rest =>
      clear HC5
      try clear c1
      try clear c2
      try clear p2
      try clear c4
      try clear p6
      try clear c7
      try clear c9
      try clear c9b0
      try clear c11
      obtain ⟨kq, x28_4, rfl, HA, HJ4, BK338, HB⟩ := hcut
      cases kq with
      | zero => exact absurd HA.out (by simp [overfalllaw01_WidePowers.j0])
      | succ kj4 =>
        have H := HA.out
        clear HA
        simp only [overfalllaw01_WidePowers.j0] at H
        by_cases c18 : x28_4 = true
        · subst c18
          have H1 : (none) = some r := by rw [if_pos rfl] at H; exact H
          clear H
          have H := H1
          clear H1
          exact absurd H (by simp)
        · replace c18 := Bool.eq_false_iff.mpr c18
          subst c18
          have H1 : (if 0 ≤ (wrap64 (Int.tmod a1 64)) then ((wide_Num_Div.f kj4 a0_0 a0_1 (shl .u64 1 (wrap64 (Int.tmod a1 64)))).bind fun bt345 => ((wide_Num_Left.f bt345.1 bt345.2.1 (wrap64 (Int.tmod a1 64))).bind fun bt349 => ((wide_Of.f bt345.2.2).bind fun bt351 => ((wide_Num_Add.f bt349.1 bt349.2 bt351.1 bt351.2).bind fun bt353 => ((wide_Num_Right.f a0_0 a0_1 (wrap64 (Int.tmod a1 64))).bind fun bt357 => (if (bt345.1 == bt357.1 && (bt345.2.1 == bt357.2)) = true then (if (bt353.1 == a0_0 && (bt353.2.1 == a0_1)) = true then ((wide_Mul.f a0_1 (shl .u64 1 (wrap64 (Int.tmod a1 64)))).bind fun bt359 => ((wide_Of.f a0_1).bind fun bt361 => ((wide_Num_Left.f bt361.1 bt361.2 (wrap64 (Int.tmod a1 64))).bind fun bt363 => (if (bt359.1 == bt363.1 && (bt359.2 == bt363.2)) = true then ((wide_Num_Left.f a0_0 a0_1 (wrap64 (Int.tmod a1 64))).bind fun bt365 => ((wide_Num_Left.f bt365.1 bt365.2 (wrap64 (Int.tmod a1 64))).bind fun bt367 => ((wide_Num_Left.f a0_0 a0_1 (wrap64 (2 * (wrap64 (Int.tmod a1 64))))).bind fun bt369 => (if (bt367.1 == bt369.1 && (bt367.2 == bt369.2)) = true then ((wide_Num_Right.f a0_0 a0_1 (wrap64 (Int.tmod a1 64))).bind fun bt371 => ((wide_Num_Right.f bt371.1 bt371.2 (wrap64 (Int.tmod a1 64))).bind fun bt373 => ((wide_Num_Right.f a0_0 a0_1 (wrap64 (2 * (wrap64 (Int.tmod a1 64))))).bind fun bt375 => (some (bt373.1 == bt375.1 && (bt373.2 == bt375.2)))))) else (none))))) else (none))))) else (none)) else (none))))))) else (none)) = some r := by rw [if_neg (show ¬ (false = true) by decide)] at H; exact H
          clear H
          have H := H1
          clear H1
          obtain ⟨ji19, hji19⟩ : ∃ j_ : Int, (wrap64 (Int.tmod a1 64)) = j_ := ⟨_, rfl⟩
          replace H : (if 0 ≤ (ji19) then ((wide_Num_Div.f kj4 a0_0 a0_1 (shl .u64 1 (ji19))).bind fun bt345 => ((wide_Num_Left.f bt345.1 bt345.2.1 (ji19)).bind fun bt349 => ((wide_Of.f bt345.2.2).bind fun bt351 => ((wide_Num_Add.f bt349.1 bt349.2 bt351.1 bt351.2).bind fun bt353 => ((wide_Num_Right.f a0_0 a0_1 (ji19)).bind fun bt357 => (if (bt345.1 == bt357.1 && (bt345.2.1 == bt357.2)) = true then (if (bt353.1 == a0_0 && (bt353.2.1 == a0_1)) = true then ((wide_Mul.f a0_1 (shl .u64 1 (ji19))).bind fun bt359 => ((wide_Of.f a0_1).bind fun bt361 => ((wide_Num_Left.f bt361.1 bt361.2 (ji19)).bind fun bt363 => (if (bt359.1 == bt363.1 && (bt359.2 == bt363.2)) = true then ((wide_Num_Left.f a0_0 a0_1 (ji19)).bind fun bt365 => ((wide_Num_Left.f bt365.1 bt365.2 (ji19)).bind fun bt367 => ((wide_Num_Left.f a0_0 a0_1 (wrap64 (2 * (ji19)))).bind fun bt369 => (if (bt367.1 == bt369.1 && (bt367.2 == bt369.2)) = true then ((wide_Num_Right.f a0_0 a0_1 (ji19)).bind fun bt371 => ((wide_Num_Right.f bt371.1 bt371.2 (ji19)).bind fun bt373 => ((wide_Num_Right.f a0_0 a0_1 (wrap64 (2 * (ji19)))).bind fun bt375 => (some (bt373.1 == bt375.1 && (bt373.2 == bt375.2)))))) else (none))))) else (none))))) else (none)) else (none))))))) else (none)) = some r := by first | (rw [hji19] at H; exact H) | (simp only [hji19] at H ⊢; exact H)
          have hji19w : (IntKind.i64.wrap (Int.tmod a1 64)) = ji19 := (i64_w _).trans hji19
          by_cases c20 : 0 ≤ (ji19)
          · rw [if_pos c20] at H
            have c20b0 := eq_true c20
            have c20b1 : decide (0 ≤ (ji19)) = true := decide_eq_true c20
            clear c20
            obtain ⟨ji21, hji21⟩ : ∃ j_ : Int, (shl .u64 1 (ji19)) = j_ := ⟨_, rfl⟩
            replace H : ((wide_Num_Div.f kj4 a0_0 a0_1 (ji21)).bind fun bt345 => ((wide_Num_Left.f bt345.1 bt345.2.1 (ji19)).bind fun bt349 => ((wide_Of.f bt345.2.2).bind fun bt351 => ((wide_Num_Add.f bt349.1 bt349.2 bt351.1 bt351.2).bind fun bt353 => ((wide_Num_Right.f a0_0 a0_1 (ji19)).bind fun bt357 => (if (bt345.1 == bt357.1 && (bt345.2.1 == bt357.2)) = true then (if (bt353.1 == a0_0 && (bt353.2.1 == a0_1)) = true then ((wide_Mul.f a0_1 (ji21)).bind fun bt359 => ((wide_Of.f a0_1).bind fun bt361 => ((wide_Num_Left.f bt361.1 bt361.2 (ji19)).bind fun bt363 => (if (bt359.1 == bt363.1 && (bt359.2 == bt363.2)) = true then ((wide_Num_Left.f a0_0 a0_1 (ji19)).bind fun bt365 => ((wide_Num_Left.f bt365.1 bt365.2 (ji19)).bind fun bt367 => ((wide_Num_Left.f a0_0 a0_1 (wrap64 (2 * (ji19)))).bind fun bt369 => (if (bt367.1 == bt369.1 && (bt367.2 == bt369.2)) = true then ((wide_Num_Right.f a0_0 a0_1 (ji19)).bind fun bt371 => ((wide_Num_Right.f bt371.1 bt371.2 (ji19)).bind fun bt373 => ((wide_Num_Right.f a0_0 a0_1 (wrap64 (2 * (ji19)))).bind fun bt375 => (some (bt373.1 == bt375.1 && (bt373.2 == bt375.2)))))) else (none))))) else (none))))) else (none)) else (none))))))) = some r := by first | (rw [hji21] at H; exact H) | (simp only [hji21] at H ⊢; exact H)
            have hji21_ : (IntKind.u64.wrap (1 * 2 ^ min (ji19).toNat 64)) = ji21 := hji21
            have hji21z : (ji19) ≤ 64 → (IntKind.u64.wrap (1 * 2 ^ (ji19).toNat)) = ji21 := shl_small hji21
            have hji21u : (IntKind.u64.wrap (2 ^ min (ji19).toNat 64)) = ji21 := by have h_ := hji21_; rw [Int.one_mul] at h_; exact h_
            have hji21v : (ji19) ≤ 64 → (IntKind.u64.wrap (2 ^ (ji19).toNat)) = ji21 := fun hle_ => by have h_ := hji21z hle_; rw [Int.one_mul] at h_; exact h_
            replace H := Option.bind_eq_some_iff.mp H
            obtain ⟨⟨t345, t346, t347⟩, A220, H⟩ := H
            replace H : ((wide_Num_Left.f t345 t346 (ji19)).bind fun bt349 => ((wide_Of.f t347).bind fun bt351 => ((wide_Num_Add.f bt349.1 bt349.2 bt351.1 bt351.2).bind fun bt353 => ((wide_Num_Right.f a0_0 a0_1 (ji19)).bind fun bt357 => (if (t345 == bt357.1 && (t346 == bt357.2)) = true then (if (bt353.1 == a0_0 && (bt353.2.1 == a0_1)) = true then ((wide_Mul.f a0_1 (ji21)).bind fun bt359 => ((wide_Of.f a0_1).bind fun bt361 => ((wide_Num_Left.f bt361.1 bt361.2 (ji19)).bind fun bt363 => (if (bt359.1 == bt363.1 && (bt359.2 == bt363.2)) = true then ((wide_Num_Left.f a0_0 a0_1 (ji19)).bind fun bt365 => ((wide_Num_Left.f bt365.1 bt365.2 (ji19)).bind fun bt367 => ((wide_Num_Left.f a0_0 a0_1 (wrap64 (2 * (ji19)))).bind fun bt369 => (if (bt367.1 == bt369.1 && (bt367.2 == bt369.2)) = true then ((wide_Num_Right.f a0_0 a0_1 (ji19)).bind fun bt371 => ((wide_Num_Right.f bt371.1 bt371.2 (ji19)).bind fun bt373 => ((wide_Num_Right.f a0_0 a0_1 (wrap64 (2 * (ji19)))).bind fun bt375 => (some (bt373.1 == bt375.1 && (bt373.2 == bt375.2)))))) else (none))))) else (none))))) else (none)) else (none)))))) = some r := H
            have A22 := Aside0.mk A220
            clear A220
            replace H := Option.bind_eq_some_iff.mp H
            obtain ⟨⟨t349, t350⟩, A230, H⟩ := H
            replace H : ((wide_Of.f t347).bind fun bt351 => ((wide_Num_Add.f t349 t350 bt351.1 bt351.2).bind fun bt353 => ((wide_Num_Right.f a0_0 a0_1 (ji19)).bind fun bt357 => (if (t345 == bt357.1 && (t346 == bt357.2)) = true then (if (bt353.1 == a0_0 && (bt353.2.1 == a0_1)) = true then ((wide_Mul.f a0_1 (ji21)).bind fun bt359 => ((wide_Of.f a0_1).bind fun bt361 => ((wide_Num_Left.f bt361.1 bt361.2 (ji19)).bind fun bt363 => (if (bt359.1 == bt363.1 && (bt359.2 == bt363.2)) = true then ((wide_Num_Left.f a0_0 a0_1 (ji19)).bind fun bt365 => ((wide_Num_Left.f bt365.1 bt365.2 (ji19)).bind fun bt367 => ((wide_Num_Left.f a0_0 a0_1 (wrap64 (2 * (ji19)))).bind fun bt369 => (if (bt367.1 == bt369.1 && (bt367.2 == bt369.2)) = true then ((wide_Num_Right.f a0_0 a0_1 (ji19)).bind fun bt371 => ((wide_Num_Right.f bt371.1 bt371.2 (ji19)).bind fun bt373 => ((wide_Num_Right.f a0_0 a0_1 (wrap64 (2 * (ji19)))).bind fun bt375 => (some (bt373.1 == bt375.1 && (bt373.2 == bt375.2)))))) else (none))))) else (none))))) else (none)) else (none))))) = some r := H
            have A23 := Aside0.mk A230
            clear A230
            replace H := Option.bind_eq_some_iff.mp H
            obtain ⟨⟨t351, t352⟩, A240, H⟩ := H
            replace H : ((wide_Num_Add.f t349 t350 t351 t352).bind fun bt353 => ((wide_Num_Right.f a0_0 a0_1 (ji19)).bind fun bt357 => (if (t345 == bt357.1 && (t346 == bt357.2)) = true then (if (bt353.1 == a0_0 && (bt353.2.1 == a0_1)) = true then ((wide_Mul.f a0_1 (ji21)).bind fun bt359 => ((wide_Of.f a0_1).bind fun bt361 => ((wide_Num_Left.f bt361.1 bt361.2 (ji19)).bind fun bt363 => (if (bt359.1 == bt363.1 && (bt359.2 == bt363.2)) = true then ((wide_Num_Left.f a0_0 a0_1 (ji19)).bind fun bt365 => ((wide_Num_Left.f bt365.1 bt365.2 (ji19)).bind fun bt367 => ((wide_Num_Left.f a0_0 a0_1 (wrap64 (2 * (ji19)))).bind fun bt369 => (if (bt367.1 == bt369.1 && (bt367.2 == bt369.2)) = true then ((wide_Num_Right.f a0_0 a0_1 (ji19)).bind fun bt371 => ((wide_Num_Right.f bt371.1 bt371.2 (ji19)).bind fun bt373 => ((wide_Num_Right.f a0_0 a0_1 (wrap64 (2 * (ji19)))).bind fun bt375 => (some (bt373.1 == bt375.1 && (bt373.2 == bt375.2)))))) else (none))))) else (none))))) else (none)) else (none)))) = some r := H
            have A24 := Aside0.mk A240
            clear A240
            replace H := Option.bind_eq_some_iff.mp H
            obtain ⟨⟨t353, t354, t355⟩, A250, H⟩ := H
            replace H : ((wide_Num_Right.f a0_0 a0_1 (ji19)).bind fun bt357 => (if (t345 == bt357.1 && (t346 == bt357.2)) = true then (if (t353 == a0_0 && (t354 == a0_1)) = true then ((wide_Mul.f a0_1 (ji21)).bind fun bt359 => ((wide_Of.f a0_1).bind fun bt361 => ((wide_Num_Left.f bt361.1 bt361.2 (ji19)).bind fun bt363 => (if (bt359.1 == bt363.1 && (bt359.2 == bt363.2)) = true then ((wide_Num_Left.f a0_0 a0_1 (ji19)).bind fun bt365 => ((wide_Num_Left.f bt365.1 bt365.2 (ji19)).bind fun bt367 => ((wide_Num_Left.f a0_0 a0_1 (wrap64 (2 * (ji19)))).bind fun bt369 => (if (bt367.1 == bt369.1 && (bt367.2 == bt369.2)) = true then ((wide_Num_Right.f a0_0 a0_1 (ji19)).bind fun bt371 => ((wide_Num_Right.f bt371.1 bt371.2 (ji19)).bind fun bt373 => ((wide_Num_Right.f a0_0 a0_1 (wrap64 (2 * (ji19)))).bind fun bt375 => (some (bt373.1 == bt375.1 && (bt373.2 == bt375.2)))))) else (none))))) else (none))))) else (none)) else (none))) = some r := H
            have A25 := Aside0.mk A250
            clear A250
            replace H := Option.bind_eq_some_iff.mp H
            obtain ⟨⟨t357, t358⟩, A260, H⟩ := H
            replace H : (if (t345 == t357 && (t346 == t358)) = true then (if (t353 == a0_0 && (t354 == a0_1)) = true then ((wide_Mul.f a0_1 (ji21)).bind fun bt359 => ((wide_Of.f a0_1).bind fun bt361 => ((wide_Num_Left.f bt361.1 bt361.2 (ji19)).bind fun bt363 => (if (bt359.1 == bt363.1 && (bt359.2 == bt363.2)) = true then ((wide_Num_Left.f a0_0 a0_1 (ji19)).bind fun bt365 => ((wide_Num_Left.f bt365.1 bt365.2 (ji19)).bind fun bt367 => ((wide_Num_Left.f a0_0 a0_1 (wrap64 (2 * (ji19)))).bind fun bt369 => (if (bt367.1 == bt369.1 && (bt367.2 == bt369.2)) = true then ((wide_Num_Right.f a0_0 a0_1 (ji19)).bind fun bt371 => ((wide_Num_Right.f bt371.1 bt371.2 (ji19)).bind fun bt373 => ((wide_Num_Right.f a0_0 a0_1 (wrap64 (2 * (ji19)))).bind fun bt375 => (some (bt373.1 == bt375.1 && (bt373.2 == bt375.2)))))) else (none))))) else (none))))) else (none)) else (none)) = some r := H
            have A26 := Aside0.mk A260
            clear A260
            by_cases c27 : (t345 == t357 && (t346 == t358)) = true
            · rw [if_pos c27] at H
              have c27b0 : (t345 == t357 && (t346 == t358)) = true := c27
              (try (have c27b1 : decide (t345 = t357 && (t346 == t358)) = true := by simpa using c27))
              (try (have c27b2 : (t345 == t357 && (t346 == t358)) = true := by simpa using c27))
              clear c27
              by_cases c28 : (t353 == a0_0 && (t354 == a0_1)) = true
              · rw [if_pos c28] at H
                have c28b0 : (t353 == a0_0 && (t354 == a0_1)) = true := c28
                (try (have c28b1 : decide (t353 = a0_0 && (t354 == a0_1)) = true := by simpa using c28))
                (try (have c28b2 : (t353 == a0_0 && (t354 == a0_1)) = true := by simpa using c28))
                clear c28
                have c29b0 := eq_true (of_decide_eq_true (by first | (with_reducible assumption) | assumption) : 0 ≤ (ji19))
                replace H := Option.bind_eq_some_iff.mp H
                obtain ⟨⟨t359, t360⟩, A310, H⟩ := H
                replace H : ((wide_Of.f a0_1).bind fun bt361 => ((wide_Num_Left.f bt361.1 bt361.2 (ji19)).bind fun bt363 => (if (t359 == bt363.1 && (t360 == bt363.2)) = true then ((wide_Num_Left.f a0_0 a0_1 (ji19)).bind fun bt365 => ((wide_Num_Left.f bt365.1 bt365.2 (ji19)).bind fun bt367 => ((wide_Num_Left.f a0_0 a0_1 (wrap64 (2 * (ji19)))).bind fun bt369 => (if (bt367.1 == bt369.1 && (bt367.2 == bt369.2)) = true then ((wide_Num_Right.f a0_0 a0_1 (ji19)).bind fun bt371 => ((wide_Num_Right.f bt371.1 bt371.2 (ji19)).bind fun bt373 => ((wide_Num_Right.f a0_0 a0_1 (wrap64 (2 * (ji19)))).bind fun bt375 => (some (bt373.1 == bt375.1 && (bt373.2 == bt375.2)))))) else (none))))) else (none)))) = some r := H
                have A31 := Aside0.mk A310
                clear A310
                replace H := Option.bind_eq_some_iff.mp H
                obtain ⟨⟨t361, t362⟩, A320, H⟩ := H
                replace H : ((wide_Num_Left.f t361 t362 (ji19)).bind fun bt363 => (if (t359 == bt363.1 && (t360 == bt363.2)) = true then ((wide_Num_Left.f a0_0 a0_1 (ji19)).bind fun bt365 => ((wide_Num_Left.f bt365.1 bt365.2 (ji19)).bind fun bt367 => ((wide_Num_Left.f a0_0 a0_1 (wrap64 (2 * (ji19)))).bind fun bt369 => (if (bt367.1 == bt369.1 && (bt367.2 == bt369.2)) = true then ((wide_Num_Right.f a0_0 a0_1 (ji19)).bind fun bt371 => ((wide_Num_Right.f bt371.1 bt371.2 (ji19)).bind fun bt373 => ((wide_Num_Right.f a0_0 a0_1 (wrap64 (2 * (ji19)))).bind fun bt375 => (some (bt373.1 == bt375.1 && (bt373.2 == bt375.2)))))) else (none))))) else (none))) = some r := H
                have A32 := Aside0.mk A320
                clear A320
                replace H := Option.bind_eq_some_iff.mp H
                obtain ⟨⟨t363, t364⟩, A330, H⟩ := H
                replace H : (if (t359 == t363 && (t360 == t364)) = true then ((wide_Num_Left.f a0_0 a0_1 (ji19)).bind fun bt365 => ((wide_Num_Left.f bt365.1 bt365.2 (ji19)).bind fun bt367 => ((wide_Num_Left.f a0_0 a0_1 (wrap64 (2 * (ji19)))).bind fun bt369 => (if (bt367.1 == bt369.1 && (bt367.2 == bt369.2)) = true then ((wide_Num_Right.f a0_0 a0_1 (ji19)).bind fun bt371 => ((wide_Num_Right.f bt371.1 bt371.2 (ji19)).bind fun bt373 => ((wide_Num_Right.f a0_0 a0_1 (wrap64 (2 * (ji19)))).bind fun bt375 => (some (bt373.1 == bt375.1 && (bt373.2 == bt375.2)))))) else (none))))) else (none)) = some r := H
                have A33 := Aside0.mk A330
                clear A330
                by_cases c34 : (t359 == t363 && (t360 == t364)) = true
                · rw [if_pos c34] at H
                  have c34b0 : (t359 == t363 && (t360 == t364)) = true := c34
                  (try (have c34b1 : decide (t359 = t363 && (t360 == t364)) = true := by simpa using c34))
                  (try (have c34b2 : (t359 == t363 && (t360 == t364)) = true := by simpa using c34))
                  clear c34
                  replace H := Option.bind_eq_some_iff.mp H
                  obtain ⟨⟨t365, t366⟩, A350, H⟩ := H
                  replace H : ((wide_Num_Left.f t365 t366 (ji19)).bind fun bt367 => ((wide_Num_Left.f a0_0 a0_1 (wrap64 (2 * (ji19)))).bind fun bt369 => (if (bt367.1 == bt369.1 && (bt367.2 == bt369.2)) = true then ((wide_Num_Right.f a0_0 a0_1 (ji19)).bind fun bt371 => ((wide_Num_Right.f bt371.1 bt371.2 (ji19)).bind fun bt373 => ((wide_Num_Right.f a0_0 a0_1 (wrap64 (2 * (ji19)))).bind fun bt375 => (some (bt373.1 == bt375.1 && (bt373.2 == bt375.2)))))) else (none)))) = some r := H
                  have A35 := Aside0.mk A350
                  clear A350
                  replace H := Option.bind_eq_some_iff.mp H
                  obtain ⟨⟨t367, t368⟩, A360, H⟩ := H
                  replace H : ((wide_Num_Left.f a0_0 a0_1 (wrap64 (2 * (ji19)))).bind fun bt369 => (if (t367 == bt369.1 && (t368 == bt369.2)) = true then ((wide_Num_Right.f a0_0 a0_1 (ji19)).bind fun bt371 => ((wide_Num_Right.f bt371.1 bt371.2 (ji19)).bind fun bt373 => ((wide_Num_Right.f a0_0 a0_1 (wrap64 (2 * (ji19)))).bind fun bt375 => (some (bt373.1 == bt375.1 && (bt373.2 == bt375.2)))))) else (none))) = some r := H
                  have A36 := Aside0.mk A360
                  clear A360
                  replace H := Option.bind_eq_some_iff.mp H
                  obtain ⟨⟨t369, t370⟩, A370, H⟩ := H
                  replace H : (if (t367 == t369 && (t368 == t370)) = true then ((wide_Num_Right.f a0_0 a0_1 (ji19)).bind fun bt371 => ((wide_Num_Right.f bt371.1 bt371.2 (ji19)).bind fun bt373 => ((wide_Num_Right.f a0_0 a0_1 (wrap64 (2 * (ji19)))).bind fun bt375 => (some (bt373.1 == bt375.1 && (bt373.2 == bt375.2)))))) else (none)) = some r := H
                  have A37 := Aside0.mk A370
                  clear A370
                  by_cases c38 : (t367 == t369 && (t368 == t370)) = true
                  · rw [if_pos c38] at H
                    have c38b0 : (t367 == t369 && (t368 == t370)) = true := c38
                    (try (have c38b1 : decide (t367 = t369 && (t368 == t370)) = true := by simpa using c38))
                    (try (have c38b2 : (t367 == t369 && (t368 == t370)) = true := by simpa using c38))
                    clear c38
                    replace H := Option.bind_eq_some_iff.mp H
                    obtain ⟨⟨t371, t372⟩, A390, H⟩ := H
                    replace H : ((wide_Num_Right.f t371 t372 (ji19)).bind fun bt373 => ((wide_Num_Right.f a0_0 a0_1 (wrap64 (2 * (ji19)))).bind fun bt375 => (some (bt373.1 == bt375.1 && (bt373.2 == bt375.2))))) = some r := H
                    have A39 := Aside0.mk A390
                    clear A390
                    replace H := Option.bind_eq_some_iff.mp H
                    obtain ⟨⟨t373, t374⟩, A400, H⟩ := H
                    replace H : ((wide_Num_Right.f a0_0 a0_1 (wrap64 (2 * (ji19)))).bind fun bt375 => (some (t373 == bt375.1 && (t374 == bt375.2)))) = some r := H
                    have A40 := Aside0.mk A400
                    clear A400
                    replace H := Option.bind_eq_some_iff.mp H
                    obtain ⟨⟨t375, t376⟩, A410, H⟩ := H
                    replace H : (some (t373 == t375 && (t374 == t376))) = some r := H
                    have A41 := Aside0.mk A410
                    clear A410
                    obtain rfl := Option.some.inj H
                    try go_wp2
                    have n0_ := Aside0.mk (blk_drew BK338.out)
                    have n1_ := Aside0.mk (below_drew1 HB.out)
                    clear BK338
                    clear HB
                    have BK338 := n0_
                    have HB := n1_
                    clear n0_ n1_
                    refine start_ (n := 10) (S := fun w' => w'.cell? ⟨gb338, 0, none⟩ = some (.int .u64 a0_0) ∧ w'.cell? ⟨gb338, 1, none⟩ = some (.int .u64 a0_1)) (ds := []) #[false, false, false, false, false, false, false, false, false, false] (by kernel_rfl) rfl rfl ⟨(blk_cell BK338.out 0).trans rfl, (blk_cell BK338.out 1).trans rfl⟩ (fun hHeld => ?_); refine with_tabW overfalllaw01_WidePowers.tab6 overfalllaw01_WidePowers.bits6 (fun HT_ HW_ => ?_)
                    generalize wc.drew = w42 at BK338 HB hHeld ⊢
                    refine pure_ (i := 1) (N := some 31) (v := ?_) (a' := ?_) #[false, true, false, false, false, false, false, false, false, false] rfl rfl (any_of HT_.out (by kernel_rfl)) (fun _ _ _ h => h) (Or.inl ⟨by rfl, ?_⟩) ?_ ?_
                    rotate_left
                    · intro w'
                      go_simp
                      with_reducible rfl
                    rotate_left
                    · simp only [Act.put, List.setIfInBounds_toArray, List.set_cons_zero, List.set_cons_succ, i64_w, i32_w]
                      rfl
                    refine pure_ (i := 2) (N := some 32) (v := ?_) (a' := ?_) #[false, true, true, false, false, false, false, false, false, false] rfl rfl (any_of HT_.out (by kernel_rfl)) (fun _ _ _ h => h) (Or.inl ⟨by rfl, ?_⟩) ?_ ?_
                    rotate_left
                    · intro w'
                      go_simp
                      with_reducible rfl
                    rotate_left
                    · simp only [Act.put, List.setIfInBounds_toArray, List.set_cons_zero, List.set_cons_succ, i64_w, i32_w]
                      rfl
                    refine take_ (i := 0) (N := some 30) (v := ?_) (a' := ?_) #[true, true, true, false, false, false, false, false, false, false] rfl rfl (take_ofW HT_.out HW_.out (by kernel_rfl)) (fun _ _ _ h => h) (Or.inl ⟨by rfl, ?_⟩) hHeld ?_ ?_
                    rotate_left
                    · rintro w' ⟨s0, s1⟩
                      go_simp
                      with_reducible rfl
                    rotate_left
                    · simp only [Act.put, List.setIfInBounds_toArray, List.set_cons_zero, List.set_cons_succ, i64_w, i32_w]
                      rfl
                    refine join_ (σ := Nat) 2 #[true, true, true, true, true, true, true, true, false, false] (fun s_ => [(33, .tuple #[.agg #[.int .u64 t345, .int .u64 t346], .int .u64 t347]), (6, .pointer (some ⟨s_, 0, none⟩)), (29, .tuple #[.agg #[.int .u64 t345, .int .u64 t346], .int .u64 t347]), (34, .agg #[.int .u64 t345, .int .u64 t346]), (35, .int .u64 t347)]) (fun s_ w' => (w'.cell? ⟨gb338, 0, none⟩ = some (.int .u64 a0_0) ∧ w'.cell? ⟨gb338, 1, none⟩ = some (.int .u64 a0_1)) ∧ (w'.heap[gb338]? = some (.cells #[.int .u64 a0_0, .int .u64 a0_1] 25 (0, 0))) ∧ (w'.heap[s_]? = some (.cells #[.int .u64 0, .int .u64 0] 25 (0, 0))) ∧ (w.heap.size ≤ s_) ∧ (w.heap.size ≤ s_) ∧ (gb338 ≠ s_) ∧ (s_ ≠ gb338) ∧ (Below w.heap.size w w')) ?_ ?_
                    rotate_left
                    · intro hCont
                      refine two_ (i := 3) (j := 7) (Ni := some 33) (Nj := some 6) #[true, true, true, true, false, false, false, false, false, false] #[true, true, true, false, false, false, false, true, false, false] rfl rfl rfl rfl (two_of HT_.out (by kernel_rfl)) (by decide) (by decide) (fun K hK => ?_) (fun K hK => ?_)
                      · skip
                        refine goes_ Try.func13 (by kernel_rfl) rfl #[.agg #[.int .u64 a0_0, .int .u64 a0_1], .int .u64 ji21] (by rfl) rfl rfl (by (try simp only [List.map_toArray, List.map_cons, List.map_nil]); first | done | (simp only [hji21]; rfl) | rfl | (simp only [List.length_drop, List.length_take]; rfl)) ?_
                        with_reducible refine (wide_Num_Div.calls kj4 a0_0 a0_1 ji21 t345 t346 t347 _ A22.out).mono ?_
                        rintro e w43 ⟨rfl, hb⟩
                        refine ⟨_, rfl, ?_⟩
                        have n0_ := Aside0.mk (blk_below (g := gb338) (o := .cells #[.int .u64 a0_0, .int .u64 a0_1] 25 (0, 0)) (by exact BK338.out) hb)
                        have n1_ := Aside0.mk (below_step (by repeat (first | (with_reducible first | exact HB.out | apply below_alloc | apply pw_below_drewN | apply below_drew1 | refine below_set ?_ GE338.out) | exact HB.out)) hb)
                        clear BK338
                        clear HB
                        have BK338 := n0_
                        have HB := n1_
                        clear n0_ n1_
                        (try clear hb)
                        (try clear hb2)
                        (try clear hk)
                        (try clear hi)
                        refine hK.out _ _ ⟨(blk_cell BK338.out 0).trans rfl, (blk_cell BK338.out 1).trans rfl⟩ (fun hHeld => ?_)
                        clear hK K
                        refine norm_ (a' := ?_) ?_ ?_
                        rotate_left
                        · show Act.put _ (some 33) _ = _
                          simp only [Act.put, List.setIfInBounds_toArray, List.set_cons_zero, List.set_cons_succ, i64_w, i32_w]
                          rfl
                        refine pure_ (i := 4) (N := some 29) (v := ?_) (a' := ?_) #[true, true, true, true, true, false, false, false, false, false] rfl rfl (any_of HT_.out (by kernel_rfl)) (fun _ _ _ h => h) (Or.inl ⟨by rfl, ?_⟩) ?_ ?_
                        rotate_left
                        · intro w'
                          go_simp
                          with_reducible rfl
                        rotate_left
                        · simp only [Act.put, List.setIfInBounds_toArray, List.set_cons_zero, List.set_cons_succ, i64_w, i32_w]
                          rfl
                        refine pure_ (i := 5) (N := some 34) (v := ?_) (a' := ?_) #[true, true, true, true, true, true, false, false, false, false] rfl rfl (any_of HT_.out (by kernel_rfl)) (fun _ _ _ h => h) (Or.inl ⟨by rfl, ?_⟩) ?_ ?_
                        rotate_left
                        · intro w'
                          go_simp
                          with_reducible rfl
                        rotate_left
                        · simp only [Act.put, List.setIfInBounds_toArray, List.set_cons_zero, List.set_cons_succ, i64_w, i32_w]
                          rfl
                        refine pure_ (i := 6) (N := some 35) (v := ?_) (a' := ?_) #[true, true, true, true, true, true, true, false, false, false] rfl rfl (any_of HT_.out (by kernel_rfl)) (fun _ _ _ h => h) (Or.inl ⟨by rfl, ?_⟩) ?_ ?_
                        rotate_left
                        · intro w'
                          go_simp
                          with_reducible rfl
                        rotate_left
                        · simp only [Act.put, List.setIfInBounds_toArray, List.set_cons_zero, List.set_cons_succ, i64_w, i32_w]
                          rfl
                        refine one_ (i := 7) (N := some 6) #[true, true, true, true, true, true, true, true, false, false] rfl rfl (one_of HT_.out (by kernel_rfl)) (by decide) (fun K hK => ?_)
                        refine box_step ?hg (N := 6) ?hd (cs := #[.int .u64 0, .int .u64 0]) (t := 25) ?hr ?_; (case hd => rfl); (case hg => rfl); (case hr => first | (go_simp; done) | (go_simp; rfl))
                        intro gb348 hg w44 hbox hb
                        have n0_ := Aside0.mk (blk_below (g := gb338) (o := .cells #[.int .u64 a0_0, .int .u64 a0_1] 25 (0, 0)) (by exact BK338.out) hb)
                        have n1_ := Aside0.mk (below_step (by repeat (first | (with_reducible first | exact HB.out | apply below_alloc | apply pw_below_drewN | apply below_drew1 | refine below_set ?_ GE338.out) | exact HB.out)) hb)
                        have n2_ := Aside0.mk (hbox)
                        have n3_ := Aside0.mk ((by rw [hg]; exact (below_size (by repeat (first | (with_reducible first | exact HB.out | apply below_alloc | apply pw_below_drewN | apply below_drew1 | refine below_set ?_ GE338.out) | exact HB.out))) : w.heap.size ≤ gb348))
                        have n4_ := Aside0.mk ((by rw [hg]; exact (below_size (by repeat (first | (with_reducible first | exact HB.out | apply below_alloc | apply pw_below_drewN | apply below_drew1 | refine below_set ?_ GE338.out) | exact HB.out))) : w.heap.size ≤ gb348))
                        have n5_ := Aside0.mk ((by rw [hg]; exact Nat.ne_of_lt (blk_lt (g := gb338) (o := .cells #[.int .u64 a0_0, .int .u64 a0_1] 25 (0, 0)) (by exact BK338.out)) : gb338 ≠ gb348))
                        have n6_ := Aside0.mk ((by rw [hg]; exact Nat.ne_of_gt (blk_lt (g := gb338) (o := .cells #[.int .u64 a0_0, .int .u64 a0_1] 25 (0, 0)) (by exact BK338.out)) : gb348 ≠ gb338))
                        clear BK338
                        clear HB
                        have BK338 := n0_
                        have HB := n1_
                        have BK348 := n2_
                        have GW348 := n3_
                        have GE348 := n4_
                        have NB338_348 := n5_
                        have NB348_338 := n6_
                        clear n0_ n1_ n2_ n3_ n4_ n5_ n6_
                        clear hb hbox hg
                        refine hK.out _ _ ⟨(blk_cell BK338.out 0).trans rfl, (blk_cell BK338.out 1).trans rfl⟩ (fun hHeld => ?_)
                        clear hK K
                        refine norm_ (a' := ?_) ?_ ?_
                        rotate_left
                        · show Act.put _ (some 6) _ = _
                          simp only [Act.put, List.setIfInBounds_toArray, List.set_cons_zero, List.set_cons_succ, i64_w, i32_w]
                          rfl
                        exact norm_ (by simp only [putAll, Act.put, List.setIfInBounds_toArray, List.set_cons_zero, List.set_cons_succ]) (hCont (gb348) _ ⟨hHeld, (by exact BK338.out), (by exact BK348.out), GW348.out, GE348.out, NB338_348.out, NB348_338.out, (by repeat (first | (with_reducible first | exact HB.out | apply below_alloc | apply pw_below_drewN | apply below_drew1 | refine below_set ?_ GE338.out | refine below_set ?_ GE348.out) | exact HB.out))⟩)
                      · skip
                        refine box_step ?hg (N := 6) ?hd (cs := #[.int .u64 0, .int .u64 0]) (t := 25) ?hr ?_; (case hd => rfl); (case hg => rfl); (case hr => first | (go_simp; done) | (go_simp; rfl))
                        intro gb348 hg w43 hbox hb
                        have n0_ := Aside0.mk (blk_below (g := gb338) (o := .cells #[.int .u64 a0_0, .int .u64 a0_1] 25 (0, 0)) (by exact BK338.out) hb)
                        have n1_ := Aside0.mk (below_step (by repeat (first | (with_reducible first | exact HB.out | apply below_alloc | apply pw_below_drewN | apply below_drew1 | refine below_set ?_ GE338.out) | exact HB.out)) hb)
                        have n2_ := Aside0.mk (hbox)
                        have n3_ := Aside0.mk ((by rw [hg]; exact (below_size (by repeat (first | (with_reducible first | exact HB.out | apply below_alloc | apply pw_below_drewN | apply below_drew1 | refine below_set ?_ GE338.out) | exact HB.out))) : w.heap.size ≤ gb348))
                        have n4_ := Aside0.mk ((by rw [hg]; exact (below_size (by repeat (first | (with_reducible first | exact HB.out | apply below_alloc | apply pw_below_drewN | apply below_drew1 | refine below_set ?_ GE338.out) | exact HB.out))) : w.heap.size ≤ gb348))
                        have n5_ := Aside0.mk ((by rw [hg]; exact Nat.ne_of_lt (blk_lt (g := gb338) (o := .cells #[.int .u64 a0_0, .int .u64 a0_1] 25 (0, 0)) (by exact BK338.out)) : gb338 ≠ gb348))
                        have n6_ := Aside0.mk ((by rw [hg]; exact Nat.ne_of_gt (blk_lt (g := gb338) (o := .cells #[.int .u64 a0_0, .int .u64 a0_1] 25 (0, 0)) (by exact BK338.out)) : gb348 ≠ gb338))
                        clear BK338
                        clear HB
                        have BK338 := n0_
                        have HB := n1_
                        have BK348 := n2_
                        have GW348 := n3_
                        have GE348 := n4_
                        have NB338_348 := n5_
                        have NB348_338 := n6_
                        clear n0_ n1_ n2_ n3_ n4_ n5_ n6_
                        clear hb hbox hg
                        refine hK.out _ _ ⟨(blk_cell BK338.out 0).trans rfl, (blk_cell BK338.out 1).trans rfl⟩ (fun hHeld => ?_)
                        clear hK K
                        refine norm_ (a' := ?_) ?_ ?_
                        rotate_left
                        · show Act.put _ (some 6) _ = _
                          simp only [Act.put, List.setIfInBounds_toArray, List.set_cons_zero, List.set_cons_succ, i64_w, i32_w]
                          rfl
                        refine one_ (i := 3) (N := some 33) #[true, true, true, true, false, false, false, true, false, false] rfl rfl (one_of HT_.out (by kernel_rfl)) (by decide) (fun K hK => ?_)
                        refine goes_ Try.func13 (by kernel_rfl) rfl #[.agg #[.int .u64 a0_0, .int .u64 a0_1], .int .u64 ji21] (by rfl) rfl rfl (by (try simp only [List.map_toArray, List.map_cons, List.map_nil]); first | done | (simp only [hji21]; rfl) | rfl | (simp only [List.length_drop, List.length_take]; rfl)) ?_
                        with_reducible refine (wide_Num_Div.calls kj4 a0_0 a0_1 ji21 t345 t346 t347 _ A22.out).mono ?_
                        rintro e w44 ⟨rfl, hb⟩
                        refine ⟨_, rfl, ?_⟩
                        have n0_ := Aside0.mk (blk_below (g := gb338) (o := .cells #[.int .u64 a0_0, .int .u64 a0_1] 25 (0, 0)) (by exact BK338.out) hb)
                        have n1_ := Aside0.mk (blk_below (g := gb348) (o := .cells #[.int .u64 0, .int .u64 0] 25 (0, 0)) (by exact BK348.out) hb)
                        have n2_ := Aside0.mk (below_step (by repeat (first | (with_reducible first | exact HB.out | apply below_alloc | apply pw_below_drewN | apply below_drew1 | refine below_set ?_ GE338.out | refine below_set ?_ GE348.out) | exact HB.out)) hb)
                        clear BK338
                        clear BK348
                        clear HB
                        have BK338 := n0_
                        have BK348 := n1_
                        have HB := n2_
                        clear n0_ n1_ n2_
                        (try clear hb)
                        (try clear hb2)
                        (try clear hk)
                        (try clear hi)
                        refine hK.out _ _ ⟨(blk_cell BK338.out 0).trans rfl, (blk_cell BK338.out 1).trans rfl⟩ (fun hHeld => ?_)
                        clear hK K
                        refine norm_ (a' := ?_) ?_ ?_
                        rotate_left
                        · show Act.put _ (some 33) _ = _
                          simp only [Act.put, List.setIfInBounds_toArray, List.set_cons_zero, List.set_cons_succ, i64_w, i32_w]
                          rfl
                        refine pure_ (i := 4) (N := some 29) (v := ?_) (a' := ?_) #[true, true, true, true, true, false, false, true, false, false] rfl rfl (any_of HT_.out (by kernel_rfl)) (fun _ _ _ h => h) (Or.inl ⟨by rfl, ?_⟩) ?_ ?_
                        rotate_left
                        · intro w'
                          go_simp
                          with_reducible rfl
                        rotate_left
                        · simp only [Act.put, List.setIfInBounds_toArray, List.set_cons_zero, List.set_cons_succ, i64_w, i32_w]
                          rfl
                        refine pure_ (i := 5) (N := some 34) (v := ?_) (a' := ?_) #[true, true, true, true, true, true, false, true, false, false] rfl rfl (any_of HT_.out (by kernel_rfl)) (fun _ _ _ h => h) (Or.inl ⟨by rfl, ?_⟩) ?_ ?_
                        rotate_left
                        · intro w'
                          go_simp
                          with_reducible rfl
                        rotate_left
                        · simp only [Act.put, List.setIfInBounds_toArray, List.set_cons_zero, List.set_cons_succ, i64_w, i32_w]
                          rfl
                        refine pure_ (i := 6) (N := some 35) (v := ?_) (a' := ?_) #[true, true, true, true, true, true, true, true, false, false] rfl rfl (any_of HT_.out (by kernel_rfl)) (fun _ _ _ h => h) (Or.inl ⟨by rfl, ?_⟩) ?_ ?_
                        rotate_left
                        · intro w'
                          go_simp
                          with_reducible rfl
                        rotate_left
                        · simp only [Act.put, List.setIfInBounds_toArray, List.set_cons_zero, List.set_cons_succ, i64_w, i32_w]
                          rfl
                        exact norm_ (by simp only [putAll, Act.put, List.setIfInBounds_toArray, List.set_cons_zero, List.set_cons_succ]) (hCont (gb348) _ ⟨hHeld, (by exact BK338.out), (by exact BK348.out), GW348.out, GE348.out, NB338_348.out, NB348_338.out, (by repeat (first | (with_reducible first | exact HB.out | apply below_alloc | apply pw_below_drewN | apply below_drew1 | refine below_set ?_ GE338.out | refine below_set ?_ GE348.out) | exact HB.out))⟩)
                    rintro gb348 w45 ⟨hS_, h0_, h1_, h2_, h3_, h4_, h5_, h6_⟩
                    have n0_ : Aside0 (w45.heap[gb338]? = some (.cells #[.int .u64 a0_0, .int .u64 a0_1] 25 (0, 0))) := ⟨h0_⟩
                    have n1_ : Aside0 (w45.heap[gb348]? = some (.cells #[.int .u64 0, .int .u64 0] 25 (0, 0))) := ⟨h1_⟩
                    have n2_ : Aside0 (w.heap.size ≤ gb348) := ⟨h2_⟩
                    have n3_ : Aside0 (w.heap.size ≤ gb348) := ⟨h3_⟩
                    have n4_ : Aside0 (gb338 ≠ gb348) := ⟨h4_⟩
                    have n5_ : Aside0 (gb348 ≠ gb338) := ⟨h5_⟩
                    have n6_ : Aside0 (Below w.heap.size w w45) := ⟨h6_⟩
                    clear BK338
                    clear HB
                    clear h0_ h1_ h2_ h3_ h4_ h5_ h6_
                    have BK338 := n0_
                    have BK348 := n1_
                    have GW348 := n2_
                    have GE348 := n3_
                    have NB338_348 := n4_
                    have NB348_338 := n5_
                    have HB := n6_
                    clear n0_ n1_ n2_ n3_ n4_ n5_ n6_
                    have hHeld : w45.cell? ⟨gb338, 0, none⟩ = some (.int .u64 a0_0) ∧ w45.cell? ⟨gb338, 1, none⟩ = some (.int .u64 a0_1) := hS_
                    refine norm_ (a' := ?_) ?_ ?_
                    rotate_left
                    · simp only [putAll, Act.put, List.setIfInBounds_toArray, List.set_cons_zero, List.set_cons_succ]
                      rfl
                    refine one_ (i := 8) (N := none) #[true, true, true, true, true, true, true, true, true, false] rfl rfl (one_of HT_.out (by kernel_rfl)) (by decide) (fun K hK => ?_)
                    have hs46 : w45.cell? ⟨gb348, 0, none⟩ = some (.int .u64 0) := (blk_cell BK348.out 0).trans rfl
                    have hfs46 := blk_frozen BK348.out 0
                    have hns46_0 := NB338_348.out
                    have hms46_0 := NB348_338.out
                    have hs47 : w45.cell? ⟨gb348, 1, none⟩ = some (.int .u64 0) := (blk_cell BK348.out 1).trans rfl
                    have hfs47 := blk_frozen BK348.out 1
                    have hns47_0 := NB338_348.out
                    have hms47_0 := NB348_338.out
                    refine skip_ (w1 := ?_) (by rfl) rfl ?_ ?_
                    rotate_left
                    · go_simp
                      rfl
                    refine hK.out _ _ ⟨((cell_far (p := ⟨gb348, _, none⟩) NB338_348.out _).trans (((cell_far (p := ⟨gb348, _, none⟩) NB338_348.out _).trans (hHeld.1)))), ((cell_far (p := ⟨gb348, _, none⟩) NB338_348.out _).trans (((cell_far (p := ⟨gb348, _, none⟩) NB338_348.out _).trans (hHeld.2))))⟩ (fun hHeld => ?_)
                    clear hK K
                    refine pure_ (i := 9) (N := some 7) (v := ?_) (a' := ?_) #[true, true, true, true, true, true, true, true, true, true] rfl rfl (any_of HT_.out (by kernel_rfl)) (fun _ _ _ h => h) (Or.inl ⟨by rfl, ?_⟩) ?_ ?_
                    rotate_left
                    · intro w'
                      go_simp
                      with_reducible rfl
                    rotate_left
                    · simp only [Act.put, List.setIfInBounds_toArray, List.set_cons_zero, List.set_cons_succ, i64_w, i32_w]
                      rfl
                    refine done_ (done_of HT_.out (by kernel_rfl)) ?_
                    have hnb48 := NB348_338.out
                    have hnc48 := NB338_348.out
                    have hcz49_0 : w45.cell? ⟨gb348, 0, none⟩ = some (.int .u64 0) := (blk_cell BK348.out 0).trans rfl
                    have hcz49_1 : w45.cell? ⟨gb348, 1, none⟩ = some (.int .u64 0) := (blk_cell BK348.out 1).trans rfl
                    have hfz49_0 := blk_frozen BK348.out 0
                    have hfz49_1 := blk_frozen BK348.out 1
                    try go_wp2_with (first | ((with_reducible refine gate_callee (f := 19) rfl ?_); refine goesL_ (some 39) rfl rfl Try.func19 (by kernel_rfl) rfl #[.agg #[.int .u64 t345, .int .u64 t346], .int .i64 (ji19)] rfl (by (try simp only [List.map_toArray, List.map_cons, List.map_nil]); first | done | (simp only [hji19]; rfl) | rfl | (simp only [List.length_drop, List.length_take]; rfl)) ?_; (with_reducible refine (wide_Num_Left.calls t345 t346 (ji19) t349 t350 _ A23.out).mono ?_); rintro e w50 ⟨rfl, hb⟩; refine ⟨_, rfl, ?_⟩; have n0_ := Aside0.mk (blk_below (g := gb338) (o := .cells #[.int .u64 a0_0, .int .u64 a0_1] 25 (0, 0)) (by refine blk_far ?_ NB338_348.out _; refine blk_far ?_ NB338_348.out _; exact BK338.out) hb); have n1_ := Aside0.mk (blk_below (g := gb348) (o := .cells #[.int .u64 t345, .int .u64 t346] 25 (0, 0)) (by refine blk_put (cs := #[.int .u64 t345, .int .u64 0]) ?_ 1 _ rfl; refine blk_put (cs := #[.int .u64 0, .int .u64 0]) ?_ 0 _ rfl; exact BK348.out) hb); have n2_ := Aside0.mk (below_step (by repeat (first | (with_reducible first | exact HB.out | apply below_alloc | apply pw_below_drewN | apply below_drew1 | refine below_set ?_ GE338.out | refine below_set ?_ GE348.out) | exact HB.out)) hb); clear BK338; clear BK348; clear HB; have BK338 := n0_; have BK348 := n1_; have HB := n2_; clear n0_ n1_ n2_; (try clear hb); (try clear hb2); (try clear hk); (try clear hi)) | ((with_reducible refine gate_callee (f := 16) rfl ?_); refine goesL_ (some 41) rfl rfl Try.func16 (by kernel_rfl) rfl #[.int .u64 t347] rfl (by (try simp only [List.map_toArray, List.map_cons, List.map_nil]); first | done | rfl | (simp only [List.length_drop, List.length_take]; rfl)) ?_; (with_reducible refine (wide_Of.calls t347 t351 t352 _ A24.out).mono ?_); rintro e w51 ⟨rfl, hb⟩; refine ⟨_, rfl, ?_⟩; have n0_ := Aside0.mk (blk_below (g := gb338) (o := .cells #[.int .u64 a0_0, .int .u64 a0_1] 25 (0, 0)) (by exact BK338.out) hb); have n1_ := Aside0.mk (blk_below (g := gb348) (o := .cells #[.int .u64 t345, .int .u64 t346] 25 (0, 0)) (by exact BK348.out) hb); have n2_ := Aside0.mk (below_step (by repeat (first | (with_reducible first | exact HB.out | apply below_alloc | apply pw_below_drewN | apply below_drew1 | refine below_set ?_ GE338.out | refine below_set ?_ GE348.out) | exact HB.out)) hb); clear BK338; clear BK348; clear HB; have BK338 := n0_; have BK348 := n1_; have HB := n2_; clear n0_ n1_ n2_; (try clear hb); (try clear hb2); (try clear hk); (try clear hi)) | ((with_reducible refine gate_callee (f := 18) rfl ?_); refine goesL_ (some 42) rfl rfl Try.func18 (by kernel_rfl) rfl #[.agg #[.int .u64 t349, .int .u64 t350], .agg #[.int .u64 t351, .int .u64 t352]] rfl (by (try simp only [List.map_toArray, List.map_cons, List.map_nil]); first | done | rfl | (simp only [List.length_drop, List.length_take]; rfl)) ?_; (with_reducible refine (wide_Num_Add.calls t349 t350 t351 t352 t353 t354 t355 _ A25.out).mono ?_); rintro e w52 ⟨rfl, hb⟩; refine ⟨_, rfl, ?_⟩; have n0_ := Aside0.mk (blk_below (g := gb338) (o := .cells #[.int .u64 a0_0, .int .u64 a0_1] 25 (0, 0)) (by exact BK338.out) hb); have n1_ := Aside0.mk (blk_below (g := gb348) (o := .cells #[.int .u64 t345, .int .u64 t346] 25 (0, 0)) (by exact BK348.out) hb); have n2_ := Aside0.mk (below_step (by repeat (first | (with_reducible first | exact HB.out | apply below_alloc | apply pw_below_drewN | apply below_drew1 | refine below_set ?_ GE338.out | refine below_set ?_ GE348.out) | exact HB.out)) hb); clear BK338; clear BK348; clear HB; have BK338 := n0_; have BK348 := n1_; have HB := n2_; clear n0_ n1_ n2_; (try clear hb); (try clear hb2); (try clear hk); (try clear hi)) | ((with_reducible refine gate_dst (N := 8) rfl ?_); refine box_event ?hg (N := 8) ?hd (cs := #[.int .u64 0, .int .u64 0]) (t := 25) ?hr ?_; (case hd => rfl); (case hg => rfl); (case hr => first | (go_simp; done) | (go_simp; rfl)); intro gb356 hg w53 hbox hb; have n0_ := Aside0.mk (blk_below (g := gb338) (o := .cells #[.int .u64 a0_0, .int .u64 a0_1] 25 (0, 0)) (by exact BK338.out) hb); have n1_ := Aside0.mk (blk_below (g := gb348) (o := .cells #[.int .u64 t345, .int .u64 t346] 25 (0, 0)) (by exact BK348.out) hb); have n2_ := Aside0.mk (below_step (by repeat (first | (with_reducible first | exact HB.out | apply below_alloc | apply pw_below_drewN | apply below_drew1 | refine below_set ?_ GE338.out | refine below_set ?_ GE348.out) | exact HB.out)) hb); have n3_ := Aside0.mk (hbox); have n4_ := Aside0.mk ((by rw [hg]; exact (below_size (by repeat (first | (with_reducible first | exact HB.out | apply below_alloc | apply pw_below_drewN | apply below_drew1 | refine below_set ?_ GE338.out | refine below_set ?_ GE348.out) | exact HB.out))) : w.heap.size ≤ gb356)); have n5_ := Aside0.mk ((by rw [hg]; exact (below_size (by repeat (first | (with_reducible first | exact HB.out | apply below_alloc | apply pw_below_drewN | apply below_drew1 | refine below_set ?_ GE338.out | refine below_set ?_ GE348.out) | exact HB.out))) : w.heap.size ≤ gb356)); have n6_ := Aside0.mk ((by rw [hg]; exact Nat.ne_of_lt (blk_lt (g := gb338) (o := .cells #[.int .u64 a0_0, .int .u64 a0_1] 25 (0, 0)) (by exact BK338.out)) : gb338 ≠ gb356)); have n7_ := Aside0.mk ((by rw [hg]; exact Nat.ne_of_gt (blk_lt (g := gb338) (o := .cells #[.int .u64 a0_0, .int .u64 a0_1] 25 (0, 0)) (by exact BK338.out)) : gb356 ≠ gb338)); have n8_ := Aside0.mk ((by rw [hg]; exact Nat.ne_of_lt (blk_lt (g := gb348) (o := .cells #[.int .u64 t345, .int .u64 t346] 25 (0, 0)) (by exact BK348.out)) : gb348 ≠ gb356)); have n9_ := Aside0.mk ((by rw [hg]; exact Nat.ne_of_gt (blk_lt (g := gb348) (o := .cells #[.int .u64 t345, .int .u64 t346] 25 (0, 0)) (by exact BK348.out)) : gb356 ≠ gb348)); clear BK338; clear BK348; clear HB; have BK338 := n0_; have BK348 := n1_; have HB := n2_; have BK356 := n3_; have GW356 := n4_; have GE356 := n5_; have NB338_356 := n6_; have NB356_338 := n7_; have NB348_356 := n8_; have NB356_348 := n9_; clear n0_ n1_ n2_ n3_ n4_ n5_ n6_ n7_ n8_ n9_; clear hb hbox hg; have hnb54 := NB356_338.out; have hnc54 := NB338_356.out; have hnb55 := NB356_348.out; have hnc55 := NB348_356.out; have hcz56_0 : w53.cell? ⟨gb356, 0, none⟩ = some (.int .u64 0) := (blk_cell BK356.out 0).trans rfl; have hcz56_1 : w53.cell? ⟨gb356, 1, none⟩ = some (.int .u64 0) := (blk_cell BK356.out 1).trans rfl; have hfz56_0 := blk_frozen BK356.out 0; have hfz56_1 := blk_frozen BK356.out 1))
                    have n0_ : Aside0 (((w53.setCell ⟨gb356, 0, none⟩ (.int .u64 t353)).setCell ⟨gb356, 1, none⟩ (.int .u64 t354)).heap[gb338]? = some (.cells #[.int .u64 a0_0, .int .u64 a0_1] 25 (0, 0))) := ⟨by refine blk_far ?_ NB338_356.out _; refine blk_far ?_ NB338_356.out _; exact BK338.out⟩
                    have n1_ : Aside0 (((w53.setCell ⟨gb356, 0, none⟩ (.int .u64 t353)).setCell ⟨gb356, 1, none⟩ (.int .u64 t354)).heap[gb348]? = some (.cells #[.int .u64 t345, .int .u64 t346] 25 (0, 0))) := ⟨by refine blk_far ?_ NB348_356.out _; refine blk_far ?_ NB348_356.out _; exact BK348.out⟩
                    have n2_ : Aside0 (((w53.setCell ⟨gb356, 0, none⟩ (.int .u64 t353)).setCell ⟨gb356, 1, none⟩ (.int .u64 t354)).heap[gb356]? = some (.cells #[.int .u64 t353, .int .u64 t354] 25 (0, 0))) := ⟨by refine blk_put (cs := #[.int .u64 t353, .int .u64 0]) ?_ 1 _ rfl; refine blk_put (cs := #[.int .u64 0, .int .u64 0]) ?_ 0 _ rfl; exact BK356.out⟩
                    have n3_ : Aside0 (Below w.heap.size w ((w53.setCell ⟨gb356, 0, none⟩ (.int .u64 t353)).setCell ⟨gb356, 1, none⟩ (.int .u64 t354))) := ⟨by repeat (first | (with_reducible first | exact HB.out | apply below_alloc | apply pw_below_drewN | apply below_drew1 | refine below_set ?_ GE338.out | refine below_set ?_ GE348.out | refine below_set ?_ GE356.out) | exact HB.out)⟩
                    (try clear BK338)
                    (try clear BK348)
                    (try clear BK356)
                    (try clear HB)
                    generalize ((w53.setCell ⟨gb356, 0, none⟩ (.int .u64 t353)).setCell ⟨gb356, 1, none⟩ (.int .u64 t354)) = w57 at n0_ n1_ n2_ n3_ ⊢
                    have BK338 := n0_
                    have BK348 := n1_
                    have BK356 := n2_
                    have HB := n3_
                    clear n0_ n1_ n2_ n3_
                    have n0_ := Aside0.mk (blk_drew BK338.out)
                    have n1_ := Aside0.mk (blk_drew BK348.out)
                    have n2_ := Aside0.mk (blk_drew BK356.out)
                    have n3_ := Aside0.mk (below_drew1 HB.out)
                    clear BK338
                    clear BK348
                    clear BK356
                    clear HB
                    have BK338 := n0_
                    have BK348 := n1_
                    have BK356 := n2_
                    have HB := n3_
                    clear n0_ n1_ n2_ n3_
                    refine start_ (n := 48) (S := fun w' => w'.cell? ⟨gb348, 0, none⟩ = some (.int .u64 t345) ∧ w'.cell? ⟨gb348, 1, none⟩ = some (.int .u64 t346) ∧ w'.cell? ⟨gb338, 0, none⟩ = some (.int .u64 a0_0) ∧ w'.cell? ⟨gb338, 1, none⟩ = some (.int .u64 a0_1) ∧ w'.cell? ⟨gb356, 0, none⟩ = some (.int .u64 t353) ∧ w'.cell? ⟨gb356, 1, none⟩ = some (.int .u64 t354)) (ds := []) #[false, false, false, false, false, false, false, false, false, false, false, false, false, false, false, false, false, false, false, false, false, false, false, false, false, false, false, false, false, false, false, false, false, false, false, false, false, false, false, false, false, false, false, false, false, false, false, false] (by kernel_rfl) rfl rfl ⟨(blk_cell BK348.out 0).trans rfl, (blk_cell BK348.out 1).trans rfl, (blk_cell BK338.out 0).trans rfl, (blk_cell BK338.out 1).trans rfl, (blk_cell BK356.out 0).trans rfl, (blk_cell BK356.out 1).trans rfl⟩ (fun hHeld => ?_); refine with_tabW overfalllaw01_WidePowers.tab8 overfalllaw01_WidePowers.bits8 (fun HT_ HW_ => ?_)
                    generalize w57.drew = w58 at BK338 BK348 BK356 HB hHeld ⊢
                    refine pure_ (i := 2) (N := some 47) (v := ?_) (a' := ?_) #[false, false, true, false, false, false, false, false, false, false, false, false, false, false, false, false, false, false, false, false, false, false, false, false, false, false, false, false, false, false, false, false, false, false, false, false, false, false, false, false, false, false, false, false, false, false, false, false] rfl rfl (any_of HT_.out (by kernel_rfl)) (fun _ _ _ h => h) (Or.inl ⟨by rfl, ?_⟩) ?_ ?_
                    rotate_left
                    · intro w'
                      go_simp
                      with_reducible rfl
                    rotate_left
                    · simp only [Act.put, List.setIfInBounds_toArray, List.set_cons_zero, List.set_cons_succ, i64_w, i32_w]
                      rfl
                    refine take_ (i := 0) (N := some 45) (v := ?_) (a' := ?_) #[true, false, true, false, false, false, false, false, false, false, false, false, false, false, false, false, false, false, false, false, false, false, false, false, false, false, false, false, false, false, false, false, false, false, false, false, false, false, false, false, false, false, false, false, false, false, false, false] rfl rfl (take_ofW HT_.out HW_.out (by kernel_rfl)) (fun _ _ _ h => h) (Or.inl ⟨by rfl, ?_⟩) hHeld ?_ ?_
                    rotate_left
                    · rintro w' ⟨s0, s1, s2, s3, s4, s5⟩
                      go_simp
                      with_reducible rfl
                    rotate_left
                    · simp only [Act.put, List.setIfInBounds_toArray, List.set_cons_zero, List.set_cons_succ, i64_w, i32_w]
                      rfl
                    refine take_ (i := 1) (N := some 46) (v := ?_) (a' := ?_) #[true, true, true, false, false, false, false, false, false, false, false, false, false, false, false, false, false, false, false, false, false, false, false, false, false, false, false, false, false, false, false, false, false, false, false, false, false, false, false, false, false, false, false, false, false, false, false, false] rfl rfl (take_ofW HT_.out HW_.out (by kernel_rfl)) (fun _ _ _ h => h) (Or.inl ⟨by rfl, ?_⟩) hHeld ?_ ?_
                    rotate_left
                    · rintro w' ⟨s0, s1, s2, s3, s4, s5⟩
                      go_simp
                      with_reducible rfl
                    rotate_left
                    · simp only [Act.put, List.setIfInBounds_toArray, List.set_cons_zero, List.set_cons_succ, i64_w, i32_w]
                      rfl
                    refine one_ (i := 3) (N := some 48) #[true, true, true, true, false, false, false, false, false, false, false, false, false, false, false, false, false, false, false, false, false, false, false, false, false, false, false, false, false, false, false, false, false, false, false, false, false, false, false, false, false, false, false, false, false, false, false, false] rfl rfl (one_of HT_.out (by kernel_rfl)) (by decide) (fun K hK => ?_)
                    refine goes_ Try.func21 (by kernel_rfl) rfl #[.agg #[.int .u64 a0_0, .int .u64 a0_1], .int .i64 (ji19)] (by rfl) rfl rfl (by (try simp only [List.map_toArray, List.map_cons, List.map_nil]); first | done | (simp only [hji19]; rfl) | rfl | (simp only [List.length_drop, List.length_take]; rfl)) ?_
                    with_reducible refine (wide_Num_Right.calls a0_0 a0_1 (ji19) t357 t358 _ A26.out).mono ?_
                    rintro e w59 ⟨rfl, hb⟩
                    refine ⟨_, rfl, ?_⟩
                    have n0_ := Aside0.mk (blk_below (g := gb338) (o := .cells #[.int .u64 a0_0, .int .u64 a0_1] 25 (0, 0)) (by exact BK338.out) hb)
                    have n1_ := Aside0.mk (blk_below (g := gb348) (o := .cells #[.int .u64 t345, .int .u64 t346] 25 (0, 0)) (by exact BK348.out) hb)
                    have n2_ := Aside0.mk (blk_below (g := gb356) (o := .cells #[.int .u64 t353, .int .u64 t354] 25 (0, 0)) (by exact BK356.out) hb)
                    have n3_ := Aside0.mk (below_step (by repeat (first | (with_reducible first | exact HB.out | apply below_alloc | apply pw_below_drewN | apply below_drew1 | refine below_set ?_ GE338.out | refine below_set ?_ GE348.out | refine below_set ?_ GE356.out) | exact HB.out)) hb)
                    clear BK338
                    clear BK348
                    clear BK356
                    clear HB
                    have BK338 := n0_
                    have BK348 := n1_
                    have BK356 := n2_
                    have HB := n3_
                    clear n0_ n1_ n2_ n3_
                    (try clear hb)
                    (try clear hb2)
                    (try clear hk)
                    (try clear hi)
                    refine hK.out _ _ ⟨(blk_cell BK348.out 0).trans rfl, (blk_cell BK348.out 1).trans rfl, (blk_cell BK338.out 0).trans rfl, (blk_cell BK338.out 1).trans rfl, (blk_cell BK356.out 0).trans rfl, (blk_cell BK356.out 1).trans rfl⟩ (fun hHeld => ?_)
                    clear hK K
                    refine norm_ (a' := ?_) ?_ ?_
                    rotate_left
                    · show Act.put _ (some 48) _ = _
                      simp only [Act.put, List.setIfInBounds_toArray, List.set_cons_zero, List.set_cons_succ, i64_w, i32_w]
                      rfl
                    refine pure_ (i := 4) (N := some 49) (v := ?_) (a' := ?_) #[true, true, true, true, true, false, false, false, false, false, false, false, false, false, false, false, false, false, false, false, false, false, false, false, false, false, false, false, false, false, false, false, false, false, false, false, false, false, false, false, false, false, false, false, false, false, false, false] rfl rfl (any_of HT_.out (by kernel_rfl)) (fun _ _ _ h => h) (Or.inl ⟨by rfl, ?_⟩) ?_ ?_
                    rotate_left
                    · intro w'
                      go_simp
                      with_reducible rfl
                    rotate_left
                    · simp only [Act.put, List.setIfInBounds_toArray, List.set_cons_zero, List.set_cons_succ, i64_w, i32_w]
                      rfl
                    refine pure_ (i := 5) (N := some 50) (v := ?_) (a' := ?_) #[true, true, true, true, true, true, false, false, false, false, false, false, false, false, false, false, false, false, false, false, false, false, false, false, false, false, false, false, false, false, false, false, false, false, false, false, false, false, false, false, false, false, false, false, false, false, false, false] rfl rfl (any_of HT_.out (by kernel_rfl)) (fun _ _ _ h => h) (Or.inl ⟨by rfl, ?_⟩) ?_ ?_
                    rotate_left
                    · intro w'
                      go_simp
                      with_reducible rfl
                    rotate_left
                    · simp only [Act.put, List.setIfInBounds_toArray, List.set_cons_zero, List.set_cons_succ, i64_w, i32_w]
                      rfl
                    refine take_ (i := 6) (N := some 51) (v := ?_) (a' := ?_) #[true, true, true, true, true, true, true, false, false, false, false, false, false, false, false, false, false, false, false, false, false, false, false, false, false, false, false, false, false, false, false, false, false, false, false, false, false, false, false, false, false, false, false, false, false, false, false, false] rfl rfl (take_ofW HT_.out HW_.out (by kernel_rfl)) (fun _ _ _ h => h) (Or.inl ⟨by rfl, ?_⟩) hHeld ?_ ?_
                    rotate_left
                    · rintro w' ⟨s0, s1, s2, s3, s4, s5⟩
                      go_simp
                      with_reducible rfl
                    rotate_left
                    · simp only [Act.put, List.setIfInBounds_toArray, List.set_cons_zero, List.set_cons_succ, i64_w, i32_w]
                      rfl
                    refine take_ (i := 7) (N := some 52) (v := ?_) (a' := ?_) #[true, true, true, true, true, true, true, true, false, false, false, false, false, false, false, false, false, false, false, false, false, false, false, false, false, false, false, false, false, false, false, false, false, false, false, false, false, false, false, false, false, false, false, false, false, false, false, false] rfl rfl (take_ofW HT_.out HW_.out (by kernel_rfl)) (fun _ _ _ h => h) (Or.inl ⟨by rfl, ?_⟩) hHeld ?_ ?_
                    rotate_left
                    · rintro w' ⟨s0, s1, s2, s3, s4, s5⟩
                      go_simp
                      with_reducible rfl
                    rotate_left
                    · simp only [Act.put, List.setIfInBounds_toArray, List.set_cons_zero, List.set_cons_succ, i64_w, i32_w]
                      rfl
                    refine pure_ (i := 8) (N := some 53) (v := ?_) (a' := ?_) #[true, true, true, true, true, true, true, true, true, false, false, false, false, false, false, false, false, false, false, false, false, false, false, false, false, false, false, false, false, false, false, false, false, false, false, false, false, false, false, false, false, false, false, false, false, false, false, false] rfl rfl (any_of HT_.out (by kernel_rfl)) (fun _ _ _ h => h) (Or.inl ⟨by rfl, ?_⟩) ?_ ?_
                    rotate_left
                    · intro w'
                      go_simp
                      with_reducible rfl
                    rotate_left
                    · simp only [Act.put, List.setIfInBounds_toArray, List.set_cons_zero, List.set_cons_succ, i64_w, i32_w]
                      rfl
                    refine pure_ (i := 9) (N := some 54) (v := ?_) (a' := ?_) #[true, true, true, true, true, true, true, true, true, true, false, false, false, false, false, false, false, false, false, false, false, false, false, false, false, false, false, false, false, false, false, false, false, false, false, false, false, false, false, false, false, false, false, false, false, false, false, false] rfl rfl (any_of HT_.out (by kernel_rfl)) (fun _ _ _ h => h) (Or.inl ⟨by rfl, ?_⟩) ?_ ?_
                    rotate_left
                    · intro w'
                      go_simp
                      with_reducible rfl
                    rotate_left
                    · simp only [Act.put, List.setIfInBounds_toArray, List.set_cons_zero, List.set_cons_succ, i64_w, i32_w]
                      rfl
                    refine pure_ (i := 10) (N := some 55) (v := ?_) (a' := ?_) #[true, true, true, true, true, true, true, true, true, true, true, false, false, false, false, false, false, false, false, false, false, false, false, false, false, false, false, false, false, false, false, false, false, false, false, false, false, false, false, false, false, false, false, false, false, false, false, false] rfl rfl (any_of HT_.out (by kernel_rfl)) (fun _ _ _ h => h) (Or.inl ⟨by rfl, ?_⟩) ?_ ?_
                    rotate_left
                    · intro w'
                      go_simp
                      with_reducible rfl
                    rotate_left
                    · simp only [Act.put, List.setIfInBounds_toArray, List.set_cons_zero, List.set_cons_succ, i64_w, i32_w]
                      rfl
                    refine pure_ (i := 11) (N := some 56) (v := ?_) (a' := ?_) #[true, true, true, true, true, true, true, true, true, true, true, true, false, false, false, false, false, false, false, false, false, false, false, false, false, false, false, false, false, false, false, false, false, false, false, false, false, false, false, false, false, false, false, false, false, false, false, false] rfl rfl (any_of HT_.out (by kernel_rfl)) (fun _ _ _ h => h) (Or.inl ⟨by rfl, ?_⟩) ?_ ?_
                    rotate_left
                    · intro w'
                      go_simp
                      with_reducible rfl
                    rotate_left
                    · simp only [Act.put, List.setIfInBounds_toArray, List.set_cons_zero, List.set_cons_succ, i64_w, i32_w]
                      rfl
                    refine pure_ (i := 13) (N := some 58) (v := ?_) (a' := ?_) #[true, true, true, true, true, true, true, true, true, true, true, true, false, true, false, false, false, false, false, false, false, false, false, false, false, false, false, false, false, false, false, false, false, false, false, false, false, false, false, false, false, false, false, false, false, false, false, false] rfl rfl (any_of HT_.out (by kernel_rfl)) (fun _ _ _ h => h) (Or.inl ⟨by rfl, ?_⟩) ?_ ?_
                    rotate_left
                    · intro w'
                      go_simp
                      with_reducible rfl
                    rotate_left
                    · simp only [Act.put, List.setIfInBounds_toArray, List.set_cons_zero, List.set_cons_succ, i64_w, i32_w]
                      rfl
                    refine pure_ (i := 14) (N := some 59) (v := ?_) (a' := ?_) #[true, true, true, true, true, true, true, true, true, true, true, true, false, true, true, false, false, false, false, false, false, false, false, false, false, false, false, false, false, false, false, false, false, false, false, false, false, false, false, false, false, false, false, false, false, false, false, false] rfl rfl (any_of HT_.out (by kernel_rfl)) (fun _ _ _ h => h) (Or.inl ⟨by rfl, ?_⟩) ?_ ?_
                    rotate_left
                    · intro w'
                      go_simp
                      with_reducible rfl
                    rotate_left
                    · simp only [Act.put, List.setIfInBounds_toArray, List.set_cons_zero, List.set_cons_succ, i64_w, i32_w]
                      rfl
                    refine pure_ (i := 16) (N := some 61) (v := ?_) (a' := ?_) #[true, true, true, true, true, true, true, true, true, true, true, true, false, true, true, false, true, false, false, false, false, false, false, false, false, false, false, false, false, false, false, false, false, false, false, false, false, false, false, false, false, false, false, false, false, false, false, false] rfl rfl (any_of HT_.out (by kernel_rfl)) (fun _ _ _ h => h) (Or.inl ⟨by rfl, ?_⟩) ?_ ?_
                    rotate_left
                    · intro w'
                      go_simp
                      with_reducible rfl
                    rotate_left
                    · simp only [Act.put, List.setIfInBounds_toArray, List.set_cons_zero, List.set_cons_succ, i64_w, i32_w]
                      rfl
                    refine pure_ (i := 19) (N := some 64) (v := ?_) (a' := ?_) #[true, true, true, true, true, true, true, true, true, true, true, true, false, true, true, false, true, false, false, true, false, false, false, false, false, false, false, false, false, false, false, false, false, false, false, false, false, false, false, false, false, false, false, false, false, false, false, false] rfl rfl (any_of HT_.out (by kernel_rfl)) (fun _ _ _ h => h) (Or.inl ⟨by rfl, ?_⟩) ?_ ?_
                    rotate_left
                    · intro w'
                      go_simp
                      with_reducible rfl
                    rotate_left
                    · simp only [Act.put, List.setIfInBounds_toArray, List.set_cons_zero, List.set_cons_succ, i64_w, i32_w]
                      rfl
                    refine take_ (i := 12) (N := some 57) (v := ?_) (a' := ?_) #[true, true, true, true, true, true, true, true, true, true, true, true, true, true, true, false, true, false, false, true, false, false, false, false, false, false, false, false, false, false, false, false, false, false, false, false, false, false, false, false, false, false, false, false, false, false, false, false] rfl rfl (take_ofW HT_.out HW_.out (by kernel_rfl)) (fun _ _ _ h => h) (Or.inl ⟨by rfl, ?_⟩) hHeld ?_ ?_
                    rotate_left
                    · rintro w' ⟨s0, s1, s2, s3, s4, s5⟩
                      go_simp
                      with_reducible rfl
                    rotate_left
                    · simp only [Act.put, List.setIfInBounds_toArray, List.set_cons_zero, List.set_cons_succ, i64_w, i32_w]
                      rfl
                    refine take_ (i := 17) (N := some 62) (v := ?_) (a' := ?_) #[true, true, true, true, true, true, true, true, true, true, true, true, true, true, true, false, true, true, false, true, false, false, false, false, false, false, false, false, false, false, false, false, false, false, false, false, false, false, false, false, false, false, false, false, false, false, false, false] rfl rfl (take_ofW HT_.out HW_.out (by kernel_rfl)) (fun _ _ _ h => h) (Or.inl ⟨by rfl, ?_⟩) hHeld ?_ ?_
                    rotate_left
                    · rintro w' ⟨s0, s1, s2, s3, s4, s5⟩
                      go_simp
                      with_reducible rfl
                    rotate_left
                    · simp only [Act.put, List.setIfInBounds_toArray, List.set_cons_zero, List.set_cons_succ, i64_w, i32_w]
                      rfl
                    refine one_ (i := 15) (N := some 60) #[true, true, true, true, true, true, true, true, true, true, true, true, true, true, true, true, true, true, false, true, false, false, false, false, false, false, false, false, false, false, false, false, false, false, false, false, false, false, false, false, false, false, false, false, false, false, false, false] rfl rfl (one_of HT_.out (by kernel_rfl)) (by decide) (fun K hK => ?_)
                    refine goes_ Try.func12 (by kernel_rfl) rfl #[.int .u64 a0_1, .int .u64 ji21] (by rfl) rfl rfl (by (try simp only [List.map_toArray, List.map_cons, List.map_nil]); first | done | (simp only [hji21]; rfl) | rfl | (simp only [List.length_drop, List.length_take]; rfl)) ?_
                    with_reducible refine (wide_Mul.calls a0_1 ji21 t359 t360 _ A31.out).mono ?_
                    rintro e w60 ⟨rfl, hb⟩
                    refine ⟨_, rfl, ?_⟩
                    have n0_ := Aside0.mk (blk_below (g := gb338) (o := .cells #[.int .u64 a0_0, .int .u64 a0_1] 25 (0, 0)) (by exact BK338.out) hb)
                    have n1_ := Aside0.mk (blk_below (g := gb348) (o := .cells #[.int .u64 t345, .int .u64 t346] 25 (0, 0)) (by exact BK348.out) hb)
                    have n2_ := Aside0.mk (blk_below (g := gb356) (o := .cells #[.int .u64 t353, .int .u64 t354] 25 (0, 0)) (by exact BK356.out) hb)
                    have n3_ := Aside0.mk (below_step (by repeat (first | (with_reducible first | exact HB.out | apply below_alloc | apply pw_below_drewN | apply below_drew1 | refine below_set ?_ GE338.out | refine below_set ?_ GE348.out | refine below_set ?_ GE356.out) | exact HB.out)) hb)
                    clear BK338
                    clear BK348
                    clear BK356
                    clear HB
                    have BK338 := n0_
                    have BK348 := n1_
                    have BK356 := n2_
                    have HB := n3_
                    clear n0_ n1_ n2_ n3_
                    (try clear hb)
                    (try clear hb2)
                    (try clear hk)
                    (try clear hi)
                    refine hK.out _ _ ⟨(blk_cell BK348.out 0).trans rfl, (blk_cell BK348.out 1).trans rfl, (blk_cell BK338.out 0).trans rfl, (blk_cell BK338.out 1).trans rfl, (blk_cell BK356.out 0).trans rfl, (blk_cell BK356.out 1).trans rfl⟩ (fun hHeld => ?_)
                    clear hK K
                    refine norm_ (a' := ?_) ?_ ?_
                    rotate_left
                    · show Act.put _ (some 60) _ = _
                      simp only [Act.put, List.setIfInBounds_toArray, List.set_cons_zero, List.set_cons_succ, i64_w, i32_w]
                      rfl
                    refine one_ (i := 18) (N := some 63) #[true, true, true, true, true, true, true, true, true, true, true, true, true, true, true, true, true, true, true, true, false, false, false, false, false, false, false, false, false, false, false, false, false, false, false, false, false, false, false, false, false, false, false, false, false, false, false, false] rfl rfl (one_of HT_.out (by kernel_rfl)) (by decide) (fun K hK => ?_)
                    refine goes_ Try.func16 (by kernel_rfl) rfl #[.int .u64 a0_1] (by rfl) rfl rfl (by (try simp only [List.map_toArray, List.map_cons, List.map_nil]); first | done | rfl | (simp only [List.length_drop, List.length_take]; rfl)) ?_
                    with_reducible refine (wide_Of.calls a0_1 t361 t362 _ A32.out).mono ?_
                    rintro e w61 ⟨rfl, hb⟩
                    refine ⟨_, rfl, ?_⟩
                    have n0_ := Aside0.mk (blk_below (g := gb338) (o := .cells #[.int .u64 a0_0, .int .u64 a0_1] 25 (0, 0)) (by exact BK338.out) hb)
                    have n1_ := Aside0.mk (blk_below (g := gb348) (o := .cells #[.int .u64 t345, .int .u64 t346] 25 (0, 0)) (by exact BK348.out) hb)
                    have n2_ := Aside0.mk (blk_below (g := gb356) (o := .cells #[.int .u64 t353, .int .u64 t354] 25 (0, 0)) (by exact BK356.out) hb)
                    have n3_ := Aside0.mk (below_step (by repeat (first | (with_reducible first | exact HB.out | apply below_alloc | apply pw_below_drewN | apply below_drew1 | refine below_set ?_ GE338.out | refine below_set ?_ GE348.out | refine below_set ?_ GE356.out) | exact HB.out)) hb)
                    clear BK338
                    clear BK348
                    clear BK356
                    clear HB
                    have BK338 := n0_
                    have BK348 := n1_
                    have BK356 := n2_
                    have HB := n3_
                    clear n0_ n1_ n2_ n3_
                    (try clear hb)
                    (try clear hb2)
                    (try clear hk)
                    (try clear hi)
                    refine hK.out _ _ ⟨(blk_cell BK348.out 0).trans rfl, (blk_cell BK348.out 1).trans rfl, (blk_cell BK338.out 0).trans rfl, (blk_cell BK338.out 1).trans rfl, (blk_cell BK356.out 0).trans rfl, (blk_cell BK356.out 1).trans rfl⟩ (fun hHeld => ?_)
                    clear hK K
                    refine norm_ (a' := ?_) ?_ ?_
                    rotate_left
                    · show Act.put _ (some 63) _ = _
                      simp only [Act.put, List.setIfInBounds_toArray, List.set_cons_zero, List.set_cons_succ, i64_w, i32_w]
                      rfl
                    refine one_ (i := 20) (N := some 65) #[true, true, true, true, true, true, true, true, true, true, true, true, true, true, true, true, true, true, true, true, true, false, false, false, false, false, false, false, false, false, false, false, false, false, false, false, false, false, false, false, false, false, false, false, false, false, false, false] rfl rfl (one_of HT_.out (by kernel_rfl)) (by decide) (fun K hK => ?_)
                    refine goes_ Try.func19 (by kernel_rfl) rfl #[.agg #[.int .u64 t361, .int .u64 t362], .int .i64 (ji19)] (by rfl) rfl rfl (by (try simp only [List.map_toArray, List.map_cons, List.map_nil]); first | done | (simp only [hji19]; rfl) | rfl | (simp only [List.length_drop, List.length_take]; rfl)) ?_
                    with_reducible refine (wide_Num_Left.calls t361 t362 (ji19) t363 t364 _ A33.out).mono ?_
                    rintro e w62 ⟨rfl, hb⟩
                    refine ⟨_, rfl, ?_⟩
                    have n0_ := Aside0.mk (blk_below (g := gb338) (o := .cells #[.int .u64 a0_0, .int .u64 a0_1] 25 (0, 0)) (by exact BK338.out) hb)
                    have n1_ := Aside0.mk (blk_below (g := gb348) (o := .cells #[.int .u64 t345, .int .u64 t346] 25 (0, 0)) (by exact BK348.out) hb)
                    have n2_ := Aside0.mk (blk_below (g := gb356) (o := .cells #[.int .u64 t353, .int .u64 t354] 25 (0, 0)) (by exact BK356.out) hb)
                    have n3_ := Aside0.mk (below_step (by repeat (first | (with_reducible first | exact HB.out | apply below_alloc | apply pw_below_drewN | apply below_drew1 | refine below_set ?_ GE338.out | refine below_set ?_ GE348.out | refine below_set ?_ GE356.out) | exact HB.out)) hb)
                    clear BK338
                    clear BK348
                    clear BK356
                    clear HB
                    have BK338 := n0_
                    have BK348 := n1_
                    have BK356 := n2_
                    have HB := n3_
                    clear n0_ n1_ n2_ n3_
                    (try clear hb)
                    (try clear hb2)
                    (try clear hk)
                    (try clear hi)
                    refine hK.out _ _ ⟨(blk_cell BK348.out 0).trans rfl, (blk_cell BK348.out 1).trans rfl, (blk_cell BK338.out 0).trans rfl, (blk_cell BK338.out 1).trans rfl, (blk_cell BK356.out 0).trans rfl, (blk_cell BK356.out 1).trans rfl⟩ (fun hHeld => ?_)
                    clear hK K
                    refine norm_ (a' := ?_) ?_ ?_
                    rotate_left
                    · show Act.put _ (some 65) _ = _
                      simp only [Act.put, List.setIfInBounds_toArray, List.set_cons_zero, List.set_cons_succ, i64_w, i32_w]
                      rfl
                    refine pure_ (i := 21) (N := some 66) (v := ?_) (a' := ?_) #[true, true, true, true, true, true, true, true, true, true, true, true, true, true, true, true, true, true, true, true, true, true, false, false, false, false, false, false, false, false, false, false, false, false, false, false, false, false, false, false, false, false, false, false, false, false, false, false] rfl rfl (any_of HT_.out (by kernel_rfl)) (fun _ _ _ h => h) (Or.inl ⟨by rfl, ?_⟩) ?_ ?_
                    rotate_left
                    · intro w'
                      go_simp
                      with_reducible rfl
                    rotate_left
                    · simp only [Act.put, List.setIfInBounds_toArray, List.set_cons_zero, List.set_cons_succ, i64_w, i32_w]
                      rfl
                    refine pure_ (i := 22) (N := some 67) (v := ?_) (a' := ?_) #[true, true, true, true, true, true, true, true, true, true, true, true, true, true, true, true, true, true, true, true, true, true, true, false, false, false, false, false, false, false, false, false, false, false, false, false, false, false, false, false, false, false, false, false, false, false, false, false] rfl rfl (any_of HT_.out (by kernel_rfl)) (fun _ _ _ h => h) (Or.inl ⟨by rfl, ?_⟩) ?_ ?_
                    rotate_left
                    · intro w'
                      go_simp
                      with_reducible rfl
                    rotate_left
                    · simp only [Act.put, List.setIfInBounds_toArray, List.set_cons_zero, List.set_cons_succ, i64_w, i32_w]
                      rfl
                    refine pure_ (i := 23) (N := some 68) (v := ?_) (a' := ?_) #[true, true, true, true, true, true, true, true, true, true, true, true, true, true, true, true, true, true, true, true, true, true, true, true, false, false, false, false, false, false, false, false, false, false, false, false, false, false, false, false, false, false, false, false, false, false, false, false] rfl rfl (any_of HT_.out (by kernel_rfl)) (fun _ _ _ h => h) (Or.inl ⟨by rfl, ?_⟩) ?_ ?_
                    rotate_left
                    · intro w'
                      go_simp
                      with_reducible rfl
                    rotate_left
                    · simp only [Act.put, List.setIfInBounds_toArray, List.set_cons_zero, List.set_cons_succ, i64_w, i32_w]
                      rfl
                    refine pure_ (i := 25) (N := some 70) (v := ?_) (a' := ?_) #[true, true, true, true, true, true, true, true, true, true, true, true, true, true, true, true, true, true, true, true, true, true, true, true, false, true, false, false, false, false, false, false, false, false, false, false, false, false, false, false, false, false, false, false, false, false, false, false] rfl rfl (any_of HT_.out (by kernel_rfl)) (fun _ _ _ h => h) (Or.inl ⟨by rfl, ?_⟩) ?_ ?_
                    rotate_left
                    · intro w'
                      go_simp
                      with_reducible rfl
                    rotate_left
                    · simp only [Act.put, List.setIfInBounds_toArray, List.set_cons_zero, List.set_cons_succ, i64_w, i32_w]
                      rfl
                    refine pure_ (i := 27) (N := some 72) (v := ?_) (a' := ?_) #[true, true, true, true, true, true, true, true, true, true, true, true, true, true, true, true, true, true, true, true, true, true, true, true, false, true, false, true, false, false, false, false, false, false, false, false, false, false, false, false, false, false, false, false, false, false, false, false] rfl rfl (any_of HT_.out (by kernel_rfl)) (fun _ _ _ h => h) (Or.inl ⟨by rfl, ?_⟩) ?_ ?_
                    rotate_left
                    · intro w'
                      go_simp
                      with_reducible rfl
                    rotate_left
                    · simp only [Act.put, List.setIfInBounds_toArray, List.set_cons_zero, List.set_cons_succ, i64_w, i32_w]
                      rfl
                    refine pure_ (i := 30) (N := some 75) (v := ?_) (a' := ?_) #[true, true, true, true, true, true, true, true, true, true, true, true, true, true, true, true, true, true, true, true, true, true, true, true, false, true, false, true, false, false, true, false, false, false, false, false, false, false, false, false, false, false, false, false, false, false, false, false] rfl rfl (any_of HT_.out (by kernel_rfl)) (fun _ _ _ h => h) (Or.inl ⟨by rfl, ?_⟩) ?_ ?_
                    rotate_left
                    · intro w'
                      go_simp
                      with_reducible rfl
                    rotate_left
                    · simp only [Act.put, List.setIfInBounds_toArray, List.set_cons_zero, List.set_cons_succ, i64_w, i32_w]
                      rfl
                    refine pure_ (i := 31) (N := some 76) (v := ?_) (a' := ?_) #[true, true, true, true, true, true, true, true, true, true, true, true, true, true, true, true, true, true, true, true, true, true, true, true, false, true, false, true, false, false, true, true, false, false, false, false, false, false, false, false, false, false, false, false, false, false, false, false] rfl rfl (any_of HT_.out (by kernel_rfl)) (fun _ _ _ h => h) (Or.inl ⟨by rfl, ?_⟩) ?_ ?_
                    rotate_left
                    · intro w'
                      go_simp
                      with_reducible rfl
                    rotate_left
                    · simp only [Act.put, List.setIfInBounds_toArray, List.set_cons_zero, List.set_cons_succ, i64_w, i32_w]
                      rfl
                    refine take_ (i := 24) (N := some 69) (v := ?_) (a' := ?_) #[true, true, true, true, true, true, true, true, true, true, true, true, true, true, true, true, true, true, true, true, true, true, true, true, true, true, false, true, false, false, true, true, false, false, false, false, false, false, false, false, false, false, false, false, false, false, false, false] rfl rfl (take_ofW HT_.out HW_.out (by kernel_rfl)) (fun _ _ _ h => h) (Or.inl ⟨by rfl, ?_⟩) hHeld ?_ ?_
                    rotate_left
                    · rintro w' ⟨s0, s1, s2, s3, s4, s5⟩
                      go_simp
                      with_reducible rfl
                    rotate_left
                    · simp only [Act.put, List.setIfInBounds_toArray, List.set_cons_zero, List.set_cons_succ, i64_w, i32_w]
                      rfl
                    refine take_ (i := 29) (N := some 74) (v := ?_) (a' := ?_) #[true, true, true, true, true, true, true, true, true, true, true, true, true, true, true, true, true, true, true, true, true, true, true, true, true, true, false, true, false, true, true, true, false, false, false, false, false, false, false, false, false, false, false, false, false, false, false, false] rfl rfl (take_ofW HT_.out HW_.out (by kernel_rfl)) (fun _ _ _ h => h) (Or.inl ⟨by rfl, ?_⟩) hHeld ?_ ?_
                    rotate_left
                    · rintro w' ⟨s0, s1, s2, s3, s4, s5⟩
                      go_simp
                      with_reducible rfl
                    rotate_left
                    · simp only [Act.put, List.setIfInBounds_toArray, List.set_cons_zero, List.set_cons_succ, i64_w, i32_w]
                      rfl
                    refine one_ (i := 26) (N := some 71) #[true, true, true, true, true, true, true, true, true, true, true, true, true, true, true, true, true, true, true, true, true, true, true, true, true, true, true, true, false, true, true, true, false, false, false, false, false, false, false, false, false, false, false, false, false, false, false, false] rfl rfl (one_of HT_.out (by kernel_rfl)) (by decide) (fun K hK => ?_)
                    refine goes_ Try.func19 (by kernel_rfl) rfl #[.agg #[.int .u64 a0_0, .int .u64 a0_1], .int .i64 (ji19)] (by rfl) rfl rfl (by (try simp only [List.map_toArray, List.map_cons, List.map_nil]); first | done | (simp only [hji19]; rfl) | rfl | (simp only [List.length_drop, List.length_take]; rfl)) ?_
                    with_reducible refine (wide_Num_Left.calls a0_0 a0_1 (ji19) t365 t366 _ A35.out).mono ?_
                    rintro e w63 ⟨rfl, hb⟩
                    refine ⟨_, rfl, ?_⟩
                    have n0_ := Aside0.mk (blk_below (g := gb338) (o := .cells #[.int .u64 a0_0, .int .u64 a0_1] 25 (0, 0)) (by exact BK338.out) hb)
                    have n1_ := Aside0.mk (blk_below (g := gb348) (o := .cells #[.int .u64 t345, .int .u64 t346] 25 (0, 0)) (by exact BK348.out) hb)
                    have n2_ := Aside0.mk (blk_below (g := gb356) (o := .cells #[.int .u64 t353, .int .u64 t354] 25 (0, 0)) (by exact BK356.out) hb)
                    have n3_ := Aside0.mk (below_step (by repeat (first | (with_reducible first | exact HB.out | apply below_alloc | apply pw_below_drewN | apply below_drew1 | refine below_set ?_ GE338.out | refine below_set ?_ GE348.out | refine below_set ?_ GE356.out) | exact HB.out)) hb)
                    clear BK338
                    clear BK348
                    clear BK356
                    clear HB
                    have BK338 := n0_
                    have BK348 := n1_
                    have BK356 := n2_
                    have HB := n3_
                    clear n0_ n1_ n2_ n3_
                    (try clear hb)
                    (try clear hb2)
                    (try clear hk)
                    (try clear hi)
                    refine hK.out _ _ ⟨(blk_cell BK348.out 0).trans rfl, (blk_cell BK348.out 1).trans rfl, (blk_cell BK338.out 0).trans rfl, (blk_cell BK338.out 1).trans rfl, (blk_cell BK356.out 0).trans rfl, (blk_cell BK356.out 1).trans rfl⟩ (fun hHeld => ?_)
                    clear hK K
                    refine norm_ (a' := ?_) ?_ ?_
                    rotate_left
                    · show Act.put _ (some 71) _ = _
                      simp only [Act.put, List.setIfInBounds_toArray, List.set_cons_zero, List.set_cons_succ, i64_w, i32_w]
                      rfl
                    refine one_ (i := 28) (N := some 73) #[true, true, true, true, true, true, true, true, true, true, true, true, true, true, true, true, true, true, true, true, true, true, true, true, true, true, true, true, true, true, true, true, false, false, false, false, false, false, false, false, false, false, false, false, false, false, false, false] rfl rfl (one_of HT_.out (by kernel_rfl)) (by decide) (fun K hK => ?_)
                    refine goes_ Try.func19 (by kernel_rfl) rfl #[.agg #[.int .u64 t365, .int .u64 t366], .int .i64 (ji19)] (by rfl) rfl rfl (by (try simp only [List.map_toArray, List.map_cons, List.map_nil]); first | done | (simp only [hji19]; rfl) | rfl | (simp only [List.length_drop, List.length_take]; rfl)) ?_
                    with_reducible refine (wide_Num_Left.calls t365 t366 (ji19) t367 t368 _ A36.out).mono ?_
                    rintro e w64 ⟨rfl, hb⟩
                    refine ⟨_, rfl, ?_⟩
                    have n0_ := Aside0.mk (blk_below (g := gb338) (o := .cells #[.int .u64 a0_0, .int .u64 a0_1] 25 (0, 0)) (by exact BK338.out) hb)
                    have n1_ := Aside0.mk (blk_below (g := gb348) (o := .cells #[.int .u64 t345, .int .u64 t346] 25 (0, 0)) (by exact BK348.out) hb)
                    have n2_ := Aside0.mk (blk_below (g := gb356) (o := .cells #[.int .u64 t353, .int .u64 t354] 25 (0, 0)) (by exact BK356.out) hb)
                    have n3_ := Aside0.mk (below_step (by repeat (first | (with_reducible first | exact HB.out | apply below_alloc | apply pw_below_drewN | apply below_drew1 | refine below_set ?_ GE338.out | refine below_set ?_ GE348.out | refine below_set ?_ GE356.out) | exact HB.out)) hb)
                    clear BK338
                    clear BK348
                    clear BK356
                    clear HB
                    have BK338 := n0_
                    have BK348 := n1_
                    have BK356 := n2_
                    have HB := n3_
                    clear n0_ n1_ n2_ n3_
                    (try clear hb)
                    (try clear hb2)
                    (try clear hk)
                    (try clear hi)
                    refine hK.out _ _ ⟨(blk_cell BK348.out 0).trans rfl, (blk_cell BK348.out 1).trans rfl, (blk_cell BK338.out 0).trans rfl, (blk_cell BK338.out 1).trans rfl, (blk_cell BK356.out 0).trans rfl, (blk_cell BK356.out 1).trans rfl⟩ (fun hHeld => ?_)
                    clear hK K
                    refine norm_ (a' := ?_) ?_ ?_
                    rotate_left
                    · show Act.put _ (some 73) _ = _
                      simp only [Act.put, List.setIfInBounds_toArray, List.set_cons_zero, List.set_cons_succ, i64_w, i32_w]
                      rfl
                    refine one_ (i := 32) (N := some 77) #[true, true, true, true, true, true, true, true, true, true, true, true, true, true, true, true, true, true, true, true, true, true, true, true, true, true, true, true, true, true, true, true, true, false, false, false, false, false, false, false, false, false, false, false, false, false, false, false] rfl rfl (one_of HT_.out (by kernel_rfl)) (by decide) (fun K hK => ?_)
                    refine goes_ Try.func19 (by kernel_rfl) rfl #[.agg #[.int .u64 a0_0, .int .u64 a0_1], .int .i64 (wrap64 (2 * (ji19)))] (by rfl) rfl rfl (by (try simp only [List.map_toArray, List.map_cons, List.map_nil]); first | done | (simp only [hji19]; rfl) | rfl | (simp only [List.length_drop, List.length_take]; rfl)) ?_
                    with_reducible refine (wide_Num_Left.calls a0_0 a0_1 (wrap64 (2 * (ji19))) t369 t370 _ A37.out).mono ?_
                    rintro e w65 ⟨rfl, hb⟩
                    refine ⟨_, rfl, ?_⟩
                    have n0_ := Aside0.mk (blk_below (g := gb338) (o := .cells #[.int .u64 a0_0, .int .u64 a0_1] 25 (0, 0)) (by exact BK338.out) hb)
                    have n1_ := Aside0.mk (blk_below (g := gb348) (o := .cells #[.int .u64 t345, .int .u64 t346] 25 (0, 0)) (by exact BK348.out) hb)
                    have n2_ := Aside0.mk (blk_below (g := gb356) (o := .cells #[.int .u64 t353, .int .u64 t354] 25 (0, 0)) (by exact BK356.out) hb)
                    have n3_ := Aside0.mk (below_step (by repeat (first | (with_reducible first | exact HB.out | apply below_alloc | apply pw_below_drewN | apply below_drew1 | refine below_set ?_ GE338.out | refine below_set ?_ GE348.out | refine below_set ?_ GE356.out) | exact HB.out)) hb)
                    clear BK338
                    clear BK348
                    clear BK356
                    clear HB
                    have BK338 := n0_
                    have BK348 := n1_
                    have BK356 := n2_
                    have HB := n3_
                    clear n0_ n1_ n2_ n3_
                    (try clear hb)
                    (try clear hb2)
                    (try clear hk)
                    (try clear hi)
                    refine hK.out _ _ ⟨(blk_cell BK348.out 0).trans rfl, (blk_cell BK348.out 1).trans rfl, (blk_cell BK338.out 0).trans rfl, (blk_cell BK338.out 1).trans rfl, (blk_cell BK356.out 0).trans rfl, (blk_cell BK356.out 1).trans rfl⟩ (fun hHeld => ?_)
                    clear hK K
                    refine norm_ (a' := ?_) ?_ ?_
                    rotate_left
                    · show Act.put _ (some 77) _ = _
                      simp only [Act.put, List.setIfInBounds_toArray, List.set_cons_zero, List.set_cons_succ, i64_w, i32_w]
                      rfl
                    refine pure_ (i := 33) (N := some 78) (v := ?_) (a' := ?_) #[true, true, true, true, true, true, true, true, true, true, true, true, true, true, true, true, true, true, true, true, true, true, true, true, true, true, true, true, true, true, true, true, true, true, false, false, false, false, false, false, false, false, false, false, false, false, false, false] rfl rfl (any_of HT_.out (by kernel_rfl)) (fun _ _ _ h => h) (Or.inl ⟨by rfl, ?_⟩) ?_ ?_
                    rotate_left
                    · intro w'
                      go_simp
                      with_reducible rfl
                    rotate_left
                    · simp only [Act.put, List.setIfInBounds_toArray, List.set_cons_zero, List.set_cons_succ, i64_w, i32_w]
                      rfl
                    refine pure_ (i := 34) (N := some 79) (v := ?_) (a' := ?_) #[true, true, true, true, true, true, true, true, true, true, true, true, true, true, true, true, true, true, true, true, true, true, true, true, true, true, true, true, true, true, true, true, true, true, true, false, false, false, false, false, false, false, false, false, false, false, false, false] rfl rfl (any_of HT_.out (by kernel_rfl)) (fun _ _ _ h => h) (Or.inl ⟨by rfl, ?_⟩) ?_ ?_
                    rotate_left
                    · intro w'
                      go_simp
                      with_reducible rfl
                    rotate_left
                    · simp only [Act.put, List.setIfInBounds_toArray, List.set_cons_zero, List.set_cons_succ, i64_w, i32_w]
                      rfl
                    refine pure_ (i := 35) (N := some 80) (v := ?_) (a' := ?_) #[true, true, true, true, true, true, true, true, true, true, true, true, true, true, true, true, true, true, true, true, true, true, true, true, true, true, true, true, true, true, true, true, true, true, true, true, false, false, false, false, false, false, false, false, false, false, false, false] rfl rfl (any_of HT_.out (by kernel_rfl)) (fun _ _ _ h => h) (Or.inl ⟨by rfl, ?_⟩) ?_ ?_
                    rotate_left
                    · intro w'
                      go_simp
                      with_reducible rfl
                    rotate_left
                    · simp only [Act.put, List.setIfInBounds_toArray, List.set_cons_zero, List.set_cons_succ, i64_w, i32_w]
                      rfl
                    refine pure_ (i := 37) (N := some 82) (v := ?_) (a' := ?_) #[true, true, true, true, true, true, true, true, true, true, true, true, true, true, true, true, true, true, true, true, true, true, true, true, true, true, true, true, true, true, true, true, true, true, true, true, false, true, false, false, false, false, false, false, false, false, false, false] rfl rfl (any_of HT_.out (by kernel_rfl)) (fun _ _ _ h => h) (Or.inl ⟨by rfl, ?_⟩) ?_ ?_
                    rotate_left
                    · intro w'
                      go_simp
                      with_reducible rfl
                    rotate_left
                    · simp only [Act.put, List.setIfInBounds_toArray, List.set_cons_zero, List.set_cons_succ, i64_w, i32_w]
                      rfl
                    refine pure_ (i := 39) (N := some 84) (v := ?_) (a' := ?_) #[true, true, true, true, true, true, true, true, true, true, true, true, true, true, true, true, true, true, true, true, true, true, true, true, true, true, true, true, true, true, true, true, true, true, true, true, false, true, false, true, false, false, false, false, false, false, false, false] rfl rfl (any_of HT_.out (by kernel_rfl)) (fun _ _ _ h => h) (Or.inl ⟨by rfl, ?_⟩) ?_ ?_
                    rotate_left
                    · intro w'
                      go_simp
                      with_reducible rfl
                    rotate_left
                    · simp only [Act.put, List.setIfInBounds_toArray, List.set_cons_zero, List.set_cons_succ, i64_w, i32_w]
                      rfl
                    refine pure_ (i := 42) (N := some 87) (v := ?_) (a' := ?_) #[true, true, true, true, true, true, true, true, true, true, true, true, true, true, true, true, true, true, true, true, true, true, true, true, true, true, true, true, true, true, true, true, true, true, true, true, false, true, false, true, false, false, true, false, false, false, false, false] rfl rfl (any_of HT_.out (by kernel_rfl)) (fun _ _ _ h => h) (Or.inl ⟨by rfl, ?_⟩) ?_ ?_
                    rotate_left
                    · intro w'
                      go_simp
                      with_reducible rfl
                    rotate_left
                    · simp only [Act.put, List.setIfInBounds_toArray, List.set_cons_zero, List.set_cons_succ, i64_w, i32_w]
                      rfl
                    refine pure_ (i := 43) (N := some 88) (v := ?_) (a' := ?_) #[true, true, true, true, true, true, true, true, true, true, true, true, true, true, true, true, true, true, true, true, true, true, true, true, true, true, true, true, true, true, true, true, true, true, true, true, false, true, false, true, false, false, true, true, false, false, false, false] rfl rfl (any_of HT_.out (by kernel_rfl)) (fun _ _ _ h => h) (Or.inl ⟨by rfl, ?_⟩) ?_ ?_
                    rotate_left
                    · intro w'
                      go_simp
                      with_reducible rfl
                    rotate_left
                    · simp only [Act.put, List.setIfInBounds_toArray, List.set_cons_zero, List.set_cons_succ, i64_w, i32_w]
                      rfl
                    refine take_ (i := 36) (N := some 81) (v := ?_) (a' := ?_) #[true, true, true, true, true, true, true, true, true, true, true, true, true, true, true, true, true, true, true, true, true, true, true, true, true, true, true, true, true, true, true, true, true, true, true, true, true, true, false, true, false, false, true, true, false, false, false, false] rfl rfl (take_ofW HT_.out HW_.out (by kernel_rfl)) (fun _ _ _ h => h) (Or.inl ⟨by rfl, ?_⟩) hHeld ?_ ?_
                    rotate_left
                    · rintro w' ⟨s0, s1, s2, s3, s4, s5⟩
                      go_simp
                      with_reducible rfl
                    rotate_left
                    · simp only [Act.put, List.setIfInBounds_toArray, List.set_cons_zero, List.set_cons_succ, i64_w, i32_w]
                      rfl
                    refine take_ (i := 41) (N := some 86) (v := ?_) (a' := ?_) #[true, true, true, true, true, true, true, true, true, true, true, true, true, true, true, true, true, true, true, true, true, true, true, true, true, true, true, true, true, true, true, true, true, true, true, true, true, true, false, true, false, true, true, true, false, false, false, false] rfl rfl (take_ofW HT_.out HW_.out (by kernel_rfl)) (fun _ _ _ h => h) (Or.inl ⟨by rfl, ?_⟩) hHeld ?_ ?_
                    rotate_left
                    · rintro w' ⟨s0, s1, s2, s3, s4, s5⟩
                      go_simp
                      with_reducible rfl
                    rotate_left
                    · simp only [Act.put, List.setIfInBounds_toArray, List.set_cons_zero, List.set_cons_succ, i64_w, i32_w]
                      rfl
                    refine one_ (i := 38) (N := some 83) #[true, true, true, true, true, true, true, true, true, true, true, true, true, true, true, true, true, true, true, true, true, true, true, true, true, true, true, true, true, true, true, true, true, true, true, true, true, true, true, true, false, true, true, true, false, false, false, false] rfl rfl (one_of HT_.out (by kernel_rfl)) (by decide) (fun K hK => ?_)
                    refine goes_ Try.func21 (by kernel_rfl) rfl #[.agg #[.int .u64 a0_0, .int .u64 a0_1], .int .i64 (ji19)] (by rfl) rfl rfl (by (try simp only [List.map_toArray, List.map_cons, List.map_nil]); first | done | (simp only [hji19]; rfl) | rfl | (simp only [List.length_drop, List.length_take]; rfl)) ?_
                    with_reducible refine (wide_Num_Right.calls a0_0 a0_1 (ji19) t371 t372 _ A39.out).mono ?_
                    rintro e w66 ⟨rfl, hb⟩
                    refine ⟨_, rfl, ?_⟩
                    have n0_ := Aside0.mk (blk_below (g := gb338) (o := .cells #[.int .u64 a0_0, .int .u64 a0_1] 25 (0, 0)) (by exact BK338.out) hb)
                    have n1_ := Aside0.mk (blk_below (g := gb348) (o := .cells #[.int .u64 t345, .int .u64 t346] 25 (0, 0)) (by exact BK348.out) hb)
                    have n2_ := Aside0.mk (blk_below (g := gb356) (o := .cells #[.int .u64 t353, .int .u64 t354] 25 (0, 0)) (by exact BK356.out) hb)
                    have n3_ := Aside0.mk (below_step (by repeat (first | (with_reducible first | exact HB.out | apply below_alloc | apply pw_below_drewN | apply below_drew1 | refine below_set ?_ GE338.out | refine below_set ?_ GE348.out | refine below_set ?_ GE356.out) | exact HB.out)) hb)
                    clear BK338
                    clear BK348
                    clear BK356
                    clear HB
                    have BK338 := n0_
                    have BK348 := n1_
                    have BK356 := n2_
                    have HB := n3_
                    clear n0_ n1_ n2_ n3_
                    (try clear hb)
                    (try clear hb2)
                    (try clear hk)
                    (try clear hi)
                    refine hK.out _ _ ⟨(blk_cell BK348.out 0).trans rfl, (blk_cell BK348.out 1).trans rfl, (blk_cell BK338.out 0).trans rfl, (blk_cell BK338.out 1).trans rfl, (blk_cell BK356.out 0).trans rfl, (blk_cell BK356.out 1).trans rfl⟩ (fun hHeld => ?_)
                    clear hK K
                    refine norm_ (a' := ?_) ?_ ?_
                    rotate_left
                    · show Act.put _ (some 83) _ = _
                      simp only [Act.put, List.setIfInBounds_toArray, List.set_cons_zero, List.set_cons_succ, i64_w, i32_w]
                      rfl
                    refine one_ (i := 40) (N := some 85) #[true, true, true, true, true, true, true, true, true, true, true, true, true, true, true, true, true, true, true, true, true, true, true, true, true, true, true, true, true, true, true, true, true, true, true, true, true, true, true, true, true, true, true, true, false, false, false, false] rfl rfl (one_of HT_.out (by kernel_rfl)) (by decide) (fun K hK => ?_)
                    refine goes_ Try.func21 (by kernel_rfl) rfl #[.agg #[.int .u64 t371, .int .u64 t372], .int .i64 (ji19)] (by rfl) rfl rfl (by (try simp only [List.map_toArray, List.map_cons, List.map_nil]); first | done | (simp only [hji19]; rfl) | rfl | (simp only [List.length_drop, List.length_take]; rfl)) ?_
                    with_reducible refine (wide_Num_Right.calls t371 t372 (ji19) t373 t374 _ A40.out).mono ?_
                    rintro e w67 ⟨rfl, hb⟩
                    refine ⟨_, rfl, ?_⟩
                    have n0_ := Aside0.mk (blk_below (g := gb338) (o := .cells #[.int .u64 a0_0, .int .u64 a0_1] 25 (0, 0)) (by exact BK338.out) hb)
                    have n1_ := Aside0.mk (blk_below (g := gb348) (o := .cells #[.int .u64 t345, .int .u64 t346] 25 (0, 0)) (by exact BK348.out) hb)
                    have n2_ := Aside0.mk (blk_below (g := gb356) (o := .cells #[.int .u64 t353, .int .u64 t354] 25 (0, 0)) (by exact BK356.out) hb)
                    have n3_ := Aside0.mk (below_step (by repeat (first | (with_reducible first | exact HB.out | apply below_alloc | apply pw_below_drewN | apply below_drew1 | refine below_set ?_ GE338.out | refine below_set ?_ GE348.out | refine below_set ?_ GE356.out) | exact HB.out)) hb)
                    clear BK338
                    clear BK348
                    clear BK356
                    clear HB
                    have BK338 := n0_
                    have BK348 := n1_
                    have BK356 := n2_
                    have HB := n3_
                    clear n0_ n1_ n2_ n3_
                    (try clear hb)
                    (try clear hb2)
                    (try clear hk)
                    (try clear hi)
                    refine hK.out _ _ ⟨(blk_cell BK348.out 0).trans rfl, (blk_cell BK348.out 1).trans rfl, (blk_cell BK338.out 0).trans rfl, (blk_cell BK338.out 1).trans rfl, (blk_cell BK356.out 0).trans rfl, (blk_cell BK356.out 1).trans rfl⟩ (fun hHeld => ?_)
                    clear hK K
                    refine norm_ (a' := ?_) ?_ ?_
                    rotate_left
                    · show Act.put _ (some 85) _ = _
                      simp only [Act.put, List.setIfInBounds_toArray, List.set_cons_zero, List.set_cons_succ, i64_w, i32_w]
                      rfl
                    refine one_ (i := 44) (N := some 89) #[true, true, true, true, true, true, true, true, true, true, true, true, true, true, true, true, true, true, true, true, true, true, true, true, true, true, true, true, true, true, true, true, true, true, true, true, true, true, true, true, true, true, true, true, true, false, false, false] rfl rfl (one_of HT_.out (by kernel_rfl)) (by decide) (fun K hK => ?_)
                    refine goes_ Try.func21 (by kernel_rfl) rfl #[.agg #[.int .u64 a0_0, .int .u64 a0_1], .int .i64 (wrap64 (2 * (ji19)))] (by rfl) rfl rfl (by (try simp only [List.map_toArray, List.map_cons, List.map_nil]); first | done | (simp only [hji19]; rfl) | rfl | (simp only [List.length_drop, List.length_take]; rfl)) ?_
                    with_reducible refine (wide_Num_Right.calls a0_0 a0_1 (wrap64 (2 * (ji19))) t375 t376 _ A41.out).mono ?_
                    rintro e w68 ⟨rfl, hb⟩
                    refine ⟨_, rfl, ?_⟩
                    have n0_ := Aside0.mk (blk_below (g := gb338) (o := .cells #[.int .u64 a0_0, .int .u64 a0_1] 25 (0, 0)) (by exact BK338.out) hb)
                    have n1_ := Aside0.mk (blk_below (g := gb348) (o := .cells #[.int .u64 t345, .int .u64 t346] 25 (0, 0)) (by exact BK348.out) hb)
                    have n2_ := Aside0.mk (blk_below (g := gb356) (o := .cells #[.int .u64 t353, .int .u64 t354] 25 (0, 0)) (by exact BK356.out) hb)
                    have n3_ := Aside0.mk (below_step (by repeat (first | (with_reducible first | exact HB.out | apply below_alloc | apply pw_below_drewN | apply below_drew1 | refine below_set ?_ GE338.out | refine below_set ?_ GE348.out | refine below_set ?_ GE356.out) | exact HB.out)) hb)
                    clear BK338
                    clear BK348
                    clear BK356
                    clear HB
                    have BK338 := n0_
                    have BK348 := n1_
                    have BK356 := n2_
                    have HB := n3_
                    clear n0_ n1_ n2_ n3_
                    (try clear hb)
                    (try clear hb2)
                    (try clear hk)
                    (try clear hi)
                    refine hK.out _ _ ⟨(blk_cell BK348.out 0).trans rfl, (blk_cell BK348.out 1).trans rfl, (blk_cell BK338.out 0).trans rfl, (blk_cell BK338.out 1).trans rfl, (blk_cell BK356.out 0).trans rfl, (blk_cell BK356.out 1).trans rfl⟩ (fun hHeld => ?_)
                    clear hK K
                    refine norm_ (a' := ?_) ?_ ?_
                    rotate_left
                    · show Act.put _ (some 89) _ = _
                      simp only [Act.put, List.setIfInBounds_toArray, List.set_cons_zero, List.set_cons_succ, i64_w, i32_w]
                      rfl
                    refine pure_ (i := 45) (N := some 90) (v := ?_) (a' := ?_) #[true, true, true, true, true, true, true, true, true, true, true, true, true, true, true, true, true, true, true, true, true, true, true, true, true, true, true, true, true, true, true, true, true, true, true, true, true, true, true, true, true, true, true, true, true, true, false, false] rfl rfl (any_of HT_.out (by kernel_rfl)) (fun _ _ _ h => h) (Or.inl ⟨by rfl, ?_⟩) ?_ ?_
                    rotate_left
                    · intro w'
                      go_simp
                      with_reducible rfl
                    rotate_left
                    · simp only [Act.put, List.setIfInBounds_toArray, List.set_cons_zero, List.set_cons_succ, i64_w, i32_w]
                      rfl
                    refine pure_ (i := 46) (N := some 91) (v := ?_) (a' := ?_) #[true, true, true, true, true, true, true, true, true, true, true, true, true, true, true, true, true, true, true, true, true, true, true, true, true, true, true, true, true, true, true, true, true, true, true, true, true, true, true, true, true, true, true, true, true, true, true, false] rfl rfl (any_of HT_.out (by kernel_rfl)) (fun _ _ _ h => h) (Or.inl ⟨by rfl, ?_⟩) ?_ ?_
                    rotate_left
                    · intro w'
                      go_simp
                      with_reducible rfl
                    rotate_left
                    · simp only [Act.put, List.setIfInBounds_toArray, List.set_cons_zero, List.set_cons_succ, i64_w, i32_w]
                      rfl
                    refine pure_ (i := 47) (N := some 4) (v := ?_) (a' := ?_) #[true, true, true, true, true, true, true, true, true, true, true, true, true, true, true, true, true, true, true, true, true, true, true, true, true, true, true, true, true, true, true, true, true, true, true, true, true, true, true, true, true, true, true, true, true, true, true, true] rfl rfl (any_of HT_.out (by kernel_rfl)) (fun _ _ _ h => h) (Or.inl ⟨by rfl, ?_⟩) ?_ ?_
                    rotate_left
                    · intro w'
                      go_simp
                      with_reducible rfl
                    rotate_left
                    · simp only [Act.put, List.setIfInBounds_toArray, List.set_cons_zero, List.set_cons_succ, i64_w, i32_w]
                      rfl
                    refine done_ (done_of HT_.out (by kernel_rfl)) ?_
                    try go_wp2
                    go_ret
                    exact ⟨by first | rfl | (simp [errW_none, errW_some] <;> rfl) | (simp only [← hji19, ← hji21]; first | rfl | (simp [errW_none, errW_some] <;> rfl)) | (simp [*, errW_none, errW_some] <;> rfl), by repeat (first | (with_reducible first | exact HB.out | apply below_alloc | apply pw_below_drewN | apply below_drew1 | refine below_set ?_ GE338.out | refine below_set ?_ GE348.out | refine below_set ?_ GE356.out) | exact HB.out)⟩
                  · rw [if_neg c38] at H
                    exact absurd H (by simp)
                · rw [if_neg c34] at H
                  exact absurd H (by simp)
              · rw [if_neg c28] at H
                exact absurd H (by simp)
            · rw [if_neg c27] at H
              exact absurd H (by simp)
          · rw [if_neg c20] at H
            exact absurd H (by simp)
  · replace c4 := Bool.eq_false_iff.mpr c4
    subst c4
    have H1 : (none) = some r := by rw [if_neg (show ¬ (false = true) by decide)] at H; exact H
    clear H
    have H := H1
    clear H1
    exact absurd H (by simp)

end Go.Proofs.Ytdgbehbiigggmaa.G

-- Laid by a program of this claim's session (wip/tools/myprint.py) over the kit's printer.
import Derived.Test.YtiiffgmbkajkhaaLx0
import Derived.Test.YtiiffgmbkajkhaaLx2
import Derived.Test.YtiiffgmbkajkhaaLx4
namespace Go.Proofs.Ytiiffgmbkajkhaa.L
open Go.RowKit Go.Proofs.YtiiffgmbkajkhaaW.PrintWords Go.Proofs.YtiiffgmbkajkhaaW.PrintLast Go.Proofs.YtiiffgmbkajkhaaW.PrintMore
attribute [local go_sem] max2_int min2_int max_two min_two max_three min_three max_four min_four   -- for this text's walks alone
set_option linter.unusedVariables false
set_option linter.unusedSimpArgs false

/-! ### fix_signed: function 42 -/
mutual
def fix_signed.j0 : Nat → Bool → Bool → Int → Int → Option (Int)
 | 0, _, _, _, _ => none
 | k + 1, x1, x11, x146000, x146001 => if x11 = true then ((wide_Of.f 1).bind fun bt146 => ((wide_Num_Add.f x146000 x146001 bt146.1 bt146.2).bind fun bt148 => (fix_signed.j1 k x1 bt148.1 bt148.2.1))) else (fix_signed.j1 k x1 x146000 x146001)
def fix_signed.j1 : Nat → Bool → Int → Int → Option (Int)
 | 0, _, _, _ => none
 | k + 1, x1, x146000, x146001 => if x1 = true then (fix_signed.j2 k x1 (9223372036854775807 + 1) x146000 x146001) else (fix_signed.j2 k x1 9223372036854775807 x146000 x146001)
def fix_signed.j2 : Nat → Bool → Int → Int → Int → Option (Int)
 | 0, _, _, _, _ => none
 | k + 1, x1, x7, x146000, x146001 => (wide_Of.f x7).bind fun bt151 => ((wide_Num_Cmp.f k x146000 x146001 bt151.1 bt151.2).bind fun t153 => (if t153 > 0 then ((fix_end.f x1).bind fun t154 => (some t154)) else (if x1 = true then (some (wrap64 (IntKind.u64.wrap (-x146001)))) else (some (wrap64 (x146001))))))
end
def fix_signed.f (k : Nat) (a0_0 : Int) (a0_1 : Int) (a1 : Bool) (a2 : Bool) : Option (Int) := if a1 = true then (fix_signed.j0 k a1 a2 a0_0 a0_1) else (fix_signed.j0 k a1 false a0_0 a0_1)
theorem fix_signed.mono_l : ∀ k, (∀ y0 y1 y2 y3, LeO (fix_signed.j0 k y0 y1 y2 y3) (fix_signed.j0 (k + 1) y0 y1 y2 y3)) ∧ (∀ y0 y1 y2, LeO (fix_signed.j1 k y0 y1 y2) (fix_signed.j1 (k + 1) y0 y1 y2)) ∧ (∀ y0 y1 y2 y3, LeO (fix_signed.j2 k y0 y1 y2 y3) (fix_signed.j2 (k + 1) y0 y1 y2 y3))
 | 0 => ⟨fun _ _ _ _ r h => by simp [fix_signed.j0] at h, fun _ _ _ r h => by simp [fix_signed.j1] at h, fun _ _ _ _ r h => by simp [fix_signed.j2] at h⟩
 | k + 1 => by
  obtain ⟨ih0, ih1, ih2⟩ := fix_signed.mono_l k
  refine ⟨?_, ?_, ?_⟩
  ·intro y0 y1 y2 y3
   unfold fix_signed.j0
   repeat' first
   | (with_reducible exact ih0 _ _ _ _)
   | (with_reducible exact ih1 _ _ _)
   | (with_reducible exact ih2 _ _ _ _)
   | (with_reducible exact wide_Num_Cmp.mono _ _ _ _ _)
   | (with_reducible exact LeO.refl _)
   | (with_reducible exact LeO.none _)
   | (with_reducible refine LeO.ite ?_ ?_)
   | (with_reducible refine LeO.bind ?_ (fun _ => ?_))
   | exact ih0 _ _ _ _
   | exact ih1 _ _ _
   | exact ih2 _ _ _ _
   | exact wide_Num_Cmp.mono _ _ _ _ _
   | exact LeO.none _
   | refine LeO.ite ?_ ?_
   | refine LeO.bind ?_ (fun _ => ?_)
  ·intro y0 y1 y2
   unfold fix_signed.j1
   repeat' first
   | (with_reducible exact ih0 _ _ _ _)
   | (with_reducible exact ih1 _ _ _)
   | (with_reducible exact ih2 _ _ _ _)
   | (with_reducible exact wide_Num_Cmp.mono _ _ _ _ _)
   | (with_reducible exact LeO.refl _)
   | (with_reducible exact LeO.none _)
   | (with_reducible refine LeO.ite ?_ ?_)
   | (with_reducible refine LeO.bind ?_ (fun _ => ?_))
   | exact ih0 _ _ _ _
   | exact ih1 _ _ _
   | exact ih2 _ _ _ _
   | exact wide_Num_Cmp.mono _ _ _ _ _
   | exact LeO.none _
   | refine LeO.ite ?_ ?_
   | refine LeO.bind ?_ (fun _ => ?_)
  ·intro y0 y1 y2 y3
   unfold fix_signed.j2
   repeat' first
   | (with_reducible exact ih0 _ _ _ _)
   | (with_reducible exact ih1 _ _ _)
   | (with_reducible exact ih2 _ _ _ _)
   | (with_reducible exact wide_Num_Cmp.mono _ _ _ _ _)
   | (with_reducible exact LeO.refl _)
   | (with_reducible exact LeO.none _)
   | (with_reducible refine LeO.ite ?_ ?_)
   | (with_reducible refine LeO.bind ?_ (fun _ => ?_))
   | exact ih0 _ _ _ _
   | exact ih1 _ _ _
   | exact ih2 _ _ _ _
   | exact wide_Num_Cmp.mono _ _ _ _ _
   | exact LeO.none _
   | refine LeO.ite ?_ ?_
   | refine LeO.bind ?_ (fun _ => ?_)
theorem fix_signed.mono : ∀ a0 a1 a2 a3 k, LeO (fix_signed.f k a0 a1 a2 a3) (fix_signed.f (k + 1) a0 a1 a2 a3) := by
 intro a0 a1 a2 a3 k
 obtain ⟨ih0, ih1, ih2⟩ := fix_signed.mono_l k
 unfold fix_signed.f
 repeat' first
   | (with_reducible exact ih0 _ _ _ _)
   | (with_reducible exact ih1 _ _ _)
   | (with_reducible exact ih2 _ _ _ _)
   | (with_reducible exact wide_Num_Cmp.mono _ _ _ _ _)
   | (with_reducible exact LeO.refl _)
   | (with_reducible exact LeO.none _)
   | (with_reducible refine LeO.ite ?_ ?_)
   | (with_reducible refine LeO.bind ?_ (fun _ => ?_))
   | exact ih0 _ _ _ _
   | exact ih1 _ _ _
   | exact ih2 _ _ _ _
   | exact wide_Num_Cmp.mono _ _ _ _ _
   | exact LeO.none _
   | refine LeO.ite ?_ ?_
   | refine LeO.bind ?_ (fun _ => ?_)
set_option maxHeartbeats 8000000 in
set_option maxRecDepth 100000 in
theorem fix_signed.calls (k : Nat) (a0_0 : Int) (a0_1 : Int) (a1 : Bool) (a2 : Bool) (r : Int) (w : World) (h : fix_signed.f k a0_0 a0_1 a1 a2 = some r) :
  Calls Try.prog 42 #[.agg #[.int .u64 a0_0, .int .u64 a0_1], .bool a1, .bool a2] w fun e w' => e = .returned (.int .i64 r) ∧ Below w.heap.size w w' := by
 have hu70 := Try.underlying70
 have HB := m_ (Below.refl w.heap.size w)
 have H : (if a1 = true then (fix_signed.j0 k a1 a2 a0_0 a0_1) else (fix_signed.j0 k a1 false a0_0 a0_1)) = some r := h
 clear h
 have HC4 := Aside0.mk H
 clear H
 go_enter Try.func42, Try.ntmps42
 go_upto_region 1 with (first | ((with_reducible refine gate_dst (N := 3) rfl ?_); refine box_event ?hg (N := 3) ?hd (cs := #[.int .u64 a0_0, .int .u64 a0_1]) (t := 70) ?hr ?_; (case hd => rfl); (case hg => rfl); (case hr => first | (go_simp; done) | (go_simp; rfl)); intro gb145 hg w5 hbox hb; have BK145 := m_ (hbox); have GW145 := ge_ (by repeat (with_reducible first | exact HB.out | apply below_drew1 | apply pw_below_drewN)) hg; have GE145 := GW145; replace HB := st_ (by repeat (with_reducible first | exact HB.out | apply below_drew1 | apply pw_below_drewN)) hb; clear hb hbox hg))
 (try simp only [Act.put, sa_, s0_, ss_])
 go_cut [11] (fun v11 wc => ∃ (kq : Nat) (x11_3 : Bool), v11 = .bool x11_3 ∧ Aside0 (fix_signed.j0 kq a1 x11_3 a0_0 a0_1 = some r) ∧ Aside0 (kq ≤ k) ∧ Aside0 (wc.heap[gb145]? = some (.cells #[.int .u64 a0_0, .int .u64 a0_1] 70 (0, 0))) ∧ Aside0 (Below w.heap.size w wc))
 case first =>
  have H := HC4.out
  clear HC4
  by_cases c6 : a1 = true
  ·subst c6
   have H1 : (fix_signed.j0 k true a2 a0_0 a0_1) = some r := by rw [if_pos rfl] at H; exact H
   clear H
   have H := H1
   clear H1
   have H' := Aside0.mk H
   clear H
   go_wp2
   go_meet
   case rel => exact ⟨_, (a2), (by first | rfl | (simp; done) | (simp [*]; done)), H', ⟨by first | omega | exact Nat.le_refl _⟩, ⟨by exact BK145.out⟩, ⟨by repeat (with_reducible first | exact HB.out | apply bs_ GE145 | apply below_drew1 | apply pw_below_drewN)⟩⟩
  ·replace c6 := Bool.eq_false_iff.mpr c6
   subst c6
   have H1 : (fix_signed.j0 k false false a0_0 a0_1) = some r := by rw [if_neg (show ¬ (false = true) by decide)] at H; exact H
   clear H
   have H := H1
   clear H1
   have H' := Aside0.mk H
   clear H
   go_wp2
   go_meet
   case rel => exact ⟨_, (false), (by first | rfl | (simp; done) | (simp [*]; done)), H', ⟨by first | omega | exact Nat.le_refl _⟩, ⟨by exact BK145.out⟩, ⟨by repeat (with_reducible first | exact HB.out | apply bs_ GE145 | apply below_drew1 | apply pw_below_drewN)⟩⟩
 case rest =>
  clear HC4
  try clear p2
  try clear c4
  try clear c6
  (try clear BK145); (try clear HB)
  obtain ⟨kq, x11_3, rfl, HA, HJ3, BK145, HB⟩ := hcut
  cases kq with
  | zero => exact absurd HA.out (by simp [fix_signed.j0])
  | succ kj3 =>
   have H := HA.out
   clear HA
   simp only [fix_signed.j0] at H
   have HC7 := Aside0.mk H
   clear H
   go_upto_if 11 with (fail)
   go_cut [] (fun wc => ∃ (kq : Nat) (x146000_6 : Int) (x146001_6 : Int), Aside0 (fix_signed.j1 kq a1 x146000_6 x146001_6 = some r) ∧ Aside0 (kq ≤ kj3) ∧ Aside0 (wc.heap[gb145]? = some (.cells #[.int .u64 x146000_6, .int .u64 x146001_6] 70 (0, 0))) ∧ Aside0 (Below w.heap.size w wc))
   case first =>
    have H := HC7.out
    clear HC7
    by_cases c8 : x11_3 = true
    ·subst c8
     have H1 : ((wide_Of.f 1).bind fun bt146 => ((wide_Num_Add.f a0_0 a0_1 bt146.1 bt146.2).bind fun bt148 => (fix_signed.j1 kj3 a1 bt148.1 bt148.2.1))) = some r := by rw [if_pos rfl] at H; exact H
     clear H
     have H := H1
     clear H1
     replace H := Option.bind_eq_some_iff.mp H
     obtain ⟨⟨t146, t147⟩, A90, H⟩ := H
     replace H : ((wide_Num_Add.f a0_0 a0_1 t146 t147).bind fun bt148 => (fix_signed.j1 kj3 a1 bt148.1 bt148.2.1)) = some r := H
     have A9 := Aside0.mk A90
     clear A90
     replace H := Option.bind_eq_some_iff.mp H
     obtain ⟨⟨t148, t149, t150⟩, A100, H⟩ := H
     replace H : (fix_signed.j1 kj3 a1 t148 t149) = some r := H
     have A10 := Aside0.mk A100
     clear A100
     have H' := Aside0.mk H
     clear H
     try go_wp2
     replace BK145 := m_ (blk_drew BK145.out)
     replace HB := m_ (below_drew1 HB.out)
     refine start_ (n := 7) (S := fun w' => w'.cell? ⟨gb145, 0, none⟩ = some (.int .u64 a0_0) ∧ w'.cell? ⟨gb145, 1, none⟩ = some (.int .u64 a0_1)) (ds := [6]) #[false, false, false, false, false, false, false] (by kernel_rfl) rfl rfl ⟨(blk_cell BK145.out 0).trans rfl, (blk_cell BK145.out 1).trans rfl⟩ (fun hHeld => ?_)
     generalize wc.drew = w11 at BK145 HB hHeld ⊢
     refine take_ (i := 0) (N := some 13) (v := ?_) (a' := ?_) #[true, false, false, false, false, false, false] rfl rfl (by kernel_rfl) (fun _ _ _ h => h) (Or.inl ⟨by rfl, ?_⟩) hHeld ?_ ?_
     rotate_left
     ·rintro w' ⟨s0, s1⟩
      go_simp
      with_reducible rfl
     rotate_left
     ·simp only [Act.put, sa_, s0_, ss_, i64_w, i32_w]
      rfl
     refine one_ (i := 1) (N := some 14) #[true, true, false, false, false, false, false] rfl rfl (by kernel_rfl) (by decide) (fun K hK => ?_)
     refine goes_ Try.func48 (by kernel_rfl) rfl #[.int .u64 1] (by rfl) rfl rfl (by first | rfl | (simp only [List.map_toArray, List.map_cons, List.map_nil]; first | done | rfl)) ?_
     with_reducible refine (wide_Of.calls 1 t146 t147 _ A9.out).mono ?_
     rintro e w12 ⟨rfl, hb⟩
     refine ⟨_, rfl, ?_⟩
     replace BK145 := bb_ BK145 hb
     replace HB := st_ (by repeat (with_reducible first | exact HB.out | apply bs_ GE145 | apply below_drew1 | apply pw_below_drewN)) hb
     (try clear hb)
     (try clear hb2)
     (try clear hk)
     (try clear hi)
     refine hK.out _ _ ⟨(blk_cell BK145.out 0).trans rfl, (blk_cell BK145.out 1).trans rfl⟩ (fun hHeld => ?_)
     clear hK K
     refine norm_ (a' := ?_) ?_ ?_
     rotate_left
     ·show Act.put _ (some 14) _ = _
      simp only [Act.put, sa_, s0_, ss_, i64_w, i32_w]
      rfl
     refine one_ (i := 2) (N := some 15) #[true, true, true, false, false, false, false] rfl rfl (by kernel_rfl) (by decide) (fun K hK => ?_)
     refine goes_ Try.func47 (by kernel_rfl) rfl #[.agg #[.int .u64 a0_0, .int .u64 a0_1], .agg #[.int .u64 t146, .int .u64 t147]] (by rfl) rfl rfl (by first | rfl | (simp only [List.map_toArray, List.map_cons, List.map_nil]; first | done | rfl)) ?_
     with_reducible refine (wide_Num_Add.calls a0_0 a0_1 t146 t147 t148 t149 t150 _ A10.out).mono ?_
     rintro e w13 ⟨rfl, hb⟩
     refine ⟨_, rfl, ?_⟩
     replace BK145 := bb_ BK145 hb
     replace HB := st_ (by repeat (with_reducible first | exact HB.out | apply bs_ GE145 | apply below_drew1 | apply pw_below_drewN)) hb
     (try clear hb)
     (try clear hb2)
     (try clear hk)
     (try clear hi)
     refine hK.out _ _ ⟨(blk_cell BK145.out 0).trans rfl, (blk_cell BK145.out 1).trans rfl⟩ (fun hHeld => ?_)
     clear hK K
     refine norm_ (a' := ?_) ?_ ?_
     rotate_left
     ·show Act.put _ (some 15) _ = _
      simp only [Act.put, sa_, s0_, ss_, i64_w, i32_w]
      rfl
     refine pure_ (i := 3) (N := some 12) (v := ?_) (a' := ?_) #[true, true, true, true, false, false, false] rfl rfl (by kernel_rfl) (fun _ _ _ h => h) (Or.inl ⟨by rfl, ?_⟩) ?_ ?_
     rotate_left
     ·intro w'
      go_simp
      with_reducible rfl
     rotate_left
     ·simp only [Act.put, sa_, s0_, ss_, i64_w, i32_w]
      rfl
     refine pure_ (i := 4) (N := some 16) (v := ?_) (a' := ?_) #[true, true, true, true, true, false, false] rfl rfl (by kernel_rfl) (fun _ _ _ h => h) (Or.inl ⟨by rfl, ?_⟩) ?_ ?_
     rotate_left
     ·intro w'
      go_simp
      with_reducible rfl
     rotate_left
     ·simp only [Act.put, sa_, s0_, ss_, i64_w, i32_w]
      rfl
     refine pure_ (i := 5) (N := some 17) (v := ?_) (a' := ?_) #[true, true, true, true, true, true, false] rfl rfl (by kernel_rfl) (fun _ _ _ h => h) (Or.inl ⟨by rfl, ?_⟩) ?_ ?_
     rotate_left
     ·intro w'
      go_simp
      with_reducible rfl
     rotate_left
     ·simp only [Act.put, sa_, s0_, ss_, i64_w, i32_w]
      rfl
     refine last_ (i := 6) (N := none) #[true, true, true, true, true, true, true] rfl rfl (by kernel_rfl) (by decide) (fun K hK => ?_)
     have hs14 : w13.cell? ⟨gb145, 0, none⟩ = some (.int .u64 a0_0) := (blk_cell BK145.out 0).trans rfl
     have hfs14 := blk_frozen BK145.out 0
     have hs15 : w13.cell? ⟨gb145, 1, none⟩ = some (.int .u64 a0_1) := (blk_cell BK145.out 1).trans rfl
     have hfs15 := blk_frozen BK145.out 1
     refine skip_ (w1 := ?_) (by rfl) rfl ?_ ?_
     rotate_left
     ·go_simp
      rfl
     refine hK.out _ _ ?_
     clear hK K
     refine done_ (by kernel_rfl) ?_
     try go_wp2
     go_meet
     case rel => exact ⟨_, (t148), (t149), H', ⟨by have := HJ3.out; first | omega | exact Nat.le_refl _⟩, ⟨by apply put2_; exact BK145.out⟩, ⟨by repeat (with_reducible first | exact HB.out | apply bs_ GE145 | apply below_drew1 | apply pw_below_drewN)⟩⟩
    ·replace c8 := Bool.eq_false_iff.mpr c8
     subst c8
     have H1 : (fix_signed.j1 kj3 a1 a0_0 a0_1) = some r := by rw [if_neg (show ¬ (false = true) by decide)] at H; exact H
     clear H
     have H := H1
     clear H1
     have H' := Aside0.mk H
     clear H
     go_wp2
     go_meet
     case rel => exact ⟨_, (a0_0), (a0_1), H', ⟨by have := HJ3.out; first | omega | exact Nat.le_refl _⟩, ⟨by exact BK145.out⟩, ⟨by repeat (with_reducible first | exact HB.out | apply bs_ GE145 | apply below_drew1 | apply pw_below_drewN)⟩⟩
   case rest =>
    clear HC7
    try clear p2
    try clear c4
    try clear c6
    try clear c8
    try clear p2
    (try clear BK145); (try clear HB)
    obtain ⟨kq, x146000_6, x146001_6, HA, HJ6, BK145, HB⟩ := hcut
    cases kq with
    | zero => exact absurd HA.out (by simp [fix_signed.j1])
    | succ kj6 =>
     have H := HA.out
     clear HA
     simp only [fix_signed.j1] at H
     have HC16 := Aside0.mk H
     clear H
     go_upto_if 18 with (fail)
     go_cut [7] (fun v7 wc => ∃ (kq : Nat) (x7_15 : Int), v7 = .int .u64 x7_15 ∧ Aside0 (fix_signed.j2 kq a1 x7_15 x146000_6 x146001_6 = some r) ∧ Aside0 (kq ≤ kj6) ∧ Aside0 (wc.heap[gb145]? = some (.cells #[.int .u64 x146000_6, .int .u64 x146001_6] 70 (0, 0))) ∧ Aside0 (Below w.heap.size w wc))
     case first =>
      have H := HC16.out
      clear HC16
      by_cases c17 : a1 = true
      ·subst c17
       have H1 : (fix_signed.j2 kj6 true (9223372036854775807 + 1) x146000_6 x146001_6) = some r := by rw [if_pos rfl] at H; exact H
       clear H
       have H := H1
       clear H1
       have H' := Aside0.mk H
       clear H
       go_wp2
       go_meet
       case rel => exact ⟨_, (9223372036854775807 + 1), (by first | rfl | (simp; done) | (simp [*]; done)), H', ⟨by have := HJ3.out; have := HJ6.out; first | omega | exact Nat.le_refl _⟩, ⟨by exact BK145.out⟩, ⟨by repeat (with_reducible first | exact HB.out | apply bs_ GE145 | apply below_drew1 | apply pw_below_drewN)⟩⟩
      ·replace c17 := Bool.eq_false_iff.mpr c17
       subst c17
       have H1 : (fix_signed.j2 kj6 false 9223372036854775807 x146000_6 x146001_6) = some r := by rw [if_neg (show ¬ (false = true) by decide)] at H; exact H
       clear H
       have H := H1
       clear H1
       have H' := Aside0.mk H
       clear H
       go_wp2
       go_meet
       case rel => exact ⟨_, (9223372036854775807), (by first | rfl | (simp; done) | (simp [*]; done)), H', ⟨by have := HJ3.out; have := HJ6.out; first | omega | exact Nat.le_refl _⟩, ⟨by exact BK145.out⟩, ⟨by repeat (with_reducible first | exact HB.out | apply bs_ GE145 | apply below_drew1 | apply pw_below_drewN)⟩⟩
     case rest =>
      clear HC16
      try clear c1
      try clear p2
      try clear c4
      try clear c6
      try clear c8
      try clear c17
      try clear p2
      (try clear BK145); (try clear HB)
      obtain ⟨kq, x7_15, rfl, HA, HJ15, BK145, HB⟩ := hcut
      cases kq with
      | zero => exact absurd HA.out (by simp [fix_signed.j2])
      | succ kj15 =>
       have H := HA.out
       clear HA
       simp only [fix_signed.j2] at H
       replace H := Option.bind_eq_some_iff.mp H
       obtain ⟨⟨t151, t152⟩, A180, H⟩ := H
       replace H : ((wide_Num_Cmp.f kj15 x146000_6 x146001_6 t151 t152).bind fun t153 => (if t153 > 0 then ((fix_end.f a1).bind fun t154 => (some t154)) else (if a1 = true then (some (wrap64 (IntKind.u64.wrap (-x146001_6)))) else (some (wrap64 (x146001_6)))))) = some r := H
       have A18 := Aside0.mk A180
       clear A180
       replace H := Option.bind_eq_some_iff.mp H
       obtain ⟨t153, A190, H⟩ := H
       replace H : (if t153 > 0 then ((fix_end.f a1).bind fun t154 => (some t154)) else (if a1 = true then (some (wrap64 (IntKind.u64.wrap (-x146001_6)))) else (some (wrap64 (x146001_6))))) = some r := H
       have A19 := Aside0.mk A190
       clear A190
       by_cases c20 : t153 > 0
       ·rw [if_pos c20] at H
        have c20b0 : decide (0 < t153) = true := decide_eq_true c20
        clear c20
        replace H := Option.bind_eq_some_iff.mp H
        obtain ⟨t154, A210, H⟩ := H
        replace H : (some t154) = some r := H
        have A21 := Aside0.mk A210
        clear A210
        obtain rfl := Option.some.inj H
        try go_wp2
        replace BK145 := m_ (blk_drew BK145.out)
        replace HB := m_ (below_drew1 HB.out)
        refine start_ (n := 5) (S := fun w' => w'.cell? ⟨gb145, 0, none⟩ = some (.int .u64 x146000_6) ∧ w'.cell? ⟨gb145, 1, none⟩ = some (.int .u64 x146001_6)) (ds := []) #[false, false, false, false, false] (by kernel_rfl) rfl rfl ⟨(blk_cell BK145.out 0).trans rfl, (blk_cell BK145.out 1).trans rfl⟩ (fun hHeld => ?_)
        generalize wc.drew = w22 at BK145 HB hHeld ⊢
        refine pure_ (i := 1) (N := some 22) (v := ?_) (a' := ?_) #[false, true, false, false, false] rfl rfl (by kernel_rfl) (fun _ _ _ h => h) (Or.inl ⟨by rfl, ?_⟩) ?_ ?_
        rotate_left
        ·intro w'
         go_simp
         with_reducible rfl
        rotate_left
        ·simp only [Act.put, sa_, s0_, ss_, i64_w, i32_w]
         rfl
        refine take_ (i := 0) (N := some 21) (v := ?_) (a' := ?_) #[true, true, false, false, false] rfl rfl (by kernel_rfl) (fun _ _ _ h => h) (Or.inl ⟨by rfl, ?_⟩) hHeld ?_ ?_
        rotate_left
        ·rintro w' ⟨s0, s1⟩
         go_simp
         with_reducible rfl
        rotate_left
        ·simp only [Act.put, sa_, s0_, ss_, i64_w, i32_w]
         rfl
        refine one_ (i := 2) (N := some 23) #[true, true, true, false, false] rfl rfl (by kernel_rfl) (by decide) (fun K hK => ?_)
        refine goes_ Try.func48 (by kernel_rfl) rfl #[.int .u64 x7_15] (by rfl) rfl rfl (by first | rfl | (simp only [List.map_toArray, List.map_cons, List.map_nil]; first | done | rfl)) ?_
        with_reducible refine (wide_Of.calls x7_15 t151 t152 _ A18.out).mono ?_
        rintro e w23 ⟨rfl, hb⟩
        refine ⟨_, rfl, ?_⟩
        replace BK145 := bb_ BK145 hb
        replace HB := st_ (by repeat (with_reducible first | exact HB.out | apply bs_ GE145 | apply below_drew1 | apply pw_below_drewN)) hb
        (try clear hb)
        (try clear hb2)
        (try clear hk)
        (try clear hi)
        refine hK.out _ _ ⟨(blk_cell BK145.out 0).trans rfl, (blk_cell BK145.out 1).trans rfl⟩ (fun hHeld => ?_)
        clear hK K
        refine norm_ (a' := ?_) ?_ ?_
        rotate_left
        ·show Act.put _ (some 23) _ = _
         simp only [Act.put, sa_, s0_, ss_, i64_w, i32_w]
         rfl
        refine one_ (i := 3) (N := some 24) #[true, true, true, true, false] rfl rfl (by kernel_rfl) (by decide) (fun K hK => ?_)
        refine goes_ Try.func49 (by kernel_rfl) rfl #[.agg #[.int .u64 x146000_6, .int .u64 x146001_6], .agg #[.int .u64 t151, .int .u64 t152]] (by rfl) rfl rfl (by first | rfl | (simp only [List.map_toArray, List.map_cons, List.map_nil]; first | done | rfl)) ?_
        with_reducible refine (wide_Num_Cmp.calls kj15 x146000_6 x146001_6 t151 t152 t153 _ A19.out).mono ?_
        rintro e w24 ⟨rfl, hb⟩
        refine ⟨_, rfl, ?_⟩
        replace BK145 := bb_ BK145 hb
        replace HB := st_ (by repeat (with_reducible first | exact HB.out | apply bs_ GE145 | apply below_drew1 | apply pw_below_drewN)) hb
        (try clear hb)
        (try clear hb2)
        (try clear hk)
        (try clear hi)
        refine hK.out _ _ ⟨(blk_cell BK145.out 0).trans rfl, (blk_cell BK145.out 1).trans rfl⟩ (fun hHeld => ?_)
        clear hK K
        refine norm_ (a' := ?_) ?_ ?_
        rotate_left
        ·show Act.put _ (some 24) _ = _
         simp only [Act.put, sa_, s0_, ss_, i64_w, i32_w]
         rfl
        refine pure_ (i := 4) (N := some 25) (v := ?_) (a' := ?_) #[true, true, true, true, true] rfl rfl (by kernel_rfl) (fun _ _ _ h => h) (Or.inl ⟨by rfl, ?_⟩) ?_ ?_
        rotate_left
        ·intro w'
         go_simp
         with_reducible rfl
        rotate_left
        ·simp only [Act.put, sa_, s0_, ss_, i64_w, i32_w]
         rfl
        refine done_ (by kernel_rfl) ?_
        try go_wp2_with (first | ((with_reducible refine gate_callee (f := 41) rfl ?_); refine goesL_ (some 27) rfl rfl Try.func41 (by kernel_rfl) rfl #[.bool a1] rfl (by first | rfl | (simp only [List.map_toArray, List.map_cons, List.map_nil]; first | done | rfl)) ?_; (with_reducible refine (fix_end.calls a1 t154 _ A21.out).mono ?_); rintro e w' ⟨rfl, ⟨nd, rfl⟩⟩; refine ⟨_, rfl, ?_⟩))
        go_ret
        exact ⟨by first | rfl | (simp [errW_none, errW_some] <;> rfl) | (simp [*, errW_none, errW_some] <;> rfl), by repeat (with_reducible first | exact HB.out | apply bs_ GE145 | apply below_drew1 | apply pw_below_drewN)⟩
       ·rw [if_neg c20] at H
        have c20b0 : decide (0 < t153) = false := decide_eq_false c20
        clear c20
        by_cases c25 : a1 = true
        ·subst c25
         have H1 : (some (wrap64 (IntKind.u64.wrap (-x146001_6)))) = some r := by rw [if_pos rfl] at H; exact H
         clear H
         have H := H1
         clear H1
         obtain rfl := Option.some.inj H
         try go_wp2
         replace BK145 := m_ (blk_drew BK145.out)
         replace HB := m_ (below_drew1 HB.out)
         refine start_ (n := 5) (S := fun w' => w'.cell? ⟨gb145, 0, none⟩ = some (.int .u64 x146000_6) ∧ w'.cell? ⟨gb145, 1, none⟩ = some (.int .u64 x146001_6)) (ds := []) #[false, false, false, false, false] (by kernel_rfl) rfl rfl ⟨(blk_cell BK145.out 0).trans rfl, (blk_cell BK145.out 1).trans rfl⟩ (fun hHeld => ?_)
         generalize wc.drew = w26 at BK145 HB hHeld ⊢
         refine pure_ (i := 1) (N := some 22) (v := ?_) (a' := ?_) #[false, true, false, false, false] rfl rfl (by kernel_rfl) (fun _ _ _ h => h) (Or.inl ⟨by rfl, ?_⟩) ?_ ?_
         rotate_left
         ·intro w'
          go_simp
          with_reducible rfl
         rotate_left
         ·simp only [Act.put, sa_, s0_, ss_, i64_w, i32_w]
          rfl
         refine take_ (i := 0) (N := some 21) (v := ?_) (a' := ?_) #[true, true, false, false, false] rfl rfl (by kernel_rfl) (fun _ _ _ h => h) (Or.inl ⟨by rfl, ?_⟩) hHeld ?_ ?_
         rotate_left
         ·rintro w' ⟨s0, s1⟩
          go_simp
          with_reducible rfl
         rotate_left
         ·simp only [Act.put, sa_, s0_, ss_, i64_w, i32_w]
          rfl
         refine one_ (i := 2) (N := some 23) #[true, true, true, false, false] rfl rfl (by kernel_rfl) (by decide) (fun K hK => ?_)
         refine goes_ Try.func48 (by kernel_rfl) rfl #[.int .u64 x7_15] (by rfl) rfl rfl (by first | rfl | (simp only [List.map_toArray, List.map_cons, List.map_nil]; first | done | rfl)) ?_
         with_reducible refine (wide_Of.calls x7_15 t151 t152 _ A18.out).mono ?_
         rintro e w27 ⟨rfl, hb⟩
         refine ⟨_, rfl, ?_⟩
         replace BK145 := bb_ BK145 hb
         replace HB := st_ (by repeat (with_reducible first | exact HB.out | apply bs_ GE145 | apply below_drew1 | apply pw_below_drewN)) hb
         (try clear hb)
         (try clear hb2)
         (try clear hk)
         (try clear hi)
         refine hK.out _ _ ⟨(blk_cell BK145.out 0).trans rfl, (blk_cell BK145.out 1).trans rfl⟩ (fun hHeld => ?_)
         clear hK K
         refine norm_ (a' := ?_) ?_ ?_
         rotate_left
         ·show Act.put _ (some 23) _ = _
          simp only [Act.put, sa_, s0_, ss_, i64_w, i32_w]
          rfl
         refine one_ (i := 3) (N := some 24) #[true, true, true, true, false] rfl rfl (by kernel_rfl) (by decide) (fun K hK => ?_)
         refine goes_ Try.func49 (by kernel_rfl) rfl #[.agg #[.int .u64 x146000_6, .int .u64 x146001_6], .agg #[.int .u64 t151, .int .u64 t152]] (by rfl) rfl rfl (by first | rfl | (simp only [List.map_toArray, List.map_cons, List.map_nil]; first | done | rfl)) ?_
         with_reducible refine (wide_Num_Cmp.calls kj15 x146000_6 x146001_6 t151 t152 t153 _ A19.out).mono ?_
         rintro e w28 ⟨rfl, hb⟩
         refine ⟨_, rfl, ?_⟩
         replace BK145 := bb_ BK145 hb
         replace HB := st_ (by repeat (with_reducible first | exact HB.out | apply bs_ GE145 | apply below_drew1 | apply pw_below_drewN)) hb
         (try clear hb)
         (try clear hb2)
         (try clear hk)
         (try clear hi)
         refine hK.out _ _ ⟨(blk_cell BK145.out 0).trans rfl, (blk_cell BK145.out 1).trans rfl⟩ (fun hHeld => ?_)
         clear hK K
         refine norm_ (a' := ?_) ?_ ?_
         rotate_left
         ·show Act.put _ (some 24) _ = _
          simp only [Act.put, sa_, s0_, ss_, i64_w, i32_w]
          rfl
         refine pure_ (i := 4) (N := some 25) (v := ?_) (a' := ?_) #[true, true, true, true, true] rfl rfl (by kernel_rfl) (fun _ _ _ h => h) (Or.inl ⟨by rfl, ?_⟩) ?_ ?_
         rotate_left
         ·intro w'
          go_simp
          with_reducible rfl
         rotate_left
         ·simp only [Act.put, sa_, s0_, ss_, i64_w, i32_w]
          rfl
         refine done_ (by kernel_rfl) ?_
         obtain ⟨hcz29_0, hcz29_1, hfz29_0, hfz29_1⟩ := cf2 BK145
         try go_wp2
         go_ret
         exact ⟨by first | rfl | (simp [errW_none, errW_some] <;> rfl) | (simp [*, errW_none, errW_some] <;> rfl), by repeat (with_reducible first | exact HB.out | apply bs_ GE145 | apply below_drew1 | apply pw_below_drewN)⟩
        ·replace c25 := Bool.eq_false_iff.mpr c25
         subst c25
         have H1 : (some (wrap64 (x146001_6))) = some r := by rw [if_neg (show ¬ (false = true) by decide)] at H; exact H
         clear H
         have H := H1
         clear H1
         obtain rfl := Option.some.inj H
         try go_wp2
         replace BK145 := m_ (blk_drew BK145.out)
         replace HB := m_ (below_drew1 HB.out)
         refine start_ (n := 5) (S := fun w' => w'.cell? ⟨gb145, 0, none⟩ = some (.int .u64 x146000_6) ∧ w'.cell? ⟨gb145, 1, none⟩ = some (.int .u64 x146001_6)) (ds := []) #[false, false, false, false, false] (by kernel_rfl) rfl rfl ⟨(blk_cell BK145.out 0).trans rfl, (blk_cell BK145.out 1).trans rfl⟩ (fun hHeld => ?_)
         generalize wc.drew = w30 at BK145 HB hHeld ⊢
         refine pure_ (i := 1) (N := some 22) (v := ?_) (a' := ?_) #[false, true, false, false, false] rfl rfl (by kernel_rfl) (fun _ _ _ h => h) (Or.inl ⟨by rfl, ?_⟩) ?_ ?_
         rotate_left
         ·intro w'
          go_simp
          with_reducible rfl
         rotate_left
         ·simp only [Act.put, sa_, s0_, ss_, i64_w, i32_w]
          rfl
         refine take_ (i := 0) (N := some 21) (v := ?_) (a' := ?_) #[true, true, false, false, false] rfl rfl (by kernel_rfl) (fun _ _ _ h => h) (Or.inl ⟨by rfl, ?_⟩) hHeld ?_ ?_
         rotate_left
         ·rintro w' ⟨s0, s1⟩
          go_simp
          with_reducible rfl
         rotate_left
         ·simp only [Act.put, sa_, s0_, ss_, i64_w, i32_w]
          rfl
         refine one_ (i := 2) (N := some 23) #[true, true, true, false, false] rfl rfl (by kernel_rfl) (by decide) (fun K hK => ?_)
         refine goes_ Try.func48 (by kernel_rfl) rfl #[.int .u64 x7_15] (by rfl) rfl rfl (by first | rfl | (simp only [List.map_toArray, List.map_cons, List.map_nil]; first | done | rfl)) ?_
         with_reducible refine (wide_Of.calls x7_15 t151 t152 _ A18.out).mono ?_
         rintro e w31 ⟨rfl, hb⟩
         refine ⟨_, rfl, ?_⟩
         replace BK145 := bb_ BK145 hb
         replace HB := st_ (by repeat (with_reducible first | exact HB.out | apply bs_ GE145 | apply below_drew1 | apply pw_below_drewN)) hb
         (try clear hb)
         (try clear hb2)
         (try clear hk)
         (try clear hi)
         refine hK.out _ _ ⟨(blk_cell BK145.out 0).trans rfl, (blk_cell BK145.out 1).trans rfl⟩ (fun hHeld => ?_)
         clear hK K
         refine norm_ (a' := ?_) ?_ ?_
         rotate_left
         ·show Act.put _ (some 23) _ = _
          simp only [Act.put, sa_, s0_, ss_, i64_w, i32_w]
          rfl
         refine one_ (i := 3) (N := some 24) #[true, true, true, true, false] rfl rfl (by kernel_rfl) (by decide) (fun K hK => ?_)
         refine goes_ Try.func49 (by kernel_rfl) rfl #[.agg #[.int .u64 x146000_6, .int .u64 x146001_6], .agg #[.int .u64 t151, .int .u64 t152]] (by rfl) rfl rfl (by first | rfl | (simp only [List.map_toArray, List.map_cons, List.map_nil]; first | done | rfl)) ?_
         with_reducible refine (wide_Num_Cmp.calls kj15 x146000_6 x146001_6 t151 t152 t153 _ A19.out).mono ?_
         rintro e w32 ⟨rfl, hb⟩
         refine ⟨_, rfl, ?_⟩
         replace BK145 := bb_ BK145 hb
         replace HB := st_ (by repeat (with_reducible first | exact HB.out | apply bs_ GE145 | apply below_drew1 | apply pw_below_drewN)) hb
         (try clear hb)
         (try clear hb2)
         (try clear hk)
         (try clear hi)
         refine hK.out _ _ ⟨(blk_cell BK145.out 0).trans rfl, (blk_cell BK145.out 1).trans rfl⟩ (fun hHeld => ?_)
         clear hK K
         refine norm_ (a' := ?_) ?_ ?_
         rotate_left
         ·show Act.put _ (some 24) _ = _
          simp only [Act.put, sa_, s0_, ss_, i64_w, i32_w]
          rfl
         refine pure_ (i := 4) (N := some 25) (v := ?_) (a' := ?_) #[true, true, true, true, true] rfl rfl (by kernel_rfl) (fun _ _ _ h => h) (Or.inl ⟨by rfl, ?_⟩) ?_ ?_
         rotate_left
         ·intro w'
          go_simp
          with_reducible rfl
         rotate_left
         ·simp only [Act.put, sa_, s0_, ss_, i64_w, i32_w]
          rfl
         refine done_ (by kernel_rfl) ?_
         obtain ⟨hcz33_0, hcz33_1, hfz33_0, hfz33_1⟩ := cf2 BK145
         try go_wp2
         go_ret
         exact ⟨by first | rfl | (simp [errW_none, errW_some] <;> rfl) | (simp [*, errW_none, errW_some] <;> rfl), by repeat (with_reducible first | exact HB.out | apply bs_ GE145 | apply below_drew1 | apply pw_below_drewN)⟩

/-! ### fix_size: function 44 -/
def fix_size.f (a0 : Int) : Option (Int) := if a0 < 0 then (some (IntKind.u64.wrap (-(IntKind.u64.wrap (a0))))) else (some (IntKind.u64.wrap (a0)))
set_option maxHeartbeats 8000000 in
set_option maxRecDepth 100000 in
theorem fix_size.calls (a0 : Int) (r : Int) (w : World) (h : fix_size.f a0 = some r) :
  Calls Try.prog 44 #[.int .i64 a0] w fun e w' => e = .returned (.int .u64 r) ∧ Drawn0 w w' := by
 have H : (if a0 < 0 then (some (IntKind.u64.wrap (-(IntKind.u64.wrap (a0))))) else (some (IntKind.u64.wrap (a0)))) = some r := h
 clear h
 by_cases c2 : a0 < 0
 ·rw [if_pos c2] at H
  have c2b0 : decide (a0 < 0) = true := decide_eq_true c2
  clear c2
  obtain rfl := Option.some.inj H
  go_enter Try.func44, Try.ntmps44
  go_wp2
  go_ret
  exact ⟨by first | rfl | (simp; done) | (simp [*]; done), by repeat (first | exact Drawn0.refl _ | apply Drawn0.step)⟩
 ·rw [if_neg c2] at H
  have c2b0 : decide (a0 < 0) = false := decide_eq_false c2
  clear c2
  obtain rfl := Option.some.inj H
  go_enter Try.func44, Try.ntmps44
  go_wp2
  go_ret
  exact ⟨by first | rfl | (simp; done) | (simp [*]; done), by repeat (first | exact Drawn0.refl _ | apply Drawn0.step)⟩

/-! ### fix_Mul: function 38 -/
def fix_Mul.f (k : Nat) (a0 : Int) (a1 : Int) : Option (Int) := (fix_size.f a0).bind fun t155 => ((fix_size.f a1).bind fun t156 => ((wide_Mul.f t155 t156).bind fun bt157 => ((fix_signed.f k bt157.1 bt157.2 ((decide (a0 < 0)) != (decide (a1 < 0))) false).bind fun t159 => (some t159))))
theorem fix_Mul.mono : ∀ a0 a1 k, LeO (fix_Mul.f k a0 a1) (fix_Mul.f (k + 1) a0 a1) := by
 intro a0 a1 k
 unfold fix_Mul.f
 repeat' first
   | (with_reducible exact fix_signed.mono _ _ _ _ _)
   | (with_reducible exact LeO.refl _)
   | (with_reducible exact LeO.none _)
   | (with_reducible refine LeO.ite ?_ ?_)
   | (with_reducible refine LeO.bind ?_ (fun _ => ?_))
   | exact fix_signed.mono _ _ _ _ _
   | exact LeO.none _
   | refine LeO.ite ?_ ?_
   | refine LeO.bind ?_ (fun _ => ?_)
set_option maxHeartbeats 8000000 in
set_option maxRecDepth 100000 in
theorem fix_Mul.calls (k : Nat) (a0 : Int) (a1 : Int) (r : Int) (w : World) (h : fix_Mul.f k a0 a1 = some r) :
  Calls Try.prog 38 #[.int .i64 a0, .int .i64 a1] w fun e w' => e = .returned (.int .i64 r) ∧ Below w.heap.size w w' := by
 have HB := m_ (Below.refl w.heap.size w)
 have H : ((fix_size.f a0).bind fun t155 => ((fix_size.f a1).bind fun t156 => ((wide_Mul.f t155 t156).bind fun bt157 => ((fix_signed.f k bt157.1 bt157.2 ((decide (a0 < 0)) != (decide (a1 < 0))) false).bind fun t159 => (some t159))))) = some r := h
 clear h
 replace H := Option.bind_eq_some_iff.mp H
 obtain ⟨t155, A30, H⟩ := H
 replace H : ((fix_size.f a1).bind fun t156 => ((wide_Mul.f t155 t156).bind fun bt157 => ((fix_signed.f k bt157.1 bt157.2 ((decide (a0 < 0)) != (decide (a1 < 0))) false).bind fun t159 => (some t159)))) = some r := H
 have A3 := Aside0.mk A30
 clear A30
 replace H := Option.bind_eq_some_iff.mp H
 obtain ⟨t156, A40, H⟩ := H
 replace H : ((wide_Mul.f t155 t156).bind fun bt157 => ((fix_signed.f k bt157.1 bt157.2 ((decide (a0 < 0)) != (decide (a1 < 0))) false).bind fun t159 => (some t159))) = some r := H
 have A4 := Aside0.mk A40
 clear A40
 replace H := Option.bind_eq_some_iff.mp H
 obtain ⟨⟨t157, t158⟩, A50, H⟩ := H
 replace H : ((fix_signed.f k t157 t158 ((decide (a0 < 0)) != (decide (a1 < 0))) false).bind fun t159 => (some t159)) = some r := H
 have A5 := Aside0.mk A50
 clear A50
 replace H := Option.bind_eq_some_iff.mp H
 obtain ⟨t159, A60, H⟩ := H
 replace H : (some t159) = some r := H
 have A6 := Aside0.mk A60
 clear A60
 obtain rfl := Option.some.inj H
 go_enter Try.func38, Try.ntmps38
 go_wp2_with (first | ((with_reducible refine gate_callee (f := 44) rfl ?_); refine goesL_ (some 6) rfl rfl Try.func44 (by kernel_rfl) rfl #[.int .i64 a0] rfl (by first | rfl | (simp only [List.map_toArray, List.map_cons, List.map_nil]; first | done | rfl)) ?_; (with_reducible refine (fix_size.calls a0 t155 _ A3.out).mono ?_); rintro e w' ⟨rfl, ⟨nd, rfl⟩⟩; refine ⟨_, rfl, ?_⟩) | ((with_reducible refine gate_callee (f := 44) rfl ?_); refine goesL_ (some 8) rfl rfl Try.func44 (by kernel_rfl) rfl #[.int .i64 a1] rfl (by first | rfl | (simp only [List.map_toArray, List.map_cons, List.map_nil]; first | done | rfl)) ?_; (with_reducible refine (fix_size.calls a1 t156 _ A4.out).mono ?_); rintro e w' ⟨rfl, ⟨nd, rfl⟩⟩; refine ⟨_, rfl, ?_⟩) | ((with_reducible refine gate_callee (f := 43) rfl ?_); refine goesL_ (some 9) rfl rfl Try.func43 (by kernel_rfl) rfl #[.int .u64 t155, .int .u64 t156] rfl (by first | rfl | (simp only [List.map_toArray, List.map_cons, List.map_nil]; first | done | rfl)) ?_; (with_reducible refine (wide_Mul.calls t155 t156 t157 t158 _ A5.out).mono ?_); rintro e w7 ⟨rfl, hb⟩; refine ⟨_, rfl, ?_⟩; replace HB := st_ (by repeat (with_reducible first | exact HB.out | apply below_drew1 | apply pw_below_drewN)) hb; (try clear hb)) | ((with_reducible refine gate_callee (f := 42) rfl ?_); refine goesL_ (some 15) rfl rfl Try.func42 (by kernel_rfl) rfl #[.agg #[.int .u64 t157, .int .u64 t158], .bool ((decide (a0 < 0)) != (decide (a1 < 0))), .bool false] rfl (by first | rfl | (simp only [List.map_toArray, List.map_cons, List.map_nil]; first | done | rfl)) ?_; (with_reducible refine (fix_signed.calls k t157 t158 ((decide (a0 < 0)) != (decide (a1 < 0))) false t159 _ A6.out).mono ?_); rintro e w8 ⟨rfl, hb⟩; refine ⟨_, rfl, ?_⟩; replace HB := st_ (by repeat (with_reducible first | exact HB.out | apply below_drew1 | apply pw_below_drewN)) hb; (try clear hb)))
 go_ret
 exact ⟨by first | rfl | (simp [errW_none, errW_some] <;> rfl) | (simp [*, errW_none, errW_some] <;> rfl), by repeat (with_reducible first | exact HB.out | apply below_drew1 | apply pw_below_drewN)⟩

end Go.Proofs.Ytiiffgmbkajkhaa.L

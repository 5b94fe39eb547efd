-- Laid by a program of this claim's session (wip/tools/myprint.py) over the kit's printer.
import Derived.Test.YtjgjmeefieikaaaOx0
import Derived.Test.YtjgjmeefieikaaaOx3
import Derived.Test.YtjgjmeefieikaaaOx6
namespace Go.Proofs.Ytjgjmeefieikaaa.O
open Go.RowKit Go.Proofs.YtjgjmeefieikaaaW.PrintWords Go.Proofs.YtjgjmeefieikaaaW.PrintLast Go.Proofs.YtjgjmeefieikaaaW.PrintMore
attribute [local go_sem] max2_int min2_int max_two min_two max_three min_three max_four min_four   -- for this text's walks alone
set_option linter.unusedVariables false
set_option linter.unusedSimpArgs false

/-! ### overfalllaw02_FixOrders: function 8 -/
mutual
def overfalllaw02_FixOrders.j0 : Nat → Int → Int → Int → Option (Bool)
 | 0, _, _, _ => none
 | k + 1, x0, x1, x2 => (fix_Add.f x0 x2).bind fun t172 => ((fix_Add.f x1 x2).bind fun t173 => (if t172 > t173 then (overfalllaw02_FixOrders.j1 k x0 x1 x2 true) else ((fix_Sub.f x0 x2).bind fun t174 => ((fix_Sub.f x1 x2).bind fun t175 => (if t174 > t175 then (overfalllaw02_FixOrders.j1 k x0 x1 x2 true) else ((fix_Neg.f x0).bind fun t176 => ((fix_Neg.f x1).bind fun t177 => (overfalllaw02_FixOrders.j1 k x0 x1 x2 (decide (t176 < t177))))))))))
def overfalllaw02_FixOrders.j1 : Nat → Int → Int → Int → Bool → Option (Bool)
 | 0, _, _, _, _ => none
 | k + 1, x0, x1, x2, x36 => if x36 = true then (none) else (if x2 < 0 then (some true) else ((fix_Mul.f k x0 x2).bind fun t178 => ((fix_Mul.f k x1 x2).bind fun t179 => (if t178 ≤ t179 then ((fix_Q_Of.f k x2 x0).bind fun t180 => ((fix_Q_Of.f k x2 x1).bind fun t181 => (some (decide (t180 ≤ t181))))) else (none)))))
end
def overfalllaw02_FixOrders.f (k : Nat) (a0 : Int) (a1 : Int) (a2 : Int) : Option (Bool) := (overfalllaw02_awake.f k).bind fun t171 => (if t171 = true then (if a0 > a1 then (overfalllaw02_FixOrders.j0 k a1 a0 a2) else (overfalllaw02_FixOrders.j0 k a0 a1 a2)) else (none))
theorem overfalllaw02_FixOrders.mono_l : ∀ k, (∀ y0 y1 y2, LeO (overfalllaw02_FixOrders.j0 k y0 y1 y2) (overfalllaw02_FixOrders.j0 (k + 1) y0 y1 y2)) ∧ (∀ y0 y1 y2 y3, LeO (overfalllaw02_FixOrders.j1 k y0 y1 y2 y3) (overfalllaw02_FixOrders.j1 (k + 1) y0 y1 y2 y3))
 | 0 => ⟨fun _ _ _ r h => by simp [overfalllaw02_FixOrders.j0] at h, fun _ _ _ _ r h => by simp [overfalllaw02_FixOrders.j1] at h⟩
 | k + 1 => by
  obtain ⟨ih0, ih1⟩ := overfalllaw02_FixOrders.mono_l k
  refine ⟨?_, ?_⟩
  ·intro y0 y1 y2
   unfold overfalllaw02_FixOrders.j0
   repeat' first
   | (with_reducible exact ih0 _ _ _)
   | (with_reducible exact ih1 _ _ _ _)
   | (with_reducible exact fix_Mul.mono _ _ _)
   | (with_reducible exact fix_Q_Of.mono _ _ _)
   | (with_reducible exact overfalllaw02_awake.mono _)
   | (with_reducible exact LeO.refl _)
   | (with_reducible exact LeO.none _)
   | (with_reducible refine LeO.ite ?_ ?_)
   | (with_reducible refine LeO.bind ?_ (fun _ => ?_))
   | exact ih0 _ _ _
   | exact ih1 _ _ _ _
   | exact fix_Mul.mono _ _ _
   | exact fix_Q_Of.mono _ _ _
   | exact overfalllaw02_awake.mono _
   | exact LeO.none _
   | refine LeO.ite ?_ ?_
   | refine LeO.bind ?_ (fun _ => ?_)
  ·intro y0 y1 y2 y3
   unfold overfalllaw02_FixOrders.j1
   repeat' first
   | (with_reducible exact ih0 _ _ _)
   | (with_reducible exact ih1 _ _ _ _)
   | (with_reducible exact fix_Mul.mono _ _ _)
   | (with_reducible exact fix_Q_Of.mono _ _ _)
   | (with_reducible exact overfalllaw02_awake.mono _)
   | (with_reducible exact LeO.refl _)
   | (with_reducible exact LeO.none _)
   | (with_reducible refine LeO.ite ?_ ?_)
   | (with_reducible refine LeO.bind ?_ (fun _ => ?_))
   | exact ih0 _ _ _
   | exact ih1 _ _ _ _
   | exact fix_Mul.mono _ _ _
   | exact fix_Q_Of.mono _ _ _
   | exact overfalllaw02_awake.mono _
   | exact LeO.none _
   | refine LeO.ite ?_ ?_
   | refine LeO.bind ?_ (fun _ => ?_)
theorem overfalllaw02_FixOrders.mono : ∀ a0 a1 a2 k, LeO (overfalllaw02_FixOrders.f k a0 a1 a2) (overfalllaw02_FixOrders.f (k + 1) a0 a1 a2) := by
 intro a0 a1 a2 k
 obtain ⟨ih0, ih1⟩ := overfalllaw02_FixOrders.mono_l k
 unfold overfalllaw02_FixOrders.f
 repeat' first
   | (with_reducible exact ih0 _ _ _)
   | (with_reducible exact ih1 _ _ _ _)
   | (with_reducible exact fix_Mul.mono _ _ _)
   | (with_reducible exact fix_Q_Of.mono _ _ _)
   | (with_reducible exact overfalllaw02_awake.mono _)
   | (with_reducible exact LeO.refl _)
   | (with_reducible exact LeO.none _)
   | (with_reducible refine LeO.ite ?_ ?_)
   | (with_reducible refine LeO.bind ?_ (fun _ => ?_))
   | exact ih0 _ _ _
   | exact ih1 _ _ _ _
   | exact fix_Mul.mono _ _ _
   | exact fix_Q_Of.mono _ _ _
   | exact overfalllaw02_awake.mono _
   | exact LeO.none _
   | refine LeO.ite ?_ ?_
   | refine LeO.bind ?_ (fun _ => ?_)
set_option maxHeartbeats 8000000 in
set_option maxRecDepth 100000 in
theorem overfalllaw02_FixOrders.calls (k : Nat) (a0 : Int) (a1 : Int) (a2 : Int) (r : Bool) (w : World) (h : overfalllaw02_FixOrders.f k a0 a1 a2 = some r) :
  Calls Try.prog 8 #[.int .i64 a0, .int .i64 a1, .int .i64 a2] w fun e w' => e = .returned (.bool r) ∧ Below w.heap.size w w' := by
 have HB := Aside0.mk (Below.refl w.heap.size w)
 have H : ((overfalllaw02_awake.f k).bind fun t171 => (if t171 = true then (if a0 > a1 then (overfalllaw02_FixOrders.j0 k a1 a0 a2) else (overfalllaw02_FixOrders.j0 k a0 a1 a2)) else (none))) = some r := h
 clear h
 replace H := Option.bind_eq_some_iff.mp H
 obtain ⟨t171, A40, H⟩ := H
 replace H : (if t171 = true then (if a0 > a1 then (overfalllaw02_FixOrders.j0 k a1 a0 a2) else (overfalllaw02_FixOrders.j0 k a0 a1 a2)) else (none)) = some r := H
 have A4 := Aside0.mk A40
 clear A40
 by_cases c5 : t171 = true
 ·subst c5
  have H1 : (if a0 > a1 then (overfalllaw02_FixOrders.j0 k a1 a0 a2) else (overfalllaw02_FixOrders.j0 k a0 a1 a2)) = some r := by rw [if_pos rfl] at H; exact H
  clear H
  have H := H1
  clear H1
  have HC6 := Aside0.mk H
  clear H
  go_enter Try.func8, Try.ntmps8
  go_upto_if 11 with (first | ((with_reducible refine gate_callee (f := 10) rfl ?_); refine goesL_ (some 7) rfl rfl Try.func10 (by kernel_rfl) rfl #[] rfl (by (try simp only [List.map_toArray, List.map_cons, List.map_nil]); first | done | rfl | (simp only [List.length_drop, List.length_take]; rfl)) ?_; (with_reducible refine (overfalllaw02_awake.calls k  true _ A4.out).mono ?_); rintro e w7 ⟨rfl, hb⟩; refine ⟨_, rfl, ?_⟩; have n0_ := Aside0.mk (below_step (by repeat (first | (with_reducible first | exact HB.out | apply below_alloc | apply pw_below_drewN | apply below_drew1) | exact HB.out)) hb); clear HB; have HB := n0_; clear n0_; (try clear hb); (try clear hb2); (try clear hk); (try clear hi)))
  (try simp only [Act.put, List.setIfInBounds_toArray, List.set_cons_zero, List.set_cons_succ])
  go_cut [0, 1] (fun v0 v1 wc => ∃ (kq : Nat) (x0_5 : Int) (x1_5 : Int), v0 = .int .i64 x0_5 ∧ v1 = .int .i64 x1_5 ∧ Aside0 (overfalllaw02_FixOrders.j0 kq x0_5 x1_5 a2 = some r) ∧ Aside0 (kq ≤ k) ∧ Aside0 (Below w.heap.size w wc))
  case first =>
   have H := HC6.out
   clear HC6
   by_cases c8 : a0 > a1
   ·rw [if_pos c8] at H
    have c8b0 : decide (a1 < a0) = true := decide_eq_true c8
    clear c8
    (first | rw [c8b0] | (simp only [i64_w, i32_w]; rw [c8b0]) | skip)
    have H' := Aside0.mk H
    clear H
    go_wp2
    go_meet
    case rel => exact ⟨_, (a1), (a0), (by first | rfl | (simp; done) | (simp [*]; done)), (by first | rfl | (simp; done) | (simp [*]; done)), H', ⟨by first | omega | exact Nat.le_refl _⟩, ⟨by repeat (first | (with_reducible first | exact HB.out | apply below_alloc | apply pw_below_drewN | apply below_drew1) | exact HB.out)⟩⟩
   ·rw [if_neg c8] at H
    have c8b0 : decide (a1 < a0) = false := decide_eq_false c8
    clear c8
    (first | rw [c8b0] | (simp only [i64_w, i32_w]; rw [c8b0]) | skip)
    have H' := Aside0.mk H
    clear H
    go_wp2
    go_meet
    case rel => exact ⟨_, (a0), (a1), (by first | rfl | (simp; done) | (simp [*]; done)), (by first | rfl | (simp; done) | (simp [*]; done)), H', ⟨by first | omega | exact Nat.le_refl _⟩, ⟨by repeat (first | (with_reducible first | exact HB.out | apply below_alloc | apply pw_below_drewN | apply below_drew1) | exact HB.out)⟩⟩
  case rest =>
   clear HC6
   try clear c1
   try clear p2
   try clear c5
   try clear c8
   try clear c8b0
   obtain ⟨kq, x0_5, x1_5, rfl, rfl, HA, HJ5, HB⟩ := hcut
   cases kq with
   | zero => exact absurd HA.out (by simp [overfalllaw02_FixOrders.j0])
   | succ kj5 =>
    have H := HA.out
    clear HA
    simp only [overfalllaw02_FixOrders.j0] at H
    have HC9 := Aside0.mk H
    clear H
    go_upto_region 5 with (fail)
    go_cut [36] (fun v36 wc => ∃ (kq : Nat) (x36_8 : Bool), v36 = .bool x36_8 ∧ Aside0 (overfalllaw02_FixOrders.j1 kq x0_5 x1_5 a2 x36_8 = some r) ∧ Aside0 (kq ≤ kj5) ∧ Aside0 (Below w.heap.size w wc))
    case first =>
     have H := HC9.out
     clear HC9
     replace H := Option.bind_eq_some_iff.mp H
     obtain ⟨t172, A100, H⟩ := H
     replace H : ((fix_Add.f x1_5 a2).bind fun t173 => (if t172 > t173 then (overfalllaw02_FixOrders.j1 kj5 x0_5 x1_5 a2 true) else ((fix_Sub.f x0_5 a2).bind fun t174 => ((fix_Sub.f x1_5 a2).bind fun t175 => (if t174 > t175 then (overfalllaw02_FixOrders.j1 kj5 x0_5 x1_5 a2 true) else ((fix_Neg.f x0_5).bind fun t176 => ((fix_Neg.f x1_5).bind fun t177 => (overfalllaw02_FixOrders.j1 kj5 x0_5 x1_5 a2 (decide (t176 < t177)))))))))) = some r := H
     have A10 := Aside0.mk A100
     clear A100
     replace H := Option.bind_eq_some_iff.mp H
     obtain ⟨t173, A110, H⟩ := H
     replace H : (if t172 > t173 then (overfalllaw02_FixOrders.j1 kj5 x0_5 x1_5 a2 true) else ((fix_Sub.f x0_5 a2).bind fun t174 => ((fix_Sub.f x1_5 a2).bind fun t175 => (if t174 > t175 then (overfalllaw02_FixOrders.j1 kj5 x0_5 x1_5 a2 true) else ((fix_Neg.f x0_5).bind fun t176 => ((fix_Neg.f x1_5).bind fun t177 => (overfalllaw02_FixOrders.j1 kj5 x0_5 x1_5 a2 (decide (t176 < t177))))))))) = some r := H
     have A11 := Aside0.mk A110
     clear A110
     by_cases c12 : t172 > t173
     ·rw [if_pos c12] at H
      have c12b0 : decide (t173 < t172) = true := decide_eq_true c12
      clear c12
      (first | rw [c12b0] | (simp only [i64_w, i32_w]; rw [c12b0]) | skip)
      have H' := Aside0.mk H
      clear H
      go_wp2_with (first | ((with_reducible refine gate_callee (f := 25) rfl ?_); refine goesL_ (some 16) rfl rfl Try.func25 (by kernel_rfl) rfl #[.int .i64 x0_5, .int .i64 a2] rfl (by (try simp only [List.map_toArray, List.map_cons, List.map_nil]); first | done | rfl | (simp only [List.length_drop, List.length_take]; rfl)) ?_; (with_reducible refine (fix_Add.calls x0_5 a2 t172 _ A10.out).mono ?_); rintro e w' ⟨rfl, ⟨nd, rfl⟩⟩; refine ⟨_, rfl, ?_⟩) | ((with_reducible refine gate_callee (f := 25) rfl ?_); refine goesL_ (some 19) rfl rfl Try.func25 (by kernel_rfl) rfl #[.int .i64 x1_5, .int .i64 a2] rfl (by (try simp only [List.map_toArray, List.map_cons, List.map_nil]); first | done | rfl | (simp only [List.length_drop, List.length_take]; rfl)) ?_; (with_reducible refine (fix_Add.calls x1_5 a2 t173 _ A11.out).mono ?_); rintro e w' ⟨rfl, ⟨nd, rfl⟩⟩; refine ⟨_, rfl, ?_⟩))
      go_meet
      case rel => exact ⟨_, (true), (by first | rfl | (simp; done) | (simp [*]; done)), H', ⟨by have := HJ5.out; first | omega | exact Nat.le_refl _⟩, ⟨by repeat (first | (with_reducible first | exact HB.out | apply below_alloc | apply pw_below_drewN | apply below_drew1) | exact HB.out)⟩⟩
     ·rw [if_neg c12] at H
      have c12b0 : decide (t173 < t172) = false := decide_eq_false c12
      clear c12
      (first | rw [c12b0] | (simp only [i64_w, i32_w]; rw [c12b0]) | skip)
      replace H := Option.bind_eq_some_iff.mp H
      obtain ⟨t174, A130, H⟩ := H
      replace H : ((fix_Sub.f x1_5 a2).bind fun t175 => (if t174 > t175 then (overfalllaw02_FixOrders.j1 kj5 x0_5 x1_5 a2 true) else ((fix_Neg.f x0_5).bind fun t176 => ((fix_Neg.f x1_5).bind fun t177 => (overfalllaw02_FixOrders.j1 kj5 x0_5 x1_5 a2 (decide (t176 < t177))))))) = some r := H
      have A13 := Aside0.mk A130
      clear A130
      replace H := Option.bind_eq_some_iff.mp H
      obtain ⟨t175, A140, H⟩ := H
      replace H : (if t174 > t175 then (overfalllaw02_FixOrders.j1 kj5 x0_5 x1_5 a2 true) else ((fix_Neg.f x0_5).bind fun t176 => ((fix_Neg.f x1_5).bind fun t177 => (overfalllaw02_FixOrders.j1 kj5 x0_5 x1_5 a2 (decide (t176 < t177)))))) = some r := H
      have A14 := Aside0.mk A140
      clear A140
      by_cases c15 : t174 > t175
      ·rw [if_pos c15] at H
       have c15b0 : decide (t175 < t174) = true := decide_eq_true c15
       clear c15
       have H' := Aside0.mk H
       clear H
       go_wp2_with (first | ((with_reducible refine gate_callee (f := 25) rfl ?_); refine goesL_ (some 16) rfl rfl Try.func25 (by kernel_rfl) rfl #[.int .i64 x0_5, .int .i64 a2] rfl (by (try simp only [List.map_toArray, List.map_cons, List.map_nil]); first | done | rfl | (simp only [List.length_drop, List.length_take]; rfl)) ?_; (with_reducible refine (fix_Add.calls x0_5 a2 t172 _ A10.out).mono ?_); rintro e w' ⟨rfl, ⟨nd, rfl⟩⟩; refine ⟨_, rfl, ?_⟩) | ((with_reducible refine gate_callee (f := 25) rfl ?_); refine goesL_ (some 19) rfl rfl Try.func25 (by kernel_rfl) rfl #[.int .i64 x1_5, .int .i64 a2] rfl (by (try simp only [List.map_toArray, List.map_cons, List.map_nil]); first | done | rfl | (simp only [List.length_drop, List.length_take]; rfl)) ?_; (with_reducible refine (fix_Add.calls x1_5 a2 t173 _ A11.out).mono ?_); rintro e w' ⟨rfl, ⟨nd, rfl⟩⟩; refine ⟨_, rfl, ?_⟩) | (go_at_call 27; (with_reducible refine (fix_Sub.calls x0_5 a2 t174 _ A13.out).mono ?_); rintro e w' ⟨rfl, ⟨nd, rfl⟩⟩) | (go_at_call 27; (with_reducible refine (fix_Sub.calls x1_5 a2 t175 _ A14.out).mono ?_); rintro e w' ⟨rfl, ⟨nd, rfl⟩⟩))
       go_meet
       case rel => exact ⟨_, (true), (by first | rfl | (simp; done) | (simp [*]; done)), H', ⟨by have := HJ5.out; first | omega | exact Nat.le_refl _⟩, ⟨by repeat (first | (with_reducible first | exact HB.out | apply below_alloc | apply pw_below_drewN | apply below_drew1) | exact HB.out)⟩⟩
      ·rw [if_neg c15] at H
       have c15b0 : decide (t175 < t174) = false := decide_eq_false c15
       clear c15
       replace H := Option.bind_eq_some_iff.mp H
       obtain ⟨t176, A160, H⟩ := H
       replace H : ((fix_Neg.f x1_5).bind fun t177 => (overfalllaw02_FixOrders.j1 kj5 x0_5 x1_5 a2 (decide (t176 < t177)))) = some r := H
       have A16 := Aside0.mk A160
       clear A160
       replace H := Option.bind_eq_some_iff.mp H
       obtain ⟨t177, A170, H⟩ := H
       replace H : (overfalllaw02_FixOrders.j1 kj5 x0_5 x1_5 a2 (decide (t176 < t177))) = some r := H
       have A17 := Aside0.mk A170
       clear A170
       have H' := Aside0.mk H
       clear H
       go_wp2_with (first | ((with_reducible refine gate_callee (f := 25) rfl ?_); refine goesL_ (some 16) rfl rfl Try.func25 (by kernel_rfl) rfl #[.int .i64 x0_5, .int .i64 a2] rfl (by (try simp only [List.map_toArray, List.map_cons, List.map_nil]); first | done | rfl | (simp only [List.length_drop, List.length_take]; rfl)) ?_; (with_reducible refine (fix_Add.calls x0_5 a2 t172 _ A10.out).mono ?_); rintro e w' ⟨rfl, ⟨nd, rfl⟩⟩; refine ⟨_, rfl, ?_⟩) | ((with_reducible refine gate_callee (f := 25) rfl ?_); refine goesL_ (some 19) rfl rfl Try.func25 (by kernel_rfl) rfl #[.int .i64 x1_5, .int .i64 a2] rfl (by (try simp only [List.map_toArray, List.map_cons, List.map_nil]); first | done | rfl | (simp only [List.length_drop, List.length_take]; rfl)) ?_; (with_reducible refine (fix_Add.calls x1_5 a2 t173 _ A11.out).mono ?_); rintro e w' ⟨rfl, ⟨nd, rfl⟩⟩; refine ⟨_, rfl, ?_⟩) | (go_at_call 27; (with_reducible refine (fix_Sub.calls x0_5 a2 t174 _ A13.out).mono ?_); rintro e w' ⟨rfl, ⟨nd, rfl⟩⟩) | (go_at_call 27; (with_reducible refine (fix_Sub.calls x1_5 a2 t175 _ A14.out).mono ?_); rintro e w' ⟨rfl, ⟨nd, rfl⟩⟩) | (go_at_call 29; (with_reducible refine (fix_Neg.calls x0_5 t176 _ A16.out).mono ?_); rintro e w' ⟨rfl, ⟨nd, rfl⟩⟩) | (go_at_call 29; (with_reducible refine (fix_Neg.calls x1_5 t177 _ A17.out).mono ?_); rintro e w' ⟨rfl, ⟨nd, rfl⟩⟩))
       go_meet
       case rel => exact ⟨_, (decide (t176 < t177)), (by first | rfl | (simp; done) | (simp [*]; done)), H', ⟨by have := HJ5.out; first | omega | exact Nat.le_refl _⟩, ⟨by repeat (first | (with_reducible first | exact HB.out | apply below_alloc | apply pw_below_drewN | apply below_drew1) | exact HB.out)⟩⟩
    case rest =>
     clear HC9
     try clear c1
     try clear c2
     try clear p2
     try clear c5
     try clear c8
     try clear c8b0
     try clear c10
     try clear c12
     try clear c12b0
     try clear c15
     try clear c15b0
     try clear p2
     obtain ⟨kq, x36_8, rfl, HA, HJ8, HB⟩ := hcut
     cases kq with
     | zero => exact absurd HA.out (by simp [overfalllaw02_FixOrders.j1])
     | succ kj8 =>
      have H := HA.out
      clear HA
      simp only [overfalllaw02_FixOrders.j1] at H
      by_cases c18 : x36_8 = true
      ·subst c18
       have H1 : (none) = some r := by rw [if_pos rfl] at H; exact H
       clear H
       have H := H1
       clear H1
       exact absurd H (by simp)
      ·replace c18 := Bool.eq_false_iff.mpr c18
       subst c18
       have H1 : (if a2 < 0 then (some true) else ((fix_Mul.f kj8 x0_5 a2).bind fun t178 => ((fix_Mul.f kj8 x1_5 a2).bind fun t179 => (if t178 ≤ t179 then ((fix_Q_Of.f kj8 a2 x0_5).bind fun t180 => ((fix_Q_Of.f kj8 a2 x1_5).bind fun t181 => (some (decide (t180 ≤ t181))))) else (none))))) = some r := by rw [if_neg (show ¬ (false = true) by decide)] at H; exact H
       clear H
       have H := H1
       clear H1
       by_cases c19 : a2 < 0
       ·rw [if_pos c19] at H
        have c19b0 : decide (a2 < 0) = true := decide_eq_true c19
        clear c19
        obtain rfl := Option.some.inj H
        go_wp2
        go_ret
        exact ⟨by first | rfl | (simp [errW_none, errW_some] <;> rfl) | (simp [*, errW_none, errW_some] <;> rfl), by repeat (first | (with_reducible first | exact HB.out | apply below_alloc | apply pw_below_drewN | apply below_drew1) | exact HB.out)⟩
       ·rw [if_neg c19] at H
        have c19b0 : decide (a2 < 0) = false := decide_eq_false c19
        clear c19
        replace H := Option.bind_eq_some_iff.mp H
        obtain ⟨t178, A200, H⟩ := H
        replace H : ((fix_Mul.f kj8 x1_5 a2).bind fun t179 => (if t178 ≤ t179 then ((fix_Q_Of.f kj8 a2 x0_5).bind fun t180 => ((fix_Q_Of.f kj8 a2 x1_5).bind fun t181 => (some (decide (t180 ≤ t181))))) else (none))) = some r := H
        have A20 := Aside0.mk A200
        clear A200
        replace H := Option.bind_eq_some_iff.mp H
        obtain ⟨t179, A210, H⟩ := H
        replace H : (if t178 ≤ t179 then ((fix_Q_Of.f kj8 a2 x0_5).bind fun t180 => ((fix_Q_Of.f kj8 a2 x1_5).bind fun t181 => (some (decide (t180 ≤ t181))))) else (none)) = some r := H
        have A21 := Aside0.mk A210
        clear A210
        by_cases c22 : t178 ≤ t179
        ·rw [if_pos c22] at H
         have c22b0 : decide (t178 ≤ t179) = true := decide_eq_true c22
         clear c22
         replace H := Option.bind_eq_some_iff.mp H
         obtain ⟨t180, A230, H⟩ := H
         replace H : ((fix_Q_Of.f kj8 a2 x1_5).bind fun t181 => (some (decide (t180 ≤ t181)))) = some r := H
         have A23 := Aside0.mk A230
         clear A230
         replace H := Option.bind_eq_some_iff.mp H
         obtain ⟨t181, A240, H⟩ := H
         replace H : (some (decide (t180 ≤ t181))) = some r := H
         have A24 := Aside0.mk A240
         clear A240
         obtain rfl := Option.some.inj H
         go_wp2_with (first | (go_at_call 11; (with_reducible refine (fix_Mul.calls kj8 x0_5 a2 t178 _ A20.out).mono ?_); rintro e w25 ⟨rfl, hb⟩; have n0_ := Aside0.mk (below_step (by repeat (first | (with_reducible first | exact HB.out | apply below_alloc | apply pw_below_drewN | apply below_drew1) | exact HB.out)) hb); clear HB; have HB := n0_; clear n0_; (try clear hb); (try clear hb2); (try clear hk); (try clear hi)) | (go_at_call 11; (with_reducible refine (fix_Mul.calls kj8 x1_5 a2 t179 _ A21.out).mono ?_); rintro e w26 ⟨rfl, hb⟩; have n0_ := Aside0.mk (below_step (by repeat (first | (with_reducible first | exact HB.out | apply below_alloc | apply pw_below_drewN | apply below_drew1) | exact HB.out)) hb); clear HB; have HB := n0_; clear n0_; (try clear hb); (try clear hb2); (try clear hk); (try clear hi)) | (go_at_call 23; (with_reducible refine (fix_Q_Of.calls kj8 a2 x0_5 t180 _ A23.out).mono ?_); rintro e w27 ⟨rfl, hb⟩; have n0_ := Aside0.mk (below_step (by repeat (first | (with_reducible first | exact HB.out | apply below_alloc | apply pw_below_drewN | apply below_drew1) | exact HB.out)) hb); clear HB; have HB := n0_; clear n0_; (try clear hb); (try clear hb2); (try clear hk); (try clear hi)) | (go_at_call 23; (with_reducible refine (fix_Q_Of.calls kj8 a2 x1_5 t181 _ A24.out).mono ?_); rintro e w28 ⟨rfl, hb⟩; have n0_ := Aside0.mk (below_step (by repeat (first | (with_reducible first | exact HB.out | apply below_alloc | apply pw_below_drewN | apply below_drew1) | exact HB.out)) hb); clear HB; have HB := n0_; clear n0_; (try clear hb); (try clear hb2); (try clear hk); (try clear hi)))
         go_ret
         exact ⟨by first | rfl | (simp [errW_none, errW_some] <;> rfl) | (simp [*, errW_none, errW_some] <;> rfl), by repeat (first | (with_reducible first | exact HB.out | apply below_alloc | apply pw_below_drewN | apply below_drew1) | exact HB.out)⟩
        ·rw [if_neg c22] at H
         exact absurd H (by simp)
 ·replace c5 := Bool.eq_false_iff.mpr c5
  subst c5
  have H1 : (none) = some r := by rw [if_neg (show ¬ (false = true) by decide)] at H; exact H
  clear H
  have H := H1
  clear H1
  exact absurd H (by simp)

/-- THE ONE PURE STATEMENT of overfalllaw02_FixOrders: yours. -/
def overfalllaw02_FixOrders.Pure : Prop := ∀ (a0 : Int) (a1 : Int) (a2 : Int), (Lit.int .i64 a0).wf = true → (Lit.int .i64 a1).wf = true → (Lit.int .i64 a2).wf = true → ∃ k, overfalllaw02_FixOrders.f k a0 a1 a2 = some true
theorem overfalllaw02_FixOrders.walk (P : overfalllaw02_FixOrders.Pure) (a0 : Int) (a1 : Int) (a2 : Int) (w : World) (w0 : (Lit.int .i64 a0).wf = true) (w1 : (Lit.int .i64 a1).wf = true) (w2 : (Lit.int .i64 a2).wf = true) :
  Calls Try.prog 8 #[.int .i64 a0, .int .i64 a1, .int .i64 a2] w fun e w' => e = .returned (.bool true) ∧ Below w.heap.size w w' := by
 obtain ⟨k, h⟩ := P a0 a1 a2 w0 w1 w2
 refine (overfalllaw02_FixOrders.calls k a0 a1 a2 true w h).mono ?_
 rintro e w' ⟨rfl, hd⟩
 exact ⟨rfl, hd⟩

end Go.Proofs.Ytjgjmeefieikaaa.O

-- Laid by a program of this claim's session (wip/tools/myprint.py) over the kit's printer.
import Derived.Test.YtjgjmeefieikaaaBx0
import Derived.Test.YtjgjmeefieikaaaBx3
import Derived.Test.YtjgjmeefieikaaaBx5
import Derived.Test.YtjgjmeefieikaaaBx6
namespace Go.Proofs.Ytjgjmeefieikaaa.B
open Go.RowKit Go.Proofs.YtjgjmeefieikaaaW.PrintWords Go.Proofs.YtjgjmeefieikaaaW.PrintLast Go.Proofs.YtjgjmeefieikaaaW.PrintMore
attribute [local go_sem] max2_int min2_int max_two min_two max_three min_three max_four min_four   -- for this text's walks alone
set_option linter.unusedVariables false
set_option linter.unusedSimpArgs false

/-! ### overfalllaw02_FixBack: function 9 -/
mutual
def overfalllaw02_FixBack.j0 : Nat → Int → Int → Int → Bool → Option (Bool)
 | 0, _, _, _, _ => none
 | k + 1, x2, x7, x8, x50 => if x50 = true then (none) else (if x8 = 0 then (overfalllaw02_FixBack.j1 k x2 x7) else ((fix_Ratio.f k x7 x8).bind fun t181 => ((fix_Q_Of.f k t181 x8).bind fun t182 => ((fix_Q_Of.f k (wrap64 (t181 + 1)) x8).bind fun t183 => (if x8 < 0 then (if t183 > x7 then (none) else (if t182 < x7 then (none) else (overfalllaw02_FixBack.j1 k x2 x7))) else (if t182 > x7 then (none) else (if t183 < x7 then (none) else (overfalllaw02_FixBack.j1 k x2 x7))))))))
def overfalllaw02_FixBack.j1 : Nat → Int → Int → Option (Bool)
 | 0, _, _ => none
 | k + 1, x2, x7 => (fix_Whole.f k x7).bind fun t184 => ((fix_Q_Floor.f t184).bind fun t185 => (if t185 = x7 then ((fix_Q_Times.f k x2 4294967296).bind fun t186 => (if t186 = x2 then ((fix_Q_Over.f k x2 4294967296).bind fun t187 => (some (t187 == x2))) else (none))) else (none)))
end
def overfalllaw02_FixBack.f (k : Nat) (a0 : Int) (a1 : Int) (a2 : Int) : Option (Bool) := (overfalllaw02_awake.f k).bind fun t174 => (if t174 = true then ((fix_Add.f (wrap64 (Int.tdiv (wrap64 (a0)) 2)) (wrap64 (a1))).bind fun t175 => ((fix_Sub.f t175 (wrap64 (a1))).bind fun t176 => (if t176 = (wrap64 (Int.tdiv (wrap64 (a0)) 2)) then ((fix_Add.f (wrap64 (Int.tdiv (wrap64 (a0)) 2)) (wrap64 (a1))).bind fun t177 => (if t177 = (wrap64 ((wrap64 (Int.tdiv (wrap64 (a0)) 2)) + (wrap64 (a1)))) then ((fix_Mul.f k (wrap64 (Int.tdiv (wrap64 (a0)) 2)) (wrap64 (a1))).bind fun t178 => (if t178 = (wrap64 ((wrap64 (Int.tdiv (wrap64 (a0)) 2)) * (wrap64 (a1)))) then ((fix_Neg.f (wrap64 (Int.tdiv (wrap64 (a0)) 2))).bind fun t179 => ((fix_Neg.f t179).bind fun t180 => (overfalllaw02_FixBack.j0 k a2 (wrap64 (Int.tdiv (wrap64 (a0)) 2)) (wrap64 (a1)) (t180 != (wrap64 (Int.tdiv (wrap64 (a0)) 2)))))) else (overfalllaw02_FixBack.j0 k a2 (wrap64 (Int.tdiv (wrap64 (a0)) 2)) (wrap64 (a1)) true))) else (overfalllaw02_FixBack.j0 k a2 (wrap64 (Int.tdiv (wrap64 (a0)) 2)) (wrap64 (a1)) true))) else (overfalllaw02_FixBack.j0 k a2 (wrap64 (Int.tdiv (wrap64 (a0)) 2)) (wrap64 (a1)) true)))) else (none))
theorem overfalllaw02_FixBack.mono_l : ∀ k, (∀ y0 y1 y2 y3, LeO (overfalllaw02_FixBack.j0 k y0 y1 y2 y3) (overfalllaw02_FixBack.j0 (k + 1) y0 y1 y2 y3)) ∧ (∀ y0 y1, LeO (overfalllaw02_FixBack.j1 k y0 y1) (overfalllaw02_FixBack.j1 (k + 1) y0 y1))
 | 0 => ⟨fun _ _ _ _ r h => by simp [overfalllaw02_FixBack.j0] at h, fun _ _ r h => by simp [overfalllaw02_FixBack.j1] at h⟩
 | k + 1 => by
  obtain ⟨ih0, ih1⟩ := overfalllaw02_FixBack.mono_l k
  refine ⟨?_, ?_⟩
  ·intro y0 y1 y2 y3
   unfold overfalllaw02_FixBack.j0
   repeat' first
   | (with_reducible exact ih0 _ _ _ _)
   | (with_reducible exact ih1 _ _)
   | (with_reducible exact fix_Mul.mono _ _ _)
   | (with_reducible exact fix_Q_Of.mono _ _ _)
   | (with_reducible exact fix_Q_Over.mono _ _ _)
   | (with_reducible exact fix_Q_Times.mono _ _ _)
   | (with_reducible exact fix_Ratio.mono _ _ _)
   | (with_reducible exact fix_Whole.mono _ _)
   | (with_reducible exact overfalllaw02_awake.mono _)
   | (with_reducible exact LeO.refl _)
   | (with_reducible exact LeO.none _)
   | (with_reducible refine LeO.ite ?_ ?_)
   | (with_reducible refine LeO.bind ?_ (fun _ => ?_))
   | exact ih0 _ _ _ _
   | exact ih1 _ _
   | exact fix_Mul.mono _ _ _
   | exact fix_Q_Of.mono _ _ _
   | exact fix_Q_Over.mono _ _ _
   | exact fix_Q_Times.mono _ _ _
   | exact fix_Ratio.mono _ _ _
   | exact fix_Whole.mono _ _
   | exact overfalllaw02_awake.mono _
   | exact LeO.none _
   | refine LeO.ite ?_ ?_
   | refine LeO.bind ?_ (fun _ => ?_)
  ·intro y0 y1
   unfold overfalllaw02_FixBack.j1
   repeat' first
   | (with_reducible exact ih0 _ _ _ _)
   | (with_reducible exact ih1 _ _)
   | (with_reducible exact fix_Mul.mono _ _ _)
   | (with_reducible exact fix_Q_Of.mono _ _ _)
   | (with_reducible exact fix_Q_Over.mono _ _ _)
   | (with_reducible exact fix_Q_Times.mono _ _ _)
   | (with_reducible exact fix_Ratio.mono _ _ _)
   | (with_reducible exact fix_Whole.mono _ _)
   | (with_reducible exact overfalllaw02_awake.mono _)
   | (with_reducible exact LeO.refl _)
   | (with_reducible exact LeO.none _)
   | (with_reducible refine LeO.ite ?_ ?_)
   | (with_reducible refine LeO.bind ?_ (fun _ => ?_))
   | exact ih0 _ _ _ _
   | exact ih1 _ _
   | exact fix_Mul.mono _ _ _
   | exact fix_Q_Of.mono _ _ _
   | exact fix_Q_Over.mono _ _ _
   | exact fix_Q_Times.mono _ _ _
   | exact fix_Ratio.mono _ _ _
   | exact fix_Whole.mono _ _
   | exact overfalllaw02_awake.mono _
   | exact LeO.none _
   | refine LeO.ite ?_ ?_
   | refine LeO.bind ?_ (fun _ => ?_)
theorem overfalllaw02_FixBack.mono : ∀ a0 a1 a2 k, LeO (overfalllaw02_FixBack.f k a0 a1 a2) (overfalllaw02_FixBack.f (k + 1) a0 a1 a2) := by
 intro a0 a1 a2 k
 obtain ⟨ih0, ih1⟩ := overfalllaw02_FixBack.mono_l k
 unfold overfalllaw02_FixBack.f
 repeat' first
   | (with_reducible exact ih0 _ _ _ _)
   | (with_reducible exact ih1 _ _)
   | (with_reducible exact fix_Mul.mono _ _ _)
   | (with_reducible exact fix_Q_Of.mono _ _ _)
   | (with_reducible exact fix_Q_Over.mono _ _ _)
   | (with_reducible exact fix_Q_Times.mono _ _ _)
   | (with_reducible exact fix_Ratio.mono _ _ _)
   | (with_reducible exact fix_Whole.mono _ _)
   | (with_reducible exact overfalllaw02_awake.mono _)
   | (with_reducible exact LeO.refl _)
   | (with_reducible exact LeO.none _)
   | (with_reducible refine LeO.ite ?_ ?_)
   | (with_reducible refine LeO.bind ?_ (fun _ => ?_))
   | exact ih0 _ _ _ _
   | exact ih1 _ _
   | exact fix_Mul.mono _ _ _
   | exact fix_Q_Of.mono _ _ _
   | exact fix_Q_Over.mono _ _ _
   | exact fix_Q_Times.mono _ _ _
   | exact fix_Ratio.mono _ _ _
   | exact fix_Whole.mono _ _
   | exact overfalllaw02_awake.mono _
   | exact LeO.none _
   | refine LeO.ite ?_ ?_
   | refine LeO.bind ?_ (fun _ => ?_)
set_option maxHeartbeats 8000000 in
set_option maxRecDepth 100000 in
theorem overfalllaw02_FixBack.calls (k : Nat) (a0 : Int) (a1 : Int) (a2 : Int) (r : Bool) (w : World) (h : overfalllaw02_FixBack.f k a0 a1 a2 = some r) :
  Calls Try.prog 9 #[.int .i32 a0, .int .i32 a1, .int .i64 a2] w fun e w' => e = .returned (.bool r) ∧ Below w.heap.size w w' := by
 have HB := Aside0.mk (Below.refl w.heap.size w)
 have H : ((overfalllaw02_awake.f k).bind fun t174 => (if t174 = true then ((fix_Add.f (wrap64 (Int.tdiv (wrap64 (a0)) 2)) (wrap64 (a1))).bind fun t175 => ((fix_Sub.f t175 (wrap64 (a1))).bind fun t176 => (if t176 = (wrap64 (Int.tdiv (wrap64 (a0)) 2)) then ((fix_Add.f (wrap64 (Int.tdiv (wrap64 (a0)) 2)) (wrap64 (a1))).bind fun t177 => (if t177 = (wrap64 ((wrap64 (Int.tdiv (wrap64 (a0)) 2)) + (wrap64 (a1)))) then ((fix_Mul.f k (wrap64 (Int.tdiv (wrap64 (a0)) 2)) (wrap64 (a1))).bind fun t178 => (if t178 = (wrap64 ((wrap64 (Int.tdiv (wrap64 (a0)) 2)) * (wrap64 (a1)))) then ((fix_Neg.f (wrap64 (Int.tdiv (wrap64 (a0)) 2))).bind fun t179 => ((fix_Neg.f t179).bind fun t180 => (overfalllaw02_FixBack.j0 k a2 (wrap64 (Int.tdiv (wrap64 (a0)) 2)) (wrap64 (a1)) (t180 != (wrap64 (Int.tdiv (wrap64 (a0)) 2)))))) else (overfalllaw02_FixBack.j0 k a2 (wrap64 (Int.tdiv (wrap64 (a0)) 2)) (wrap64 (a1)) true))) else (overfalllaw02_FixBack.j0 k a2 (wrap64 (Int.tdiv (wrap64 (a0)) 2)) (wrap64 (a1)) true))) else (overfalllaw02_FixBack.j0 k a2 (wrap64 (Int.tdiv (wrap64 (a0)) 2)) (wrap64 (a1)) true)))) else (none))) = some r := h
 clear h
 replace H := Option.bind_eq_some_iff.mp H
 obtain ⟨t174, A40, H⟩ := H
 replace H : (if t174 = true then ((fix_Add.f (wrap64 (Int.tdiv (wrap64 (a0)) 2)) (wrap64 (a1))).bind fun t175 => ((fix_Sub.f t175 (wrap64 (a1))).bind fun t176 => (if t176 = (wrap64 (Int.tdiv (wrap64 (a0)) 2)) then ((fix_Add.f (wrap64 (Int.tdiv (wrap64 (a0)) 2)) (wrap64 (a1))).bind fun t177 => (if t177 = (wrap64 ((wrap64 (Int.tdiv (wrap64 (a0)) 2)) + (wrap64 (a1)))) then ((fix_Mul.f k (wrap64 (Int.tdiv (wrap64 (a0)) 2)) (wrap64 (a1))).bind fun t178 => (if t178 = (wrap64 ((wrap64 (Int.tdiv (wrap64 (a0)) 2)) * (wrap64 (a1)))) then ((fix_Neg.f (wrap64 (Int.tdiv (wrap64 (a0)) 2))).bind fun t179 => ((fix_Neg.f t179).bind fun t180 => (overfalllaw02_FixBack.j0 k a2 (wrap64 (Int.tdiv (wrap64 (a0)) 2)) (wrap64 (a1)) (t180 != (wrap64 (Int.tdiv (wrap64 (a0)) 2)))))) else (overfalllaw02_FixBack.j0 k a2 (wrap64 (Int.tdiv (wrap64 (a0)) 2)) (wrap64 (a1)) true))) else (overfalllaw02_FixBack.j0 k a2 (wrap64 (Int.tdiv (wrap64 (a0)) 2)) (wrap64 (a1)) true))) else (overfalllaw02_FixBack.j0 k a2 (wrap64 (Int.tdiv (wrap64 (a0)) 2)) (wrap64 (a1)) true)))) else (none)) = some r := H
 have A4 := Aside0.mk A40
 clear A40
 by_cases c5 : t174 = true
 ·subst c5
  have H1 : ((fix_Add.f (wrap64 (Int.tdiv (wrap64 (a0)) 2)) (wrap64 (a1))).bind fun t175 => ((fix_Sub.f t175 (wrap64 (a1))).bind fun t176 => (if t176 = (wrap64 (Int.tdiv (wrap64 (a0)) 2)) then ((fix_Add.f (wrap64 (Int.tdiv (wrap64 (a0)) 2)) (wrap64 (a1))).bind fun t177 => (if t177 = (wrap64 ((wrap64 (Int.tdiv (wrap64 (a0)) 2)) + (wrap64 (a1)))) then ((fix_Mul.f k (wrap64 (Int.tdiv (wrap64 (a0)) 2)) (wrap64 (a1))).bind fun t178 => (if t178 = (wrap64 ((wrap64 (Int.tdiv (wrap64 (a0)) 2)) * (wrap64 (a1)))) then ((fix_Neg.f (wrap64 (Int.tdiv (wrap64 (a0)) 2))).bind fun t179 => ((fix_Neg.f t179).bind fun t180 => (overfalllaw02_FixBack.j0 k a2 (wrap64 (Int.tdiv (wrap64 (a0)) 2)) (wrap64 (a1)) (t180 != (wrap64 (Int.tdiv (wrap64 (a0)) 2)))))) else (overfalllaw02_FixBack.j0 k a2 (wrap64 (Int.tdiv (wrap64 (a0)) 2)) (wrap64 (a1)) true))) else (overfalllaw02_FixBack.j0 k a2 (wrap64 (Int.tdiv (wrap64 (a0)) 2)) (wrap64 (a1)) true))) else (overfalllaw02_FixBack.j0 k a2 (wrap64 (Int.tdiv (wrap64 (a0)) 2)) (wrap64 (a1)) true)))) = some r := by rw [if_pos rfl] at H; exact H
  clear H
  have H := H1
  clear H1
  have HC6 := Aside0.mk H
  clear H
  go_enter Try.func9, Try.ntmps9
  go_upto_region 4 with (first | ((with_reducible refine gate_callee (f := 10) rfl ?_); refine goesL_ (some 12) rfl rfl Try.func10 (by kernel_rfl) rfl #[] rfl (by (try simp only [List.map_toArray, List.map_cons, List.map_nil]); first | done | rfl | (simp only [List.length_drop, List.length_take]; rfl)) ?_; (with_reducible refine (overfalllaw02_awake.calls k  true _ A4.out).mono ?_); rintro e w7 ⟨rfl, hb⟩; refine ⟨_, rfl, ?_⟩; have n0_ := Aside0.mk (below_step (by repeat (first | (with_reducible first | exact HB.out | apply below_alloc | apply pw_below_drewN | apply below_drew1) | exact HB.out)) hb); clear HB; have HB := n0_; clear n0_; (try clear hb); (try clear hb2); (try clear hk); (try clear hi)))
  (try simp only [Act.put, List.setIfInBounds_toArray, List.set_cons_zero, List.set_cons_succ])
  go_cut [50] (fun v50 wc => ∃ (kq : Nat) (x50_5 : Bool), v50 = .bool x50_5 ∧ Aside0 (overfalllaw02_FixBack.j0 kq a2 (wrap64 (Int.tdiv (wrap64 (a0)) 2)) (wrap64 (a1)) x50_5 = some r) ∧ Aside0 (kq ≤ k) ∧ Aside0 (Below w.heap.size w wc))
  case first =>
   have H := HC6.out
   clear HC6
   replace H := Option.bind_eq_some_iff.mp H
   obtain ⟨t175, A80, H⟩ := H
   replace H : ((fix_Sub.f t175 (wrap64 (a1))).bind fun t176 => (if t176 = (wrap64 (Int.tdiv (wrap64 (a0)) 2)) then ((fix_Add.f (wrap64 (Int.tdiv (wrap64 (a0)) 2)) (wrap64 (a1))).bind fun t177 => (if t177 = (wrap64 ((wrap64 (Int.tdiv (wrap64 (a0)) 2)) + (wrap64 (a1)))) then ((fix_Mul.f k (wrap64 (Int.tdiv (wrap64 (a0)) 2)) (wrap64 (a1))).bind fun t178 => (if t178 = (wrap64 ((wrap64 (Int.tdiv (wrap64 (a0)) 2)) * (wrap64 (a1)))) then ((fix_Neg.f (wrap64 (Int.tdiv (wrap64 (a0)) 2))).bind fun t179 => ((fix_Neg.f t179).bind fun t180 => (overfalllaw02_FixBack.j0 k a2 (wrap64 (Int.tdiv (wrap64 (a0)) 2)) (wrap64 (a1)) (t180 != (wrap64 (Int.tdiv (wrap64 (a0)) 2)))))) else (overfalllaw02_FixBack.j0 k a2 (wrap64 (Int.tdiv (wrap64 (a0)) 2)) (wrap64 (a1)) true))) else (overfalllaw02_FixBack.j0 k a2 (wrap64 (Int.tdiv (wrap64 (a0)) 2)) (wrap64 (a1)) true))) else (overfalllaw02_FixBack.j0 k a2 (wrap64 (Int.tdiv (wrap64 (a0)) 2)) (wrap64 (a1)) true))) = some r := H
   have A8 := Aside0.mk A80
   clear A80
   replace H := Option.bind_eq_some_iff.mp H
   obtain ⟨t176, A90, H⟩ := H
   replace H : (if t176 = (wrap64 (Int.tdiv (wrap64 (a0)) 2)) then ((fix_Add.f (wrap64 (Int.tdiv (wrap64 (a0)) 2)) (wrap64 (a1))).bind fun t177 => (if t177 = (wrap64 ((wrap64 (Int.tdiv (wrap64 (a0)) 2)) + (wrap64 (a1)))) then ((fix_Mul.f k (wrap64 (Int.tdiv (wrap64 (a0)) 2)) (wrap64 (a1))).bind fun t178 => (if t178 = (wrap64 ((wrap64 (Int.tdiv (wrap64 (a0)) 2)) * (wrap64 (a1)))) then ((fix_Neg.f (wrap64 (Int.tdiv (wrap64 (a0)) 2))).bind fun t179 => ((fix_Neg.f t179).bind fun t180 => (overfalllaw02_FixBack.j0 k a2 (wrap64 (Int.tdiv (wrap64 (a0)) 2)) (wrap64 (a1)) (t180 != (wrap64 (Int.tdiv (wrap64 (a0)) 2)))))) else (overfalllaw02_FixBack.j0 k a2 (wrap64 (Int.tdiv (wrap64 (a0)) 2)) (wrap64 (a1)) true))) else (overfalllaw02_FixBack.j0 k a2 (wrap64 (Int.tdiv (wrap64 (a0)) 2)) (wrap64 (a1)) true))) else (overfalllaw02_FixBack.j0 k a2 (wrap64 (Int.tdiv (wrap64 (a0)) 2)) (wrap64 (a1)) true)) = some r := H
   have A9 := Aside0.mk A90
   clear A90
   by_cases c10 : t176 = (wrap64 (Int.tdiv (wrap64 (a0)) 2))
   ·rw [if_pos c10] at H
    have c10b0 : (t176 == (wrap64 (Int.tdiv (wrap64 (a0)) 2))) = true := beq_iff_eq.mpr c10
    have c10b1 : (t176 != (wrap64 (Int.tdiv (wrap64 (a0)) 2))) = false := bne_eq_false_iff_eq.mpr c10
    clear c10
    (first | rw [c10b0] | (simp only [i64_w, i32_w]; rw [c10b0]) | skip)
    replace H := Option.bind_eq_some_iff.mp H
    obtain ⟨t177, A110, H⟩ := H
    replace H : (if t177 = (wrap64 ((wrap64 (Int.tdiv (wrap64 (a0)) 2)) + (wrap64 (a1)))) then ((fix_Mul.f k (wrap64 (Int.tdiv (wrap64 (a0)) 2)) (wrap64 (a1))).bind fun t178 => (if t178 = (wrap64 ((wrap64 (Int.tdiv (wrap64 (a0)) 2)) * (wrap64 (a1)))) then ((fix_Neg.f (wrap64 (Int.tdiv (wrap64 (a0)) 2))).bind fun t179 => ((fix_Neg.f t179).bind fun t180 => (overfalllaw02_FixBack.j0 k a2 (wrap64 (Int.tdiv (wrap64 (a0)) 2)) (wrap64 (a1)) (t180 != (wrap64 (Int.tdiv (wrap64 (a0)) 2)))))) else (overfalllaw02_FixBack.j0 k a2 (wrap64 (Int.tdiv (wrap64 (a0)) 2)) (wrap64 (a1)) true))) else (overfalllaw02_FixBack.j0 k a2 (wrap64 (Int.tdiv (wrap64 (a0)) 2)) (wrap64 (a1)) true)) = some r := H
    have A11 := Aside0.mk A110
    clear A110
    by_cases c12 : t177 = (wrap64 ((wrap64 (Int.tdiv (wrap64 (a0)) 2)) + (wrap64 (a1))))
    ·rw [if_pos c12] at H
     have c12b0 : (t177 == (wrap64 ((wrap64 (Int.tdiv (wrap64 (a0)) 2)) + (wrap64 (a1))))) = true := beq_iff_eq.mpr c12
     have c12b1 : (t177 != (wrap64 ((wrap64 (Int.tdiv (wrap64 (a0)) 2)) + (wrap64 (a1))))) = false := bne_eq_false_iff_eq.mpr c12
     clear c12
     replace H := Option.bind_eq_some_iff.mp H
     obtain ⟨t178, A130, H⟩ := H
     replace H : (if t178 = (wrap64 ((wrap64 (Int.tdiv (wrap64 (a0)) 2)) * (wrap64 (a1)))) then ((fix_Neg.f (wrap64 (Int.tdiv (wrap64 (a0)) 2))).bind fun t179 => ((fix_Neg.f t179).bind fun t180 => (overfalllaw02_FixBack.j0 k a2 (wrap64 (Int.tdiv (wrap64 (a0)) 2)) (wrap64 (a1)) (t180 != (wrap64 (Int.tdiv (wrap64 (a0)) 2)))))) else (overfalllaw02_FixBack.j0 k a2 (wrap64 (Int.tdiv (wrap64 (a0)) 2)) (wrap64 (a1)) true)) = some r := H
     have A13 := Aside0.mk A130
     clear A130
     by_cases c14 : t178 = (wrap64 ((wrap64 (Int.tdiv (wrap64 (a0)) 2)) * (wrap64 (a1))))
     ·rw [if_pos c14] at H
      have c14b0 : (t178 == (wrap64 ((wrap64 (Int.tdiv (wrap64 (a0)) 2)) * (wrap64 (a1))))) = true := beq_iff_eq.mpr c14
      have c14b1 : (t178 != (wrap64 ((wrap64 (Int.tdiv (wrap64 (a0)) 2)) * (wrap64 (a1))))) = false := bne_eq_false_iff_eq.mpr c14
      clear c14
      replace H := Option.bind_eq_some_iff.mp H
      obtain ⟨t179, A150, H⟩ := H
      replace H : ((fix_Neg.f t179).bind fun t180 => (overfalllaw02_FixBack.j0 k a2 (wrap64 (Int.tdiv (wrap64 (a0)) 2)) (wrap64 (a1)) (t180 != (wrap64 (Int.tdiv (wrap64 (a0)) 2))))) = some r := H
      have A15 := Aside0.mk A150
      clear A150
      replace H := Option.bind_eq_some_iff.mp H
      obtain ⟨t180, A160, H⟩ := H
      replace H : (overfalllaw02_FixBack.j0 k a2 (wrap64 (Int.tdiv (wrap64 (a0)) 2)) (wrap64 (a1)) (t180 != (wrap64 (Int.tdiv (wrap64 (a0)) 2)))) = some r := H
      have A16 := Aside0.mk A160
      clear A160
      have H' := Aside0.mk H
      clear H
      go_wp2_with (first | ((with_reducible refine gate_callee (f := 25) rfl ?_); refine goesL_ (some 21) rfl rfl Try.func25 (by kernel_rfl) rfl #[.int .i64 (wrap64 (Int.tdiv (wrap64 (a0)) 2)), .int .i64 (wrap64 (a1))] rfl (by (try simp only [List.map_toArray, List.map_cons, List.map_nil]); first | done | rfl | (simp only [List.length_drop, List.length_take]; rfl)) ?_; (with_reducible refine (fix_Add.calls (wrap64 (Int.tdiv (wrap64 (a0)) 2)) (wrap64 (a1)) t175 _ A8.out).mono ?_); rintro e w' ⟨rfl, ⟨nd, rfl⟩⟩; refine ⟨_, rfl, ?_⟩) | ((with_reducible refine gate_callee (f := 27) rfl ?_); refine goesL_ (some 23) rfl rfl Try.func27 (by kernel_rfl) rfl #[.int .i64 t175, .int .i64 (wrap64 (a1))] rfl (by (try simp only [List.map_toArray, List.map_cons, List.map_nil]); first | done | rfl | (simp only [List.length_drop, List.length_take]; rfl)) ?_; (with_reducible refine (fix_Sub.calls t175 (wrap64 (a1)) t176 _ A9.out).mono ?_); rintro e w' ⟨rfl, ⟨nd, rfl⟩⟩; refine ⟨_, rfl, ?_⟩) | (go_at_call 25; (with_reducible refine (fix_Add.calls (wrap64 (Int.tdiv (wrap64 (a0)) 2)) (wrap64 (a1)) t177 _ A11.out).mono ?_); rintro e w' ⟨rfl, ⟨nd, rfl⟩⟩) | (go_at_call 11; (with_reducible refine (fix_Mul.calls k (wrap64 (Int.tdiv (wrap64 (a0)) 2)) (wrap64 (a1)) t178 _ A13.out).mono ?_); rintro e w17 ⟨rfl, hb⟩; have n0_ := Aside0.mk (below_step (by repeat (first | (with_reducible first | exact HB.out | apply below_alloc | apply pw_below_drewN | apply below_drew1) | exact HB.out)) hb); clear HB; have HB := n0_; clear n0_; (try clear hb); (try clear hb2); (try clear hk); (try clear hi)) | (go_at_call 29; (with_reducible refine (fix_Neg.calls (wrap64 (Int.tdiv (wrap64 (a0)) 2)) t179 _ A15.out).mono ?_); rintro e w' ⟨rfl, ⟨nd, rfl⟩⟩) | (go_at_call 29; (with_reducible refine (fix_Neg.calls t179 t180 _ A16.out).mono ?_); rintro e w' ⟨rfl, ⟨nd, rfl⟩⟩))
      go_meet
      case rel => exact ⟨_, ((t180 != (wrap64 (Int.tdiv (wrap64 (a0)) 2)))), (by first | rfl | (simp; done) | (simp [*]; done)), H', ⟨by first | omega | exact Nat.le_refl _⟩, ⟨by repeat (first | (with_reducible first | exact HB.out | apply below_alloc | apply pw_below_drewN | apply below_drew1) | exact HB.out)⟩⟩
     ·rw [if_neg c14] at H
      have c14b0 : (t178 == (wrap64 ((wrap64 (Int.tdiv (wrap64 (a0)) 2)) * (wrap64 (a1))))) = false := beq_eq_false_iff_ne.mpr c14
      have c14b1 : (t178 != (wrap64 ((wrap64 (Int.tdiv (wrap64 (a0)) 2)) * (wrap64 (a1))))) = true := bne_iff_ne.mpr c14
      have H' := Aside0.mk H
      clear H
      go_wp2_with (first | ((with_reducible refine gate_callee (f := 25) rfl ?_); refine goesL_ (some 21) rfl rfl Try.func25 (by kernel_rfl) rfl #[.int .i64 (wrap64 (Int.tdiv (wrap64 (a0)) 2)), .int .i64 (wrap64 (a1))] rfl (by (try simp only [List.map_toArray, List.map_cons, List.map_nil]); first | done | rfl | (simp only [List.length_drop, List.length_take]; rfl)) ?_; (with_reducible refine (fix_Add.calls (wrap64 (Int.tdiv (wrap64 (a0)) 2)) (wrap64 (a1)) t175 _ A8.out).mono ?_); rintro e w' ⟨rfl, ⟨nd, rfl⟩⟩; refine ⟨_, rfl, ?_⟩) | ((with_reducible refine gate_callee (f := 27) rfl ?_); refine goesL_ (some 23) rfl rfl Try.func27 (by kernel_rfl) rfl #[.int .i64 t175, .int .i64 (wrap64 (a1))] rfl (by (try simp only [List.map_toArray, List.map_cons, List.map_nil]); first | done | rfl | (simp only [List.length_drop, List.length_take]; rfl)) ?_; (with_reducible refine (fix_Sub.calls t175 (wrap64 (a1)) t176 _ A9.out).mono ?_); rintro e w' ⟨rfl, ⟨nd, rfl⟩⟩; refine ⟨_, rfl, ?_⟩) | (go_at_call 25; (with_reducible refine (fix_Add.calls (wrap64 (Int.tdiv (wrap64 (a0)) 2)) (wrap64 (a1)) t177 _ A11.out).mono ?_); rintro e w' ⟨rfl, ⟨nd, rfl⟩⟩) | (go_at_call 11; (with_reducible refine (fix_Mul.calls k (wrap64 (Int.tdiv (wrap64 (a0)) 2)) (wrap64 (a1)) t178 _ A13.out).mono ?_); rintro e w18 ⟨rfl, hb⟩; have n0_ := Aside0.mk (below_step (by repeat (first | (with_reducible first | exact HB.out | apply below_alloc | apply pw_below_drewN | apply below_drew1) | exact HB.out)) hb); clear HB; have HB := n0_; clear n0_; (try clear hb); (try clear hb2); (try clear hk); (try clear hi)))
      go_meet
      case rel => exact ⟨_, (true), (by first | rfl | (simp; done) | (simp [*]; done)), H', ⟨by first | omega | exact Nat.le_refl _⟩, ⟨by repeat (first | (with_reducible first | exact HB.out | apply below_alloc | apply pw_below_drewN | apply below_drew1) | exact HB.out)⟩⟩
    ·rw [if_neg c12] at H
     have c12b0 : (t177 == (wrap64 ((wrap64 (Int.tdiv (wrap64 (a0)) 2)) + (wrap64 (a1))))) = false := beq_eq_false_iff_ne.mpr c12
     have c12b1 : (t177 != (wrap64 ((wrap64 (Int.tdiv (wrap64 (a0)) 2)) + (wrap64 (a1))))) = true := bne_iff_ne.mpr c12
     have H' := Aside0.mk H
     clear H
     go_wp2_with (first | ((with_reducible refine gate_callee (f := 25) rfl ?_); refine goesL_ (some 21) rfl rfl Try.func25 (by kernel_rfl) rfl #[.int .i64 (wrap64 (Int.tdiv (wrap64 (a0)) 2)), .int .i64 (wrap64 (a1))] rfl (by (try simp only [List.map_toArray, List.map_cons, List.map_nil]); first | done | rfl | (simp only [List.length_drop, List.length_take]; rfl)) ?_; (with_reducible refine (fix_Add.calls (wrap64 (Int.tdiv (wrap64 (a0)) 2)) (wrap64 (a1)) t175 _ A8.out).mono ?_); rintro e w' ⟨rfl, ⟨nd, rfl⟩⟩; refine ⟨_, rfl, ?_⟩) | ((with_reducible refine gate_callee (f := 27) rfl ?_); refine goesL_ (some 23) rfl rfl Try.func27 (by kernel_rfl) rfl #[.int .i64 t175, .int .i64 (wrap64 (a1))] rfl (by (try simp only [List.map_toArray, List.map_cons, List.map_nil]); first | done | rfl | (simp only [List.length_drop, List.length_take]; rfl)) ?_; (with_reducible refine (fix_Sub.calls t175 (wrap64 (a1)) t176 _ A9.out).mono ?_); rintro e w' ⟨rfl, ⟨nd, rfl⟩⟩; refine ⟨_, rfl, ?_⟩) | (go_at_call 25; (with_reducible refine (fix_Add.calls (wrap64 (Int.tdiv (wrap64 (a0)) 2)) (wrap64 (a1)) t177 _ A11.out).mono ?_); rintro e w' ⟨rfl, ⟨nd, rfl⟩⟩))
     go_meet
     case rel => exact ⟨_, (true), (by first | rfl | (simp; done) | (simp [*]; done)), H', ⟨by first | omega | exact Nat.le_refl _⟩, ⟨by repeat (first | (with_reducible first | exact HB.out | apply below_alloc | apply pw_below_drewN | apply below_drew1) | exact HB.out)⟩⟩
   ·rw [if_neg c10] at H
    have c10b0 : (t176 == (wrap64 (Int.tdiv (wrap64 (a0)) 2))) = false := beq_eq_false_iff_ne.mpr c10
    have c10b1 : (t176 != (wrap64 (Int.tdiv (wrap64 (a0)) 2))) = true := bne_iff_ne.mpr c10
    (first | rw [c10b0] | (simp only [i64_w, i32_w]; rw [c10b0]) | skip)
    have H' := Aside0.mk H
    clear H
    go_wp2_with (first | ((with_reducible refine gate_callee (f := 25) rfl ?_); refine goesL_ (some 21) rfl rfl Try.func25 (by kernel_rfl) rfl #[.int .i64 (wrap64 (Int.tdiv (wrap64 (a0)) 2)), .int .i64 (wrap64 (a1))] rfl (by (try simp only [List.map_toArray, List.map_cons, List.map_nil]); first | done | rfl | (simp only [List.length_drop, List.length_take]; rfl)) ?_; (with_reducible refine (fix_Add.calls (wrap64 (Int.tdiv (wrap64 (a0)) 2)) (wrap64 (a1)) t175 _ A8.out).mono ?_); rintro e w' ⟨rfl, ⟨nd, rfl⟩⟩; refine ⟨_, rfl, ?_⟩) | ((with_reducible refine gate_callee (f := 27) rfl ?_); refine goesL_ (some 23) rfl rfl Try.func27 (by kernel_rfl) rfl #[.int .i64 t175, .int .i64 (wrap64 (a1))] rfl (by (try simp only [List.map_toArray, List.map_cons, List.map_nil]); first | done | rfl | (simp only [List.length_drop, List.length_take]; rfl)) ?_; (with_reducible refine (fix_Sub.calls t175 (wrap64 (a1)) t176 _ A9.out).mono ?_); rintro e w' ⟨rfl, ⟨nd, rfl⟩⟩; refine ⟨_, rfl, ?_⟩))
    go_meet
    case rel => exact ⟨_, (true), (by first | rfl | (simp; done) | (simp [*]; done)), H', ⟨by first | omega | exact Nat.le_refl _⟩, ⟨by repeat (first | (with_reducible first | exact HB.out | apply below_alloc | apply pw_below_drewN | apply below_drew1) | exact HB.out)⟩⟩
  case rest =>
   clear HC6
   try clear c1
   try clear c2
   try clear p2
   try clear c5
   try clear p6
   try clear c9
   try clear c10
   try clear c10b0
   try clear c10b1
   try clear c12
   try clear c12b0
   try clear c12b1
   try clear c14
   try clear c14b0
   try clear c14b1
   (try clear HB)
   obtain ⟨kq, x50_5, rfl, HA, HJ5, HB⟩ := hcut
   cases kq with
   | zero => exact absurd HA.out (by simp [overfalllaw02_FixBack.j0])
   | succ kj5 =>
    have H := HA.out
    clear HA
    simp only [overfalllaw02_FixBack.j0] at H
    by_cases c19 : x50_5 = true
    ·subst c19
     have H1 : (none) = some r := by rw [if_pos rfl] at H; exact H
     clear H
     have H := H1
     clear H1
     exact absurd H (by simp)
    ·replace c19 := Bool.eq_false_iff.mpr c19
     subst c19
     have H1 : (if (wrap64 (a1)) = 0 then (overfalllaw02_FixBack.j1 kj5 a2 (wrap64 (Int.tdiv (wrap64 (a0)) 2))) else ((fix_Ratio.f kj5 (wrap64 (Int.tdiv (wrap64 (a0)) 2)) (wrap64 (a1))).bind fun t181 => ((fix_Q_Of.f kj5 t181 (wrap64 (a1))).bind fun t182 => ((fix_Q_Of.f kj5 (wrap64 (t181 + 1)) (wrap64 (a1))).bind fun t183 => (if (wrap64 (a1)) < 0 then (if t183 > (wrap64 (Int.tdiv (wrap64 (a0)) 2)) then (none) else (if t182 < (wrap64 (Int.tdiv (wrap64 (a0)) 2)) then (none) else (overfalllaw02_FixBack.j1 kj5 a2 (wrap64 (Int.tdiv (wrap64 (a0)) 2))))) else (if t182 > (wrap64 (Int.tdiv (wrap64 (a0)) 2)) then (none) else (if t183 < (wrap64 (Int.tdiv (wrap64 (a0)) 2)) then (none) else (overfalllaw02_FixBack.j1 kj5 a2 (wrap64 (Int.tdiv (wrap64 (a0)) 2)))))))))) = some r := by rw [if_neg (show ¬ (false = true) by decide)] at H; exact H
     clear H
     have H := H1
     clear H1
     have HC20 := Aside0.mk H
     clear H
     go_upto_if 52 with (fail)
     go_cut [] (fun wc => ∃ (kq : Nat), Aside0 (overfalllaw02_FixBack.j1 kq a2 (wrap64 (Int.tdiv (wrap64 (a0)) 2)) = some r) ∧ Aside0 (kq ≤ kj5) ∧ Aside0 (Below w.heap.size w wc))
     case first =>
      have H := HC20.out
      clear HC20
      by_cases c21 : (wrap64 (a1)) = 0
      ·rw [if_pos c21] at H
       have c21b0 : ((wrap64 (a1)) == 0) = true := beq_iff_eq.mpr c21
       have c21b1 : ((wrap64 (a1)) != 0) = false := bne_eq_false_iff_eq.mpr c21
       clear c21
       (first | rw [c21b0] | (simp only [i64_w, i32_w]; rw [c21b0]) | skip)
       have H' := Aside0.mk H
       clear H
       go_wp2
       go_meet
       case rel => exact ⟨_, H', ⟨by have := HJ5.out; first | omega | exact Nat.le_refl _⟩, ⟨by repeat (first | (with_reducible first | exact HB.out | apply below_alloc | apply pw_below_drewN | apply below_drew1) | exact HB.out)⟩⟩
      ·rw [if_neg c21] at H
       have c21b0 : ((wrap64 (a1)) == 0) = false := beq_eq_false_iff_ne.mpr c21
       have c21b1 : ((wrap64 (a1)) != 0) = true := bne_iff_ne.mpr c21
       (first | rw [c21b0] | (simp only [i64_w, i32_w]; rw [c21b0]) | skip)
       replace H := Option.bind_eq_some_iff.mp H
       obtain ⟨t181, A220, H⟩ := H
       replace H : ((fix_Q_Of.f kj5 t181 (wrap64 (a1))).bind fun t182 => ((fix_Q_Of.f kj5 (wrap64 (t181 + 1)) (wrap64 (a1))).bind fun t183 => (if (wrap64 (a1)) < 0 then (if t183 > (wrap64 (Int.tdiv (wrap64 (a0)) 2)) then (none) else (if t182 < (wrap64 (Int.tdiv (wrap64 (a0)) 2)) then (none) else (overfalllaw02_FixBack.j1 kj5 a2 (wrap64 (Int.tdiv (wrap64 (a0)) 2))))) else (if t182 > (wrap64 (Int.tdiv (wrap64 (a0)) 2)) then (none) else (if t183 < (wrap64 (Int.tdiv (wrap64 (a0)) 2)) then (none) else (overfalllaw02_FixBack.j1 kj5 a2 (wrap64 (Int.tdiv (wrap64 (a0)) 2)))))))) = some r := H
       have A22 := Aside0.mk A220
       clear A220
       replace H := Option.bind_eq_some_iff.mp H
       obtain ⟨t182, A230, H⟩ := H
       replace H : ((fix_Q_Of.f kj5 (wrap64 (t181 + 1)) (wrap64 (a1))).bind fun t183 => (if (wrap64 (a1)) < 0 then (if t183 > (wrap64 (Int.tdiv (wrap64 (a0)) 2)) then (none) else (if t182 < (wrap64 (Int.tdiv (wrap64 (a0)) 2)) then (none) else (overfalllaw02_FixBack.j1 kj5 a2 (wrap64 (Int.tdiv (wrap64 (a0)) 2))))) else (if t182 > (wrap64 (Int.tdiv (wrap64 (a0)) 2)) then (none) else (if t183 < (wrap64 (Int.tdiv (wrap64 (a0)) 2)) then (none) else (overfalllaw02_FixBack.j1 kj5 a2 (wrap64 (Int.tdiv (wrap64 (a0)) 2))))))) = some r := H
       have A23 := Aside0.mk A230
       clear A230
       replace H := Option.bind_eq_some_iff.mp H
       obtain ⟨t183, A240, H⟩ := H
       replace H : (if (wrap64 (a1)) < 0 then (if t183 > (wrap64 (Int.tdiv (wrap64 (a0)) 2)) then (none) else (if t182 < (wrap64 (Int.tdiv (wrap64 (a0)) 2)) then (none) else (overfalllaw02_FixBack.j1 kj5 a2 (wrap64 (Int.tdiv (wrap64 (a0)) 2))))) else (if t182 > (wrap64 (Int.tdiv (wrap64 (a0)) 2)) then (none) else (if t183 < (wrap64 (Int.tdiv (wrap64 (a0)) 2)) then (none) else (overfalllaw02_FixBack.j1 kj5 a2 (wrap64 (Int.tdiv (wrap64 (a0)) 2)))))) = some r := H
       have A24 := Aside0.mk A240
       clear A240
       by_cases c25 : (wrap64 (a1)) < 0
       ·rw [if_pos c25] at H
        have c25b0 : decide ((wrap64 (a1)) < 0) = true := decide_eq_true c25
        clear c25
        by_cases c26 : t183 > (wrap64 (Int.tdiv (wrap64 (a0)) 2))
        ·rw [if_pos c26] at H
         exact absurd H (by simp)
        ·rw [if_neg c26] at H
         have c26b0 : decide ((wrap64 (Int.tdiv (wrap64 (a0)) 2)) < t183) = false := decide_eq_false c26
         clear c26
         by_cases c27 : t182 < (wrap64 (Int.tdiv (wrap64 (a0)) 2))
         ·rw [if_pos c27] at H
          exact absurd H (by simp)
         ·rw [if_neg c27] at H
          have c27b0 : decide (t182 < (wrap64 (Int.tdiv (wrap64 (a0)) 2))) = false := decide_eq_false c27
          clear c27
          have H' := Aside0.mk H
          clear H
          go_wp2_with (first | ((with_reducible refine gate_callee (f := 16) rfl ?_); refine goesL_ (some 55) rfl rfl Try.func16 (by kernel_rfl) rfl #[.int .i64 (wrap64 (Int.tdiv (wrap64 (a0)) 2)), .int .i64 (wrap64 (a1))] rfl (by (try simp only [List.map_toArray, List.map_cons, List.map_nil]); first | done | rfl | (simp only [List.length_drop, List.length_take]; rfl)) ?_; (with_reducible refine (fix_Ratio.calls kj5 (wrap64 (Int.tdiv (wrap64 (a0)) 2)) (wrap64 (a1)) t181 _ A22.out).mono ?_); rintro e w28 ⟨rfl, hb⟩; refine ⟨_, rfl, ?_⟩; have n0_ := Aside0.mk (below_step (by repeat (first | (with_reducible first | exact HB.out | apply below_alloc | apply pw_below_drewN | apply below_drew1) | exact HB.out)) hb); clear HB; have HB := n0_; clear n0_; (try clear hb); (try clear hb2); (try clear hk); (try clear hi)) | ((with_reducible refine gate_callee (f := 23) rfl ?_); refine goesL_ (some 58) rfl rfl Try.func23 (by kernel_rfl) rfl #[.int .i64 t181, .int .i64 (wrap64 (a1))] rfl (by (try simp only [List.map_toArray, List.map_cons, List.map_nil]); first | done | rfl | (simp only [List.length_drop, List.length_take]; rfl)) ?_; (with_reducible refine (fix_Q_Of.calls kj5 t181 (wrap64 (a1)) t182 _ A23.out).mono ?_); rintro e w29 ⟨rfl, hb⟩; refine ⟨_, rfl, ?_⟩; have n0_ := Aside0.mk (below_step (by repeat (first | (with_reducible first | exact HB.out | apply below_alloc | apply pw_below_drewN | apply below_drew1) | exact HB.out)) hb); clear HB; have HB := n0_; clear n0_; (try clear hb); (try clear hb2); (try clear hk); (try clear hi)) | ((with_reducible refine gate_callee (f := 23) rfl ?_); refine goesL_ (some 62) rfl rfl Try.func23 (by kernel_rfl) rfl #[.int .i64 (wrap64 (t181 + 1)), .int .i64 (wrap64 (a1))] rfl (by (try simp only [List.map_toArray, List.map_cons, List.map_nil]); first | done | rfl | (simp only [List.length_drop, List.length_take]; rfl)) ?_; (with_reducible refine (fix_Q_Of.calls kj5 (wrap64 (t181 + 1)) (wrap64 (a1)) t183 _ A24.out).mono ?_); rintro e w30 ⟨rfl, hb⟩; refine ⟨_, rfl, ?_⟩; have n0_ := Aside0.mk (below_step (by repeat (first | (with_reducible first | exact HB.out | apply below_alloc | apply pw_below_drewN | apply below_drew1) | exact HB.out)) hb); clear HB; have HB := n0_; clear n0_; (try clear hb); (try clear hb2); (try clear hk); (try clear hi)))
          go_meet
          case rel => exact ⟨_, H', ⟨by have := HJ5.out; first | omega | exact Nat.le_refl _⟩, ⟨by repeat (first | (with_reducible first | exact HB.out | apply below_alloc | apply pw_below_drewN | apply below_drew1) | exact HB.out)⟩⟩
       ·rw [if_neg c25] at H
        have c25b0 : decide ((wrap64 (a1)) < 0) = false := decide_eq_false c25
        clear c25
        by_cases c31 : t182 > (wrap64 (Int.tdiv (wrap64 (a0)) 2))
        ·rw [if_pos c31] at H
         exact absurd H (by simp)
        ·rw [if_neg c31] at H
         have c31b0 : decide ((wrap64 (Int.tdiv (wrap64 (a0)) 2)) < t182) = false := decide_eq_false c31
         clear c31
         by_cases c32 : t183 < (wrap64 (Int.tdiv (wrap64 (a0)) 2))
         ·rw [if_pos c32] at H
          exact absurd H (by simp)
         ·rw [if_neg c32] at H
          have c32b0 : decide (t183 < (wrap64 (Int.tdiv (wrap64 (a0)) 2))) = false := decide_eq_false c32
          clear c32
          have H' := Aside0.mk H
          clear H
          go_wp2_with (first | ((with_reducible refine gate_callee (f := 16) rfl ?_); refine goesL_ (some 55) rfl rfl Try.func16 (by kernel_rfl) rfl #[.int .i64 (wrap64 (Int.tdiv (wrap64 (a0)) 2)), .int .i64 (wrap64 (a1))] rfl (by (try simp only [List.map_toArray, List.map_cons, List.map_nil]); first | done | rfl | (simp only [List.length_drop, List.length_take]; rfl)) ?_; (with_reducible refine (fix_Ratio.calls kj5 (wrap64 (Int.tdiv (wrap64 (a0)) 2)) (wrap64 (a1)) t181 _ A22.out).mono ?_); rintro e w33 ⟨rfl, hb⟩; refine ⟨_, rfl, ?_⟩; have n0_ := Aside0.mk (below_step (by repeat (first | (with_reducible first | exact HB.out | apply below_alloc | apply pw_below_drewN | apply below_drew1) | exact HB.out)) hb); clear HB; have HB := n0_; clear n0_; (try clear hb); (try clear hb2); (try clear hk); (try clear hi)) | ((with_reducible refine gate_callee (f := 23) rfl ?_); refine goesL_ (some 58) rfl rfl Try.func23 (by kernel_rfl) rfl #[.int .i64 t181, .int .i64 (wrap64 (a1))] rfl (by (try simp only [List.map_toArray, List.map_cons, List.map_nil]); first | done | rfl | (simp only [List.length_drop, List.length_take]; rfl)) ?_; (with_reducible refine (fix_Q_Of.calls kj5 t181 (wrap64 (a1)) t182 _ A23.out).mono ?_); rintro e w34 ⟨rfl, hb⟩; refine ⟨_, rfl, ?_⟩; have n0_ := Aside0.mk (below_step (by repeat (first | (with_reducible first | exact HB.out | apply below_alloc | apply pw_below_drewN | apply below_drew1) | exact HB.out)) hb); clear HB; have HB := n0_; clear n0_; (try clear hb); (try clear hb2); (try clear hk); (try clear hi)) | ((with_reducible refine gate_callee (f := 23) rfl ?_); refine goesL_ (some 62) rfl rfl Try.func23 (by kernel_rfl) rfl #[.int .i64 (wrap64 (t181 + 1)), .int .i64 (wrap64 (a1))] rfl (by (try simp only [List.map_toArray, List.map_cons, List.map_nil]); first | done | rfl | (simp only [List.length_drop, List.length_take]; rfl)) ?_; (with_reducible refine (fix_Q_Of.calls kj5 (wrap64 (t181 + 1)) (wrap64 (a1)) t183 _ A24.out).mono ?_); rintro e w35 ⟨rfl, hb⟩; refine ⟨_, rfl, ?_⟩; have n0_ := Aside0.mk (below_step (by repeat (first | (with_reducible first | exact HB.out | apply below_alloc | apply pw_below_drewN | apply below_drew1) | exact HB.out)) hb); clear HB; have HB := n0_; clear n0_; (try clear hb); (try clear hb2); (try clear hk); (try clear hi)))
          go_meet
          case rel => exact ⟨_, H', ⟨by have := HJ5.out; first | omega | exact Nat.le_refl _⟩, ⟨by repeat (first | (with_reducible first | exact HB.out | apply below_alloc | apply pw_below_drewN | apply below_drew1) | exact HB.out)⟩⟩
     case rest =>
      clear HC20
      try clear c1
      try clear c2
      try clear p2
      try clear c3
      try clear c5
      try clear p6
      try clear c9
      try clear c10
      try clear c10b0
      try clear c10b1
      try clear c12
      try clear c12b0
      try clear c12b1
      try clear c14
      try clear c14b0
      try clear c14b1
      try clear c16
      try clear c19
      try clear c21
      try clear c21b0
      try clear c21b1
      try clear c23
      try clear c25
      try clear c25b0
      try clear c26
      try clear c26b0
      try clear c27
      try clear c27b0
      try clear c31
      try clear c31b0
      try clear c32
      try clear c32b0
      try clear p2
      try clear p6
      (try clear HB)
      obtain ⟨kq, HA, HJ19, HB⟩ := hcut
      cases kq with
      | zero => exact absurd HA.out (by simp [overfalllaw02_FixBack.j1])
      | succ kj19 =>
       have H := HA.out
       clear HA
       simp only [overfalllaw02_FixBack.j1] at H
       replace H := Option.bind_eq_some_iff.mp H
       obtain ⟨t184, A360, H⟩ := H
       replace H : ((fix_Q_Floor.f t184).bind fun t185 => (if t185 = (wrap64 (Int.tdiv (wrap64 (a0)) 2)) then ((fix_Q_Times.f kj19 a2 4294967296).bind fun t186 => (if t186 = a2 then ((fix_Q_Over.f kj19 a2 4294967296).bind fun t187 => (some (t187 == a2))) else (none))) else (none))) = some r := H
       have A36 := Aside0.mk A360
       clear A360
       replace H := Option.bind_eq_some_iff.mp H
       obtain ⟨t185, A370, H⟩ := H
       replace H : (if t185 = (wrap64 (Int.tdiv (wrap64 (a0)) 2)) then ((fix_Q_Times.f kj19 a2 4294967296).bind fun t186 => (if t186 = a2 then ((fix_Q_Over.f kj19 a2 4294967296).bind fun t187 => (some (t187 == a2))) else (none))) else (none)) = some r := H
       have A37 := Aside0.mk A370
       clear A370
       by_cases c38 : t185 = (wrap64 (Int.tdiv (wrap64 (a0)) 2))
       ·rw [if_pos c38] at H
        have c38b0 : (t185 == (wrap64 (Int.tdiv (wrap64 (a0)) 2))) = true := beq_iff_eq.mpr c38
        have c38b1 : (t185 != (wrap64 (Int.tdiv (wrap64 (a0)) 2))) = false := bne_eq_false_iff_eq.mpr c38
        clear c38
        replace H := Option.bind_eq_some_iff.mp H
        obtain ⟨t186, A390, H⟩ := H
        replace H : (if t186 = a2 then ((fix_Q_Over.f kj19 a2 4294967296).bind fun t187 => (some (t187 == a2))) else (none)) = some r := H
        have A39 := Aside0.mk A390
        clear A390
        by_cases c40 : t186 = a2
        ·rw [if_pos c40] at H
         have c40b0 : (t186 == a2) = true := beq_iff_eq.mpr c40
         have c40b1 : (t186 != a2) = false := bne_eq_false_iff_eq.mpr c40
         clear c40
         replace H := Option.bind_eq_some_iff.mp H
         obtain ⟨t187, A410, H⟩ := H
         replace H : (some (t187 == a2)) = some r := H
         have A41 := Aside0.mk A410
         clear A410
         obtain rfl := Option.some.inj H
         go_wp2_with (first | ((with_reducible refine gate_callee (f := 13) rfl ?_); refine goesL_ (some 76) rfl rfl Try.func13 (by kernel_rfl) rfl #[.int .i64 (wrap64 (Int.tdiv (wrap64 (a0)) 2))] rfl (by (try simp only [List.map_toArray, List.map_cons, List.map_nil]); first | done | rfl | (simp only [List.length_drop, List.length_take]; rfl)) ?_; (with_reducible refine (fix_Whole.calls kj19 (wrap64 (Int.tdiv (wrap64 (a0)) 2)) t184 _ A36.out).mono ?_); rintro e w42 ⟨rfl, hb⟩; refine ⟨_, rfl, ?_⟩; have n0_ := Aside0.mk (below_step (by repeat (first | (with_reducible first | exact HB.out | apply below_alloc | apply pw_below_drewN | apply below_drew1) | exact HB.out)) hb); clear HB; have HB := n0_; clear n0_; (try clear hb); (try clear hb2); (try clear hk); (try clear hi)) | ((with_reducible refine gate_callee (f := 15) rfl ?_); refine goesL_ (some 77) rfl rfl Try.func15 (by kernel_rfl) rfl #[.int .i64 t184] rfl (by (try simp only [List.map_toArray, List.map_cons, List.map_nil]); first | done | rfl | (simp only [List.length_drop, List.length_take]; rfl)) ?_; (with_reducible refine (fix_Q_Floor.calls t184 t185 _ A37.out).mono ?_); rintro e w' ⟨rfl, ⟨nd, rfl⟩⟩; refine ⟨_, rfl, ?_⟩) | (go_at_call 24; (with_reducible refine (fix_Q_Times.calls kj19 a2 4294967296 t186 _ A39.out).mono ?_); rintro e w43 ⟨rfl, hb⟩; have n0_ := Aside0.mk (below_step (by repeat (first | (with_reducible first | exact HB.out | apply below_alloc | apply pw_below_drewN | apply below_drew1) | exact HB.out)) hb); clear HB; have HB := n0_; clear n0_; (try clear hb); (try clear hb2); (try clear hk); (try clear hi)) | (go_at_call 19; (with_reducible refine (fix_Q_Over.calls kj19 a2 4294967296 t187 _ A41.out).mono ?_); rintro e w44 ⟨rfl, hb⟩; have n0_ := Aside0.mk (below_step (by repeat (first | (with_reducible first | exact HB.out | apply below_alloc | apply pw_below_drewN | apply below_drew1) | exact HB.out)) hb); clear HB; have HB := n0_; clear n0_; (try clear hb); (try clear hb2); (try clear hk); (try clear hi)))
         go_ret
         exact ⟨by first | rfl | (simp [errW_none, errW_some] <;> rfl) | (simp [*, errW_none, errW_some] <;> rfl), by repeat (first | (with_reducible first | exact HB.out | apply below_alloc | apply pw_below_drewN | apply below_drew1) | exact HB.out)⟩
        ·rw [if_neg c40] at H
         exact absurd H (by simp)
       ·rw [if_neg c38] at H
        exact absurd H (by simp)
 ·replace c5 := Bool.eq_false_iff.mpr c5
  subst c5
  have H1 : (none) = some r := by rw [if_neg (show ¬ (false = true) by decide)] at H; exact H
  clear H
  have H := H1
  clear H1
  exact absurd H (by simp)

/-- THE ONE PURE STATEMENT of overfalllaw02_FixBack: yours. -/
def overfalllaw02_FixBack.Pure : Prop := ∀ (a0 : Int) (a1 : Int) (a2 : Int), (Lit.int .i32 a0).wf = true → (Lit.int .i32 a1).wf = true → (Lit.int .i64 a2).wf = true → ∃ k, overfalllaw02_FixBack.f k a0 a1 a2 = some true
theorem overfalllaw02_FixBack.walk (P : overfalllaw02_FixBack.Pure) (a0 : Int) (a1 : Int) (a2 : Int) (w : World) (w0 : (Lit.int .i32 a0).wf = true) (w1 : (Lit.int .i32 a1).wf = true) (w2 : (Lit.int .i64 a2).wf = true) :
  Calls Try.prog 9 #[.int .i32 a0, .int .i32 a1, .int .i64 a2] w fun e w' => e = .returned (.bool true) ∧ Below w.heap.size w w' := by
 obtain ⟨k, h⟩ := P a0 a1 a2 w0 w1 w2
 refine (overfalllaw02_FixBack.calls k a0 a1 a2 true w h).mono ?_
 rintro e w' ⟨rfl, hd⟩
 exact ⟨rfl, hd⟩

end Go.Proofs.Ytjgjmeefieikaaa.B

-- Laid by a program of this claim's session (wip/tools/myprint.py) over the kit's printer.
import Derived.Test.YtbpjgkidhlkiiaaGx0
import Derived.Test.YtbpjgkidhlkiiaaGx1
import Derived.Test.YtbpjgkidhlkiiaaGx3
import Derived.Test.YtbpjgkidhlkiiaaGx5
import Derived.Test.YtbpjgkidhlkiiaaGx6
import Derived.Test.YtbpjgkidhlkiiaaGx7
namespace Go.Proofs.Ytbpjgkidhlkiiaa.G
open Go.RowKit Go.Proofs.YtbpjgkidhlkiiaaW.PrintWords Go.Proofs.YtbpjgkidhlkiiaaW.PrintLast Go.Proofs.YtbpjgkidhlkiiaaW.PrintMore
attribute [local go_sem] max2_int min2_int max_two min_two max_three min_three max_four min_four   -- for this text's walks alone
set_option linter.unusedVariables false
set_option linter.unusedSimpArgs false

/-! ### overfalllaw03_RootRises: function 6 -/
def overfalllaw03_RootRises.j0 : Nat → Int → Int → Int → Int → Option (Bool)
 | 0, _, _, _, _ => none
 | k + 1, x0, x1, x2, x3 => (root_Sqrt.f k x0).bind fun t232 => ((root_Sqrt.f k x1).bind fun t233 => (if t232 ≤ t233 then ((wide_Of.f x0).bind fun bt234 => ((root_Wide.f k bt234.1 bt234.2).bind fun t236 => ((root_Sqrt.f k x0).bind fun t237 => (if t236 = t237 then ((root_Sqrt.f k (IntKind.u64.wrap ((IntKind.u64.wrap ((IntKind.u64.wrap ((IntKind.u64.wrap (x2)) * (IntKind.u64.wrap (x2)))) * (IntKind.u64.wrap (x3)))) * (IntKind.u64.wrap (x3))))).bind fun t238 => (if t238 = (IntKind.u64.wrap ((IntKind.u64.wrap (x2)) * (IntKind.u64.wrap (x3)))) then ((wide_Mul.f x0 x0).bind fun bt239 => ((root_Wide.f k bt239.1 bt239.2).bind fun t241 => (some (t241 == x0)))) else (none))) else (none))))) else (none)))
def overfalllaw03_RootRises.f (k : Nat) (a0 : Int) (a1 : Int) (a2 : Int) (a3 : Int) : Option (Bool) := (overfalllaw03_awake.f k).bind fun t231 => (if t231 = true then (if a0 > a1 then (overfalllaw03_RootRises.j0 k a1 a0 a2 a3) else (overfalllaw03_RootRises.j0 k a0 a1 a2 a3)) else (none))
theorem overfalllaw03_RootRises.mono_l : ∀ k, (∀ y0 y1 y2 y3, LeO (overfalllaw03_RootRises.j0 k y0 y1 y2 y3) (overfalllaw03_RootRises.j0 (k + 1) y0 y1 y2 y3))
 | 0 => fun _ _ _ _ r h => by simp [overfalllaw03_RootRises.j0] at h
 | k + 1 => by
  have ih0 := overfalllaw03_RootRises.mono_l k
  ·intro y0 y1 y2 y3
   unfold overfalllaw03_RootRises.j0
   repeat' first
   | (with_reducible exact ih0 _ _ _ _)
   | (with_reducible exact overfalllaw03_awake.mono _)
   | (with_reducible exact root_Sqrt.mono _ _)
   | (with_reducible exact root_Wide.mono _ _ _)
   | (with_reducible exact LeO.refl _)
   | (with_reducible exact LeO.none _)
   | (with_reducible refine LeO.ite ?_ ?_)
   | (with_reducible refine LeO.bind ?_ (fun _ => ?_))
   | exact ih0 _ _ _ _
   | exact overfalllaw03_awake.mono _
   | exact root_Sqrt.mono _ _
   | exact root_Wide.mono _ _ _
   | exact LeO.none _
   | refine LeO.ite ?_ ?_
   | refine LeO.bind ?_ (fun _ => ?_)
theorem overfalllaw03_RootRises.mono : ∀ a0 a1 a2 a3 k, LeO (overfalllaw03_RootRises.f k a0 a1 a2 a3) (overfalllaw03_RootRises.f (k + 1) a0 a1 a2 a3) := by
 intro a0 a1 a2 a3 k
 have ih0 := overfalllaw03_RootRises.mono_l k
 unfold overfalllaw03_RootRises.f
 repeat' first
   | (with_reducible exact ih0 _ _ _ _)
   | (with_reducible exact overfalllaw03_awake.mono _)
   | (with_reducible exact root_Sqrt.mono _ _)
   | (with_reducible exact root_Wide.mono _ _ _)
   | (with_reducible exact LeO.refl _)
   | (with_reducible exact LeO.none _)
   | (with_reducible refine LeO.ite ?_ ?_)
   | (with_reducible refine LeO.bind ?_ (fun _ => ?_))
   | exact ih0 _ _ _ _
   | exact overfalllaw03_awake.mono _
   | exact root_Sqrt.mono _ _
   | exact root_Wide.mono _ _ _
   | exact LeO.none _
   | refine LeO.ite ?_ ?_
   | refine LeO.bind ?_ (fun _ => ?_)
set_option maxHeartbeats 8000000 in
set_option maxRecDepth 100000 in
theorem overfalllaw03_RootRises.calls (k : Nat) (a0 : Int) (a1 : Int) (a2 : Int) (a3 : Int) (r : Bool) (w : World) (h : overfalllaw03_RootRises.f k a0 a1 a2 a3 = some r) :
  Calls Try.prog 6 #[.int .u64 a0, .int .u64 a1, .int .u16 a2, .int .u16 a3] w fun e w' => e = .returned (.bool r) ∧ Below w.heap.size w w' := by
 have HB := Aside0.mk (Below.refl w.heap.size w)
 have H : ((overfalllaw03_awake.f k).bind fun t231 => (if t231 = true then (if a0 > a1 then (overfalllaw03_RootRises.j0 k a1 a0 a2 a3) else (overfalllaw03_RootRises.j0 k a0 a1 a2 a3)) else (none))) = some r := h
 clear h
 replace H := Option.bind_eq_some_iff.mp H
 obtain ⟨t231, A50, H⟩ := H
 replace H : (if t231 = true then (if a0 > a1 then (overfalllaw03_RootRises.j0 k a1 a0 a2 a3) else (overfalllaw03_RootRises.j0 k a0 a1 a2 a3)) else (none)) = some r := H
 have A5 := Aside0.mk A50
 clear A50
 by_cases c6 : t231 = true
 ·subst c6
  have H1 : (if a0 > a1 then (overfalllaw03_RootRises.j0 k a1 a0 a2 a3) else (overfalllaw03_RootRises.j0 k a0 a1 a2 a3)) = some r := by rw [if_pos rfl] at H; exact H
  clear H
  have H := H1
  clear H1
  have HC7 := Aside0.mk H
  clear H
  go_enter Try.func6, Try.ntmps6
  go_upto_if 15 with (first | ((with_reducible refine gate_callee (f := 8) rfl ?_); refine goesL_ (some 11) rfl rfl Try.func8 (by kernel_rfl) rfl #[] rfl (by (try simp only [List.map_toArray, List.map_cons, List.map_nil]); first | done | rfl | (simp only [List.length_drop, List.length_take]; rfl)) ?_; (with_reducible refine (overfalllaw03_awake.calls k  true _ A5.out).mono ?_); rintro e w8 ⟨rfl, hb⟩; refine ⟨_, rfl, ?_⟩; have n0_ := Aside0.mk (below_step (by repeat (first | (with_reducible first | exact HB.out | apply below_alloc | apply pw_below_drewN | apply below_drew1) | exact HB.out)) hb); clear HB; have HB := n0_; clear n0_; (try clear hb); (try clear hb2); (try clear hk); (try clear hi)))
  (try simp only [Act.put, List.setIfInBounds_toArray, List.set_cons_zero, List.set_cons_succ])
  go_cut [0, 1] (fun v0 v1 wc => ∃ (kq : Nat) (x0_6 : Int) (x1_6 : Int), v0 = .int .u64 x0_6 ∧ v1 = .int .u64 x1_6 ∧ Aside0 (overfalllaw03_RootRises.j0 kq x0_6 x1_6 a2 a3 = some r) ∧ Aside0 (kq ≤ k) ∧ Aside0 (Below w.heap.size w wc))
  case first =>
   have H := HC7.out
   clear HC7
   by_cases c9 : a0 > a1
   ·rw [if_pos c9] at H
    have c9b0 : decide (a1 < a0) = true := decide_eq_true c9
    clear c9
    (first | rw [c9b0] | (simp only [i64_w, i32_w]; rw [c9b0]) | skip)
    have H' := Aside0.mk H
    clear H
    go_wp2
    go_meet
    case rel => exact ⟨_, (a1), (a0), (by first | rfl | (simp; done) | (simp [*]; done)), (by first | rfl | (simp; done) | (simp [*]; done)), H', ⟨by first | omega | exact Nat.le_refl _⟩, ⟨by repeat (first | (with_reducible first | exact HB.out | apply below_alloc | apply pw_below_drewN | apply below_drew1) | exact HB.out)⟩⟩
   ·rw [if_neg c9] at H
    have c9b0 : decide (a1 < a0) = false := decide_eq_false c9
    clear c9
    (first | rw [c9b0] | (simp only [i64_w, i32_w]; rw [c9b0]) | skip)
    have H' := Aside0.mk H
    clear H
    go_wp2
    go_meet
    case rel => exact ⟨_, (a0), (a1), (by first | rfl | (simp; done) | (simp [*]; done)), (by first | rfl | (simp; done) | (simp [*]; done)), H', ⟨by first | omega | exact Nat.le_refl _⟩, ⟨by repeat (first | (with_reducible first | exact HB.out | apply below_alloc | apply pw_below_drewN | apply below_drew1) | exact HB.out)⟩⟩
  case rest =>
   clear HC7
   try clear p2
   try clear c6
   try clear c8
   try clear c9
   try clear c9b0
   obtain ⟨kq, x0_6, x1_6, rfl, rfl, HA, HJ6, HB⟩ := hcut
   cases kq with
   | zero => exact absurd HA.out (by simp [overfalllaw03_RootRises.j0])
   | succ kj6 =>
    have H := HA.out
    clear HA
    simp only [overfalllaw03_RootRises.j0] at H
    replace H := Option.bind_eq_some_iff.mp H
    obtain ⟨t232, A100, H⟩ := H
    replace H : ((root_Sqrt.f kj6 x1_6).bind fun t233 => (if t232 ≤ t233 then ((wide_Of.f x0_6).bind fun bt234 => ((root_Wide.f kj6 bt234.1 bt234.2).bind fun t236 => ((root_Sqrt.f kj6 x0_6).bind fun t237 => (if t236 = t237 then ((root_Sqrt.f kj6 (IntKind.u64.wrap ((IntKind.u64.wrap ((IntKind.u64.wrap ((IntKind.u64.wrap (a2)) * (IntKind.u64.wrap (a2)))) * (IntKind.u64.wrap (a3)))) * (IntKind.u64.wrap (a3))))).bind fun t238 => (if t238 = (IntKind.u64.wrap ((IntKind.u64.wrap (a2)) * (IntKind.u64.wrap (a3)))) then ((wide_Mul.f x0_6 x0_6).bind fun bt239 => ((root_Wide.f kj6 bt239.1 bt239.2).bind fun t241 => (some (t241 == x0_6)))) else (none))) else (none))))) else (none))) = some r := H
    have A10 := Aside0.mk A100
    clear A100
    replace H := Option.bind_eq_some_iff.mp H
    obtain ⟨t233, A110, H⟩ := H
    replace H : (if t232 ≤ t233 then ((wide_Of.f x0_6).bind fun bt234 => ((root_Wide.f kj6 bt234.1 bt234.2).bind fun t236 => ((root_Sqrt.f kj6 x0_6).bind fun t237 => (if t236 = t237 then ((root_Sqrt.f kj6 (IntKind.u64.wrap ((IntKind.u64.wrap ((IntKind.u64.wrap ((IntKind.u64.wrap (a2)) * (IntKind.u64.wrap (a2)))) * (IntKind.u64.wrap (a3)))) * (IntKind.u64.wrap (a3))))).bind fun t238 => (if t238 = (IntKind.u64.wrap ((IntKind.u64.wrap (a2)) * (IntKind.u64.wrap (a3)))) then ((wide_Mul.f x0_6 x0_6).bind fun bt239 => ((root_Wide.f kj6 bt239.1 bt239.2).bind fun t241 => (some (t241 == x0_6)))) else (none))) else (none))))) else (none)) = some r := H
    have A11 := Aside0.mk A110
    clear A110
    by_cases c12 : t232 ≤ t233
    ·rw [if_pos c12] at H
     have c12b0 : decide (t232 ≤ t233) = true := decide_eq_true c12
     clear c12
     replace H := Option.bind_eq_some_iff.mp H
     obtain ⟨⟨t234, t235⟩, A130, H⟩ := H
     replace H : ((root_Wide.f kj6 t234 t235).bind fun t236 => ((root_Sqrt.f kj6 x0_6).bind fun t237 => (if t236 = t237 then ((root_Sqrt.f kj6 (IntKind.u64.wrap ((IntKind.u64.wrap ((IntKind.u64.wrap ((IntKind.u64.wrap (a2)) * (IntKind.u64.wrap (a2)))) * (IntKind.u64.wrap (a3)))) * (IntKind.u64.wrap (a3))))).bind fun t238 => (if t238 = (IntKind.u64.wrap ((IntKind.u64.wrap (a2)) * (IntKind.u64.wrap (a3)))) then ((wide_Mul.f x0_6 x0_6).bind fun bt239 => ((root_Wide.f kj6 bt239.1 bt239.2).bind fun t241 => (some (t241 == x0_6)))) else (none))) else (none)))) = some r := H
     have A13 := Aside0.mk A130
     clear A130
     replace H := Option.bind_eq_some_iff.mp H
     obtain ⟨t236, A140, H⟩ := H
     replace H : ((root_Sqrt.f kj6 x0_6).bind fun t237 => (if t236 = t237 then ((root_Sqrt.f kj6 (IntKind.u64.wrap ((IntKind.u64.wrap ((IntKind.u64.wrap ((IntKind.u64.wrap (a2)) * (IntKind.u64.wrap (a2)))) * (IntKind.u64.wrap (a3)))) * (IntKind.u64.wrap (a3))))).bind fun t238 => (if t238 = (IntKind.u64.wrap ((IntKind.u64.wrap (a2)) * (IntKind.u64.wrap (a3)))) then ((wide_Mul.f x0_6 x0_6).bind fun bt239 => ((root_Wide.f kj6 bt239.1 bt239.2).bind fun t241 => (some (t241 == x0_6)))) else (none))) else (none))) = some r := H
     have A14 := Aside0.mk A140
     clear A140
     replace H := Option.bind_eq_some_iff.mp H
     obtain ⟨t237, A150, H⟩ := H
     replace H : (if t236 = t237 then ((root_Sqrt.f kj6 (IntKind.u64.wrap ((IntKind.u64.wrap ((IntKind.u64.wrap ((IntKind.u64.wrap (a2)) * (IntKind.u64.wrap (a2)))) * (IntKind.u64.wrap (a3)))) * (IntKind.u64.wrap (a3))))).bind fun t238 => (if t238 = (IntKind.u64.wrap ((IntKind.u64.wrap (a2)) * (IntKind.u64.wrap (a3)))) then ((wide_Mul.f x0_6 x0_6).bind fun bt239 => ((root_Wide.f kj6 bt239.1 bt239.2).bind fun t241 => (some (t241 == x0_6)))) else (none))) else (none)) = some r := H
     have A15 := Aside0.mk A150
     clear A150
     by_cases c16 : t236 = t237
     ·rw [if_pos c16] at H
      have c16b0 : (t236 == t237) = true := beq_iff_eq.mpr c16
      have c16b1 : (t236 != t237) = false := bne_eq_false_iff_eq.mpr c16
      clear c16
      replace H := Option.bind_eq_some_iff.mp H
      obtain ⟨t238, A170, H⟩ := H
      replace H : (if t238 = (IntKind.u64.wrap ((IntKind.u64.wrap (a2)) * (IntKind.u64.wrap (a3)))) then ((wide_Mul.f x0_6 x0_6).bind fun bt239 => ((root_Wide.f kj6 bt239.1 bt239.2).bind fun t241 => (some (t241 == x0_6)))) else (none)) = some r := H
      have A17 := Aside0.mk A170
      clear A170
      by_cases c18 : t238 = (IntKind.u64.wrap ((IntKind.u64.wrap (a2)) * (IntKind.u64.wrap (a3))))
      ·rw [if_pos c18] at H
       have c18b0 : (t238 == (IntKind.u64.wrap ((IntKind.u64.wrap (a2)) * (IntKind.u64.wrap (a3))))) = true := beq_iff_eq.mpr c18
       have c18b1 : (t238 != (IntKind.u64.wrap ((IntKind.u64.wrap (a2)) * (IntKind.u64.wrap (a3))))) = false := bne_eq_false_iff_eq.mpr c18
       clear c18
       replace H := Option.bind_eq_some_iff.mp H
       obtain ⟨⟨t239, t240⟩, A190, H⟩ := H
       replace H : ((root_Wide.f kj6 t239 t240).bind fun t241 => (some (t241 == x0_6))) = some r := H
       have A19 := Aside0.mk A190
       clear A190
       replace H := Option.bind_eq_some_iff.mp H
       obtain ⟨t241, A200, H⟩ := H
       replace H : (some (t241 == x0_6)) = some r := H
       have A20 := Aside0.mk A200
       clear A200
       obtain rfl := Option.some.inj H
       go_wp2_with (first | ((with_reducible refine gate_callee (f := 15) rfl ?_); refine goesL_ (some 23) rfl rfl Try.func15 (by kernel_rfl) rfl #[.int .u64 x0_6] rfl (by (try simp only [List.map_toArray, List.map_cons, List.map_nil]); first | done | rfl | (simp only [List.length_drop, List.length_take]; rfl)) ?_; (with_reducible refine (root_Sqrt.calls kj6 x0_6 t232 _ A10.out).mono ?_); rintro e w21 ⟨rfl, hb⟩; refine ⟨_, rfl, ?_⟩; have n0_ := Aside0.mk (below_step (by repeat (first | (with_reducible first | exact HB.out | apply below_alloc | apply pw_below_drewN | apply below_drew1) | exact HB.out)) hb); clear HB; have HB := n0_; clear n0_; (try clear hb); (try clear hb2); (try clear hk); (try clear hi)) | ((with_reducible refine gate_callee (f := 15) rfl ?_); refine goesL_ (some 25) rfl rfl Try.func15 (by kernel_rfl) rfl #[.int .u64 x1_6] rfl (by (try simp only [List.map_toArray, List.map_cons, List.map_nil]); first | done | rfl | (simp only [List.length_drop, List.length_take]; rfl)) ?_; (with_reducible refine (root_Sqrt.calls kj6 x1_6 t233 _ A11.out).mono ?_); rintro e w22 ⟨rfl, hb⟩; refine ⟨_, rfl, ?_⟩; have n0_ := Aside0.mk (below_step (by repeat (first | (with_reducible first | exact HB.out | apply below_alloc | apply pw_below_drewN | apply below_drew1) | exact HB.out)) hb); clear HB; have HB := n0_; clear n0_; (try clear hb); (try clear hb2); (try clear hk); (try clear hi)) | (go_at_call 16; (with_reducible refine (wide_Of.calls x0_6 t234 t235 _ A13.out).mono ?_); rintro e w23 ⟨rfl, hb⟩; have n0_ := Aside0.mk (below_step (by repeat (first | (with_reducible first | exact HB.out | apply below_alloc | apply pw_below_drewN | apply below_drew1) | exact HB.out)) hb); clear HB; have HB := n0_; clear n0_; (try clear hb); (try clear hb2); (try clear hk); (try clear hi)) | (go_at_call 9; (with_reducible refine (root_Wide.calls kj6 t234 t235 t236 _ A14.out).mono ?_); rintro e w24 ⟨rfl, hb⟩; have n0_ := Aside0.mk (below_step (by repeat (first | (with_reducible first | exact HB.out | apply below_alloc | apply pw_below_drewN | apply below_drew1) | exact HB.out)) hb); clear HB; have HB := n0_; clear n0_; (try clear hb); (try clear hb2); (try clear hk); (try clear hi)) | (go_at_call 15; (with_reducible refine (root_Sqrt.calls kj6 x0_6 t237 _ A15.out).mono ?_); rintro e w25 ⟨rfl, hb⟩; have n0_ := Aside0.mk (below_step (by repeat (first | (with_reducible first | exact HB.out | apply below_alloc | apply pw_below_drewN | apply below_drew1) | exact HB.out)) hb); clear HB; have HB := n0_; clear n0_; (try clear hb); (try clear hb2); (try clear hk); (try clear hi)) | (go_at_call 15; (with_reducible refine (root_Sqrt.calls kj6 (IntKind.u64.wrap ((IntKind.u64.wrap ((IntKind.u64.wrap ((IntKind.u64.wrap (a2)) * (IntKind.u64.wrap (a2)))) * (IntKind.u64.wrap (a3)))) * (IntKind.u64.wrap (a3)))) t238 _ A17.out).mono ?_); rintro e w26 ⟨rfl, hb⟩; have n0_ := Aside0.mk (below_step (by repeat (first | (with_reducible first | exact HB.out | apply below_alloc | apply pw_below_drewN | apply below_drew1) | exact HB.out)) hb); clear HB; have HB := n0_; clear n0_; (try clear hb); (try clear hb2); (try clear hk); (try clear hi)) | (go_at_call 17; (with_reducible refine (wide_Mul.calls x0_6 x0_6 t239 t240 _ A19.out).mono ?_); rintro e w27 ⟨rfl, hb⟩; have n0_ := Aside0.mk (below_step (by repeat (first | (with_reducible first | exact HB.out | apply below_alloc | apply pw_below_drewN | apply below_drew1) | exact HB.out)) hb); clear HB; have HB := n0_; clear n0_; (try clear hb); (try clear hb2); (try clear hk); (try clear hi)) | (go_at_call 9; (with_reducible refine (root_Wide.calls kj6 t239 t240 t241 _ A20.out).mono ?_); rintro e w28 ⟨rfl, hb⟩; have n0_ := Aside0.mk (below_step (by repeat (first | (with_reducible first | exact HB.out | apply below_alloc | apply pw_below_drewN | apply below_drew1) | exact HB.out)) hb); clear HB; have HB := n0_; clear n0_; (try clear hb); (try clear hb2); (try clear hk); (try clear hi)))
       go_ret
       exact ⟨by first | rfl | (simp [errW_none, errW_some] <;> rfl) | (simp [*, errW_none, errW_some] <;> rfl), by repeat (first | (with_reducible first | exact HB.out | apply below_alloc | apply pw_below_drewN | apply below_drew1) | exact HB.out)⟩
      ·rw [if_neg c18] at H
       exact absurd H (by simp)
     ·rw [if_neg c16] at H
      exact absurd H (by simp)
    ·rw [if_neg c12] at H
     exact absurd H (by simp)
 ·replace c6 := Bool.eq_false_iff.mpr c6
  subst c6
  have H1 : (none) = some r := by rw [if_neg (show ¬ (false = true) by decide)] at H; exact H
  clear H
  have H := H1
  clear H1
  exact absurd H (by simp)

/-- THE ONE PURE STATEMENT of overfalllaw03_RootRises: yours. -/
def overfalllaw03_RootRises.Pure : Prop := ∀ (a0 : Int) (a1 : Int) (a2 : Int) (a3 : Int), (Lit.int .u64 a0).wf = true → (Lit.int .u64 a1).wf = true → (Lit.int .u16 a2).wf = true → (Lit.int .u16 a3).wf = true → ∃ k, overfalllaw03_RootRises.f k a0 a1 a2 a3 = some true
theorem overfalllaw03_RootRises.walk (P : overfalllaw03_RootRises.Pure) (a0 : Int) (a1 : Int) (a2 : Int) (a3 : Int) (w : World) (w0 : (Lit.int .u64 a0).wf = true) (w1 : (Lit.int .u64 a1).wf = true) (w2 : (Lit.int .u16 a2).wf = true) (w3 : (Lit.int .u16 a3).wf = true) :
  Calls Try.prog 6 #[.int .u64 a0, .int .u64 a1, .int .u16 a2, .int .u16 a3] w fun e w' => e = .returned (.bool true) ∧ Below w.heap.size w w' := by
 obtain ⟨k, h⟩ := P a0 a1 a2 a3 w0 w1 w2 w3
 refine (overfalllaw03_RootRises.calls k a0 a1 a2 a3 true w h).mono ?_
 rintro e w' ⟨rfl, hd⟩
 exact ⟨rfl, hd⟩

/-! ### root_Square: function 18 -/
def root_Square.f (k : Nat) (a0 : Int) : Option (Bool) := (root_Sqrt.f k a0).bind fun t242 => (some ((IntKind.u64.wrap (t242 * t242)) == a0))
theorem root_Square.mono : ∀ a0 k, LeO (root_Square.f k a0) (root_Square.f (k + 1) a0) := by
 intro a0 k
 unfold root_Square.f
 repeat' first
   | (with_reducible exact root_Sqrt.mono _ _)
   | (with_reducible exact LeO.refl _)
   | (with_reducible exact LeO.none _)
   | (with_reducible refine LeO.ite ?_ ?_)
   | (with_reducible refine LeO.bind ?_ (fun _ => ?_))
   | exact root_Sqrt.mono _ _
   | exact LeO.none _
   | refine LeO.ite ?_ ?_
   | refine LeO.bind ?_ (fun _ => ?_)
set_option maxHeartbeats 8000000 in
set_option maxRecDepth 100000 in
theorem root_Square.calls (k : Nat) (a0 : Int) (r : Bool) (w : World) (h : root_Square.f k a0 = some r) :
  Calls Try.prog 18 #[.int .u64 a0] w fun e w' => e = .returned (.bool r) ∧ Below w.heap.size w w' := by
 have HB := Aside0.mk (Below.refl w.heap.size w)
 have H : ((root_Sqrt.f k a0).bind fun t242 => (some ((IntKind.u64.wrap (t242 * t242)) == a0))) = some r := h
 clear h
 replace H := Option.bind_eq_some_iff.mp H
 obtain ⟨t242, A20, H⟩ := H
 replace H : (some ((IntKind.u64.wrap (t242 * t242)) == a0)) = some r := H
 have A2 := Aside0.mk A20
 clear A20
 obtain rfl := Option.some.inj H
 go_enter Try.func18, Try.ntmps18
 go_wp2_with (first | ((with_reducible refine gate_callee (f := 15) rfl ?_); refine goesL_ (some 5) rfl rfl Try.func15 (by kernel_rfl) rfl #[.int .u64 a0] rfl (by (try simp only [List.map_toArray, List.map_cons, List.map_nil]); first | done | rfl | (simp only [List.length_drop, List.length_take]; rfl)) ?_; (with_reducible refine (root_Sqrt.calls k a0 t242 _ A2.out).mono ?_); rintro e w3 ⟨rfl, hb⟩; refine ⟨_, rfl, ?_⟩; have n0_ := Aside0.mk (below_step (by repeat (first | (with_reducible first | exact HB.out | apply below_alloc | apply pw_below_drewN | apply below_drew1) | exact HB.out)) hb); clear HB; have HB := n0_; clear n0_; (try clear hb); (try clear hb2); (try clear hk); (try clear hi)))
 go_ret
 exact ⟨by first | rfl | (simp [errW_none, errW_some] <;> rfl) | (simp [*, errW_none, errW_some] <;> rfl), by repeat (first | (with_reducible first | exact HB.out | apply below_alloc | apply pw_below_drewN | apply below_drew1) | exact HB.out)⟩

/-! ### overfalllaw03_RootSquares: function 7 -/
def overfalllaw03_RootSquares.f (k : Nat) (a0 : Int) : Option (Bool) := (overfalllaw03_awake.f k).bind fun t243 => (if t243 = true then ((root_Sqrt.f k a0).bind fun t244 => ((overfallref03_Sqrt.f k 0 a0).bind fun t245 => (if t244 = t245 then ((overfallref03_Fits.f k t244 1 0 a0).bind fun t246 => (if t246 = true then ((overfallref03_Fits.f k (IntKind.u64.wrap (t244 + 1)) 1 0 a0).bind fun t247 => (if t247 = true then (none) else ((root_Square.f k a0).bind fun t248 => (if (t248 == ((IntKind.u64.wrap (t244 * t244)) == a0)) = true then (if a0 ≥ 4294967296 then (some true) else ((root_Sqrt.f k (IntKind.u64.wrap (a0 * a0))).bind fun t249 => (if t249 = a0 then ((root_Square.f k (IntKind.u64.wrap (a0 * a0))).bind fun t250 => (some t250)) else (none)))) else (none))))) else (none))) else (none)))) else (none))
theorem overfalllaw03_RootSquares.mono : ∀ a0 k, LeO (overfalllaw03_RootSquares.f k a0) (overfalllaw03_RootSquares.f (k + 1) a0) := by
 intro a0 k
 unfold overfalllaw03_RootSquares.f
 repeat' first
   | (with_reducible exact overfalllaw03_awake.mono _)
   | (with_reducible exact overfallref03_Fits.mono _ _ _ _ _)
   | (with_reducible exact overfallref03_Sqrt.mono _ _ _)
   | (with_reducible exact root_Sqrt.mono _ _)
   | (with_reducible exact root_Square.mono _ _)
   | (with_reducible exact LeO.refl _)
   | (with_reducible exact LeO.none _)
   | (with_reducible refine LeO.ite ?_ ?_)
   | (with_reducible refine LeO.bind ?_ (fun _ => ?_))
   | exact overfalllaw03_awake.mono _
   | exact overfallref03_Fits.mono _ _ _ _ _
   | exact overfallref03_Sqrt.mono _ _ _
   | exact root_Sqrt.mono _ _
   | exact root_Square.mono _ _
   | exact LeO.none _
   | refine LeO.ite ?_ ?_
   | refine LeO.bind ?_ (fun _ => ?_)
set_option maxHeartbeats 8000000 in
set_option maxRecDepth 100000 in
theorem overfalllaw03_RootSquares.calls (k : Nat) (a0 : Int) (r : Bool) (w : World) (h : overfalllaw03_RootSquares.f k a0 = some r) :
  Calls Try.prog 7 #[.int .u64 a0] w fun e w' => e = .returned (.bool r) ∧ Below w.heap.size w w' := by
 have hu26 := Try.underlying26
 have HB := Aside0.mk (Below.refl w.heap.size w)
 have H : ((overfalllaw03_awake.f k).bind fun t243 => (if t243 = true then ((root_Sqrt.f k a0).bind fun t244 => ((overfallref03_Sqrt.f k 0 a0).bind fun t245 => (if t244 = t245 then ((overfallref03_Fits.f k t244 1 0 a0).bind fun t246 => (if t246 = true then ((overfallref03_Fits.f k (IntKind.u64.wrap (t244 + 1)) 1 0 a0).bind fun t247 => (if t247 = true then (none) else ((root_Square.f k a0).bind fun t248 => (if (t248 == ((IntKind.u64.wrap (t244 * t244)) == a0)) = true then (if a0 ≥ 4294967296 then (some true) else ((root_Sqrt.f k (IntKind.u64.wrap (a0 * a0))).bind fun t249 => (if t249 = a0 then ((root_Square.f k (IntKind.u64.wrap (a0 * a0))).bind fun t250 => (some t250)) else (none)))) else (none))))) else (none))) else (none)))) else (none))) = some r := h
 clear h
 replace H := Option.bind_eq_some_iff.mp H
 obtain ⟨t243, A20, H⟩ := H
 replace H : (if t243 = true then ((root_Sqrt.f k a0).bind fun t244 => ((overfallref03_Sqrt.f k 0 a0).bind fun t245 => (if t244 = t245 then ((overfallref03_Fits.f k t244 1 0 a0).bind fun t246 => (if t246 = true then ((overfallref03_Fits.f k (IntKind.u64.wrap (t244 + 1)) 1 0 a0).bind fun t247 => (if t247 = true then (none) else ((root_Square.f k a0).bind fun t248 => (if (t248 == ((IntKind.u64.wrap (t244 * t244)) == a0)) = true then (if a0 ≥ 4294967296 then (some true) else ((root_Sqrt.f k (IntKind.u64.wrap (a0 * a0))).bind fun t249 => (if t249 = a0 then ((root_Square.f k (IntKind.u64.wrap (a0 * a0))).bind fun t250 => (some t250)) else (none)))) else (none))))) else (none))) else (none)))) else (none)) = some r := H
 have A2 := Aside0.mk A20
 clear A20
 by_cases c3 : t243 = true
 ·subst c3
  have H1 : ((root_Sqrt.f k a0).bind fun t244 => ((overfallref03_Sqrt.f k 0 a0).bind fun t245 => (if t244 = t245 then ((overfallref03_Fits.f k t244 1 0 a0).bind fun t246 => (if t246 = true then ((overfallref03_Fits.f k (IntKind.u64.wrap (t244 + 1)) 1 0 a0).bind fun t247 => (if t247 = true then (none) else ((root_Square.f k a0).bind fun t248 => (if (t248 == ((IntKind.u64.wrap (t244 * t244)) == a0)) = true then (if a0 ≥ 4294967296 then (some true) else ((root_Sqrt.f k (IntKind.u64.wrap (a0 * a0))).bind fun t249 => (if t249 = a0 then ((root_Square.f k (IntKind.u64.wrap (a0 * a0))).bind fun t250 => (some t250)) else (none)))) else (none))))) else (none))) else (none)))) = some r := by rw [if_pos rfl] at H; exact H
  clear H
  have H := H1
  clear H1
  replace H := Option.bind_eq_some_iff.mp H
  obtain ⟨t244, A40, H⟩ := H
  replace H : ((overfallref03_Sqrt.f k 0 a0).bind fun t245 => (if t244 = t245 then ((overfallref03_Fits.f k t244 1 0 a0).bind fun t246 => (if t246 = true then ((overfallref03_Fits.f k (IntKind.u64.wrap (t244 + 1)) 1 0 a0).bind fun t247 => (if t247 = true then (none) else ((root_Square.f k a0).bind fun t248 => (if (t248 == ((IntKind.u64.wrap (t244 * t244)) == a0)) = true then (if a0 ≥ 4294967296 then (some true) else ((root_Sqrt.f k (IntKind.u64.wrap (a0 * a0))).bind fun t249 => (if t249 = a0 then ((root_Square.f k (IntKind.u64.wrap (a0 * a0))).bind fun t250 => (some t250)) else (none)))) else (none))))) else (none))) else (none))) = some r := H
  have A4 := Aside0.mk A40
  clear A40
  replace H := Option.bind_eq_some_iff.mp H
  obtain ⟨t245, A50, H⟩ := H
  replace H : (if t244 = t245 then ((overfallref03_Fits.f k t244 1 0 a0).bind fun t246 => (if t246 = true then ((overfallref03_Fits.f k (IntKind.u64.wrap (t244 + 1)) 1 0 a0).bind fun t247 => (if t247 = true then (none) else ((root_Square.f k a0).bind fun t248 => (if (t248 == ((IntKind.u64.wrap (t244 * t244)) == a0)) = true then (if a0 ≥ 4294967296 then (some true) else ((root_Sqrt.f k (IntKind.u64.wrap (a0 * a0))).bind fun t249 => (if t249 = a0 then ((root_Square.f k (IntKind.u64.wrap (a0 * a0))).bind fun t250 => (some t250)) else (none)))) else (none))))) else (none))) else (none)) = some r := H
  have A5 := Aside0.mk A50
  clear A50
  by_cases c6 : t244 = t245
  ·rw [if_pos c6] at H
   have c6b0 : (t244 == t245) = true := beq_iff_eq.mpr c6
   have c6b1 : (t244 != t245) = false := bne_eq_false_iff_eq.mpr c6
   clear c6
   replace H := Option.bind_eq_some_iff.mp H
   obtain ⟨t246, A70, H⟩ := H
   replace H : (if t246 = true then ((overfallref03_Fits.f k (IntKind.u64.wrap (t244 + 1)) 1 0 a0).bind fun t247 => (if t247 = true then (none) else ((root_Square.f k a0).bind fun t248 => (if (t248 == ((IntKind.u64.wrap (t244 * t244)) == a0)) = true then (if a0 ≥ 4294967296 then (some true) else ((root_Sqrt.f k (IntKind.u64.wrap (a0 * a0))).bind fun t249 => (if t249 = a0 then ((root_Square.f k (IntKind.u64.wrap (a0 * a0))).bind fun t250 => (some t250)) else (none)))) else (none))))) else (none)) = some r := H
   have A7 := Aside0.mk A70
   clear A70
   by_cases c8 : t246 = true
   ·subst c8
    have H1 : ((overfallref03_Fits.f k (IntKind.u64.wrap (t244 + 1)) 1 0 a0).bind fun t247 => (if t247 = true then (none) else ((root_Square.f k a0).bind fun t248 => (if (t248 == ((IntKind.u64.wrap (t244 * t244)) == a0)) = true then (if a0 ≥ 4294967296 then (some true) else ((root_Sqrt.f k (IntKind.u64.wrap (a0 * a0))).bind fun t249 => (if t249 = a0 then ((root_Square.f k (IntKind.u64.wrap (a0 * a0))).bind fun t250 => (some t250)) else (none)))) else (none))))) = some r := by rw [if_pos rfl] at H; exact H
    clear H
    have H := H1
    clear H1
    replace H := Option.bind_eq_some_iff.mp H
    obtain ⟨t247, A90, H⟩ := H
    replace H : (if t247 = true then (none) else ((root_Square.f k a0).bind fun t248 => (if (t248 == ((IntKind.u64.wrap (t244 * t244)) == a0)) = true then (if a0 ≥ 4294967296 then (some true) else ((root_Sqrt.f k (IntKind.u64.wrap (a0 * a0))).bind fun t249 => (if t249 = a0 then ((root_Square.f k (IntKind.u64.wrap (a0 * a0))).bind fun t250 => (some t250)) else (none)))) else (none)))) = some r := H
    have A9 := Aside0.mk A90
    clear A90
    by_cases c10 : t247 = true
    ·subst c10
     have H1 : (none) = some r := by rw [if_pos rfl] at H; exact H
     clear H
     have H := H1
     clear H1
     exact absurd H (by simp)
    ·replace c10 := Bool.eq_false_iff.mpr c10
     subst c10
     have H1 : ((root_Square.f k a0).bind fun t248 => (if (t248 == ((IntKind.u64.wrap (t244 * t244)) == a0)) = true then (if a0 ≥ 4294967296 then (some true) else ((root_Sqrt.f k (IntKind.u64.wrap (a0 * a0))).bind fun t249 => (if t249 = a0 then ((root_Square.f k (IntKind.u64.wrap (a0 * a0))).bind fun t250 => (some t250)) else (none)))) else (none))) = some r := by rw [if_neg (show ¬ (false = true) by decide)] at H; exact H
     clear H
     have H := H1
     clear H1
     replace H := Option.bind_eq_some_iff.mp H
     obtain ⟨t248, A110, H⟩ := H
     replace H : (if (t248 == ((IntKind.u64.wrap (t244 * t244)) == a0)) = true then (if a0 ≥ 4294967296 then (some true) else ((root_Sqrt.f k (IntKind.u64.wrap (a0 * a0))).bind fun t249 => (if t249 = a0 then ((root_Square.f k (IntKind.u64.wrap (a0 * a0))).bind fun t250 => (some t250)) else (none)))) else (none)) = some r := H
     have A11 := Aside0.mk A110
     clear A110
     by_cases c12 : (t248 == ((IntKind.u64.wrap (t244 * t244)) == a0)) = true
     ·rw [if_pos c12] at H
      have c12b0 : (t248 == ((IntKind.u64.wrap (t244 * t244)) == a0)) = true := c12
      (try (have c12b1 : decide (t248 = ((IntKind.u64.wrap (t244 * t244)) == a0)) = true := by simpa using c12))
      (try (have c12b2 : (t248 == ((IntKind.u64.wrap (t244 * t244)) == a0)) = true := by simpa using c12))
      clear c12
      by_cases c13 : a0 ≥ 4294967296
      ·rw [if_pos c13] at H
       have c13b0 : decide (4294967296 ≤ a0) = true := decide_eq_true c13
       clear c13
       obtain rfl := Option.some.inj H
       go_enter Try.func7, Try.ntmps7
       go_wp2_with (first | ((with_reducible refine gate_callee (f := 8) rfl ?_); refine goesL_ (some 4) rfl rfl Try.func8 (by kernel_rfl) rfl #[] rfl (by (try simp only [List.map_toArray, List.map_cons, List.map_nil]); first | done | rfl | (simp only [List.length_drop, List.length_take]; rfl)) ?_; (with_reducible refine (overfalllaw03_awake.calls k  true _ A2.out).mono ?_); rintro e w14 ⟨rfl, hb⟩; refine ⟨_, rfl, ?_⟩; have n0_ := Aside0.mk (below_step (by repeat (first | (with_reducible first | exact HB.out | apply below_alloc | apply pw_below_drewN | apply below_drew1) | exact HB.out)) hb); clear HB; have HB := n0_; clear n0_; (try clear hb); (try clear hb2); (try clear hk); (try clear hi)) | ((with_reducible refine gate_callee (f := 15) rfl ?_); refine goesL_ (some 7) rfl rfl Try.func15 (by kernel_rfl) rfl #[.int .u64 a0] rfl (by (try simp only [List.map_toArray, List.map_cons, List.map_nil]); first | done | rfl | (simp only [List.length_drop, List.length_take]; rfl)) ?_; (with_reducible refine (root_Sqrt.calls k a0 t244 _ A4.out).mono ?_); rintro e w15 ⟨rfl, hb⟩; refine ⟨_, rfl, ?_⟩; have n0_ := Aside0.mk (below_step (by repeat (first | (with_reducible first | exact HB.out | apply below_alloc | apply pw_below_drewN | apply below_drew1) | exact HB.out)) hb); clear HB; have HB := n0_; clear n0_; (try clear hb); (try clear hb2); (try clear hk); (try clear hi)) | ((with_reducible refine gate_callee (f := 10) rfl ?_); refine goesL_ (some 11) rfl rfl Try.func10 (by kernel_rfl) rfl #[.agg #[.int .u64 0, .int .u64 a0]] rfl (by (try simp only [List.map_toArray, List.map_cons, List.map_nil]); first | done | rfl | (simp only [List.length_drop, List.length_take]; rfl)) ?_; (with_reducible refine (overfallref03_Sqrt.calls k 0 a0 t245 _ A5.out).mono ?_); rintro e w16 ⟨rfl, hb⟩; refine ⟨_, rfl, ?_⟩; have n0_ := Aside0.mk (below_step (by repeat (first | (with_reducible first | exact HB.out | apply below_alloc | apply pw_below_drewN | apply below_drew1) | exact HB.out)) hb); clear HB; have HB := n0_; clear n0_; (try clear hb); (try clear hb2); (try clear hk); (try clear hi)) | (go_at_call 11; (with_reducible refine (overfallref03_Fits.calls k t244 1 0 a0 true _ A7.out).mono ?_); rintro e w17 ⟨rfl, hb⟩; have n0_ := Aside0.mk (below_step (by repeat (first | (with_reducible first | exact HB.out | apply below_alloc | apply pw_below_drewN | apply below_drew1) | exact HB.out)) hb); clear HB; have HB := n0_; clear n0_; (try clear hb); (try clear hb2); (try clear hk); (try clear hi)) | (go_at_call 11; (with_reducible refine (overfallref03_Fits.calls k (IntKind.u64.wrap (t244 + 1)) 1 0 a0 false _ A9.out).mono ?_); rintro e w18 ⟨rfl, hb⟩; have n0_ := Aside0.mk (below_step (by repeat (first | (with_reducible first | exact HB.out | apply below_alloc | apply pw_below_drewN | apply below_drew1) | exact HB.out)) hb); clear HB; have HB := n0_; clear n0_; (try clear hb); (try clear hb2); (try clear hk); (try clear hi)) | (go_at_call 18; (with_reducible refine (root_Square.calls k a0 t248 _ A11.out).mono ?_); rintro e w19 ⟨rfl, hb⟩; have n0_ := Aside0.mk (below_step (by repeat (first | (with_reducible first | exact HB.out | apply below_alloc | apply pw_below_drewN | apply below_drew1) | exact HB.out)) hb); clear HB; have HB := n0_; clear n0_; (try clear hb); (try clear hb2); (try clear hk); (try clear hi)))
       go_ret
       exact ⟨by first | rfl | (simp [errW_none, errW_some] <;> rfl) | (simp [*, errW_none, errW_some] <;> rfl), by repeat (first | (with_reducible first | exact HB.out | apply below_alloc | apply pw_below_drewN | apply below_drew1) | exact HB.out)⟩
      ·rw [if_neg c13] at H
       have c13b0 : decide (4294967296 ≤ a0) = false := decide_eq_false c13
       clear c13
       replace H := Option.bind_eq_some_iff.mp H
       obtain ⟨t249, A200, H⟩ := H
       replace H : (if t249 = a0 then ((root_Square.f k (IntKind.u64.wrap (a0 * a0))).bind fun t250 => (some t250)) else (none)) = some r := H
       have A20 := Aside0.mk A200
       clear A200
       by_cases c21 : t249 = a0
       ·rw [if_pos c21] at H
        have c21b0 : (t249 == a0) = true := beq_iff_eq.mpr c21
        have c21b1 : (t249 != a0) = false := bne_eq_false_iff_eq.mpr c21
        clear c21
        replace H := Option.bind_eq_some_iff.mp H
        obtain ⟨t250, A220, H⟩ := H
        replace H : (some t250) = some r := H
        have A22 := Aside0.mk A220
        clear A220
        obtain rfl := Option.some.inj H
        go_enter Try.func7, Try.ntmps7
        go_wp2_with (first | ((with_reducible refine gate_callee (f := 8) rfl ?_); refine goesL_ (some 4) rfl rfl Try.func8 (by kernel_rfl) rfl #[] rfl (by (try simp only [List.map_toArray, List.map_cons, List.map_nil]); first | done | rfl | (simp only [List.length_drop, List.length_take]; rfl)) ?_; (with_reducible refine (overfalllaw03_awake.calls k  true _ A2.out).mono ?_); rintro e w23 ⟨rfl, hb⟩; refine ⟨_, rfl, ?_⟩; have n0_ := Aside0.mk (below_step (by repeat (first | (with_reducible first | exact HB.out | apply below_alloc | apply pw_below_drewN | apply below_drew1) | exact HB.out)) hb); clear HB; have HB := n0_; clear n0_; (try clear hb); (try clear hb2); (try clear hk); (try clear hi)) | ((with_reducible refine gate_callee (f := 15) rfl ?_); refine goesL_ (some 7) rfl rfl Try.func15 (by kernel_rfl) rfl #[.int .u64 a0] rfl (by (try simp only [List.map_toArray, List.map_cons, List.map_nil]); first | done | rfl | (simp only [List.length_drop, List.length_take]; rfl)) ?_; (with_reducible refine (root_Sqrt.calls k a0 t244 _ A4.out).mono ?_); rintro e w24 ⟨rfl, hb⟩; refine ⟨_, rfl, ?_⟩; have n0_ := Aside0.mk (below_step (by repeat (first | (with_reducible first | exact HB.out | apply below_alloc | apply pw_below_drewN | apply below_drew1) | exact HB.out)) hb); clear HB; have HB := n0_; clear n0_; (try clear hb); (try clear hb2); (try clear hk); (try clear hi)) | ((with_reducible refine gate_callee (f := 10) rfl ?_); refine goesL_ (some 11) rfl rfl Try.func10 (by kernel_rfl) rfl #[.agg #[.int .u64 0, .int .u64 a0]] rfl (by (try simp only [List.map_toArray, List.map_cons, List.map_nil]); first | done | rfl | (simp only [List.length_drop, List.length_take]; rfl)) ?_; (with_reducible refine (overfallref03_Sqrt.calls k 0 a0 t245 _ A5.out).mono ?_); rintro e w25 ⟨rfl, hb⟩; refine ⟨_, rfl, ?_⟩; have n0_ := Aside0.mk (below_step (by repeat (first | (with_reducible first | exact HB.out | apply below_alloc | apply pw_below_drewN | apply below_drew1) | exact HB.out)) hb); clear HB; have HB := n0_; clear n0_; (try clear hb); (try clear hb2); (try clear hk); (try clear hi)) | (go_at_call 11; (with_reducible refine (overfallref03_Fits.calls k t244 1 0 a0 true _ A7.out).mono ?_); rintro e w26 ⟨rfl, hb⟩; have n0_ := Aside0.mk (below_step (by repeat (first | (with_reducible first | exact HB.out | apply below_alloc | apply pw_below_drewN | apply below_drew1) | exact HB.out)) hb); clear HB; have HB := n0_; clear n0_; (try clear hb); (try clear hb2); (try clear hk); (try clear hi)) | (go_at_call 11; (with_reducible refine (overfallref03_Fits.calls k (IntKind.u64.wrap (t244 + 1)) 1 0 a0 false _ A9.out).mono ?_); rintro e w27 ⟨rfl, hb⟩; have n0_ := Aside0.mk (below_step (by repeat (first | (with_reducible first | exact HB.out | apply below_alloc | apply pw_below_drewN | apply below_drew1) | exact HB.out)) hb); clear HB; have HB := n0_; clear n0_; (try clear hb); (try clear hb2); (try clear hk); (try clear hi)) | (go_at_call 18; (with_reducible refine (root_Square.calls k a0 t248 _ A11.out).mono ?_); rintro e w28 ⟨rfl, hb⟩; have n0_ := Aside0.mk (below_step (by repeat (first | (with_reducible first | exact HB.out | apply below_alloc | apply pw_below_drewN | apply below_drew1) | exact HB.out)) hb); clear HB; have HB := n0_; clear n0_; (try clear hb); (try clear hb2); (try clear hk); (try clear hi)) | (go_at_call 15; (with_reducible refine (root_Sqrt.calls k (IntKind.u64.wrap (a0 * a0)) t249 _ A20.out).mono ?_); rintro e w29 ⟨rfl, hb⟩; have n0_ := Aside0.mk (below_step (by repeat (first | (with_reducible first | exact HB.out | apply below_alloc | apply pw_below_drewN | apply below_drew1) | exact HB.out)) hb); clear HB; have HB := n0_; clear n0_; (try clear hb); (try clear hb2); (try clear hk); (try clear hi)) | (go_at_call 18; (with_reducible refine (root_Square.calls k (IntKind.u64.wrap (a0 * a0)) t250 _ A22.out).mono ?_); rintro e w30 ⟨rfl, hb⟩; have n0_ := Aside0.mk (below_step (by repeat (first | (with_reducible first | exact HB.out | apply below_alloc | apply pw_below_drewN | apply below_drew1) | exact HB.out)) hb); clear HB; have HB := n0_; clear n0_; (try clear hb); (try clear hb2); (try clear hk); (try clear hi)))
        go_ret
        exact ⟨by first | rfl | (simp [errW_none, errW_some] <;> rfl) | (simp [*, errW_none, errW_some] <;> rfl), by repeat (first | (with_reducible first | exact HB.out | apply below_alloc | apply pw_below_drewN | apply below_drew1) | exact HB.out)⟩
       ·rw [if_neg c21] at H
        exact absurd H (by simp)
     ·rw [if_neg c12] at H
      exact absurd H (by simp)
   ·replace c8 := Bool.eq_false_iff.mpr c8
    subst c8
    have H1 : (none) = some r := by rw [if_neg (show ¬ (false = true) by decide)] at H; exact H
    clear H
    have H := H1
    clear H1
    exact absurd H (by simp)
  ·rw [if_neg c6] at H
   exact absurd H (by simp)
 ·replace c3 := Bool.eq_false_iff.mpr c3
  subst c3
  have H1 : (none) = some r := by rw [if_neg (show ¬ (false = true) by decide)] at H; exact H
  clear H
  have H := H1
  clear H1
  exact absurd H (by simp)

/-- THE ONE PURE STATEMENT of overfalllaw03_RootSquares: yours. -/
def overfalllaw03_RootSquares.Pure : Prop := ∀ (a0 : Int), (Lit.int .u64 a0).wf = true → ∃ k, overfalllaw03_RootSquares.f k a0 = some true
theorem overfalllaw03_RootSquares.walk (P : overfalllaw03_RootSquares.Pure) (a0 : Int) (w : World) (w0 : (Lit.int .u64 a0).wf = true) :
  Calls Try.prog 7 #[.int .u64 a0] w fun e w' => e = .returned (.bool true) ∧ Below w.heap.size w w' := by
 obtain ⟨k, h⟩ := P a0 w0
 refine (overfalllaw03_RootSquares.calls k a0 true w h).mono ?_
 rintro e w' ⟨rfl, hd⟩
 exact ⟨rfl, hd⟩

end Go.Proofs.Ytbpjgkidhlkiiaa.G

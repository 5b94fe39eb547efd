-- Laid by a program of this claim's session (wip/tools/myprint.py) over the kit's printer.
import Derived.Test.YtjgjmeefieikaaaGx0
import Derived.Test.YtjgjmeefieikaaaGx5
import Derived.Test.YtjgjmeefieikaaaGx7
namespace Go.Proofs.Ytjgjmeefieikaaa.G
open Go.RowKit Go.Proofs.YtjgjmeefieikaaaW.PrintWords Go.Proofs.YtjgjmeefieikaaaW.PrintLast Go.Proofs.YtjgjmeefieikaaaW.PrintMore
attribute [local go_sem] max2_int min2_int max_two min_two max_three min_three max_four min_four   -- for this text's walks alone
set_option linter.unusedVariables false
set_option linter.unusedSimpArgs false

/-! ### overfalllaw02_FixAdds: function 7 -/
def overfalllaw02_FixAdds.f (k : Nat) (a0 : Int) (a1 : Int) : Option (Bool) := (overfalllaw02_awake.f k).bind fun t234 => (if t234 = true then ((fix_Add.f a0 a1).bind fun t235 => ((overfallref02_Add.f k a0 a1).bind fun t236 => (if t235 = t236 then ((fix_Sub.f a0 a1).bind fun t237 => ((overfallref02_Sub.f k a0 a1).bind fun t238 => (if t237 = t238 then ((fix_Neg.f a0).bind fun t239 => ((overfallref02_Neg.f k a0).bind fun t240 => (if t239 = t240 then ((fix_Add.f a1 a0).bind fun t241 => ((fix_Add.f a0 a1).bind fun t242 => (if t241 = t242 then ((fix_Q_Plus.f a0 a1).bind fun t243 => ((overfallref02_Add.f k a0 a1).bind fun t244 => (if t243 = t244 then ((fix_Q_Less.f a0 a1).bind fun t245 => ((overfallref02_Sub.f k a0 a1).bind fun t246 => (some (t245 == t246)))) else (none)))) else (none)))) else (none)))) else (none)))) else (none)))) else (none))
theorem overfalllaw02_FixAdds.mono : ∀ a0 a1 k, LeO (overfalllaw02_FixAdds.f k a0 a1) (overfalllaw02_FixAdds.f (k + 1) a0 a1) := by
 intro a0 a1 k
 unfold overfalllaw02_FixAdds.f
 repeat' first
   | (with_reducible exact overfalllaw02_awake.mono _)
   | (with_reducible exact overfallref02_Add.mono _ _ _)
   | (with_reducible exact overfallref02_Neg.mono _ _)
   | (with_reducible exact overfallref02_Sub.mono _ _ _)
   | (with_reducible exact LeO.refl _)
   | (with_reducible exact LeO.none _)
   | (with_reducible refine LeO.ite ?_ ?_)
   | (with_reducible refine LeO.bind ?_ (fun _ => ?_))
   | exact overfalllaw02_awake.mono _
   | exact overfallref02_Add.mono _ _ _
   | exact overfallref02_Neg.mono _ _
   | exact overfallref02_Sub.mono _ _ _
   | exact LeO.none _
   | refine LeO.ite ?_ ?_
   | refine LeO.bind ?_ (fun _ => ?_)
set_option maxHeartbeats 8000000 in
set_option maxRecDepth 100000 in
theorem overfalllaw02_FixAdds.calls (k : Nat) (a0 : Int) (a1 : Int) (r : Bool) (w : World) (h : overfalllaw02_FixAdds.f k a0 a1 = some r) :
  Calls Try.prog 7 #[.int .i64 a0, .int .i64 a1] w fun e w' => e = .returned (.bool r) ∧ Below w.heap.size w w' := by
 have HB := Aside0.mk (Below.refl w.heap.size w)
 have H : ((overfalllaw02_awake.f k).bind fun t234 => (if t234 = true then ((fix_Add.f a0 a1).bind fun t235 => ((overfallref02_Add.f k a0 a1).bind fun t236 => (if t235 = t236 then ((fix_Sub.f a0 a1).bind fun t237 => ((overfallref02_Sub.f k a0 a1).bind fun t238 => (if t237 = t238 then ((fix_Neg.f a0).bind fun t239 => ((overfallref02_Neg.f k a0).bind fun t240 => (if t239 = t240 then ((fix_Add.f a1 a0).bind fun t241 => ((fix_Add.f a0 a1).bind fun t242 => (if t241 = t242 then ((fix_Q_Plus.f a0 a1).bind fun t243 => ((overfallref02_Add.f k a0 a1).bind fun t244 => (if t243 = t244 then ((fix_Q_Less.f a0 a1).bind fun t245 => ((overfallref02_Sub.f k a0 a1).bind fun t246 => (some (t245 == t246)))) else (none)))) else (none)))) else (none)))) else (none)))) else (none)))) else (none))) = some r := h
 clear h
 replace H := Option.bind_eq_some_iff.mp H
 obtain ⟨t234, A30, H⟩ := H
 replace H : (if t234 = true then ((fix_Add.f a0 a1).bind fun t235 => ((overfallref02_Add.f k a0 a1).bind fun t236 => (if t235 = t236 then ((fix_Sub.f a0 a1).bind fun t237 => ((overfallref02_Sub.f k a0 a1).bind fun t238 => (if t237 = t238 then ((fix_Neg.f a0).bind fun t239 => ((overfallref02_Neg.f k a0).bind fun t240 => (if t239 = t240 then ((fix_Add.f a1 a0).bind fun t241 => ((fix_Add.f a0 a1).bind fun t242 => (if t241 = t242 then ((fix_Q_Plus.f a0 a1).bind fun t243 => ((overfallref02_Add.f k a0 a1).bind fun t244 => (if t243 = t244 then ((fix_Q_Less.f a0 a1).bind fun t245 => ((overfallref02_Sub.f k a0 a1).bind fun t246 => (some (t245 == t246)))) else (none)))) else (none)))) else (none)))) else (none)))) else (none)))) else (none)) = some r := H
 have A3 := Aside0.mk A30
 clear A30
 by_cases c4 : t234 = true
 ·subst c4
  have H1 : ((fix_Add.f a0 a1).bind fun t235 => ((overfallref02_Add.f k a0 a1).bind fun t236 => (if t235 = t236 then ((fix_Sub.f a0 a1).bind fun t237 => ((overfallref02_Sub.f k a0 a1).bind fun t238 => (if t237 = t238 then ((fix_Neg.f a0).bind fun t239 => ((overfallref02_Neg.f k a0).bind fun t240 => (if t239 = t240 then ((fix_Add.f a1 a0).bind fun t241 => ((fix_Add.f a0 a1).bind fun t242 => (if t241 = t242 then ((fix_Q_Plus.f a0 a1).bind fun t243 => ((overfallref02_Add.f k a0 a1).bind fun t244 => (if t243 = t244 then ((fix_Q_Less.f a0 a1).bind fun t245 => ((overfallref02_Sub.f k a0 a1).bind fun t246 => (some (t245 == t246)))) else (none)))) else (none)))) else (none)))) else (none)))) else (none)))) = some r := by rw [if_pos rfl] at H; exact H
  clear H
  have H := H1
  clear H1
  replace H := Option.bind_eq_some_iff.mp H
  obtain ⟨t235, A50, H⟩ := H
  replace H : ((overfallref02_Add.f k a0 a1).bind fun t236 => (if t235 = t236 then ((fix_Sub.f a0 a1).bind fun t237 => ((overfallref02_Sub.f k a0 a1).bind fun t238 => (if t237 = t238 then ((fix_Neg.f a0).bind fun t239 => ((overfallref02_Neg.f k a0).bind fun t240 => (if t239 = t240 then ((fix_Add.f a1 a0).bind fun t241 => ((fix_Add.f a0 a1).bind fun t242 => (if t241 = t242 then ((fix_Q_Plus.f a0 a1).bind fun t243 => ((overfallref02_Add.f k a0 a1).bind fun t244 => (if t243 = t244 then ((fix_Q_Less.f a0 a1).bind fun t245 => ((overfallref02_Sub.f k a0 a1).bind fun t246 => (some (t245 == t246)))) else (none)))) else (none)))) else (none)))) else (none)))) else (none))) = some r := H
  have A5 := Aside0.mk A50
  clear A50
  replace H := Option.bind_eq_some_iff.mp H
  obtain ⟨t236, A60, H⟩ := H
  replace H : (if t235 = t236 then ((fix_Sub.f a0 a1).bind fun t237 => ((overfallref02_Sub.f k a0 a1).bind fun t238 => (if t237 = t238 then ((fix_Neg.f a0).bind fun t239 => ((overfallref02_Neg.f k a0).bind fun t240 => (if t239 = t240 then ((fix_Add.f a1 a0).bind fun t241 => ((fix_Add.f a0 a1).bind fun t242 => (if t241 = t242 then ((fix_Q_Plus.f a0 a1).bind fun t243 => ((overfallref02_Add.f k a0 a1).bind fun t244 => (if t243 = t244 then ((fix_Q_Less.f a0 a1).bind fun t245 => ((overfallref02_Sub.f k a0 a1).bind fun t246 => (some (t245 == t246)))) else (none)))) else (none)))) else (none)))) else (none)))) else (none)) = some r := H
  have A6 := Aside0.mk A60
  clear A60
  by_cases c7 : t235 = t236
  ·rw [if_pos c7] at H
   have c7b0 : (t235 == t236) = true := beq_iff_eq.mpr c7
   have c7b1 : (t235 != t236) = false := bne_eq_false_iff_eq.mpr c7
   clear c7
   replace H := Option.bind_eq_some_iff.mp H
   obtain ⟨t237, A80, H⟩ := H
   replace H : ((overfallref02_Sub.f k a0 a1).bind fun t238 => (if t237 = t238 then ((fix_Neg.f a0).bind fun t239 => ((overfallref02_Neg.f k a0).bind fun t240 => (if t239 = t240 then ((fix_Add.f a1 a0).bind fun t241 => ((fix_Add.f a0 a1).bind fun t242 => (if t241 = t242 then ((fix_Q_Plus.f a0 a1).bind fun t243 => ((overfallref02_Add.f k a0 a1).bind fun t244 => (if t243 = t244 then ((fix_Q_Less.f a0 a1).bind fun t245 => ((overfallref02_Sub.f k a0 a1).bind fun t246 => (some (t245 == t246)))) else (none)))) else (none)))) else (none)))) else (none))) = some r := H
   have A8 := Aside0.mk A80
   clear A80
   replace H := Option.bind_eq_some_iff.mp H
   obtain ⟨t238, A90, H⟩ := H
   replace H : (if t237 = t238 then ((fix_Neg.f a0).bind fun t239 => ((overfallref02_Neg.f k a0).bind fun t240 => (if t239 = t240 then ((fix_Add.f a1 a0).bind fun t241 => ((fix_Add.f a0 a1).bind fun t242 => (if t241 = t242 then ((fix_Q_Plus.f a0 a1).bind fun t243 => ((overfallref02_Add.f k a0 a1).bind fun t244 => (if t243 = t244 then ((fix_Q_Less.f a0 a1).bind fun t245 => ((overfallref02_Sub.f k a0 a1).bind fun t246 => (some (t245 == t246)))) else (none)))) else (none)))) else (none)))) else (none)) = some r := H
   have A9 := Aside0.mk A90
   clear A90
   by_cases c10 : t237 = t238
   ·rw [if_pos c10] at H
    have c10b0 : (t237 == t238) = true := beq_iff_eq.mpr c10
    have c10b1 : (t237 != t238) = false := bne_eq_false_iff_eq.mpr c10
    clear c10
    replace H := Option.bind_eq_some_iff.mp H
    obtain ⟨t239, A110, H⟩ := H
    replace H : ((overfallref02_Neg.f k a0).bind fun t240 => (if t239 = t240 then ((fix_Add.f a1 a0).bind fun t241 => ((fix_Add.f a0 a1).bind fun t242 => (if t241 = t242 then ((fix_Q_Plus.f a0 a1).bind fun t243 => ((overfallref02_Add.f k a0 a1).bind fun t244 => (if t243 = t244 then ((fix_Q_Less.f a0 a1).bind fun t245 => ((overfallref02_Sub.f k a0 a1).bind fun t246 => (some (t245 == t246)))) else (none)))) else (none)))) else (none))) = some r := H
    have A11 := Aside0.mk A110
    clear A110
    replace H := Option.bind_eq_some_iff.mp H
    obtain ⟨t240, A120, H⟩ := H
    replace H : (if t239 = t240 then ((fix_Add.f a1 a0).bind fun t241 => ((fix_Add.f a0 a1).bind fun t242 => (if t241 = t242 then ((fix_Q_Plus.f a0 a1).bind fun t243 => ((overfallref02_Add.f k a0 a1).bind fun t244 => (if t243 = t244 then ((fix_Q_Less.f a0 a1).bind fun t245 => ((overfallref02_Sub.f k a0 a1).bind fun t246 => (some (t245 == t246)))) else (none)))) else (none)))) else (none)) = some r := H
    have A12 := Aside0.mk A120
    clear A120
    by_cases c13 : t239 = t240
    ·rw [if_pos c13] at H
     have c13b0 : (t239 == t240) = true := beq_iff_eq.mpr c13
     have c13b1 : (t239 != t240) = false := bne_eq_false_iff_eq.mpr c13
     clear c13
     replace H := Option.bind_eq_some_iff.mp H
     obtain ⟨t241, A140, H⟩ := H
     replace H : ((fix_Add.f a0 a1).bind fun t242 => (if t241 = t242 then ((fix_Q_Plus.f a0 a1).bind fun t243 => ((overfallref02_Add.f k a0 a1).bind fun t244 => (if t243 = t244 then ((fix_Q_Less.f a0 a1).bind fun t245 => ((overfallref02_Sub.f k a0 a1).bind fun t246 => (some (t245 == t246)))) else (none)))) else (none))) = some r := H
     have A14 := Aside0.mk A140
     clear A140
     replace H := Option.bind_eq_some_iff.mp H
     obtain ⟨t242, A150, H⟩ := H
     replace H : (if t241 = t242 then ((fix_Q_Plus.f a0 a1).bind fun t243 => ((overfallref02_Add.f k a0 a1).bind fun t244 => (if t243 = t244 then ((fix_Q_Less.f a0 a1).bind fun t245 => ((overfallref02_Sub.f k a0 a1).bind fun t246 => (some (t245 == t246)))) else (none)))) else (none)) = some r := H
     have A15 := Aside0.mk A150
     clear A150
     by_cases c16 : t241 = t242
     ·rw [if_pos c16] at H
      have c16b0 : (t241 == t242) = true := beq_iff_eq.mpr c16
      have c16b1 : (t241 != t242) = false := bne_eq_false_iff_eq.mpr c16
      clear c16
      replace H := Option.bind_eq_some_iff.mp H
      obtain ⟨t243, A170, H⟩ := H
      replace H : ((overfallref02_Add.f k a0 a1).bind fun t244 => (if t243 = t244 then ((fix_Q_Less.f a0 a1).bind fun t245 => ((overfallref02_Sub.f k a0 a1).bind fun t246 => (some (t245 == t246)))) else (none))) = some r := H
      have A17 := Aside0.mk A170
      clear A170
      replace H := Option.bind_eq_some_iff.mp H
      obtain ⟨t244, A180, H⟩ := H
      replace H : (if t243 = t244 then ((fix_Q_Less.f a0 a1).bind fun t245 => ((overfallref02_Sub.f k a0 a1).bind fun t246 => (some (t245 == t246)))) else (none)) = some r := H
      have A18 := Aside0.mk A180
      clear A180
      by_cases c19 : t243 = t244
      ·rw [if_pos c19] at H
       have c19b0 : (t243 == t244) = true := beq_iff_eq.mpr c19
       have c19b1 : (t243 != t244) = false := bne_eq_false_iff_eq.mpr c19
       clear c19
       replace H := Option.bind_eq_some_iff.mp H
       obtain ⟨t245, A200, H⟩ := H
       replace H : ((overfallref02_Sub.f k a0 a1).bind fun t246 => (some (t245 == t246))) = some r := H
       have A20 := Aside0.mk A200
       clear A200
       replace H := Option.bind_eq_some_iff.mp H
       obtain ⟨t246, A210, H⟩ := H
       replace H : (some (t245 == t246)) = some r := H
       have A21 := Aside0.mk A210
       clear A210
       obtain rfl := Option.some.inj H
       go_enter Try.func7, Try.ntmps7
       go_wp2_with (first | ((with_reducible refine gate_callee (f := 10) rfl ?_); refine goesL_ (some 5) rfl rfl Try.func10 (by kernel_rfl) rfl #[] rfl (by (try simp only [List.map_toArray, List.map_cons, List.map_nil]); first | done | rfl | (simp only [List.length_drop, List.length_take]; rfl)) ?_; (with_reducible refine (overfalllaw02_awake.calls k  true _ A3.out).mono ?_); rintro e w22 ⟨rfl, hb⟩; refine ⟨_, rfl, ?_⟩; have n0_ := Aside0.mk (below_step (by repeat (first | (with_reducible first | exact HB.out | apply below_alloc | apply pw_below_drewN | apply below_drew1) | exact HB.out)) hb); clear HB; have HB := n0_; clear n0_; (try clear hb); (try clear hb2); (try clear hk); (try clear hi)) | ((with_reducible refine gate_callee (f := 25) rfl ?_); refine goesL_ (some 9) rfl rfl Try.func25 (by kernel_rfl) rfl #[.int .i64 a0, .int .i64 a1] rfl (by (try simp only [List.map_toArray, List.map_cons, List.map_nil]); first | done | rfl | (simp only [List.length_drop, List.length_take]; rfl)) ?_; (with_reducible refine (fix_Add.calls a0 a1 t235 _ A5.out).mono ?_); rintro e w' ⟨rfl, ⟨nd, rfl⟩⟩; refine ⟨_, rfl, ?_⟩) | ((with_reducible refine gate_callee (f := 26) rfl ?_); refine goesL_ (some 12) rfl rfl Try.func26 (by kernel_rfl) rfl #[.int .i64 a0, .int .i64 a1] rfl (by (try simp only [List.map_toArray, List.map_cons, List.map_nil]); first | done | rfl | (simp only [List.length_drop, List.length_take]; rfl)) ?_; (with_reducible refine (overfallref02_Add.calls k a0 a1 t236 _ A6.out).mono ?_); rintro e w23 ⟨rfl, hb⟩; refine ⟨_, rfl, ?_⟩; have n0_ := Aside0.mk (below_step (by repeat (first | (with_reducible first | exact HB.out | apply below_alloc | apply pw_below_drewN | apply below_drew1) | exact HB.out)) hb); clear HB; have HB := n0_; clear n0_; (try clear hb); (try clear hb2); (try clear hk); (try clear hi)) | (go_at_call 27; (with_reducible refine (fix_Sub.calls a0 a1 t237 _ A8.out).mono ?_); rintro e w' ⟨rfl, ⟨nd, rfl⟩⟩) | (go_at_call 28; (with_reducible refine (overfallref02_Sub.calls k a0 a1 t238 _ A9.out).mono ?_); rintro e w24 ⟨rfl, hb⟩; have n0_ := Aside0.mk (below_step (by repeat (first | (with_reducible first | exact HB.out | apply below_alloc | apply pw_below_drewN | apply below_drew1) | exact HB.out)) hb); clear HB; have HB := n0_; clear n0_; (try clear hb); (try clear hb2); (try clear hk); (try clear hi)) | (go_at_call 29; (with_reducible refine (fix_Neg.calls a0 t239 _ A11.out).mono ?_); rintro e w' ⟨rfl, ⟨nd, rfl⟩⟩) | (go_at_call 30; (with_reducible refine (overfallref02_Neg.calls k a0 t240 _ A12.out).mono ?_); rintro e w25 ⟨rfl, hb⟩; have n0_ := Aside0.mk (below_step (by repeat (first | (with_reducible first | exact HB.out | apply below_alloc | apply pw_below_drewN | apply below_drew1) | exact HB.out)) hb); clear HB; have HB := n0_; clear n0_; (try clear hb); (try clear hb2); (try clear hk); (try clear hi)) | (go_at_call 25; (with_reducible refine (fix_Add.calls a1 a0 t241 _ A14.out).mono ?_); rintro e w' ⟨rfl, ⟨nd, rfl⟩⟩) | (go_at_call 25; (with_reducible refine (fix_Add.calls a0 a1 t242 _ A15.out).mono ?_); rintro e w' ⟨rfl, ⟨nd, rfl⟩⟩) | (go_at_call 31; (with_reducible refine (fix_Q_Plus.calls a0 a1 t243 _ A17.out).mono ?_); rintro e w' ⟨rfl, ⟨nd, rfl⟩⟩) | (go_at_call 26; (with_reducible refine (overfallref02_Add.calls k a0 a1 t244 _ A18.out).mono ?_); rintro e w26 ⟨rfl, hb⟩; have n0_ := Aside0.mk (below_step (by repeat (first | (with_reducible first | exact HB.out | apply below_alloc | apply pw_below_drewN | apply below_drew1) | exact HB.out)) hb); clear HB; have HB := n0_; clear n0_; (try clear hb); (try clear hb2); (try clear hk); (try clear hi)) | (go_at_call 32; (with_reducible refine (fix_Q_Less.calls a0 a1 t245 _ A20.out).mono ?_); rintro e w' ⟨rfl, ⟨nd, rfl⟩⟩) | (go_at_call 28; (with_reducible refine (overfallref02_Sub.calls k a0 a1 t246 _ A21.out).mono ?_); rintro e w27 ⟨rfl, hb⟩; have n0_ := Aside0.mk (below_step (by repeat (first | (with_reducible first | exact HB.out | apply below_alloc | apply pw_below_drewN | apply below_drew1) | exact HB.out)) hb); clear HB; have HB := n0_; clear n0_; (try clear hb); (try clear hb2); (try clear hk); (try clear hi)))
       go_ret
       exact ⟨by first | rfl | (have e_ := Option.some.inj (A9.out.symm.trans A21.out); subst e_; rfl) | (simp [errW_none, errW_some] <;> rfl) | (simp [*, errW_none, errW_some] <;> rfl), by repeat (first | (with_reducible first | exact HB.out | apply below_alloc | apply pw_below_drewN | apply below_drew1) | exact HB.out)⟩
      ·rw [if_neg c19] at H
       exact absurd H (by simp)
     ·rw [if_neg c16] at H
      exact absurd H (by simp)
    ·rw [if_neg c13] at H
     exact absurd H (by simp)
   ·rw [if_neg c10] at H
    exact absurd H (by simp)
  ·rw [if_neg c7] at H
   exact absurd H (by simp)
 ·replace c4 := Bool.eq_false_iff.mpr c4
  subst c4
  have H1 : (none) = some r := by rw [if_neg (show ¬ (false = true) by decide)] at H; exact H
  clear H
  have H := H1
  clear H1
  exact absurd H (by simp)

/-- THE ONE PURE STATEMENT of overfalllaw02_FixAdds: yours. -/
def overfalllaw02_FixAdds.Pure : Prop := ∀ (a0 : Int) (a1 : Int), (Lit.int .i64 a0).wf = true → (Lit.int .i64 a1).wf = true → ∃ k, overfalllaw02_FixAdds.f k a0 a1 = some true
theorem overfalllaw02_FixAdds.walk (P : overfalllaw02_FixAdds.Pure) (a0 : Int) (a1 : Int) (w : World) (w0 : (Lit.int .i64 a0).wf = true) (w1 : (Lit.int .i64 a1).wf = true) :
  Calls Try.prog 7 #[.int .i64 a0, .int .i64 a1] w fun e w' => e = .returned (.bool true) ∧ Below w.heap.size w w' := by
 obtain ⟨k, h⟩ := P a0 a1 w0 w1
 refine (overfalllaw02_FixAdds.calls k a0 a1 true w h).mono ?_
 rintro e w' ⟨rfl, hd⟩
 exact ⟨rfl, hd⟩

end Go.Proofs.Ytjgjmeefieikaaa.G

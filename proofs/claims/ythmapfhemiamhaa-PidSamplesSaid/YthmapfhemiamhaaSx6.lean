-- Laid by a program of this claim's session (wip/tools/myprint.py) over the kit's printer.
import Derived.Test.YthmapfhemiamhaaSx0
import Derived.Test.YthmapfhemiamhaaSx3
import Derived.Test.YthmapfhemiamhaaSx5
namespace Go.Proofs.Ythmapfhemiamhaa.S
open Go.RowKit Go.Proofs.YthmapfhemiamhaaW.PrintWords Go.Proofs.YthmapfhemiamhaaW.PrintLast Go.Proofs.YthmapfhemiamhaaW.PrintMore
attribute [local go_sem] max2_int min2_int max_two min_two max_three min_three max_four min_four   -- for this text's walks alone
set_option linter.unusedVariables false
set_option linter.unusedSimpArgs false

/-! ### pid_State_Sample: function 11 -/
def pid_State_Sample.f (k : Nat) (a0_0 : Int) (a0_1 : Int) (a0_2 : Int) (a1_0 : Int) (a1_1 : Int) (a1_2 : Int) (a1_3 : Int) (a1_4 : Int) (a1_5 : Int) (a1_6 : Int) (a2 : Int) : Option (Int × Int × Int) := (fix_Q_Less.f a2 a1_0).bind fun t151 => ((pid_State_Open.f a0_0 t151 a0_2 a1_0 a1_1 a1_2 a1_3 a1_4 a1_5 a1_6 a2).bind fun t152 => (if t152 = true then ((fix_Q_Times.f k a1_2 t151).bind fun t156 => ((fix_Q_Plus.f a0_0 t156).bind fun t157 => ((fix_Clamp.f t157 0 a1_4).bind fun t158 => ((fix_Q_Times.f k a1_1 t151).bind fun t159 => ((fix_Q_Plus.f t159 t158).bind fun t160 => ((fix_Q_Less.f t151 a0_1).bind fun t161 => ((fix_Q_Times.f k a1_3 t161).bind fun t162 => ((fix_Q_Plus.f t160 t162).bind fun t163 => ((fix_Q_Floor.f t163).bind fun t164 => ((fix_Add.f a0_2 a1_5).bind fun t165 => ((fix_Clamp.f (mn (mx a0_2 t164) t165) 0 a1_6).bind fun t166 => (some (t158, t151, t166))))))))))))) else ((fix_Q_Times.f k a0_0 2147483648).bind fun t153 => ((fix_Sub.f a0_2 1).bind fun t154 => ((fix_Clamp.f t154 0 a1_6).bind fun t155 => (some (mx t153 0, t151, t155)))))))
theorem pid_State_Sample.mono : ∀ a0 a1 a2 a3 a4 a5 a6 a7 a8 a9 a10 k, LeO (pid_State_Sample.f k a0 a1 a2 a3 a4 a5 a6 a7 a8 a9 a10) (pid_State_Sample.f (k + 1) a0 a1 a2 a3 a4 a5 a6 a7 a8 a9 a10) := by
 intro a0 a1 a2 a3 a4 a5 a6 a7 a8 a9 a10 k
 unfold pid_State_Sample.f
 repeat' first
   | (with_reducible exact fix_Q_Times.mono _ _ _)
   | (with_reducible exact LeO.refl _)
   | (with_reducible exact LeO.none _)
   | (with_reducible refine LeO.ite ?_ ?_)
   | (with_reducible refine LeO.bind ?_ (fun _ => ?_))
   | exact fix_Q_Times.mono _ _ _
   | exact LeO.none _
   | refine LeO.ite ?_ ?_
   | refine LeO.bind ?_ (fun _ => ?_)
def pid_State_Sample.T6 : Bool × List (List Nat × List Nat) := (true, [([], []), ([0], [0]), ([1], [1]), ([], []), ([3], [3]), ([2, 4, 2], [2, 4]), ([0, 1, 2, 3, 4, 5], []), ([6, 5, 5, 0, 1, 2, 3, 4, 5], [5, 6])])
def pid_State_Sample.B6 : List Nat := [0, 1, 3, 0, 8, 31, 63, 127]
theorem pid_State_Sample.tab6 : rtab .any (opsOf Try.f11 6) = pid_State_Sample.T6 := by kernel_rfl
theorem pid_State_Sample.bits6 : waitsOk pid_State_Sample.T6.2 pid_State_Sample.B6 = true := by kernel_rfl
def pid_State_Sample.T8 : Bool × List (List Nat × List Nat) := (true, [([], []), ([0], [0]), ([], []), ([2], [2]), ([], []), ([3, 4], [3, 4]), ([1, 5, 5], [1, 5]), ([], []), ([7], [7]), ([6, 8, 6], [6, 8]), ([0, 1, 2, 3, 4, 5, 6, 7, 8, 9], []), ([10, 9, 9, 0, 1, 2, 3, 4, 5, 6, 7, 8, 9], [9, 10])])
def pid_State_Sample.B8 : List Nat := [0, 1, 0, 4, 0, 28, 63, 0, 128, 511, 1023, 2047]
theorem pid_State_Sample.tab8 : rtab .any (opsOf Try.f11 8) = pid_State_Sample.T8 := by kernel_rfl
theorem pid_State_Sample.bits8 : waitsOk pid_State_Sample.T8.2 pid_State_Sample.B8 = true := by kernel_rfl
def pid_State_Sample.T9 : Bool × List (List Nat × List Nat) := (true, [([], []), ([0], [0]), ([], []), ([1, 2], [1, 2]), ([], []), ([4], [4]), ([3, 5, 3], [3, 5]), ([], []), ([7], [7]), ([], []), ([], []), ([9, 10, 6], [9, 10]), ([8, 11, 11], [8, 11]), ([6, 12, 12], [6, 12]), ([13, 13, 0, 1, 2, 3, 4, 5, 6, 7, 8, 9, 10, 11, 12, 13], [13])])
def pid_State_Sample.B9 : List Nat := [0, 1, 0, 7, 0, 16, 63, 0, 128, 0, 0, 1663, 4095, 8191, 16383]
theorem pid_State_Sample.tab9 : rtab .any (opsOf Try.f11 9) = pid_State_Sample.T9 := by kernel_rfl
theorem pid_State_Sample.bits9 : waitsOk pid_State_Sample.T9.2 pid_State_Sample.B9 = true := by kernel_rfl
def pid_State_Sample.T10 : Bool × List (List Nat × List Nat) := (true, [([], []), ([0], [0]), ([], []), ([2], [2]), ([1, 3], [1, 3]), ([], []), ([5], [5]), ([], []), ([7], [7]), ([6, 8, 3], [6, 8]), ([4, 9], [4, 9]), ([10, 9, 0, 1, 2, 3, 4, 5, 6, 7, 8, 9, 10], [10])])
def pid_State_Sample.B10 : List Nat := [0, 1, 0, 4, 15, 0, 32, 0, 128, 492, 1023, 2047]
theorem pid_State_Sample.tab10 : rtab .any (opsOf Try.f11 10) = pid_State_Sample.T10 := by kernel_rfl
theorem pid_State_Sample.bits10 : waitsOk pid_State_Sample.T10.2 pid_State_Sample.B10 = true := by kernel_rfl
set_option maxHeartbeats 8000000 in
set_option maxRecDepth 100000 in
theorem pid_State_Sample.calls (k : Nat) (a0_0 : Int) (a0_1 : Int) (a0_2 : Int) (a1_0 : Int) (a1_1 : Int) (a1_2 : Int) (a1_3 : Int) (a1_4 : Int) (a1_5 : Int) (a1_6 : Int) (a2 : Int) (r1 : Int) (r2 : Int) (r3 : Int) (w : World) (h : pid_State_Sample.f k a0_0 a0_1 a0_2 a1_0 a1_1 a1_2 a1_3 a1_4 a1_5 a1_6 a2 = some (r1, r2, r3)) :
  Calls Try.prog 11 #[.agg #[.int .i64 a0_0, .int .i64 a0_1, .int .i64 a0_2], .agg #[.int .i64 a1_0, .int .i64 a1_1, .int .i64 a1_2, .int .i64 a1_3, .int .i64 a1_4, .int .i64 a1_5, .int .i64 a1_6], .int .i64 a2] w fun e w' => e = .returned (.agg #[.int .i64 r1, .int .i64 r2, .int .i64 r3]) ∧ Below w.heap.size w w' := by
 have hu24 := Try.underlying24
 have hu26 := Try.underlying26
 have HB := Aside0.mk (Below.refl w.heap.size w)
 have H : ((fix_Q_Less.f a2 a1_0).bind fun t151 => ((pid_State_Open.f a0_0 t151 a0_2 a1_0 a1_1 a1_2 a1_3 a1_4 a1_5 a1_6 a2).bind fun t152 => (if t152 = true then ((fix_Q_Times.f k a1_2 t151).bind fun t156 => ((fix_Q_Plus.f a0_0 t156).bind fun t157 => ((fix_Clamp.f t157 0 a1_4).bind fun t158 => ((fix_Q_Times.f k a1_1 t151).bind fun t159 => ((fix_Q_Plus.f t159 t158).bind fun t160 => ((fix_Q_Less.f t151 a0_1).bind fun t161 => ((fix_Q_Times.f k a1_3 t161).bind fun t162 => ((fix_Q_Plus.f t160 t162).bind fun t163 => ((fix_Q_Floor.f t163).bind fun t164 => ((fix_Add.f a0_2 a1_5).bind fun t165 => ((fix_Clamp.f (mn (mx a0_2 t164) t165) 0 a1_6).bind fun t166 => (some (t158, t151, t166))))))))))))) else ((fix_Q_Times.f k a0_0 2147483648).bind fun t153 => ((fix_Sub.f a0_2 1).bind fun t154 => ((fix_Clamp.f t154 0 a1_6).bind fun t155 => (some (mx t153 0, t151, t155)))))))) = some (r1, r2, r3) := h
 clear h
 replace H := Option.bind_eq_some_iff.mp H
 obtain ⟨t151, A40, H⟩ := H
 replace H : ((pid_State_Open.f a0_0 t151 a0_2 a1_0 a1_1 a1_2 a1_3 a1_4 a1_5 a1_6 a2).bind fun t152 => (if t152 = true then ((fix_Q_Times.f k a1_2 t151).bind fun t156 => ((fix_Q_Plus.f a0_0 t156).bind fun t157 => ((fix_Clamp.f t157 0 a1_4).bind fun t158 => ((fix_Q_Times.f k a1_1 t151).bind fun t159 => ((fix_Q_Plus.f t159 t158).bind fun t160 => ((fix_Q_Less.f t151 a0_1).bind fun t161 => ((fix_Q_Times.f k a1_3 t161).bind fun t162 => ((fix_Q_Plus.f t160 t162).bind fun t163 => ((fix_Q_Floor.f t163).bind fun t164 => ((fix_Add.f a0_2 a1_5).bind fun t165 => ((fix_Clamp.f (mn (mx a0_2 t164) t165) 0 a1_6).bind fun t166 => (some (t158, t151, t166))))))))))))) else ((fix_Q_Times.f k a0_0 2147483648).bind fun t153 => ((fix_Sub.f a0_2 1).bind fun t154 => ((fix_Clamp.f t154 0 a1_6).bind fun t155 => (some (mx t153 0, t151, t155))))))) = some (r1, r2, r3) := H
 have A4 := Aside0.mk A40
 clear A40
 replace H := Option.bind_eq_some_iff.mp H
 obtain ⟨t152, A50, H⟩ := H
 replace H : (if t152 = true then ((fix_Q_Times.f k a1_2 t151).bind fun t156 => ((fix_Q_Plus.f a0_0 t156).bind fun t157 => ((fix_Clamp.f t157 0 a1_4).bind fun t158 => ((fix_Q_Times.f k a1_1 t151).bind fun t159 => ((fix_Q_Plus.f t159 t158).bind fun t160 => ((fix_Q_Less.f t151 a0_1).bind fun t161 => ((fix_Q_Times.f k a1_3 t161).bind fun t162 => ((fix_Q_Plus.f t160 t162).bind fun t163 => ((fix_Q_Floor.f t163).bind fun t164 => ((fix_Add.f a0_2 a1_5).bind fun t165 => ((fix_Clamp.f (mn (mx a0_2 t164) t165) 0 a1_6).bind fun t166 => (some (t158, t151, t166))))))))))))) else ((fix_Q_Times.f k a0_0 2147483648).bind fun t153 => ((fix_Sub.f a0_2 1).bind fun t154 => ((fix_Clamp.f t154 0 a1_6).bind fun t155 => (some (mx t153 0, t151, t155)))))) = some (r1, r2, r3) := H
 have A5 := Aside0.mk A50
 clear A50
 by_cases c6 : t152 = true
 ·subst c6
  have H1 : ((fix_Q_Times.f k a1_2 t151).bind fun t156 => ((fix_Q_Plus.f a0_0 t156).bind fun t157 => ((fix_Clamp.f t157 0 a1_4).bind fun t158 => ((fix_Q_Times.f k a1_1 t151).bind fun t159 => ((fix_Q_Plus.f t159 t158).bind fun t160 => ((fix_Q_Less.f t151 a0_1).bind fun t161 => ((fix_Q_Times.f k a1_3 t161).bind fun t162 => ((fix_Q_Plus.f t160 t162).bind fun t163 => ((fix_Q_Floor.f t163).bind fun t164 => ((fix_Add.f a0_2 a1_5).bind fun t165 => ((fix_Clamp.f (mn (mx a0_2 t164) t165) 0 a1_6).bind fun t166 => (some (t158, t151, t166))))))))))))) = some (r1, r2, r3) := by rw [if_pos rfl] at H; exact H
  clear H
  have H := H1
  clear H1
  replace H := Option.bind_eq_some_iff.mp H
  obtain ⟨t156, A70, H⟩ := H
  replace H : ((fix_Q_Plus.f a0_0 t156).bind fun t157 => ((fix_Clamp.f t157 0 a1_4).bind fun t158 => ((fix_Q_Times.f k a1_1 t151).bind fun t159 => ((fix_Q_Plus.f t159 t158).bind fun t160 => ((fix_Q_Less.f t151 a0_1).bind fun t161 => ((fix_Q_Times.f k a1_3 t161).bind fun t162 => ((fix_Q_Plus.f t160 t162).bind fun t163 => ((fix_Q_Floor.f t163).bind fun t164 => ((fix_Add.f a0_2 a1_5).bind fun t165 => ((fix_Clamp.f (mn (mx a0_2 t164) t165) 0 a1_6).bind fun t166 => (some (t158, t151, t166)))))))))))) = some (r1, r2, r3) := H
  have A7 := Aside0.mk A70
  clear A70
  replace H := Option.bind_eq_some_iff.mp H
  obtain ⟨t157, A80, H⟩ := H
  replace H : ((fix_Clamp.f t157 0 a1_4).bind fun t158 => ((fix_Q_Times.f k a1_1 t151).bind fun t159 => ((fix_Q_Plus.f t159 t158).bind fun t160 => ((fix_Q_Less.f t151 a0_1).bind fun t161 => ((fix_Q_Times.f k a1_3 t161).bind fun t162 => ((fix_Q_Plus.f t160 t162).bind fun t163 => ((fix_Q_Floor.f t163).bind fun t164 => ((fix_Add.f a0_2 a1_5).bind fun t165 => ((fix_Clamp.f (mn (mx a0_2 t164) t165) 0 a1_6).bind fun t166 => (some (t158, t151, t166))))))))))) = some (r1, r2, r3) := H
  have A8 := Aside0.mk A80
  clear A80
  replace H := Option.bind_eq_some_iff.mp H
  obtain ⟨t158, A90, H⟩ := H
  replace H : ((fix_Q_Times.f k a1_1 t151).bind fun t159 => ((fix_Q_Plus.f t159 t158).bind fun t160 => ((fix_Q_Less.f t151 a0_1).bind fun t161 => ((fix_Q_Times.f k a1_3 t161).bind fun t162 => ((fix_Q_Plus.f t160 t162).bind fun t163 => ((fix_Q_Floor.f t163).bind fun t164 => ((fix_Add.f a0_2 a1_5).bind fun t165 => ((fix_Clamp.f (mn (mx a0_2 t164) t165) 0 a1_6).bind fun t166 => (some (t158, t151, t166)))))))))) = some (r1, r2, r3) := H
  have A9 := Aside0.mk A90
  clear A90
  replace H := Option.bind_eq_some_iff.mp H
  obtain ⟨t159, A100, H⟩ := H
  replace H : ((fix_Q_Plus.f t159 t158).bind fun t160 => ((fix_Q_Less.f t151 a0_1).bind fun t161 => ((fix_Q_Times.f k a1_3 t161).bind fun t162 => ((fix_Q_Plus.f t160 t162).bind fun t163 => ((fix_Q_Floor.f t163).bind fun t164 => ((fix_Add.f a0_2 a1_5).bind fun t165 => ((fix_Clamp.f (mn (mx a0_2 t164) t165) 0 a1_6).bind fun t166 => (some (t158, t151, t166))))))))) = some (r1, r2, r3) := H
  have A10 := Aside0.mk A100
  clear A100
  replace H := Option.bind_eq_some_iff.mp H
  obtain ⟨t160, A110, H⟩ := H
  replace H : ((fix_Q_Less.f t151 a0_1).bind fun t161 => ((fix_Q_Times.f k a1_3 t161).bind fun t162 => ((fix_Q_Plus.f t160 t162).bind fun t163 => ((fix_Q_Floor.f t163).bind fun t164 => ((fix_Add.f a0_2 a1_5).bind fun t165 => ((fix_Clamp.f (mn (mx a0_2 t164) t165) 0 a1_6).bind fun t166 => (some (t158, t151, t166)))))))) = some (r1, r2, r3) := H
  have A11 := Aside0.mk A110
  clear A110
  replace H := Option.bind_eq_some_iff.mp H
  obtain ⟨t161, A120, H⟩ := H
  replace H : ((fix_Q_Times.f k a1_3 t161).bind fun t162 => ((fix_Q_Plus.f t160 t162).bind fun t163 => ((fix_Q_Floor.f t163).bind fun t164 => ((fix_Add.f a0_2 a1_5).bind fun t165 => ((fix_Clamp.f (mn (mx a0_2 t164) t165) 0 a1_6).bind fun t166 => (some (t158, t151, t166))))))) = some (r1, r2, r3) := H
  have A12 := Aside0.mk A120
  clear A120
  replace H := Option.bind_eq_some_iff.mp H
  obtain ⟨t162, A130, H⟩ := H
  replace H : ((fix_Q_Plus.f t160 t162).bind fun t163 => ((fix_Q_Floor.f t163).bind fun t164 => ((fix_Add.f a0_2 a1_5).bind fun t165 => ((fix_Clamp.f (mn (mx a0_2 t164) t165) 0 a1_6).bind fun t166 => (some (t158, t151, t166)))))) = some (r1, r2, r3) := H
  have A13 := Aside0.mk A130
  clear A130
  replace H := Option.bind_eq_some_iff.mp H
  obtain ⟨t163, A140, H⟩ := H
  replace H : ((fix_Q_Floor.f t163).bind fun t164 => ((fix_Add.f a0_2 a1_5).bind fun t165 => ((fix_Clamp.f (mn (mx a0_2 t164) t165) 0 a1_6).bind fun t166 => (some (t158, t151, t166))))) = some (r1, r2, r3) := H
  have A14 := Aside0.mk A140
  clear A140
  replace H := Option.bind_eq_some_iff.mp H
  obtain ⟨t164, A150, H⟩ := H
  replace H : ((fix_Add.f a0_2 a1_5).bind fun t165 => ((fix_Clamp.f (mn (mx a0_2 t164) t165) 0 a1_6).bind fun t166 => (some (t158, t151, t166)))) = some (r1, r2, r3) := H
  have A15 := Aside0.mk A150
  clear A150
  obtain ⟨ji16, hji16⟩ : ∃ j_ : Int, (mx a0_2 t164) = j_ := ⟨_, rfl⟩
  replace H : ((fix_Add.f a0_2 a1_5).bind fun t165 => ((fix_Clamp.f (mn (ji16) t165) 0 a1_6).bind fun t166 => (some (t158, t151, t166)))) = some (r1, r2, r3) := by first | (rw [hji16] at H; exact H) | (simp only [hji16] at H ⊢; exact H)
  (try rw [hji16] at A4)
  (try rw [hji16] at A5)
  (try rw [hji16] at A7)
  (try rw [hji16] at A8)
  (try rw [hji16] at A9)
  (try rw [hji16] at A10)
  (try rw [hji16] at A11)
  (try rw [hji16] at A12)
  (try rw [hji16] at A13)
  (try rw [hji16] at A14)
  (try rw [hji16] at A15)
  have hji16_ : (if a0_2 < t164 then t164 else a0_2) = ji16 := hji16
  replace H := Option.bind_eq_some_iff.mp H
  obtain ⟨t165, A170, H⟩ := H
  replace H : ((fix_Clamp.f (mn (ji16) t165) 0 a1_6).bind fun t166 => (some (t158, t151, t166))) = some (r1, r2, r3) := H
  have A17 := Aside0.mk A170
  clear A170
  obtain ⟨ji18, hji18⟩ : ∃ j_ : Int, (mn (ji16) t165) = j_ := ⟨_, rfl⟩
  replace H : ((fix_Clamp.f (ji18) 0 a1_6).bind fun t166 => (some (t158, t151, t166))) = some (r1, r2, r3) := by first | (rw [hji18] at H; exact H) | (simp only [hji18] at H ⊢; exact H)
  (try rw [hji18] at A4)
  (try rw [hji18] at A5)
  (try rw [hji18] at A7)
  (try rw [hji18] at A8)
  (try rw [hji18] at A9)
  (try rw [hji18] at A10)
  (try rw [hji18] at A11)
  (try rw [hji18] at A12)
  (try rw [hji18] at A13)
  (try rw [hji18] at A14)
  (try rw [hji18] at A15)
  (try rw [hji18] at A17)
  have hji18_ : (if t165 < (ji16) then t165 else (ji16)) = ji18 := hji18
  replace H := Option.bind_eq_some_iff.mp H
  obtain ⟨t166, A190, H⟩ := H
  replace H : (some (t158, t151, t166)) = some (r1, r2, r3) := H
  have A19 := Aside0.mk A190
  clear A190
  simp only [Option.some.injEq, Prod.mk.injEq] at H
  obtain ⟨rfl, rfl, rfl⟩ := H
  go_enter Try.func11, Try.ntmps11
  try go_wp2_with (first | ((with_reducible refine gate_dst (N := 3) rfl ?_); refine box_event ?hg (N := 3) ?hd (cs := #[.int .i64 a0_0, .int .i64 a0_1, .int .i64 a0_2]) (t := 24) ?hr ?_; (case hd => rfl); (case hg => rfl); (case hr => first | (go_simp; done) | (go_simp; rfl)); intro gb148 hg w20 hbox hb; have n0_ := Aside0.mk (below_step (by repeat (first | (with_reducible first | exact HB.out | apply below_alloc | apply pw_below_drewN | apply below_drew1) | exact HB.out)) hb); have n1_ := Aside0.mk (hbox); have n2_ := Aside0.mk ((by rw [hg]; exact (below_size (by repeat (first | (with_reducible first | exact HB.out | apply below_alloc | apply pw_below_drewN | apply below_drew1) | exact HB.out))) : w.heap.size ≤ gb148)); have n3_ := Aside0.mk ((by rw [hg]; exact (below_size (by repeat (first | (with_reducible first | exact HB.out | apply below_alloc | apply pw_below_drewN | apply below_drew1) | exact HB.out))) : w.heap.size ≤ gb148)); clear HB; have HB := n0_; have BK148 := n1_; have GW148 := n2_; have GE148 := n3_; clear n0_ n1_ n2_ n3_; clear hb hbox hg) | ((with_reducible refine gate_dst (N := 4) rfl ?_); refine box_event ?hg (N := 4) ?hd (cs := #[.int .i64 a1_0, .int .i64 a1_1, .int .i64 a1_2, .int .i64 a1_3, .int .i64 a1_4, .int .i64 a1_5, .int .i64 a1_6]) (t := 26) ?hr ?_; (case hd => rfl); (case hg => rfl); (case hr => first | (go_simp; done) | (go_simp; rfl)); intro gb149 hg w21 hbox hb; have n0_ := Aside0.mk (blk_below (by exact BK148.out) hb); have n1_ := Aside0.mk (below_step (by repeat (first | (with_reducible first | exact HB.out | apply below_alloc | apply pw_below_drewN | apply below_drew1 | refine below_set ?_ GE148.out) | exact HB.out)) hb); have n2_ := Aside0.mk (hbox); have n3_ := Aside0.mk ((by rw [hg]; exact (below_size (by repeat (first | (with_reducible first | exact HB.out | apply below_alloc | apply pw_below_drewN | apply below_drew1 | refine below_set ?_ GE148.out) | exact HB.out))) : w.heap.size ≤ gb149)); have n4_ := Aside0.mk ((by rw [hg]; exact (below_size (by repeat (first | (with_reducible first | exact HB.out | apply below_alloc | apply pw_below_drewN | apply below_drew1 | refine below_set ?_ GE148.out) | exact HB.out))) : w.heap.size ≤ gb149)); have n5_ := Aside0.mk ((by rw [hg]; exact Nat.ne_of_lt (blk_lt (by exact BK148.out)) : gb148 ≠ gb149)); have n6_ := Aside0.mk ((by rw [hg]; exact Nat.ne_of_gt (blk_lt (by exact BK148.out)) : gb149 ≠ gb148)); clear BK148; clear HB; have BK148 := n0_; have HB := n1_; have BK149 := n2_; have GW149 := n3_; have GE149 := n4_; have NB148_149 := n5_; have NB149_148 := n6_; clear n0_ n1_ n2_ n3_ n4_ n5_ n6_; clear hb hbox hg) | ((with_reducible refine gate_dst (N := 6) rfl ?_); refine box_event ?hg (N := 6) ?hd (cs := #[.int .i64 0, .int .i64 0, .int .i64 0]) (t := 24) ?hr ?_; (case hd => rfl); (case hg => rfl); (case hr => first | (go_simp; done) | (go_simp; rfl)); intro gb150 hg w22 hbox hb; have n0_ := Aside0.mk (blk_below (by exact BK148.out) hb); have n1_ := Aside0.mk (blk_below (by exact BK149.out) hb); have n2_ := Aside0.mk (below_step (by repeat (first | (with_reducible first | exact HB.out | apply below_alloc | apply pw_below_drewN | apply below_drew1 | refine below_set ?_ GE148.out | refine below_set ?_ GE149.out) | exact HB.out)) hb); have n3_ := Aside0.mk (hbox); have n4_ := Aside0.mk ((by rw [hg]; exact (below_size (by repeat (first | (with_reducible first | exact HB.out | apply below_alloc | apply pw_below_drewN | apply below_drew1 | refine below_set ?_ GE148.out | refine below_set ?_ GE149.out) | exact HB.out))) : w.heap.size ≤ gb150)); have n5_ := Aside0.mk ((by rw [hg]; exact (below_size (by repeat (first | (with_reducible first | exact HB.out | apply below_alloc | apply pw_below_drewN | apply below_drew1 | refine below_set ?_ GE148.out | refine below_set ?_ GE149.out) | exact HB.out))) : w.heap.size ≤ gb150)); have n6_ := Aside0.mk ((by rw [hg]; exact Nat.ne_of_lt (blk_lt (by exact BK148.out)) : gb148 ≠ gb150)); have n7_ := Aside0.mk ((by rw [hg]; exact Nat.ne_of_gt (blk_lt (by exact BK148.out)) : gb150 ≠ gb148)); have n8_ := Aside0.mk ((by rw [hg]; exact Nat.ne_of_lt (blk_lt (by exact BK149.out)) : gb149 ≠ gb150)); have n9_ := Aside0.mk ((by rw [hg]; exact Nat.ne_of_gt (blk_lt (by exact BK149.out)) : gb150 ≠ gb149)); clear BK148; clear BK149; clear HB; have BK148 := n0_; have BK149 := n1_; have HB := n2_; have BK150 := n3_; have GW150 := n4_; have GE150 := n5_; have NB148_150 := n6_; have NB150_148 := n7_; have NB149_150 := n8_; have NB150_149 := n9_; clear n0_ n1_ n2_ n3_ n4_ n5_ n6_ n7_ n8_ n9_; clear hb hbox hg; have hnb23 := NB149_148.out; have hnc23 := NB148_149.out; have hnb24 := NB149_150.out; have hnc24 := NB150_149.out; have hcz25_0 : w22.cell? ⟨gb149, 0, none⟩ = some (.int .i64 a1_0) := (blk_cell BK149.out 0).trans rfl; have hcz25_1 : w22.cell? ⟨gb149, 1, none⟩ = some (.int .i64 a1_1) := (blk_cell BK149.out 1).trans rfl; have hcz25_2 : w22.cell? ⟨gb149, 2, none⟩ = some (.int .i64 a1_2) := (blk_cell BK149.out 2).trans rfl; have hcz25_3 : w22.cell? ⟨gb149, 3, none⟩ = some (.int .i64 a1_3) := (blk_cell BK149.out 3).trans rfl; have hcz25_4 : w22.cell? ⟨gb149, 4, none⟩ = some (.int .i64 a1_4) := (blk_cell BK149.out 4).trans rfl; have hcz25_5 : w22.cell? ⟨gb149, 5, none⟩ = some (.int .i64 a1_5) := (blk_cell BK149.out 5).trans rfl; have hcz25_6 : w22.cell? ⟨gb149, 6, none⟩ = some (.int .i64 a1_6) := (blk_cell BK149.out 6).trans rfl; have hfz25_0 := blk_frozen BK149.out 0; have hfz25_1 := blk_frozen BK149.out 1; have hfz25_2 := blk_frozen BK149.out 2; have hfz25_3 := blk_frozen BK149.out 3; have hfz25_4 := blk_frozen BK149.out 4; have hfz25_5 := blk_frozen BK149.out 5; have hfz25_6 := blk_frozen BK149.out 6) | ((with_reducible refine gate_callee (f := 18) rfl ?_); refine goesL_ (some 14) rfl rfl Try.func18 (by kernel_rfl) rfl #[.int .i64 a2, .int .i64 a1_0] rfl (by (try simp only [List.map_toArray, List.map_cons, List.map_nil]); first | done | rfl | (simp only [List.length_drop, List.length_take]; rfl)) ?_; (with_reducible refine (fix_Q_Less.calls a2 a1_0 t151 _ A4.out).mono ?_); rintro e w' ⟨rfl, ⟨nd, rfl⟩⟩; refine ⟨_, rfl, ?_⟩; (try (rw [drewN_self w22]; generalize hq_ : World.drewN w22 _ = w22; have n0_ : Aside0 (w22.heap[gb148]? = some (.cells #[.int .i64 a0_0, .int .i64 a0_1, .int .i64 a0_2] 24 (0, 0))) := ⟨by rw [← hq_]; exact (by exact BK148.out)⟩; have n1_ : Aside0 (w22.heap[gb149]? = some (.cells #[.int .i64 a1_0, .int .i64 a1_1, .int .i64 a1_2, .int .i64 a1_3, .int .i64 a1_4, .int .i64 a1_5, .int .i64 a1_6] 26 (0, 0))) := ⟨by rw [← hq_]; exact (by exact BK149.out)⟩; have n2_ : Aside0 (w22.heap[gb150]? = some (.cells #[.int .i64 0, .int .i64 0, .int .i64 0] 24 (0, 0))) := ⟨by rw [← hq_]; exact (by exact BK150.out)⟩; have n3_ : Aside0 (Below w.heap.size w w22) := ⟨by rw [← hq_]; exact (by repeat (first | (with_reducible first | exact HB.out | apply below_alloc | apply pw_below_drewN | apply below_drew1 | refine below_set ?_ GE148.out | refine below_set ?_ GE149.out | refine below_set ?_ GE150.out) | exact HB.out))⟩; clear BK148 BK149 BK150 HB hq_; have BK148 := n0_; have BK149 := n1_; have BK150 := n2_; have HB := n3_; clear n0_ n1_ n2_ n3_)); (try (have hcy149_0 : w22.cell? ⟨gb149, 0, none⟩ = some (.int .i64 a1_0) := (blk_cell BK149.out 0).trans rfl)); (try have hfy149_0 := blk_frozen BK149.out 0); (try (have hcy149_1 : w22.cell? ⟨gb149, 1, none⟩ = some (.int .i64 a1_1) := (blk_cell BK149.out 1).trans rfl)); (try have hfy149_1 := blk_frozen BK149.out 1); (try (have hcy149_2 : w22.cell? ⟨gb149, 2, none⟩ = some (.int .i64 a1_2) := (blk_cell BK149.out 2).trans rfl)); (try have hfy149_2 := blk_frozen BK149.out 2); (try (have hcy149_3 : w22.cell? ⟨gb149, 3, none⟩ = some (.int .i64 a1_3) := (blk_cell BK149.out 3).trans rfl)); (try have hfy149_3 := blk_frozen BK149.out 3); (try (have hcy149_4 : w22.cell? ⟨gb149, 4, none⟩ = some (.int .i64 a1_4) := (blk_cell BK149.out 4).trans rfl)); (try have hfy149_4 := blk_frozen BK149.out 4); (try (have hcy149_5 : w22.cell? ⟨gb149, 5, none⟩ = some (.int .i64 a1_5) := (blk_cell BK149.out 5).trans rfl)); (try have hfy149_5 := blk_frozen BK149.out 5); (try (have hcy149_6 : w22.cell? ⟨gb149, 6, none⟩ = some (.int .i64 a1_6) := (blk_cell BK149.out 6).trans rfl)); (try have hfy149_6 := blk_frozen BK149.out 6); have hnb26 := NB148_150.out; have hnc26 := NB150_148.out; have hcz27_0 : w22.cell? ⟨gb148, 0, none⟩ = some (.int .i64 a0_0) := (blk_cell BK148.out 0).trans rfl; have hcz27_1 : w22.cell? ⟨gb148, 1, none⟩ = some (.int .i64 a0_1) := (blk_cell BK148.out 1).trans rfl; have hcz27_2 : w22.cell? ⟨gb148, 2, none⟩ = some (.int .i64 a0_2) := (blk_cell BK148.out 2).trans rfl; have hfz27_0 := blk_frozen BK148.out 0; have hfz27_1 := blk_frozen BK148.out 1; have hfz27_2 := blk_frozen BK148.out 2) | ((with_reducible refine gate_callee (f := 10) rfl ?_); refine goesL_ (some 22) rfl rfl Try.func10 (by kernel_rfl) rfl #[.agg #[.int .i64 a0_0, .int .i64 t151, .int .i64 a0_2], .agg #[.int .i64 a1_0, .int .i64 a1_1, .int .i64 a1_2, .int .i64 a1_3, .int .i64 a1_4, .int .i64 a1_5, .int .i64 a1_6], .int .i64 a2] rfl (by (try simp only [List.map_toArray, List.map_cons, List.map_nil]); first | done | rfl | (simp only [List.length_drop, List.length_take]; rfl)) ?_; (with_reducible refine (pid_State_Open.calls a0_0 t151 a0_2 a1_0 a1_1 a1_2 a1_3 a1_4 a1_5 a1_6 a2 true _ A5.out).mono ?_); rintro e w28 ⟨rfl, hb⟩; refine ⟨_, rfl, ?_⟩; have n0_ := Aside0.mk (blk_below (g := gb148) (o := .cells #[.int .i64 a0_0, .int .i64 t151, .int .i64 a0_2] 24 (0, 0)) (by refine blk_put (cs := #[.int .i64 a0_0, .int .i64 a0_1, .int .i64 a0_2]) ?_ 1 _ rfl; exact BK148.out) hb); have n1_ := Aside0.mk (blk_below (g := gb149) (o := .cells #[.int .i64 a1_0, .int .i64 a1_1, .int .i64 a1_2, .int .i64 a1_3, .int .i64 a1_4, .int .i64 a1_5, .int .i64 a1_6] 26 (0, 0)) (by refine blk_far ?_ NB149_148.out _; exact BK149.out) hb); have n2_ := Aside0.mk (blk_below (g := gb150) (o := .cells #[.int .i64 0, .int .i64 0, .int .i64 0] 24 (0, 0)) (by refine blk_far ?_ NB150_148.out _; exact BK150.out) hb); have n3_ := Aside0.mk (below_step (by repeat (first | (with_reducible first | exact HB.out | apply below_alloc | apply pw_below_drewN | apply below_drew1 | refine below_set ?_ GE148.out | refine below_set ?_ GE149.out | refine below_set ?_ GE150.out) | exact HB.out)) hb); clear BK148; clear BK149; clear BK150; clear HB; have BK148 := n0_; have BK149 := n1_; have BK150 := n2_; have HB := n3_; clear n0_ n1_ n2_ n3_; (try clear hb); (try clear hb2); (try clear hk); (try clear hi)))
  have n0_ := Aside0.mk (blk_drew BK148.out)
  have n1_ := Aside0.mk (blk_drew BK149.out)
  have n2_ := Aside0.mk (blk_drew BK150.out)
  have n3_ := Aside0.mk (below_drew1 HB.out)
  clear BK148
  clear BK149
  clear BK150
  clear HB
  have BK148 := n0_
  have BK149 := n1_
  have BK150 := n2_
  have HB := n3_
  clear n0_ n1_ n2_ n3_
  refine start_ (n := 12) (S := fun w' => w'.cell? ⟨gb148, 0, none⟩ = some (.int .i64 a0_0) ∧ w'.cell? ⟨gb148, 1, none⟩ = some (.int .i64 t151) ∧ w'.cell? ⟨gb148, 2, none⟩ = some (.int .i64 a0_2) ∧ w'.cell? ⟨gb149, 0, none⟩ = some (.int .i64 a1_0) ∧ w'.cell? ⟨gb149, 1, none⟩ = some (.int .i64 a1_1) ∧ w'.cell? ⟨gb149, 2, none⟩ = some (.int .i64 a1_2) ∧ w'.cell? ⟨gb149, 3, none⟩ = some (.int .i64 a1_3) ∧ w'.cell? ⟨gb149, 4, none⟩ = some (.int .i64 a1_4) ∧ w'.cell? ⟨gb149, 5, none⟩ = some (.int .i64 a1_5) ∧ w'.cell? ⟨gb149, 6, none⟩ = some (.int .i64 a1_6)) (ds := [11]) #[false, false, false, false, false, false, false, false, false, false, false, false] (by kernel_rfl) rfl rfl ⟨(blk_cell BK148.out 0).trans rfl, (blk_cell BK148.out 1).trans rfl, (blk_cell BK148.out 2).trans rfl, (blk_cell BK149.out 0).trans rfl, (blk_cell BK149.out 1).trans rfl, (blk_cell BK149.out 2).trans rfl, (blk_cell BK149.out 3).trans rfl, (blk_cell BK149.out 4).trans rfl, (blk_cell BK149.out 5).trans rfl, (blk_cell BK149.out 6).trans rfl⟩ (fun hHeld => ?_); refine with_tabW pid_State_Sample.tab8 pid_State_Sample.bits8 (fun HT_ HW_ => ?_)
  generalize w28.drew = w29 at BK148 BK149 BK150 HB hHeld ⊢
  refine pure_ (i := 0) (N := some 37) (v := ?_) (a' := ?_) #[true, false, false, false, false, false, false, false, false, false, false, false] rfl rfl (any_of HT_.out (by kernel_rfl)) (fun _ _ _ h => h) (Or.inl ⟨by rfl, ?_⟩) ?_ ?_
  rotate_left
  ·intro w'
   go_simp
   with_reducible rfl
  rotate_left
  ·simp only [Act.put, List.setIfInBounds_toArray, List.set_cons_zero, List.set_cons_succ, i64_w, i32_w]
   rfl
  refine pure_ (i := 2) (N := some 39) (v := ?_) (a' := ?_) #[true, false, true, false, false, false, false, false, false, false, false, false] rfl rfl (any_of HT_.out (by kernel_rfl)) (fun _ _ _ h => h) (Or.inl ⟨by rfl, ?_⟩) ?_ ?_
  rotate_left
  ·intro w'
   go_simp
   with_reducible rfl
  rotate_left
  ·simp only [Act.put, List.setIfInBounds_toArray, List.set_cons_zero, List.set_cons_succ, i64_w, i32_w]
   rfl
  refine pure_ (i := 4) (N := some 41) (v := ?_) (a' := ?_) #[true, false, true, false, true, false, false, false, false, false, false, false] rfl rfl (any_of HT_.out (by kernel_rfl)) (fun _ _ _ h => h) (Or.inl ⟨by rfl, ?_⟩) ?_ ?_
  rotate_left
  ·intro w'
   go_simp
   with_reducible rfl
  rotate_left
  ·simp only [Act.put, List.setIfInBounds_toArray, List.set_cons_zero, List.set_cons_succ, i64_w, i32_w]
   rfl
  refine pure_ (i := 7) (N := some 44) (v := ?_) (a' := ?_) #[true, false, true, false, true, false, false, true, false, false, false, false] rfl rfl (any_of HT_.out (by kernel_rfl)) (fun _ _ _ h => h) (Or.inl ⟨by rfl, ?_⟩) ?_ ?_
  rotate_left
  ·intro w'
   go_simp
   with_reducible rfl
  rotate_left
  ·simp only [Act.put, List.setIfInBounds_toArray, List.set_cons_zero, List.set_cons_succ, i64_w, i32_w]
   rfl
  refine take_ (i := 1) (N := some 38) (v := ?_) (a' := ?_) #[true, true, true, false, true, false, false, true, false, false, false, false] rfl rfl (take_ofW HT_.out HW_.out (by kernel_rfl)) (fun _ _ _ h => h) (Or.inl ⟨by rfl, ?_⟩) hHeld ?_ ?_
  rotate_left
  ·rintro w' ⟨s0, s1, s2, s3, s4, s5, s6, s7, s8, s9⟩
   go_simp
   with_reducible rfl
  rotate_left
  ·simp only [Act.put, List.setIfInBounds_toArray, List.set_cons_zero, List.set_cons_succ, i64_w, i32_w]
   rfl
  refine take_ (i := 3) (N := some 40) (v := ?_) (a' := ?_) #[true, true, true, true, true, false, false, true, false, false, false, false] rfl rfl (take_ofW HT_.out HW_.out (by kernel_rfl)) (fun _ _ _ h => h) (Or.inl ⟨by rfl, ?_⟩) hHeld ?_ ?_
  rotate_left
  ·rintro w' ⟨s0, s1, s2, s3, s4, s5, s6, s7, s8, s9⟩
   go_simp
   with_reducible rfl
  rotate_left
  ·simp only [Act.put, List.setIfInBounds_toArray, List.set_cons_zero, List.set_cons_succ, i64_w, i32_w]
   rfl
  refine take_ (i := 8) (N := some 45) (v := ?_) (a' := ?_) #[true, true, true, true, true, false, false, true, true, false, false, false] rfl rfl (take_ofW HT_.out HW_.out (by kernel_rfl)) (fun _ _ _ h => h) (Or.inl ⟨by rfl, ?_⟩) hHeld ?_ ?_
  rotate_left
  ·rintro w' ⟨s0, s1, s2, s3, s4, s5, s6, s7, s8, s9⟩
   go_simp
   with_reducible rfl
  rotate_left
  ·simp only [Act.put, List.setIfInBounds_toArray, List.set_cons_zero, List.set_cons_succ, i64_w, i32_w]
   rfl
  refine one_ (i := 5) (N := some 42) #[true, true, true, true, true, true, false, true, true, false, false, false] rfl rfl (one_of HT_.out (by kernel_rfl)) (by decide) (fun K hK => ?_)
  refine goes_ Try.func19 (by kernel_rfl) rfl #[.int .i64 a1_2, .int .i64 t151] (by rfl) rfl rfl (by (try simp only [List.map_toArray, List.map_cons, List.map_nil]); first | done | rfl | (simp only [List.length_drop, List.length_take]; rfl)) ?_
  with_reducible refine (fix_Q_Times.calls k a1_2 t151 t156 _ A7.out).mono ?_
  rintro e w30 ⟨rfl, hb⟩
  refine ⟨_, rfl, ?_⟩
  have n0_ := Aside0.mk (blk_below (by exact BK148.out) hb)
  have n1_ := Aside0.mk (blk_below (by exact BK149.out) hb)
  have n2_ := Aside0.mk (blk_below (by exact BK150.out) hb)
  have n3_ := Aside0.mk (below_step (by repeat (first | (with_reducible first | exact HB.out | apply below_alloc | apply pw_below_drewN | apply below_drew1 | refine below_set ?_ GE148.out | refine below_set ?_ GE149.out | refine below_set ?_ GE150.out) | exact HB.out)) hb)
  clear BK148
  clear BK149
  clear BK150
  clear HB
  have BK148 := n0_
  have BK149 := n1_
  have BK150 := n2_
  have HB := n3_
  clear n0_ n1_ n2_ n3_
  (try clear hb)
  (try clear hb2)
  (try clear hk)
  (try clear hi)
  refine hK.out _ _ ⟨(blk_cell BK148.out 0).trans rfl, (blk_cell BK148.out 1).trans rfl, (blk_cell BK148.out 2).trans rfl, (blk_cell BK149.out 0).trans rfl, (blk_cell BK149.out 1).trans rfl, (blk_cell BK149.out 2).trans rfl, (blk_cell BK149.out 3).trans rfl, (blk_cell BK149.out 4).trans rfl, (blk_cell BK149.out 5).trans rfl, (blk_cell BK149.out 6).trans rfl⟩ (fun hHeld => ?_)
  clear hK K
  refine norm_ (a' := ?_) ?_ ?_
  rotate_left
  ·show Act.put _ (some 42) _ = _
   simp only [Act.put, List.setIfInBounds_toArray, List.set_cons_zero, List.set_cons_succ, i64_w, i32_w]
   rfl
  refine one_ (i := 6) (N := some 43) #[true, true, true, true, true, true, true, true, true, false, false, false] rfl rfl (one_of HT_.out (by kernel_rfl)) (by decide) (fun K hK => ?_)
  refine goes_ Try.func22 (by kernel_rfl) rfl #[.int .i64 a0_0, .int .i64 t156] (by rfl) rfl rfl (by (try simp only [List.map_toArray, List.map_cons, List.map_nil]); first | done | rfl | (simp only [List.length_drop, List.length_take]; rfl)) ?_
  with_reducible refine (fix_Q_Plus.calls a0_0 t156 t157 _ A8.out).mono ?_
  rintro e w' ⟨rfl, ⟨nd, rfl⟩⟩
  refine ⟨_, rfl, ?_⟩
  refine hK.out _ _ ⟨(blk_cell BK148.out 0).trans rfl, (blk_cell BK148.out 1).trans rfl, (blk_cell BK148.out 2).trans rfl, (blk_cell BK149.out 0).trans rfl, (blk_cell BK149.out 1).trans rfl, (blk_cell BK149.out 2).trans rfl, (blk_cell BK149.out 3).trans rfl, (blk_cell BK149.out 4).trans rfl, (blk_cell BK149.out 5).trans rfl, (blk_cell BK149.out 6).trans rfl⟩ (fun hHeld => ?_)
  clear hK K
  refine norm_ (a' := ?_) ?_ ?_
  rotate_left
  ·show Act.put _ (some 43) _ = _
   simp only [Act.put, List.setIfInBounds_toArray, List.set_cons_zero, List.set_cons_succ, i64_w, i32_w]
   rfl
  refine one_ (i := 9) (N := some 46) #[true, true, true, true, true, true, true, true, true, true, false, false] rfl rfl (one_of HT_.out (by kernel_rfl)) (by decide) (fun K hK => ?_)
  refine goes_ Try.func20 (by kernel_rfl) rfl #[.int .i64 t157, .int .i64 0, .int .i64 a1_4] (by rfl) rfl rfl (by (try simp only [List.map_toArray, List.map_cons, List.map_nil]); first | done | rfl | (simp only [List.length_drop, List.length_take]; rfl)) ?_
  with_reducible refine (fix_Clamp.calls t157 0 a1_4 t158 _ A9.out).mono ?_
  rintro e w' ⟨rfl, ⟨nd, rfl⟩⟩
  refine ⟨_, rfl, ?_⟩
  refine hK.out _ _ ⟨(blk_cell BK148.out 0).trans rfl, (blk_cell BK148.out 1).trans rfl, (blk_cell BK148.out 2).trans rfl, (blk_cell BK149.out 0).trans rfl, (blk_cell BK149.out 1).trans rfl, (blk_cell BK149.out 2).trans rfl, (blk_cell BK149.out 3).trans rfl, (blk_cell BK149.out 4).trans rfl, (blk_cell BK149.out 5).trans rfl, (blk_cell BK149.out 6).trans rfl⟩ (fun hHeld => ?_)
  clear hK K
  refine norm_ (a' := ?_) ?_ ?_
  rotate_left
  ·show Act.put _ (some 46) _ = _
   simp only [Act.put, List.setIfInBounds_toArray, List.set_cons_zero, List.set_cons_succ, i64_w, i32_w]
   rfl
  refine pure_ (i := 10) (N := some 47) (v := ?_) (a' := ?_) #[true, true, true, true, true, true, true, true, true, true, true, false] rfl rfl (any_of HT_.out (by kernel_rfl)) (fun _ _ _ h => h) (Or.inl ⟨by rfl, ?_⟩) ?_ ?_
  rotate_left
  ·intro w'
   go_simp
   with_reducible rfl
  rotate_left
  ·simp only [Act.put, List.setIfInBounds_toArray, List.set_cons_zero, List.set_cons_succ, i64_w, i32_w]
   rfl
  refine last_ (i := 11) (N := none) #[true, true, true, true, true, true, true, true, true, true, true, true] rfl rfl (one_of HT_.out (by kernel_rfl)) (by decide) (fun K hK => ?_)
  have hs31 : w30.cell? ⟨gb148, 0, none⟩ = some (.int .i64 a0_0) := (blk_cell BK148.out 0).trans rfl
  have hfs31 := blk_frozen BK148.out 0
  have hns31_1 := NB149_148.out
  have hns31_2 := NB150_148.out
  have hms31_1 := NB148_149.out
  have hms31_2 := NB148_150.out
  refine skip_ (w1 := ?_) (by rfl) rfl ?_ ?_
  rotate_left
  ·go_simp
   rfl
  refine hK.out _ _ ?_
  clear hK K
  refine done_ (done_of HT_.out (by kernel_rfl)) ?_
  try go_wp2
  (try (rw [drewN_self w30]; generalize hq_ : World.drewN w30 _ = w30; have m0_ := Aside0.mk (blk_at hq_ BK148.out); have m1_ := Aside0.mk (blk_at hq_ BK149.out); have m2_ := Aside0.mk (blk_at hq_ BK150.out); have mh_ := Aside0.mk (below_at hq_ HB.out); clear BK148 BK149 BK150 HB hq_; have BK148 := m0_; have BK149 := m1_; have BK150 := m2_; have HB := mh_; clear m0_ m1_ m2_ mh_))
  have n0_ : Aside0 ((w30.setCell ⟨gb148, 0, none⟩ (.int .i64 t158)).heap[gb148]? = some (.cells #[.int .i64 t158, .int .i64 t151, .int .i64 a0_2] 24 (0, 0))) := ⟨by refine blk_put (cs := #[.int .i64 a0_0, .int .i64 t151, .int .i64 a0_2]) ?_ 0 _ rfl; exact BK148.out⟩
  have n1_ : Aside0 ((w30.setCell ⟨gb148, 0, none⟩ (.int .i64 t158)).heap[gb149]? = some (.cells #[.int .i64 a1_0, .int .i64 a1_1, .int .i64 a1_2, .int .i64 a1_3, .int .i64 a1_4, .int .i64 a1_5, .int .i64 a1_6] 26 (0, 0))) := ⟨by refine blk_far ?_ NB149_148.out _; exact BK149.out⟩
  have n2_ : Aside0 ((w30.setCell ⟨gb148, 0, none⟩ (.int .i64 t158)).heap[gb150]? = some (.cells #[.int .i64 0, .int .i64 0, .int .i64 0] 24 (0, 0))) := ⟨by refine blk_far ?_ NB150_148.out _; exact BK150.out⟩
  have n3_ : Aside0 (Below w.heap.size w (w30.setCell ⟨gb148, 0, none⟩ (.int .i64 t158))) := ⟨by repeat (first | (with_reducible first | exact HB.out | apply below_alloc | apply pw_below_drewN | apply below_drew1 | refine below_set ?_ GE148.out | refine below_set ?_ GE149.out | refine below_set ?_ GE150.out) | exact HB.out)⟩
  (try clear BK148)
  (try clear BK149)
  (try clear BK150)
  (try clear HB)
  generalize (w30.setCell ⟨gb148, 0, none⟩ (.int .i64 t158)) = w32 at n0_ n1_ n2_ n3_ ⊢
  have BK148 := n0_
  have BK149 := n1_
  have BK150 := n2_
  have HB := n3_
  clear n0_ n1_ n2_ n3_
  (try (rw [drewN_self w32]; generalize hq_ : World.drewN w32 _ = w32; have n0_ : Aside0 (w32.heap[gb148]? = some (.cells #[.int .i64 t158, .int .i64 t151, .int .i64 a0_2] 24 (0, 0))) := ⟨by rw [← hq_]; exact (by exact BK148.out)⟩; have n1_ : Aside0 (w32.heap[gb149]? = some (.cells #[.int .i64 a1_0, .int .i64 a1_1, .int .i64 a1_2, .int .i64 a1_3, .int .i64 a1_4, .int .i64 a1_5, .int .i64 a1_6] 26 (0, 0))) := ⟨by rw [← hq_]; exact (by exact BK149.out)⟩; have n2_ : Aside0 (w32.heap[gb150]? = some (.cells #[.int .i64 0, .int .i64 0, .int .i64 0] 24 (0, 0))) := ⟨by rw [← hq_]; exact (by exact BK150.out)⟩; have n3_ : Aside0 (Below w.heap.size w w32) := ⟨by rw [← hq_]; exact (by repeat (first | (with_reducible first | exact HB.out | apply below_alloc | apply pw_below_drewN | apply below_drew1 | refine below_set ?_ GE148.out | refine below_set ?_ GE149.out | refine below_set ?_ GE150.out) | exact HB.out))⟩; clear BK148 BK149 BK150 HB hq_; have BK148 := n0_; have BK149 := n1_; have BK150 := n2_; have HB := n3_; clear n0_ n1_ n2_ n3_))
  have n0_ := Aside0.mk (blk_drew BK148.out)
  have n1_ := Aside0.mk (blk_drew BK149.out)
  have n2_ := Aside0.mk (blk_drew BK150.out)
  have n3_ := Aside0.mk (below_drew1 HB.out)
  clear BK148
  clear BK149
  clear BK150
  clear HB
  have BK148 := n0_
  have BK149 := n1_
  have BK150 := n2_
  have HB := n3_
  clear n0_ n1_ n2_ n3_
  refine start_ (n := 15) (S := fun w' => w'.cell? ⟨gb149, 0, none⟩ = some (.int .i64 a1_0) ∧ w'.cell? ⟨gb149, 1, none⟩ = some (.int .i64 a1_1) ∧ w'.cell? ⟨gb149, 2, none⟩ = some (.int .i64 a1_2) ∧ w'.cell? ⟨gb149, 3, none⟩ = some (.int .i64 a1_3) ∧ w'.cell? ⟨gb149, 4, none⟩ = some (.int .i64 a1_4) ∧ w'.cell? ⟨gb149, 5, none⟩ = some (.int .i64 a1_5) ∧ w'.cell? ⟨gb149, 6, none⟩ = some (.int .i64 a1_6) ∧ w'.cell? ⟨gb148, 0, none⟩ = some (.int .i64 t158) ∧ w'.cell? ⟨gb148, 1, none⟩ = some (.int .i64 t151) ∧ w'.cell? ⟨gb148, 2, none⟩ = some (.int .i64 a0_2)) (ds := []) #[false, false, false, false, false, false, false, false, false, false, false, false, false, false, false] (by kernel_rfl) rfl rfl ⟨(blk_cell BK149.out 0).trans rfl, (blk_cell BK149.out 1).trans rfl, (blk_cell BK149.out 2).trans rfl, (blk_cell BK149.out 3).trans rfl, (blk_cell BK149.out 4).trans rfl, (blk_cell BK149.out 5).trans rfl, (blk_cell BK149.out 6).trans rfl, (blk_cell BK148.out 0).trans rfl, (blk_cell BK148.out 1).trans rfl, (blk_cell BK148.out 2).trans rfl⟩ (fun hHeld => ?_); refine with_tabW pid_State_Sample.tab9 pid_State_Sample.bits9 (fun HT_ HW_ => ?_)
  generalize w32.drew = w33 at BK148 BK149 BK150 HB hHeld ⊢
  refine pure_ (i := 0) (N := some 48) (v := ?_) (a' := ?_) #[true, false, false, false, false, false, false, false, false, false, false, false, false, false, false] rfl rfl (any_of HT_.out (by kernel_rfl)) (fun _ _ _ h => h) (Or.inl ⟨by rfl, ?_⟩) ?_ ?_
  rotate_left
  ·intro w'
   go_simp
   with_reducible rfl
  rotate_left
  ·simp only [Act.put, List.setIfInBounds_toArray, List.set_cons_zero, List.set_cons_succ, i64_w, i32_w]
   rfl
  refine pure_ (i := 2) (N := some 50) (v := ?_) (a' := ?_) #[true, false, true, false, false, false, false, false, false, false, false, false, false, false, false] rfl rfl (any_of HT_.out (by kernel_rfl)) (fun _ _ _ h => h) (Or.inl ⟨by rfl, ?_⟩) ?_ ?_
  rotate_left
  ·intro w'
   go_simp
   with_reducible rfl
  rotate_left
  ·simp only [Act.put, List.setIfInBounds_toArray, List.set_cons_zero, List.set_cons_succ, i64_w, i32_w]
   rfl
  refine pure_ (i := 4) (N := some 52) (v := ?_) (a' := ?_) #[true, false, true, false, true, false, false, false, false, false, false, false, false, false, false] rfl rfl (any_of HT_.out (by kernel_rfl)) (fun _ _ _ h => h) (Or.inl ⟨by rfl, ?_⟩) ?_ ?_
  rotate_left
  ·intro w'
   go_simp
   with_reducible rfl
  rotate_left
  ·simp only [Act.put, List.setIfInBounds_toArray, List.set_cons_zero, List.set_cons_succ, i64_w, i32_w]
   rfl
  refine pure_ (i := 7) (N := some 55) (v := ?_) (a' := ?_) #[true, false, true, false, true, false, false, true, false, false, false, false, false, false, false] rfl rfl (any_of HT_.out (by kernel_rfl)) (fun _ _ _ h => h) (Or.inl ⟨by rfl, ?_⟩) ?_ ?_
  rotate_left
  ·intro w'
   go_simp
   with_reducible rfl
  rotate_left
  ·simp only [Act.put, List.setIfInBounds_toArray, List.set_cons_zero, List.set_cons_succ, i64_w, i32_w]
   rfl
  refine pure_ (i := 9) (N := some 57) (v := ?_) (a' := ?_) #[true, false, true, false, true, false, false, true, false, true, false, false, false, false, false] rfl rfl (any_of HT_.out (by kernel_rfl)) (fun _ _ _ h => h) (Or.inl ⟨by rfl, ?_⟩) ?_ ?_
  rotate_left
  ·intro w'
   go_simp
   with_reducible rfl
  rotate_left
  ·simp only [Act.put, List.setIfInBounds_toArray, List.set_cons_zero, List.set_cons_succ, i64_w, i32_w]
   rfl
  refine pure_ (i := 10) (N := some 58) (v := ?_) (a' := ?_) #[true, false, true, false, true, false, false, true, false, true, true, false, false, false, false] rfl rfl (any_of HT_.out (by kernel_rfl)) (fun _ _ _ h => h) (Or.inl ⟨by rfl, ?_⟩) ?_ ?_
  rotate_left
  ·intro w'
   go_simp
   with_reducible rfl
  rotate_left
  ·simp only [Act.put, List.setIfInBounds_toArray, List.set_cons_zero, List.set_cons_succ, i64_w, i32_w]
   rfl
  refine take_ (i := 1) (N := some 49) (v := ?_) (a' := ?_) #[true, true, true, false, true, false, false, true, false, true, true, false, false, false, false] rfl rfl (take_ofW HT_.out HW_.out (by kernel_rfl)) (fun _ _ _ h => h) (Or.inl ⟨by rfl, ?_⟩) hHeld ?_ ?_
  rotate_left
  ·rintro w' ⟨s0, s1, s2, s3, s4, s5, s6, s7, s8, s9⟩
   go_simp
   with_reducible rfl
  rotate_left
  ·simp only [Act.put, List.setIfInBounds_toArray, List.set_cons_zero, List.set_cons_succ, i64_w, i32_w]
   rfl
  refine take_ (i := 5) (N := some 53) (v := ?_) (a' := ?_) #[true, true, true, false, true, true, false, true, false, true, true, false, false, false, false] rfl rfl (take_ofW HT_.out HW_.out (by kernel_rfl)) (fun _ _ _ h => h) (Or.inl ⟨by rfl, ?_⟩) hHeld ?_ ?_
  rotate_left
  ·rintro w' ⟨s0, s1, s2, s3, s4, s5, s6, s7, s8, s9⟩
   go_simp
   with_reducible rfl
  rotate_left
  ·simp only [Act.put, List.setIfInBounds_toArray, List.set_cons_zero, List.set_cons_succ, i64_w, i32_w]
   rfl
  refine take_ (i := 8) (N := some 56) (v := ?_) (a' := ?_) #[true, true, true, false, true, true, false, true, true, true, true, false, false, false, false] rfl rfl (take_ofW HT_.out HW_.out (by kernel_rfl)) (fun _ _ _ h => h) (Or.inl ⟨by rfl, ?_⟩) hHeld ?_ ?_
  rotate_left
  ·rintro w' ⟨s0, s1, s2, s3, s4, s5, s6, s7, s8, s9⟩
   go_simp
   with_reducible rfl
  rotate_left
  ·simp only [Act.put, List.setIfInBounds_toArray, List.set_cons_zero, List.set_cons_succ, i64_w, i32_w]
   rfl
  refine one_ (i := 3) (N := some 51) #[true, true, true, true, true, true, false, true, true, true, true, false, false, false, false] rfl rfl (one_of HT_.out (by kernel_rfl)) (by decide) (fun K hK => ?_)
  refine goes_ Try.func19 (by kernel_rfl) rfl #[.int .i64 a1_1, .int .i64 t151] (by rfl) rfl rfl (by (try simp only [List.map_toArray, List.map_cons, List.map_nil]); first | done | rfl | (simp only [List.length_drop, List.length_take]; rfl)) ?_
  with_reducible refine (fix_Q_Times.calls k a1_1 t151 t159 _ A10.out).mono ?_
  rintro e w34 ⟨rfl, hb⟩
  refine ⟨_, rfl, ?_⟩
  have n0_ := Aside0.mk (blk_below (by exact BK148.out) hb)
  have n1_ := Aside0.mk (blk_below (by exact BK149.out) hb)
  have n2_ := Aside0.mk (blk_below (by exact BK150.out) hb)
  have n3_ := Aside0.mk (below_step (by repeat (first | (with_reducible first | exact HB.out | apply below_alloc | apply pw_below_drewN | apply below_drew1 | refine below_set ?_ GE148.out | refine below_set ?_ GE149.out | refine below_set ?_ GE150.out) | exact HB.out)) hb)
  clear BK148
  clear BK149
  clear BK150
  clear HB
  have BK148 := n0_
  have BK149 := n1_
  have BK150 := n2_
  have HB := n3_
  clear n0_ n1_ n2_ n3_
  (try clear hb)
  (try clear hb2)
  (try clear hk)
  (try clear hi)
  refine hK.out _ _ ⟨(blk_cell BK149.out 0).trans rfl, (blk_cell BK149.out 1).trans rfl, (blk_cell BK149.out 2).trans rfl, (blk_cell BK149.out 3).trans rfl, (blk_cell BK149.out 4).trans rfl, (blk_cell BK149.out 5).trans rfl, (blk_cell BK149.out 6).trans rfl, (blk_cell BK148.out 0).trans rfl, (blk_cell BK148.out 1).trans rfl, (blk_cell BK148.out 2).trans rfl⟩ (fun hHeld => ?_)
  clear hK K
  refine norm_ (a' := ?_) ?_ ?_
  rotate_left
  ·show Act.put _ (some 51) _ = _
   simp only [Act.put, List.setIfInBounds_toArray, List.set_cons_zero, List.set_cons_succ, i64_w, i32_w]
   rfl
  refine one_ (i := 6) (N := some 54) #[true, true, true, true, true, true, true, true, true, true, true, false, false, false, false] rfl rfl (one_of HT_.out (by kernel_rfl)) (by decide) (fun K hK => ?_)
  refine goes_ Try.func22 (by kernel_rfl) rfl #[.int .i64 t159, .int .i64 t158] (by rfl) rfl rfl (by (try simp only [List.map_toArray, List.map_cons, List.map_nil]); first | done | rfl | (simp only [List.length_drop, List.length_take]; rfl)) ?_
  with_reducible refine (fix_Q_Plus.calls t159 t158 t160 _ A11.out).mono ?_
  rintro e w' ⟨rfl, ⟨nd, rfl⟩⟩
  refine ⟨_, rfl, ?_⟩
  refine hK.out _ _ ⟨(blk_cell BK149.out 0).trans rfl, (blk_cell BK149.out 1).trans rfl, (blk_cell BK149.out 2).trans rfl, (blk_cell BK149.out 3).trans rfl, (blk_cell BK149.out 4).trans rfl, (blk_cell BK149.out 5).trans rfl, (blk_cell BK149.out 6).trans rfl, (blk_cell BK148.out 0).trans rfl, (blk_cell BK148.out 1).trans rfl, (blk_cell BK148.out 2).trans rfl⟩ (fun hHeld => ?_)
  clear hK K
  refine norm_ (a' := ?_) ?_ ?_
  rotate_left
  ·show Act.put _ (some 54) _ = _
   simp only [Act.put, List.setIfInBounds_toArray, List.set_cons_zero, List.set_cons_succ, i64_w, i32_w]
   rfl
  refine one_ (i := 11) (N := some 59) #[true, true, true, true, true, true, true, true, true, true, true, true, false, false, false] rfl rfl (one_of HT_.out (by kernel_rfl)) (by decide) (fun K hK => ?_)
  refine goes_ Try.func18 (by kernel_rfl) rfl #[.int .i64 t151, .int .i64 a0_1] (by rfl) rfl rfl (by (try simp only [List.map_toArray, List.map_cons, List.map_nil]); first | done | rfl | (simp only [List.length_drop, List.length_take]; rfl)) ?_
  with_reducible refine (fix_Q_Less.calls t151 a0_1 t161 _ A12.out).mono ?_
  rintro e w' ⟨rfl, ⟨nd, rfl⟩⟩
  refine ⟨_, rfl, ?_⟩
  refine hK.out _ _ ⟨(blk_cell BK149.out 0).trans rfl, (blk_cell BK149.out 1).trans rfl, (blk_cell BK149.out 2).trans rfl, (blk_cell BK149.out 3).trans rfl, (blk_cell BK149.out 4).trans rfl, (blk_cell BK149.out 5).trans rfl, (blk_cell BK149.out 6).trans rfl, (blk_cell BK148.out 0).trans rfl, (blk_cell BK148.out 1).trans rfl, (blk_cell BK148.out 2).trans rfl⟩ (fun hHeld => ?_)
  clear hK K
  refine norm_ (a' := ?_) ?_ ?_
  rotate_left
  ·show Act.put _ (some 59) _ = _
   simp only [Act.put, List.setIfInBounds_toArray, List.set_cons_zero, List.set_cons_succ, i64_w, i32_w]
   rfl
  refine one_ (i := 12) (N := some 60) #[true, true, true, true, true, true, true, true, true, true, true, true, true, false, false] rfl rfl (one_of HT_.out (by kernel_rfl)) (by decide) (fun K hK => ?_)
  refine goes_ Try.func19 (by kernel_rfl) rfl #[.int .i64 a1_3, .int .i64 t161] (by rfl) rfl rfl (by (try simp only [List.map_toArray, List.map_cons, List.map_nil]); first | done | rfl | (simp only [List.length_drop, List.length_take]; rfl)) ?_
  with_reducible refine (fix_Q_Times.calls k a1_3 t161 t162 _ A13.out).mono ?_
  rintro e w35 ⟨rfl, hb⟩
  refine ⟨_, rfl, ?_⟩
  have n0_ := Aside0.mk (blk_below (by exact BK148.out) hb)
  have n1_ := Aside0.mk (blk_below (by exact BK149.out) hb)
  have n2_ := Aside0.mk (blk_below (by exact BK150.out) hb)
  have n3_ := Aside0.mk (below_step (by repeat (first | (with_reducible first | exact HB.out | apply below_alloc | apply pw_below_drewN | apply below_drew1 | refine below_set ?_ GE148.out | refine below_set ?_ GE149.out | refine below_set ?_ GE150.out) | exact HB.out)) hb)
  clear BK148
  clear BK149
  clear BK150
  clear HB
  have BK148 := n0_
  have BK149 := n1_
  have BK150 := n2_
  have HB := n3_
  clear n0_ n1_ n2_ n3_
  (try clear hb)
  (try clear hb2)
  (try clear hk)
  (try clear hi)
  refine hK.out _ _ ⟨(blk_cell BK149.out 0).trans rfl, (blk_cell BK149.out 1).trans rfl, (blk_cell BK149.out 2).trans rfl, (blk_cell BK149.out 3).trans rfl, (blk_cell BK149.out 4).trans rfl, (blk_cell BK149.out 5).trans rfl, (blk_cell BK149.out 6).trans rfl, (blk_cell BK148.out 0).trans rfl, (blk_cell BK148.out 1).trans rfl, (blk_cell BK148.out 2).trans rfl⟩ (fun hHeld => ?_)
  clear hK K
  refine norm_ (a' := ?_) ?_ ?_
  rotate_left
  ·show Act.put _ (some 60) _ = _
   simp only [Act.put, List.setIfInBounds_toArray, List.set_cons_zero, List.set_cons_succ, i64_w, i32_w]
   rfl
  refine one_ (i := 13) (N := some 61) #[true, true, true, true, true, true, true, true, true, true, true, true, true, true, false] rfl rfl (one_of HT_.out (by kernel_rfl)) (by decide) (fun K hK => ?_)
  refine goes_ Try.func22 (by kernel_rfl) rfl #[.int .i64 t160, .int .i64 t162] (by rfl) rfl rfl (by (try simp only [List.map_toArray, List.map_cons, List.map_nil]); first | done | rfl | (simp only [List.length_drop, List.length_take]; rfl)) ?_
  with_reducible refine (fix_Q_Plus.calls t160 t162 t163 _ A14.out).mono ?_
  rintro e w' ⟨rfl, ⟨nd, rfl⟩⟩
  refine ⟨_, rfl, ?_⟩
  refine hK.out _ _ ⟨(blk_cell BK149.out 0).trans rfl, (blk_cell BK149.out 1).trans rfl, (blk_cell BK149.out 2).trans rfl, (blk_cell BK149.out 3).trans rfl, (blk_cell BK149.out 4).trans rfl, (blk_cell BK149.out 5).trans rfl, (blk_cell BK149.out 6).trans rfl, (blk_cell BK148.out 0).trans rfl, (blk_cell BK148.out 1).trans rfl, (blk_cell BK148.out 2).trans rfl⟩ (fun hHeld => ?_)
  clear hK K
  refine norm_ (a' := ?_) ?_ ?_
  rotate_left
  ·show Act.put _ (some 61) _ = _
   simp only [Act.put, List.setIfInBounds_toArray, List.set_cons_zero, List.set_cons_succ, i64_w, i32_w]
   rfl
  refine pure_ (i := 14) (N := some 9) (v := ?_) (a' := ?_) #[true, true, true, true, true, true, true, true, true, true, true, true, true, true, true] rfl rfl (any_of HT_.out (by kernel_rfl)) (fun _ _ _ h => h) (Or.inl ⟨by rfl, ?_⟩) ?_ ?_
  rotate_left
  ·intro w'
   go_simp
   with_reducible rfl
  rotate_left
  ·simp only [Act.put, List.setIfInBounds_toArray, List.set_cons_zero, List.set_cons_succ, i64_w, i32_w]
   rfl
  refine done_ (done_of HT_.out (by kernel_rfl)) ?_
  try go_wp2
  (try (rw [drewN_self w35]; generalize hq_ : World.drewN w35 _ = w35; have n0_ : Aside0 (w35.heap[gb148]? = some (.cells #[.int .i64 t158, .int .i64 t151, .int .i64 a0_2] 24 (0, 0))) := ⟨by rw [← hq_]; exact (by exact BK148.out)⟩; have n1_ : Aside0 (w35.heap[gb149]? = some (.cells #[.int .i64 a1_0, .int .i64 a1_1, .int .i64 a1_2, .int .i64 a1_3, .int .i64 a1_4, .int .i64 a1_5, .int .i64 a1_6] 26 (0, 0))) := ⟨by rw [← hq_]; exact (by exact BK149.out)⟩; have n2_ : Aside0 (w35.heap[gb150]? = some (.cells #[.int .i64 0, .int .i64 0, .int .i64 0] 24 (0, 0))) := ⟨by rw [← hq_]; exact (by exact BK150.out)⟩; have n3_ : Aside0 (Below w.heap.size w w35) := ⟨by rw [← hq_]; exact (by repeat (first | (with_reducible first | exact HB.out | apply below_alloc | apply pw_below_drewN | apply below_drew1 | refine below_set ?_ GE148.out | refine below_set ?_ GE149.out | refine below_set ?_ GE150.out) | exact HB.out))⟩; clear BK148 BK149 BK150 HB hq_; have BK148 := n0_; have BK149 := n1_; have BK150 := n2_; have HB := n3_; clear n0_ n1_ n2_ n3_))
  have n0_ := Aside0.mk (blk_drew BK148.out)
  have n1_ := Aside0.mk (blk_drew BK149.out)
  have n2_ := Aside0.mk (blk_drew BK150.out)
  have n3_ := Aside0.mk (below_drew1 HB.out)
  clear BK148
  clear BK149
  clear BK150
  clear HB
  have BK148 := n0_
  have BK149 := n1_
  have BK150 := n2_
  have HB := n3_
  clear n0_ n1_ n2_ n3_
  refine start_ (n := 12) (S := fun w' => w'.cell? ⟨gb148, 0, none⟩ = some (.int .i64 t158) ∧ w'.cell? ⟨gb148, 1, none⟩ = some (.int .i64 t151) ∧ w'.cell? ⟨gb148, 2, none⟩ = some (.int .i64 a0_2) ∧ w'.cell? ⟨gb149, 0, none⟩ = some (.int .i64 a1_0) ∧ w'.cell? ⟨gb149, 1, none⟩ = some (.int .i64 a1_1) ∧ w'.cell? ⟨gb149, 2, none⟩ = some (.int .i64 a1_2) ∧ w'.cell? ⟨gb149, 3, none⟩ = some (.int .i64 a1_3) ∧ w'.cell? ⟨gb149, 4, none⟩ = some (.int .i64 a1_4) ∧ w'.cell? ⟨gb149, 5, none⟩ = some (.int .i64 a1_5) ∧ w'.cell? ⟨gb149, 6, none⟩ = some (.int .i64 a1_6)) (ds := []) #[false, false, false, false, false, false, false, false, false, false, false, false] (by kernel_rfl) rfl rfl ⟨(blk_cell BK148.out 0).trans rfl, (blk_cell BK148.out 1).trans rfl, (blk_cell BK148.out 2).trans rfl, (blk_cell BK149.out 0).trans rfl, (blk_cell BK149.out 1).trans rfl, (blk_cell BK149.out 2).trans rfl, (blk_cell BK149.out 3).trans rfl, (blk_cell BK149.out 4).trans rfl, (blk_cell BK149.out 5).trans rfl, (blk_cell BK149.out 6).trans rfl⟩ (fun hHeld => ?_); refine with_tabW pid_State_Sample.tab10 pid_State_Sample.bits10 (fun HT_ HW_ => ?_)
  generalize w35.drew = w36 at BK148 BK149 BK150 HB hHeld ⊢
  refine pure_ (i := 0) (N := some 62) (v := ?_) (a' := ?_) #[true, false, false, false, false, false, false, false, false, false, false, false] rfl rfl (any_of HT_.out (by kernel_rfl)) (fun _ _ _ h => h) (Or.inl ⟨by rfl, ?_⟩) ?_ ?_
  rotate_left
  ·intro w'
   go_simp
   with_reducible rfl
  rotate_left
  ·simp only [Act.put, List.setIfInBounds_toArray, List.set_cons_zero, List.set_cons_succ, i64_w, i32_w]
   rfl
  refine pure_ (i := 2) (N := some 64) (v := ?_) (a' := ?_) #[true, false, true, false, false, false, false, false, false, false, false, false] rfl rfl (any_of HT_.out (by kernel_rfl)) (fun _ _ _ h => h) (Or.inl ⟨by rfl, ?_⟩) ?_ ?_
  rotate_left
  ·intro w'
   go_simp
   with_reducible rfl
  rotate_left
  ·simp only [Act.put, List.setIfInBounds_toArray, List.set_cons_zero, List.set_cons_succ, i64_w, i32_w]
   rfl
  refine pure_ (i := 5) (N := some 67) (v := ?_) (a' := ?_) #[true, false, true, false, false, true, false, false, false, false, false, false] rfl rfl (any_of HT_.out (by kernel_rfl)) (fun _ _ _ h => h) (Or.inl ⟨by rfl, ?_⟩) ?_ ?_
  rotate_left
  ·intro w'
   go_simp
   with_reducible rfl
  rotate_left
  ·simp only [Act.put, List.setIfInBounds_toArray, List.set_cons_zero, List.set_cons_succ, i64_w, i32_w]
   rfl
  refine pure_ (i := 7) (N := some 69) (v := ?_) (a' := ?_) #[true, false, true, false, false, true, false, true, false, false, false, false] rfl rfl (any_of HT_.out (by kernel_rfl)) (fun _ _ _ h => h) (Or.inl ⟨by rfl, ?_⟩) ?_ ?_
  rotate_left
  ·intro w'
   go_simp
   with_reducible rfl
  rotate_left
  ·simp only [Act.put, List.setIfInBounds_toArray, List.set_cons_zero, List.set_cons_succ, i64_w, i32_w]
   rfl
  refine take_ (i := 1) (N := some 63) (v := ?_) (a' := ?_) #[true, true, true, false, false, true, false, true, false, false, false, false] rfl rfl (take_ofW HT_.out HW_.out (by kernel_rfl)) (fun _ _ _ h => h) (Or.inl ⟨by rfl, ?_⟩) hHeld ?_ ?_
  rotate_left
  ·rintro w' ⟨s0, s1, s2, s3, s4, s5, s6, s7, s8, s9⟩
   go_simp
   with_reducible rfl
  rotate_left
  ·simp only [Act.put, List.setIfInBounds_toArray, List.set_cons_zero, List.set_cons_succ, i64_w, i32_w]
   rfl
  refine take_ (i := 6) (N := some 68) (v := ?_) (a' := ?_) #[true, true, true, false, false, true, true, true, false, false, false, false] rfl rfl (take_ofW HT_.out HW_.out (by kernel_rfl)) (fun _ _ _ h => h) (Or.inl ⟨by rfl, ?_⟩) hHeld ?_ ?_
  rotate_left
  ·rintro w' ⟨s0, s1, s2, s3, s4, s5, s6, s7, s8, s9⟩
   go_simp
   with_reducible rfl
  rotate_left
  ·simp only [Act.put, List.setIfInBounds_toArray, List.set_cons_zero, List.set_cons_succ, i64_w, i32_w]
   rfl
  refine take_ (i := 8) (N := some 70) (v := ?_) (a' := ?_) #[true, true, true, false, false, true, true, true, true, false, false, false] rfl rfl (take_ofW HT_.out HW_.out (by kernel_rfl)) (fun _ _ _ h => h) (Or.inl ⟨by rfl, ?_⟩) hHeld ?_ ?_
  rotate_left
  ·rintro w' ⟨s0, s1, s2, s3, s4, s5, s6, s7, s8, s9⟩
   go_simp
   with_reducible rfl
  rotate_left
  ·simp only [Act.put, List.setIfInBounds_toArray, List.set_cons_zero, List.set_cons_succ, i64_w, i32_w]
   rfl
  refine one_ (i := 3) (N := some 65) #[true, true, true, true, false, true, true, true, true, false, false, false] rfl rfl (one_of HT_.out (by kernel_rfl)) (by decide) (fun K hK => ?_)
  refine goes_ Try.func23 (by kernel_rfl) rfl #[.int .i64 t163] (by rfl) rfl rfl (by (try simp only [List.map_toArray, List.map_cons, List.map_nil]); first | done | rfl | (simp only [List.length_drop, List.length_take]; rfl)) ?_
  with_reducible refine (fix_Q_Floor.calls t163 t164 _ A15.out).mono ?_
  rintro e w' ⟨rfl, ⟨nd, rfl⟩⟩
  refine ⟨_, rfl, ?_⟩
  refine hK.out _ _ ⟨(blk_cell BK148.out 0).trans rfl, (blk_cell BK148.out 1).trans rfl, (blk_cell BK148.out 2).trans rfl, (blk_cell BK149.out 0).trans rfl, (blk_cell BK149.out 1).trans rfl, (blk_cell BK149.out 2).trans rfl, (blk_cell BK149.out 3).trans rfl, (blk_cell BK149.out 4).trans rfl, (blk_cell BK149.out 5).trans rfl, (blk_cell BK149.out 6).trans rfl⟩ (fun hHeld => ?_)
  clear hK K
  refine norm_ (a' := ?_) ?_ ?_
  rotate_left
  ·show Act.put _ (some 65) _ = _
   simp only [Act.put, List.setIfInBounds_toArray, List.set_cons_zero, List.set_cons_succ, i64_w, i32_w]
   rfl
  refine pure_ (i := 4) (N := some 66) (v := ?_) (a' := ?_) #[true, true, true, true, true, true, true, true, true, false, false, false] rfl rfl (any_of HT_.out (by kernel_rfl)) (fun _ _ _ h => h) (Or.inl ⟨by rfl, ?_⟩) ?_ ?_
  rotate_left
  ·intro w'
   go_simp
   with_reducible rfl
  rotate_left
  ·simp only [Act.put, List.setIfInBounds_toArray, List.set_cons_zero, List.set_cons_succ, i64_w, i32_w]
   rfl
  refine one_ (i := 9) (N := some 71) #[true, true, true, true, true, true, true, true, true, true, false, false] rfl rfl (one_of HT_.out (by kernel_rfl)) (by decide) (fun K hK => ?_)
  refine goes_ Try.func17 (by kernel_rfl) rfl #[.int .i64 a0_2, .int .i64 a1_5] (by rfl) rfl rfl (by (try simp only [List.map_toArray, List.map_cons, List.map_nil]); first | done | rfl | (simp only [List.length_drop, List.length_take]; rfl)) ?_
  with_reducible refine (fix_Add.calls a0_2 a1_5 t165 _ A17.out).mono ?_
  rintro e w' ⟨rfl, ⟨nd, rfl⟩⟩
  refine ⟨_, rfl, ?_⟩
  refine hK.out _ _ ⟨(blk_cell BK148.out 0).trans rfl, (blk_cell BK148.out 1).trans rfl, (blk_cell BK148.out 2).trans rfl, (blk_cell BK149.out 0).trans rfl, (blk_cell BK149.out 1).trans rfl, (blk_cell BK149.out 2).trans rfl, (blk_cell BK149.out 3).trans rfl, (blk_cell BK149.out 4).trans rfl, (blk_cell BK149.out 5).trans rfl, (blk_cell BK149.out 6).trans rfl⟩ (fun hHeld => ?_)
  clear hK K
  refine norm_ (a' := ?_) ?_ ?_
  rotate_left
  ·show Act.put _ (some 71) _ = _
   simp only [Act.put, List.setIfInBounds_toArray, List.set_cons_zero, List.set_cons_succ, i64_w, i32_w]
   rfl
  refine pure_ (i := 10) (N := some 72) (v := ?_) (a' := ?_) #[true, true, true, true, true, true, true, true, true, true, true, false] rfl rfl (any_of HT_.out (by kernel_rfl)) (fun _ _ _ h => h) (Or.inl ⟨by rfl, ?_⟩) ?_ ?_
  rotate_left
  ·intro w'
   go_simp
   with_reducible rfl
  rotate_left
  ·simp only [Act.put, List.setIfInBounds_toArray, List.set_cons_zero, List.set_cons_succ, i64_w, i32_w]
   rfl
  refine pure_ (i := 11) (N := some 10) (v := ?_) (a' := ?_) #[true, true, true, true, true, true, true, true, true, true, true, true] rfl rfl (any_of HT_.out (by kernel_rfl)) (fun _ _ _ h => h) (Or.inl ⟨by rfl, ?_⟩) ?_ ?_
  rotate_left
  ·intro w'
   go_simp
   with_reducible rfl
  rotate_left
  ·simp only [Act.put, List.setIfInBounds_toArray, List.set_cons_zero, List.set_cons_succ, i64_w, i32_w]
   rfl
  refine done_ (done_of HT_.out (by kernel_rfl)) ?_
  have hcz37_0 : w36.cell? ⟨gb149, 0, none⟩ = some (.int .i64 a1_0) := (blk_cell BK149.out 0).trans rfl
  have hcz37_1 : w36.cell? ⟨gb149, 1, none⟩ = some (.int .i64 a1_1) := (blk_cell BK149.out 1).trans rfl
  have hcz37_2 : w36.cell? ⟨gb149, 2, none⟩ = some (.int .i64 a1_2) := (blk_cell BK149.out 2).trans rfl
  have hcz37_3 : w36.cell? ⟨gb149, 3, none⟩ = some (.int .i64 a1_3) := (blk_cell BK149.out 3).trans rfl
  have hcz37_4 : w36.cell? ⟨gb149, 4, none⟩ = some (.int .i64 a1_4) := (blk_cell BK149.out 4).trans rfl
  have hcz37_5 : w36.cell? ⟨gb149, 5, none⟩ = some (.int .i64 a1_5) := (blk_cell BK149.out 5).trans rfl
  have hcz37_6 : w36.cell? ⟨gb149, 6, none⟩ = some (.int .i64 a1_6) := (blk_cell BK149.out 6).trans rfl
  have hfz37_0 := blk_frozen BK149.out 0
  have hfz37_1 := blk_frozen BK149.out 1
  have hfz37_2 := blk_frozen BK149.out 2
  have hfz37_3 := blk_frozen BK149.out 3
  have hfz37_4 := blk_frozen BK149.out 4
  have hfz37_5 := blk_frozen BK149.out 5
  have hfz37_6 := blk_frozen BK149.out 6
  try go_wp2_with (first | ((with_reducible refine gate_callee (f := 20) rfl ?_); refine goesL_ (some 76) rfl rfl Try.func20 (by kernel_rfl) rfl #[.int .i64 ji18, .int .i64 0, .int .i64 a1_6] rfl (by (try simp only [List.map_toArray, List.map_cons, List.map_nil]); first | done | (simp only [hji18]; rfl) | rfl | (simp only [List.length_drop, List.length_take]; rfl)) ?_; (with_reducible refine (fix_Clamp.calls ji18 0 a1_6 t166 _ A19.out).mono ?_); rintro e w' ⟨rfl, ⟨nd, rfl⟩⟩; refine ⟨_, rfl, ?_⟩; (try (rw [drewN_self w36]; generalize hq_ : World.drewN w36 _ = w36; have n0_ : Aside0 (w36.heap[gb148]? = some (.cells #[.int .i64 t158, .int .i64 t151, .int .i64 a0_2] 24 (0, 0))) := ⟨by rw [← hq_]; exact (by exact BK148.out)⟩; have n1_ : Aside0 (w36.heap[gb149]? = some (.cells #[.int .i64 a1_0, .int .i64 a1_1, .int .i64 a1_2, .int .i64 a1_3, .int .i64 a1_4, .int .i64 a1_5, .int .i64 a1_6] 26 (0, 0))) := ⟨by rw [← hq_]; exact (by exact BK149.out)⟩; have n2_ : Aside0 (w36.heap[gb150]? = some (.cells #[.int .i64 0, .int .i64 0, .int .i64 0] 24 (0, 0))) := ⟨by rw [← hq_]; exact (by exact BK150.out)⟩; have n3_ : Aside0 (Below w.heap.size w w36) := ⟨by rw [← hq_]; exact (by repeat (first | (with_reducible first | exact HB.out | apply below_alloc | apply pw_below_drewN | apply below_drew1 | refine below_set ?_ GE148.out | refine below_set ?_ GE149.out | refine below_set ?_ GE150.out) | exact HB.out))⟩; clear BK148 BK149 BK150 HB hq_; have BK148 := n0_; have BK149 := n1_; have BK150 := n2_; have HB := n3_; clear n0_ n1_ n2_ n3_)); have hcz38_0 : w36.cell? ⟨gb148, 0, none⟩ = some (.int .i64 t158) := (blk_cell BK148.out 0).trans rfl; have hcz38_1 : w36.cell? ⟨gb148, 1, none⟩ = some (.int .i64 t151) := (blk_cell BK148.out 1).trans rfl; have hcz38_2 : w36.cell? ⟨gb148, 2, none⟩ = some (.int .i64 a0_2) := (blk_cell BK148.out 2).trans rfl; have hfz38_0 := blk_frozen BK148.out 0; have hfz38_1 := blk_frozen BK148.out 1; have hfz38_2 := blk_frozen BK148.out 2; have hcz39_0 : w36.cell? ⟨gb150, 0, none⟩ = some (.int .i64 0) := (blk_cell BK150.out 0).trans rfl; have hcz39_1 : w36.cell? ⟨gb150, 1, none⟩ = some (.int .i64 0) := (blk_cell BK150.out 1).trans rfl; have hcz39_2 : w36.cell? ⟨gb150, 2, none⟩ = some (.int .i64 0) := (blk_cell BK150.out 2).trans rfl; have hfz39_0 := blk_frozen BK150.out 0; have hfz39_1 := blk_frozen BK150.out 1; have hfz39_2 := blk_frozen BK150.out 2))
  refine bodyPost_ret (results_cell_row rfl _ _ gb150 24 #[.int .i64 t158, .int .i64 t151, .int .i64 t166] (0, 0) _ rfl (by refine blk_put (cs := #[.int .i64 t158, .int .i64 t151, .int .i64 0]) ?_ 2 _ rfl; refine blk_put (cs := #[.int .i64 t158, .int .i64 0, .int .i64 0]) ?_ 1 _ rfl; refine blk_put (cs := #[.int .i64 0, .int .i64 0, .int .i64 0]) ?_ 0 _ rfl; refine blk_far ?_ NB150_148.out _; exact BK150.out) Try.underlying24 rfl (by kernel_rfl)) rfl ?_
  exact ⟨by first | rfl | (simp [errW_none, errW_some] <;> rfl) | (simp only [← hji16, ← hji18]; first | rfl | (simp [errW_none, errW_some] <;> rfl)) | (simp [*, errW_none, errW_some] <;> rfl), by repeat (first | (with_reducible first | exact HB.out | apply below_alloc | apply pw_below_drewN | apply below_drew1 | refine below_set ?_ GE148.out | refine below_set ?_ GE149.out | refine below_set ?_ GE150.out) | exact HB.out)⟩
 ·replace c6 := Bool.eq_false_iff.mpr c6
  subst c6
  have H1 : ((fix_Q_Times.f k a0_0 2147483648).bind fun t153 => ((fix_Sub.f a0_2 1).bind fun t154 => ((fix_Clamp.f t154 0 a1_6).bind fun t155 => (some (mx t153 0, t151, t155))))) = some (r1, r2, r3) := by rw [if_neg (show ¬ (false = true) by decide)] at H; exact H
  clear H
  have H := H1
  clear H1
  replace H := Option.bind_eq_some_iff.mp H
  obtain ⟨t153, A400, H⟩ := H
  replace H : ((fix_Sub.f a0_2 1).bind fun t154 => ((fix_Clamp.f t154 0 a1_6).bind fun t155 => (some (mx t153 0, t151, t155)))) = some (r1, r2, r3) := H
  have A40 := Aside0.mk A400
  clear A400
  obtain ⟨ji41, hji41⟩ : ∃ j_ : Int, (mx t153 0) = j_ := ⟨_, rfl⟩
  replace H : ((fix_Sub.f a0_2 1).bind fun t154 => ((fix_Clamp.f t154 0 a1_6).bind fun t155 => (some (ji41, t151, t155)))) = some (r1, r2, r3) := by first | (rw [hji41] at H; exact H) | (simp only [hji41] at H ⊢; exact H)
  (try rw [hji41] at A4)
  (try rw [hji41] at A5)
  (try rw [hji41] at A40)
  (try (have hji41l : 0 ≤ ji41 := by (rw [← hji41]; unfold mx; (repeat' split) <;> omega)))
  (try (have hji41m : 0 ≤ ji41 := by omega))
  have hji41_ : (if t153 < 0 then 0 else t153) = ji41 := hji41
  replace H := Option.bind_eq_some_iff.mp H
  obtain ⟨t154, A420, H⟩ := H
  replace H : ((fix_Clamp.f t154 0 a1_6).bind fun t155 => (some (ji41, t151, t155))) = some (r1, r2, r3) := H
  have A42 := Aside0.mk A420
  clear A420
  replace H := Option.bind_eq_some_iff.mp H
  obtain ⟨t155, A430, H⟩ := H
  replace H : (some (ji41, t151, t155)) = some (r1, r2, r3) := H
  have A43 := Aside0.mk A430
  clear A430
  simp only [Option.some.injEq, Prod.mk.injEq] at H
  obtain ⟨rfl, rfl, rfl⟩ := H
  go_enter Try.func11, Try.ntmps11
  try go_wp2_with (first | ((with_reducible refine gate_dst (N := 3) rfl ?_); refine box_event ?hg (N := 3) ?hd (cs := #[.int .i64 a0_0, .int .i64 a0_1, .int .i64 a0_2]) (t := 24) ?hr ?_; (case hd => rfl); (case hg => rfl); (case hr => first | (go_simp; done) | (go_simp; rfl)); intro gb148 hg w44 hbox hb; have n0_ := Aside0.mk (below_step (by repeat (first | (with_reducible first | exact HB.out | apply below_alloc | apply pw_below_drewN | apply below_drew1) | exact HB.out)) hb); have n1_ := Aside0.mk (hbox); have n2_ := Aside0.mk ((by rw [hg]; exact (below_size (by repeat (first | (with_reducible first | exact HB.out | apply below_alloc | apply pw_below_drewN | apply below_drew1) | exact HB.out))) : w.heap.size ≤ gb148)); have n3_ := Aside0.mk ((by rw [hg]; exact (below_size (by repeat (first | (with_reducible first | exact HB.out | apply below_alloc | apply pw_below_drewN | apply below_drew1) | exact HB.out))) : w.heap.size ≤ gb148)); clear HB; have HB := n0_; have BK148 := n1_; have GW148 := n2_; have GE148 := n3_; clear n0_ n1_ n2_ n3_; clear hb hbox hg) | ((with_reducible refine gate_dst (N := 4) rfl ?_); refine box_event ?hg (N := 4) ?hd (cs := #[.int .i64 a1_0, .int .i64 a1_1, .int .i64 a1_2, .int .i64 a1_3, .int .i64 a1_4, .int .i64 a1_5, .int .i64 a1_6]) (t := 26) ?hr ?_; (case hd => rfl); (case hg => rfl); (case hr => first | (go_simp; done) | (go_simp; rfl)); intro gb149 hg w45 hbox hb; have n0_ := Aside0.mk (blk_below (by exact BK148.out) hb); have n1_ := Aside0.mk (below_step (by repeat (first | (with_reducible first | exact HB.out | apply below_alloc | apply pw_below_drewN | apply below_drew1 | refine below_set ?_ GE148.out) | exact HB.out)) hb); have n2_ := Aside0.mk (hbox); have n3_ := Aside0.mk ((by rw [hg]; exact (below_size (by repeat (first | (with_reducible first | exact HB.out | apply below_alloc | apply pw_below_drewN | apply below_drew1 | refine below_set ?_ GE148.out) | exact HB.out))) : w.heap.size ≤ gb149)); have n4_ := Aside0.mk ((by rw [hg]; exact (below_size (by repeat (first | (with_reducible first | exact HB.out | apply below_alloc | apply pw_below_drewN | apply below_drew1 | refine below_set ?_ GE148.out) | exact HB.out))) : w.heap.size ≤ gb149)); have n5_ := Aside0.mk ((by rw [hg]; exact Nat.ne_of_lt (blk_lt (by exact BK148.out)) : gb148 ≠ gb149)); have n6_ := Aside0.mk ((by rw [hg]; exact Nat.ne_of_gt (blk_lt (by exact BK148.out)) : gb149 ≠ gb148)); clear BK148; clear HB; have BK148 := n0_; have HB := n1_; have BK149 := n2_; have GW149 := n3_; have GE149 := n4_; have NB148_149 := n5_; have NB149_148 := n6_; clear n0_ n1_ n2_ n3_ n4_ n5_ n6_; clear hb hbox hg) | ((with_reducible refine gate_dst (N := 6) rfl ?_); refine box_event ?hg (N := 6) ?hd (cs := #[.int .i64 0, .int .i64 0, .int .i64 0]) (t := 24) ?hr ?_; (case hd => rfl); (case hg => rfl); (case hr => first | (go_simp; done) | (go_simp; rfl)); intro gb150 hg w46 hbox hb; have n0_ := Aside0.mk (blk_below (by exact BK148.out) hb); have n1_ := Aside0.mk (blk_below (by exact BK149.out) hb); have n2_ := Aside0.mk (below_step (by repeat (first | (with_reducible first | exact HB.out | apply below_alloc | apply pw_below_drewN | apply below_drew1 | refine below_set ?_ GE148.out | refine below_set ?_ GE149.out) | exact HB.out)) hb); have n3_ := Aside0.mk (hbox); have n4_ := Aside0.mk ((by rw [hg]; exact (below_size (by repeat (first | (with_reducible first | exact HB.out | apply below_alloc | apply pw_below_drewN | apply below_drew1 | refine below_set ?_ GE148.out | refine below_set ?_ GE149.out) | exact HB.out))) : w.heap.size ≤ gb150)); have n5_ := Aside0.mk ((by rw [hg]; exact (below_size (by repeat (first | (with_reducible first | exact HB.out | apply below_alloc | apply pw_below_drewN | apply below_drew1 | refine below_set ?_ GE148.out | refine below_set ?_ GE149.out) | exact HB.out))) : w.heap.size ≤ gb150)); have n6_ := Aside0.mk ((by rw [hg]; exact Nat.ne_of_lt (blk_lt (by exact BK148.out)) : gb148 ≠ gb150)); have n7_ := Aside0.mk ((by rw [hg]; exact Nat.ne_of_gt (blk_lt (by exact BK148.out)) : gb150 ≠ gb148)); have n8_ := Aside0.mk ((by rw [hg]; exact Nat.ne_of_lt (blk_lt (by exact BK149.out)) : gb149 ≠ gb150)); have n9_ := Aside0.mk ((by rw [hg]; exact Nat.ne_of_gt (blk_lt (by exact BK149.out)) : gb150 ≠ gb149)); clear BK148; clear BK149; clear HB; have BK148 := n0_; have BK149 := n1_; have HB := n2_; have BK150 := n3_; have GW150 := n4_; have GE150 := n5_; have NB148_150 := n6_; have NB150_148 := n7_; have NB149_150 := n8_; have NB150_149 := n9_; clear n0_ n1_ n2_ n3_ n4_ n5_ n6_ n7_ n8_ n9_; clear hb hbox hg; have hnb47 := NB149_148.out; have hnc47 := NB148_149.out; have hnb48 := NB149_150.out; have hnc48 := NB150_149.out; have hcz49_0 : w46.cell? ⟨gb149, 0, none⟩ = some (.int .i64 a1_0) := (blk_cell BK149.out 0).trans rfl; have hcz49_1 : w46.cell? ⟨gb149, 1, none⟩ = some (.int .i64 a1_1) := (blk_cell BK149.out 1).trans rfl; have hcz49_2 : w46.cell? ⟨gb149, 2, none⟩ = some (.int .i64 a1_2) := (blk_cell BK149.out 2).trans rfl; have hcz49_3 : w46.cell? ⟨gb149, 3, none⟩ = some (.int .i64 a1_3) := (blk_cell BK149.out 3).trans rfl; have hcz49_4 : w46.cell? ⟨gb149, 4, none⟩ = some (.int .i64 a1_4) := (blk_cell BK149.out 4).trans rfl; have hcz49_5 : w46.cell? ⟨gb149, 5, none⟩ = some (.int .i64 a1_5) := (blk_cell BK149.out 5).trans rfl; have hcz49_6 : w46.cell? ⟨gb149, 6, none⟩ = some (.int .i64 a1_6) := (blk_cell BK149.out 6).trans rfl; have hfz49_0 := blk_frozen BK149.out 0; have hfz49_1 := blk_frozen BK149.out 1; have hfz49_2 := blk_frozen BK149.out 2; have hfz49_3 := blk_frozen BK149.out 3; have hfz49_4 := blk_frozen BK149.out 4; have hfz49_5 := blk_frozen BK149.out 5; have hfz49_6 := blk_frozen BK149.out 6) | ((with_reducible refine gate_callee (f := 18) rfl ?_); refine goesL_ (some 14) rfl rfl Try.func18 (by kernel_rfl) rfl #[.int .i64 a2, .int .i64 a1_0] rfl (by (try simp only [List.map_toArray, List.map_cons, List.map_nil]); first | done | rfl | (simp only [List.length_drop, List.length_take]; rfl)) ?_; (with_reducible refine (fix_Q_Less.calls a2 a1_0 t151 _ A4.out).mono ?_); rintro e w' ⟨rfl, ⟨nd, rfl⟩⟩; refine ⟨_, rfl, ?_⟩; (try (rw [drewN_self w46]; generalize hq_ : World.drewN w46 _ = w46; have n0_ : Aside0 (w46.heap[gb148]? = some (.cells #[.int .i64 a0_0, .int .i64 a0_1, .int .i64 a0_2] 24 (0, 0))) := ⟨by rw [← hq_]; exact (by exact BK148.out)⟩; have n1_ : Aside0 (w46.heap[gb149]? = some (.cells #[.int .i64 a1_0, .int .i64 a1_1, .int .i64 a1_2, .int .i64 a1_3, .int .i64 a1_4, .int .i64 a1_5, .int .i64 a1_6] 26 (0, 0))) := ⟨by rw [← hq_]; exact (by exact BK149.out)⟩; have n2_ : Aside0 (w46.heap[gb150]? = some (.cells #[.int .i64 0, .int .i64 0, .int .i64 0] 24 (0, 0))) := ⟨by rw [← hq_]; exact (by exact BK150.out)⟩; have n3_ : Aside0 (Below w.heap.size w w46) := ⟨by rw [← hq_]; exact (by repeat (first | (with_reducible first | exact HB.out | apply below_alloc | apply pw_below_drewN | apply below_drew1 | refine below_set ?_ GE148.out | refine below_set ?_ GE149.out | refine below_set ?_ GE150.out) | exact HB.out))⟩; clear BK148 BK149 BK150 HB hq_; have BK148 := n0_; have BK149 := n1_; have BK150 := n2_; have HB := n3_; clear n0_ n1_ n2_ n3_)); (try (have hcy149_0 : w46.cell? ⟨gb149, 0, none⟩ = some (.int .i64 a1_0) := (blk_cell BK149.out 0).trans rfl)); (try have hfy149_0 := blk_frozen BK149.out 0); (try (have hcy149_1 : w46.cell? ⟨gb149, 1, none⟩ = some (.int .i64 a1_1) := (blk_cell BK149.out 1).trans rfl)); (try have hfy149_1 := blk_frozen BK149.out 1); (try (have hcy149_2 : w46.cell? ⟨gb149, 2, none⟩ = some (.int .i64 a1_2) := (blk_cell BK149.out 2).trans rfl)); (try have hfy149_2 := blk_frozen BK149.out 2); (try (have hcy149_3 : w46.cell? ⟨gb149, 3, none⟩ = some (.int .i64 a1_3) := (blk_cell BK149.out 3).trans rfl)); (try have hfy149_3 := blk_frozen BK149.out 3); (try (have hcy149_4 : w46.cell? ⟨gb149, 4, none⟩ = some (.int .i64 a1_4) := (blk_cell BK149.out 4).trans rfl)); (try have hfy149_4 := blk_frozen BK149.out 4); (try (have hcy149_5 : w46.cell? ⟨gb149, 5, none⟩ = some (.int .i64 a1_5) := (blk_cell BK149.out 5).trans rfl)); (try have hfy149_5 := blk_frozen BK149.out 5); (try (have hcy149_6 : w46.cell? ⟨gb149, 6, none⟩ = some (.int .i64 a1_6) := (blk_cell BK149.out 6).trans rfl)); (try have hfy149_6 := blk_frozen BK149.out 6); have hnb50 := NB148_150.out; have hnc50 := NB150_148.out; have hcz51_0 : w46.cell? ⟨gb148, 0, none⟩ = some (.int .i64 a0_0) := (blk_cell BK148.out 0).trans rfl; have hcz51_1 : w46.cell? ⟨gb148, 1, none⟩ = some (.int .i64 a0_1) := (blk_cell BK148.out 1).trans rfl; have hcz51_2 : w46.cell? ⟨gb148, 2, none⟩ = some (.int .i64 a0_2) := (blk_cell BK148.out 2).trans rfl; have hfz51_0 := blk_frozen BK148.out 0; have hfz51_1 := blk_frozen BK148.out 1; have hfz51_2 := blk_frozen BK148.out 2) | ((with_reducible refine gate_callee (f := 10) rfl ?_); refine goesL_ (some 22) rfl rfl Try.func10 (by kernel_rfl) rfl #[.agg #[.int .i64 a0_0, .int .i64 t151, .int .i64 a0_2], .agg #[.int .i64 a1_0, .int .i64 a1_1, .int .i64 a1_2, .int .i64 a1_3, .int .i64 a1_4, .int .i64 a1_5, .int .i64 a1_6], .int .i64 a2] rfl (by (try simp only [List.map_toArray, List.map_cons, List.map_nil]); first | done | rfl | (simp only [List.length_drop, List.length_take]; rfl)) ?_; (with_reducible refine (pid_State_Open.calls a0_0 t151 a0_2 a1_0 a1_1 a1_2 a1_3 a1_4 a1_5 a1_6 a2 false _ A5.out).mono ?_); rintro e w52 ⟨rfl, hb⟩; refine ⟨_, rfl, ?_⟩; have n0_ := Aside0.mk (blk_below (g := gb148) (o := .cells #[.int .i64 a0_0, .int .i64 t151, .int .i64 a0_2] 24 (0, 0)) (by refine blk_put (cs := #[.int .i64 a0_0, .int .i64 a0_1, .int .i64 a0_2]) ?_ 1 _ rfl; exact BK148.out) hb); have n1_ := Aside0.mk (blk_below (g := gb149) (o := .cells #[.int .i64 a1_0, .int .i64 a1_1, .int .i64 a1_2, .int .i64 a1_3, .int .i64 a1_4, .int .i64 a1_5, .int .i64 a1_6] 26 (0, 0)) (by refine blk_far ?_ NB149_148.out _; exact BK149.out) hb); have n2_ := Aside0.mk (blk_below (g := gb150) (o := .cells #[.int .i64 0, .int .i64 0, .int .i64 0] 24 (0, 0)) (by refine blk_far ?_ NB150_148.out _; exact BK150.out) hb); have n3_ := Aside0.mk (below_step (by repeat (first | (with_reducible first | exact HB.out | apply below_alloc | apply pw_below_drewN | apply below_drew1 | refine below_set ?_ GE148.out | refine below_set ?_ GE149.out | refine below_set ?_ GE150.out) | exact HB.out)) hb); clear BK148; clear BK149; clear BK150; clear HB; have BK148 := n0_; have BK149 := n1_; have BK150 := n2_; have HB := n3_; clear n0_ n1_ n2_ n3_; (try clear hb); (try clear hb2); (try clear hk); (try clear hi); have hcz53_0 : w52.cell? ⟨gb148, 0, none⟩ = some (.int .i64 a0_0) := (blk_cell BK148.out 0).trans rfl; have hcz53_1 : w52.cell? ⟨gb148, 1, none⟩ = some (.int .i64 t151) := (blk_cell BK148.out 1).trans rfl; have hcz53_2 : w52.cell? ⟨gb148, 2, none⟩ = some (.int .i64 a0_2) := (blk_cell BK148.out 2).trans rfl; have hfz53_0 := blk_frozen BK148.out 0; have hfz53_1 := blk_frozen BK148.out 1; have hfz53_2 := blk_frozen BK148.out 2) | ((with_reducible refine gate_callee (f := 19) rfl ?_); refine goesL_ (some 26) rfl rfl Try.func19 (by kernel_rfl) rfl #[.int .i64 a0_0, .int .i64 2147483648] rfl (by (try simp only [List.map_toArray, List.map_cons, List.map_nil]); first | done | rfl | (simp only [List.length_drop, List.length_take]; rfl)) ?_; (with_reducible refine (fix_Q_Times.calls k a0_0 2147483648 t153 _ A40.out).mono ?_); rintro e w54 ⟨rfl, hb⟩; refine ⟨_, rfl, ?_⟩; have n0_ := Aside0.mk (blk_below (by exact BK148.out) hb); have n1_ := Aside0.mk (blk_below (by exact BK149.out) hb); have n2_ := Aside0.mk (blk_below (by exact BK150.out) hb); have n3_ := Aside0.mk (below_step (by repeat (first | (with_reducible first | exact HB.out | apply below_alloc | apply pw_below_drewN | apply below_drew1 | refine below_set ?_ GE148.out | refine below_set ?_ GE149.out | refine below_set ?_ GE150.out) | exact HB.out)) hb); clear BK148; clear BK149; clear BK150; clear HB; have BK148 := n0_; have BK149 := n1_; have BK150 := n2_; have HB := n3_; clear n0_ n1_ n2_ n3_; (try clear hb); (try clear hb2); (try clear hk); (try clear hi); have hcz55_0 : w54.cell? ⟨gb148, 0, none⟩ = some (.int .i64 a0_0) := (blk_cell BK148.out 0).trans rfl; have hcz55_1 : w54.cell? ⟨gb148, 1, none⟩ = some (.int .i64 t151) := (blk_cell BK148.out 1).trans rfl; have hcz55_2 : w54.cell? ⟨gb148, 2, none⟩ = some (.int .i64 a0_2) := (blk_cell BK148.out 2).trans rfl; have hfz55_0 := blk_frozen BK148.out 0; have hfz55_1 := blk_frozen BK148.out 1; have hfz55_2 := blk_frozen BK148.out 2))
  (try (rw [drewN_self w54]; generalize hq_ : World.drewN w54 _ = w54; have m0_ := Aside0.mk (blk_at hq_ BK148.out); have m1_ := Aside0.mk (blk_at hq_ BK149.out); have m2_ := Aside0.mk (blk_at hq_ BK150.out); have mh_ := Aside0.mk (below_at hq_ HB.out); clear BK148 BK149 BK150 HB hq_; have BK148 := m0_; have BK149 := m1_; have BK150 := m2_; have HB := mh_; clear m0_ m1_ m2_ mh_))
  have n0_ : Aside0 ((w54.setCell ⟨gb148, 0, none⟩ (.int .i64 ji41)).heap[gb148]? = some (.cells #[.int .i64 ji41, .int .i64 t151, .int .i64 a0_2] 24 (0, 0))) := ⟨by refine blk_put (cs := #[.int .i64 a0_0, .int .i64 t151, .int .i64 a0_2]) ?_ 0 _ rfl; exact BK148.out⟩
  have n1_ : Aside0 ((w54.setCell ⟨gb148, 0, none⟩ (.int .i64 ji41)).heap[gb149]? = some (.cells #[.int .i64 a1_0, .int .i64 a1_1, .int .i64 a1_2, .int .i64 a1_3, .int .i64 a1_4, .int .i64 a1_5, .int .i64 a1_6] 26 (0, 0))) := ⟨by refine blk_far ?_ NB149_148.out _; exact BK149.out⟩
  have n2_ : Aside0 ((w54.setCell ⟨gb148, 0, none⟩ (.int .i64 ji41)).heap[gb150]? = some (.cells #[.int .i64 0, .int .i64 0, .int .i64 0] 24 (0, 0))) := ⟨by refine blk_far ?_ NB150_148.out _; exact BK150.out⟩
  have n3_ : Aside0 (Below w.heap.size w (w54.setCell ⟨gb148, 0, none⟩ (.int .i64 ji41))) := ⟨by repeat (first | (with_reducible first | exact HB.out | apply below_alloc | apply pw_below_drewN | apply below_drew1 | refine below_set ?_ GE148.out | refine below_set ?_ GE149.out | refine below_set ?_ GE150.out) | exact HB.out)⟩
  (try clear BK148)
  (try clear BK149)
  (try clear BK150)
  (try clear HB)
  generalize (w54.setCell ⟨gb148, 0, none⟩ (.int .i64 ji41)) = w56 at n0_ n1_ n2_ n3_ ⊢
  have BK148 := n0_
  have BK149 := n1_
  have BK150 := n2_
  have HB := n3_
  clear n0_ n1_ n2_ n3_
  have n0_ := Aside0.mk (blk_drew BK148.out)
  have n1_ := Aside0.mk (blk_drew BK149.out)
  have n2_ := Aside0.mk (blk_drew BK150.out)
  have n3_ := Aside0.mk (below_drew1 HB.out)
  clear BK148
  clear BK149
  clear BK150
  clear HB
  have BK148 := n0_
  have BK149 := n1_
  have BK150 := n2_
  have HB := n3_
  clear n0_ n1_ n2_ n3_
  refine start_ (n := 8) (S := fun w' => w'.cell? ⟨gb148, 0, none⟩ = some (.int .i64 ji41) ∧ w'.cell? ⟨gb148, 1, none⟩ = some (.int .i64 t151) ∧ w'.cell? ⟨gb148, 2, none⟩ = some (.int .i64 a0_2) ∧ w'.cell? ⟨gb149, 0, none⟩ = some (.int .i64 a1_0) ∧ w'.cell? ⟨gb149, 1, none⟩ = some (.int .i64 a1_1) ∧ w'.cell? ⟨gb149, 2, none⟩ = some (.int .i64 a1_2) ∧ w'.cell? ⟨gb149, 3, none⟩ = some (.int .i64 a1_3) ∧ w'.cell? ⟨gb149, 4, none⟩ = some (.int .i64 a1_4) ∧ w'.cell? ⟨gb149, 5, none⟩ = some (.int .i64 a1_5) ∧ w'.cell? ⟨gb149, 6, none⟩ = some (.int .i64 a1_6)) (ds := [7]) #[false, false, false, false, false, false, false, false] (by kernel_rfl) rfl rfl ⟨(blk_cell BK148.out 0).trans rfl, (blk_cell BK148.out 1).trans rfl, (blk_cell BK148.out 2).trans rfl, (blk_cell BK149.out 0).trans rfl, (blk_cell BK149.out 1).trans rfl, (blk_cell BK149.out 2).trans rfl, (blk_cell BK149.out 3).trans rfl, (blk_cell BK149.out 4).trans rfl, (blk_cell BK149.out 5).trans rfl, (blk_cell BK149.out 6).trans rfl⟩ (fun hHeld => ?_); refine with_tabW pid_State_Sample.tab6 pid_State_Sample.bits6 (fun HT_ HW_ => ?_)
  generalize w56.drew = w57 at BK148 BK149 BK150 HB hHeld ⊢
  refine pure_ (i := 0) (N := some 29) (v := ?_) (a' := ?_) #[true, false, false, false, false, false, false, false] rfl rfl (any_of HT_.out (by kernel_rfl)) (fun _ _ _ h => h) (Or.inl ⟨by rfl, ?_⟩) ?_ ?_
  rotate_left
  ·intro w'
   go_simp
   with_reducible rfl
  rotate_left
  ·simp only [Act.put, List.setIfInBounds_toArray, List.set_cons_zero, List.set_cons_succ, i64_w, i32_w]
   rfl
  refine pure_ (i := 3) (N := some 32) (v := ?_) (a' := ?_) #[true, false, false, true, false, false, false, false] rfl rfl (any_of HT_.out (by kernel_rfl)) (fun _ _ _ h => h) (Or.inl ⟨by rfl, ?_⟩) ?_ ?_
  rotate_left
  ·intro w'
   go_simp
   with_reducible rfl
  rotate_left
  ·simp only [Act.put, List.setIfInBounds_toArray, List.set_cons_zero, List.set_cons_succ, i64_w, i32_w]
   rfl
  refine take_ (i := 1) (N := some 30) (v := ?_) (a' := ?_) #[true, true, false, true, false, false, false, false] rfl rfl (take_ofW HT_.out HW_.out (by kernel_rfl)) (fun _ _ _ h => h) (Or.inl ⟨by rfl, ?_⟩) hHeld ?_ ?_
  rotate_left
  ·rintro w' ⟨s0, s1, s2, s3, s4, s5, s6, s7, s8, s9⟩
   go_simp
   with_reducible rfl
  rotate_left
  ·simp only [Act.put, List.setIfInBounds_toArray, List.set_cons_zero, List.set_cons_succ, i64_w, i32_w]
   rfl
  refine take_ (i := 4) (N := some 33) (v := ?_) (a' := ?_) #[true, true, false, true, true, false, false, false] rfl rfl (take_ofW HT_.out HW_.out (by kernel_rfl)) (fun _ _ _ h => h) (Or.inl ⟨by rfl, ?_⟩) hHeld ?_ ?_
  rotate_left
  ·rintro w' ⟨s0, s1, s2, s3, s4, s5, s6, s7, s8, s9⟩
   go_simp
   with_reducible rfl
  rotate_left
  ·simp only [Act.put, List.setIfInBounds_toArray, List.set_cons_zero, List.set_cons_succ, i64_w, i32_w]
   rfl
  refine one_ (i := 2) (N := some 31) #[true, true, true, true, true, false, false, false] rfl rfl (one_of HT_.out (by kernel_rfl)) (by decide) (fun K hK => ?_)
  refine goes_ Try.func21 (by kernel_rfl) rfl #[.int .i64 a0_2, .int .i64 1] (by rfl) rfl rfl (by (try simp only [List.map_toArray, List.map_cons, List.map_nil]); first | done | rfl | (simp only [List.length_drop, List.length_take]; rfl)) ?_
  with_reducible refine (fix_Sub.calls a0_2 1 t154 _ A42.out).mono ?_
  rintro e w' ⟨rfl, ⟨nd, rfl⟩⟩
  refine ⟨_, rfl, ?_⟩
  refine hK.out _ _ ⟨(blk_cell BK148.out 0).trans rfl, (blk_cell BK148.out 1).trans rfl, (blk_cell BK148.out 2).trans rfl, (blk_cell BK149.out 0).trans rfl, (blk_cell BK149.out 1).trans rfl, (blk_cell BK149.out 2).trans rfl, (blk_cell BK149.out 3).trans rfl, (blk_cell BK149.out 4).trans rfl, (blk_cell BK149.out 5).trans rfl, (blk_cell BK149.out 6).trans rfl⟩ (fun hHeld => ?_)
  clear hK K
  refine norm_ (a' := ?_) ?_ ?_
  rotate_left
  ·show Act.put _ (some 31) _ = _
   simp only [Act.put, List.setIfInBounds_toArray, List.set_cons_zero, List.set_cons_succ, i64_w, i32_w]
   rfl
  refine one_ (i := 5) (N := some 34) #[true, true, true, true, true, true, false, false] rfl rfl (one_of HT_.out (by kernel_rfl)) (by decide) (fun K hK => ?_)
  refine goes_ Try.func20 (by kernel_rfl) rfl #[.int .i64 t154, .int .i64 0, .int .i64 a1_6] (by rfl) rfl rfl (by (try simp only [List.map_toArray, List.map_cons, List.map_nil]); first | done | rfl | (simp only [List.length_drop, List.length_take]; rfl)) ?_
  with_reducible refine (fix_Clamp.calls t154 0 a1_6 t155 _ A43.out).mono ?_
  rintro e w' ⟨rfl, ⟨nd, rfl⟩⟩
  refine ⟨_, rfl, ?_⟩
  refine hK.out _ _ ⟨(blk_cell BK148.out 0).trans rfl, (blk_cell BK148.out 1).trans rfl, (blk_cell BK148.out 2).trans rfl, (blk_cell BK149.out 0).trans rfl, (blk_cell BK149.out 1).trans rfl, (blk_cell BK149.out 2).trans rfl, (blk_cell BK149.out 3).trans rfl, (blk_cell BK149.out 4).trans rfl, (blk_cell BK149.out 5).trans rfl, (blk_cell BK149.out 6).trans rfl⟩ (fun hHeld => ?_)
  clear hK K
  refine norm_ (a' := ?_) ?_ ?_
  rotate_left
  ·show Act.put _ (some 34) _ = _
   simp only [Act.put, List.setIfInBounds_toArray, List.set_cons_zero, List.set_cons_succ, i64_w, i32_w]
   rfl
  refine pure_ (i := 6) (N := some 35) (v := ?_) (a' := ?_) #[true, true, true, true, true, true, true, false] rfl rfl (any_of HT_.out (by kernel_rfl)) (fun _ _ _ h => h) (Or.inl ⟨by rfl, ?_⟩) ?_ ?_
  rotate_left
  ·intro w'
   go_simp
   with_reducible rfl
  rotate_left
  ·simp only [Act.put, List.setIfInBounds_toArray, List.set_cons_zero, List.set_cons_succ, i64_w, i32_w]
   rfl
  refine last_ (i := 7) (N := none) #[true, true, true, true, true, true, true, true] rfl rfl (one_of HT_.out (by kernel_rfl)) (by decide) (fun K hK => ?_)
  have hs58 : w57.cell? ⟨gb148, 2, none⟩ = some (.int .i64 a0_2) := (blk_cell BK148.out 2).trans rfl
  have hfs58 := blk_frozen BK148.out 2
  have hns58_1 := NB149_148.out
  have hns58_2 := NB150_148.out
  have hms58_1 := NB148_149.out
  have hms58_2 := NB148_150.out
  refine skip_ (w1 := ?_) (by rfl) rfl ?_ ?_
  rotate_left
  ·go_simp
   rfl
  refine hK.out _ _ ?_
  clear hK K
  refine done_ (done_of HT_.out (by kernel_rfl)) ?_
  have hcz59_0 : w57.cell? ⟨gb148, 0, none⟩ = some (.int .i64 ji41) := (blk_cell BK148.out 0).trans rfl
  have hcz59_1 : w57.cell? ⟨gb148, 1, none⟩ = some (.int .i64 t151) := (blk_cell BK148.out 1).trans rfl
  have hcz59_2 : w57.cell? ⟨gb148, 2, none⟩ = some (.int .i64 a0_2) := (blk_cell BK148.out 2).trans rfl
  have hfz59_0 := blk_frozen BK148.out 0
  have hfz59_1 := blk_frozen BK148.out 1
  have hfz59_2 := blk_frozen BK148.out 2
  have hcz60_0 : w57.cell? ⟨gb150, 0, none⟩ = some (.int .i64 0) := (blk_cell BK150.out 0).trans rfl
  have hcz60_1 : w57.cell? ⟨gb150, 1, none⟩ = some (.int .i64 0) := (blk_cell BK150.out 1).trans rfl
  have hcz60_2 : w57.cell? ⟨gb150, 2, none⟩ = some (.int .i64 0) := (blk_cell BK150.out 2).trans rfl
  have hfz60_0 := blk_frozen BK150.out 0
  have hfz60_1 := blk_frozen BK150.out 1
  have hfz60_2 := blk_frozen BK150.out 2
  try go_wp2
  refine bodyPost_ret (results_cell_row rfl _ _ gb150 24 #[.int .i64 ji41, .int .i64 t151, .int .i64 t155] (0, 0) _ rfl (by refine blk_put (cs := #[.int .i64 ji41, .int .i64 t151, .int .i64 0]) ?_ 2 _ rfl; refine blk_put (cs := #[.int .i64 ji41, .int .i64 0, .int .i64 0]) ?_ 1 _ rfl; refine blk_put (cs := #[.int .i64 0, .int .i64 0, .int .i64 0]) ?_ 0 _ rfl; refine blk_far ?_ NB150_148.out _; exact BK150.out) Try.underlying24 rfl (by kernel_rfl)) rfl ?_
  exact ⟨by first | rfl | (simp [errW_none, errW_some] <;> rfl) | (simp only [← hji41]; first | rfl | (simp [errW_none, errW_some] <;> rfl)) | (simp [*, errW_none, errW_some] <;> rfl), by repeat (first | (with_reducible first | exact HB.out | apply below_alloc | apply pw_below_drewN | apply below_drew1 | refine below_set ?_ GE148.out | refine below_set ?_ GE149.out | refine below_set ?_ GE150.out) | exact HB.out)⟩

/-! ### pid_Params_Right: function 14 -/
def pid_Params_Right.f (a0_0 : Int) (a0_1 : Int) (a0_2 : Int) (a0_3 : Int) (a0_4 : Int) (a0_5 : Int) (a0_6 : Int) : Option (Bool) := if (mn (mn (mn a0_1 a0_2) a0_3) a0_4) ≥ 0 then (if a0_5 ≥ 1 then (some (decide (a0_6 ≥ 0))) else (some false)) else (some false)
set_option maxHeartbeats 8000000 in
set_option maxRecDepth 100000 in
theorem pid_Params_Right.calls (a0_0 : Int) (a0_1 : Int) (a0_2 : Int) (a0_3 : Int) (a0_4 : Int) (a0_5 : Int) (a0_6 : Int) (r : Bool) (w : World) (h : pid_Params_Right.f a0_0 a0_1 a0_2 a0_3 a0_4 a0_5 a0_6 = some r) :
  Calls Try.prog 14 #[.agg #[.int .i64 a0_0, .int .i64 a0_1, .int .i64 a0_2, .int .i64 a0_3, .int .i64 a0_4, .int .i64 a0_5, .int .i64 a0_6]] w fun e w' => e = .returned (.bool r) ∧ Below w.heap.size w w' := by
 have hu26 := Try.underlying26
 have HB := Aside0.mk (Below.refl w.heap.size w)
 have H : (if (mn (mn (mn a0_1 a0_2) a0_3) a0_4) ≥ 0 then (if a0_5 ≥ 1 then (some (decide (a0_6 ≥ 0))) else (some false)) else (some false)) = some r := h
 clear h
 obtain ⟨ji2, hji2⟩ : ∃ j_ : Int, (mn a0_1 a0_2) = j_ := ⟨_, rfl⟩
 replace H : (if (mn (mn (ji2) a0_3) a0_4) ≥ 0 then (if a0_5 ≥ 1 then (some (decide (a0_6 ≥ 0))) else (some false)) else (some false)) = some r := by first | (rw [hji2] at H; exact H) | (simp only [hji2] at H ⊢; exact H)
 have hji2_ : (if a0_2 < a0_1 then a0_2 else a0_1) = ji2 := hji2
 obtain ⟨ji3, hji3⟩ : ∃ j_ : Int, (mn (ji2) a0_3) = j_ := ⟨_, rfl⟩
 replace H : (if (mn (ji3) a0_4) ≥ 0 then (if a0_5 ≥ 1 then (some (decide (a0_6 ≥ 0))) else (some false)) else (some false)) = some r := by first | (rw [hji3] at H; exact H) | (simp only [hji3] at H ⊢; exact H)
 have hji3_ : (if a0_3 < (ji2) then a0_3 else (ji2)) = ji3 := hji3
 obtain ⟨ji4, hji4⟩ : ∃ j_ : Int, (mn (ji3) a0_4) = j_ := ⟨_, rfl⟩
 replace H : (if (ji4) ≥ 0 then (if a0_5 ≥ 1 then (some (decide (a0_6 ≥ 0))) else (some false)) else (some false)) = some r := by first | (rw [hji4] at H; exact H) | (simp only [hji4] at H ⊢; exact H)
 have hji4_ : (if a0_4 < (ji3) then a0_4 else (ji3)) = ji4 := hji4
 by_cases c5 : (ji4) ≥ 0
 ·rw [if_pos c5] at H
  have c5b0 : decide (0 ≤ (ji4)) = true := decide_eq_true c5
  clear c5
  by_cases c6 : a0_5 ≥ 1
  ·rw [if_pos c6] at H
   have c6b0 : decide (1 ≤ a0_5) = true := decide_eq_true c6
   clear c6
   obtain rfl := Option.some.inj H
   go_enter Try.func14, Try.ntmps14
   go_wp2_with (first | ((with_reducible refine gate_dst (N := 1) rfl ?_); refine box_event ?hg (N := 1) ?hd (cs := #[.int .i64 a0_0, .int .i64 a0_1, .int .i64 a0_2, .int .i64 a0_3, .int .i64 a0_4, .int .i64 a0_5, .int .i64 a0_6]) (t := 26) ?hr ?_; (case hd => rfl); (case hg => rfl); (case hr => first | (go_simp; done) | (go_simp; rfl)); intro gb167 hg w7 hbox hb; have n0_ := Aside0.mk (below_step (by repeat (first | (with_reducible first | exact HB.out | apply below_alloc | apply pw_below_drewN | apply below_drew1) | exact HB.out)) hb); have n1_ := Aside0.mk (hbox); have n2_ := Aside0.mk ((by rw [hg]; exact (below_size (by repeat (first | (with_reducible first | exact HB.out | apply below_alloc | apply pw_below_drewN | apply below_drew1) | exact HB.out))) : w.heap.size ≤ gb167)); have n3_ := Aside0.mk ((by rw [hg]; exact (below_size (by repeat (first | (with_reducible first | exact HB.out | apply below_alloc | apply pw_below_drewN | apply below_drew1) | exact HB.out))) : w.heap.size ≤ gb167)); clear HB; have HB := n0_; have BK167 := n1_; have GW167 := n2_; have GE167 := n3_; clear n0_ n1_ n2_ n3_; clear hb hbox hg; have hcz8_0 : w7.cell? ⟨gb167, 0, none⟩ = some (.int .i64 a0_0) := (blk_cell BK167.out 0).trans rfl; have hcz8_1 : w7.cell? ⟨gb167, 1, none⟩ = some (.int .i64 a0_1) := (blk_cell BK167.out 1).trans rfl; have hcz8_2 : w7.cell? ⟨gb167, 2, none⟩ = some (.int .i64 a0_2) := (blk_cell BK167.out 2).trans rfl; have hcz8_3 : w7.cell? ⟨gb167, 3, none⟩ = some (.int .i64 a0_3) := (blk_cell BK167.out 3).trans rfl; have hcz8_4 : w7.cell? ⟨gb167, 4, none⟩ = some (.int .i64 a0_4) := (blk_cell BK167.out 4).trans rfl; have hcz8_5 : w7.cell? ⟨gb167, 5, none⟩ = some (.int .i64 a0_5) := (blk_cell BK167.out 5).trans rfl; have hcz8_6 : w7.cell? ⟨gb167, 6, none⟩ = some (.int .i64 a0_6) := (blk_cell BK167.out 6).trans rfl; have hfz8_0 := blk_frozen BK167.out 0; have hfz8_1 := blk_frozen BK167.out 1; have hfz8_2 := blk_frozen BK167.out 2; have hfz8_3 := blk_frozen BK167.out 3; have hfz8_4 := blk_frozen BK167.out 4; have hfz8_5 := blk_frozen BK167.out 5; have hfz8_6 := blk_frozen BK167.out 6))
   go_ret
   exact ⟨by first | rfl | (simp [errW_none, errW_some] <;> rfl) | (simp only [← hji2, ← hji3, ← hji4]; first | rfl | (simp [errW_none, errW_some] <;> rfl)) | (simp [*, errW_none, errW_some] <;> rfl), by repeat (first | (with_reducible first | exact HB.out | apply below_alloc | apply pw_below_drewN | apply below_drew1 | refine below_set ?_ GE167.out) | exact HB.out)⟩
  ·rw [if_neg c6] at H
   have c6b0 : decide (1 ≤ a0_5) = false := decide_eq_false c6
   clear c6
   obtain rfl := Option.some.inj H
   go_enter Try.func14, Try.ntmps14
   go_wp2_with (first | ((with_reducible refine gate_dst (N := 1) rfl ?_); refine box_event ?hg (N := 1) ?hd (cs := #[.int .i64 a0_0, .int .i64 a0_1, .int .i64 a0_2, .int .i64 a0_3, .int .i64 a0_4, .int .i64 a0_5, .int .i64 a0_6]) (t := 26) ?hr ?_; (case hd => rfl); (case hg => rfl); (case hr => first | (go_simp; done) | (go_simp; rfl)); intro gb167 hg w9 hbox hb; have n0_ := Aside0.mk (below_step (by repeat (first | (with_reducible first | exact HB.out | apply below_alloc | apply pw_below_drewN | apply below_drew1) | exact HB.out)) hb); have n1_ := Aside0.mk (hbox); have n2_ := Aside0.mk ((by rw [hg]; exact (below_size (by repeat (first | (with_reducible first | exact HB.out | apply below_alloc | apply pw_below_drewN | apply below_drew1) | exact HB.out))) : w.heap.size ≤ gb167)); have n3_ := Aside0.mk ((by rw [hg]; exact (below_size (by repeat (first | (with_reducible first | exact HB.out | apply below_alloc | apply pw_below_drewN | apply below_drew1) | exact HB.out))) : w.heap.size ≤ gb167)); clear HB; have HB := n0_; have BK167 := n1_; have GW167 := n2_; have GE167 := n3_; clear n0_ n1_ n2_ n3_; clear hb hbox hg; have hcz10_0 : w9.cell? ⟨gb167, 0, none⟩ = some (.int .i64 a0_0) := (blk_cell BK167.out 0).trans rfl; have hcz10_1 : w9.cell? ⟨gb167, 1, none⟩ = some (.int .i64 a0_1) := (blk_cell BK167.out 1).trans rfl; have hcz10_2 : w9.cell? ⟨gb167, 2, none⟩ = some (.int .i64 a0_2) := (blk_cell BK167.out 2).trans rfl; have hcz10_3 : w9.cell? ⟨gb167, 3, none⟩ = some (.int .i64 a0_3) := (blk_cell BK167.out 3).trans rfl; have hcz10_4 : w9.cell? ⟨gb167, 4, none⟩ = some (.int .i64 a0_4) := (blk_cell BK167.out 4).trans rfl; have hcz10_5 : w9.cell? ⟨gb167, 5, none⟩ = some (.int .i64 a0_5) := (blk_cell BK167.out 5).trans rfl; have hcz10_6 : w9.cell? ⟨gb167, 6, none⟩ = some (.int .i64 a0_6) := (blk_cell BK167.out 6).trans rfl; have hfz10_0 := blk_frozen BK167.out 0; have hfz10_1 := blk_frozen BK167.out 1; have hfz10_2 := blk_frozen BK167.out 2; have hfz10_3 := blk_frozen BK167.out 3; have hfz10_4 := blk_frozen BK167.out 4; have hfz10_5 := blk_frozen BK167.out 5; have hfz10_6 := blk_frozen BK167.out 6))
   go_ret
   exact ⟨by first | rfl | (simp [errW_none, errW_some] <;> rfl) | (simp only [← hji2, ← hji3, ← hji4]; first | rfl | (simp [errW_none, errW_some] <;> rfl)) | (simp [*, errW_none, errW_some] <;> rfl), by repeat (first | (with_reducible first | exact HB.out | apply below_alloc | apply pw_below_drewN | apply below_drew1 | refine below_set ?_ GE167.out) | exact HB.out)⟩
 ·rw [if_neg c5] at H
  have c5b0 : decide (0 ≤ (ji4)) = false := decide_eq_false c5
  clear c5
  obtain rfl := Option.some.inj H
  go_enter Try.func14, Try.ntmps14
  go_wp2_with (first | ((with_reducible refine gate_dst (N := 1) rfl ?_); refine box_event ?hg (N := 1) ?hd (cs := #[.int .i64 a0_0, .int .i64 a0_1, .int .i64 a0_2, .int .i64 a0_3, .int .i64 a0_4, .int .i64 a0_5, .int .i64 a0_6]) (t := 26) ?hr ?_; (case hd => rfl); (case hg => rfl); (case hr => first | (go_simp; done) | (go_simp; rfl)); intro gb167 hg w11 hbox hb; have n0_ := Aside0.mk (below_step (by repeat (first | (with_reducible first | exact HB.out | apply below_alloc | apply pw_below_drewN | apply below_drew1) | exact HB.out)) hb); have n1_ := Aside0.mk (hbox); have n2_ := Aside0.mk ((by rw [hg]; exact (below_size (by repeat (first | (with_reducible first | exact HB.out | apply below_alloc | apply pw_below_drewN | apply below_drew1) | exact HB.out))) : w.heap.size ≤ gb167)); have n3_ := Aside0.mk ((by rw [hg]; exact (below_size (by repeat (first | (with_reducible first | exact HB.out | apply below_alloc | apply pw_below_drewN | apply below_drew1) | exact HB.out))) : w.heap.size ≤ gb167)); clear HB; have HB := n0_; have BK167 := n1_; have GW167 := n2_; have GE167 := n3_; clear n0_ n1_ n2_ n3_; clear hb hbox hg; have hcz12_0 : w11.cell? ⟨gb167, 0, none⟩ = some (.int .i64 a0_0) := (blk_cell BK167.out 0).trans rfl; have hcz12_1 : w11.cell? ⟨gb167, 1, none⟩ = some (.int .i64 a0_1) := (blk_cell BK167.out 1).trans rfl; have hcz12_2 : w11.cell? ⟨gb167, 2, none⟩ = some (.int .i64 a0_2) := (blk_cell BK167.out 2).trans rfl; have hcz12_3 : w11.cell? ⟨gb167, 3, none⟩ = some (.int .i64 a0_3) := (blk_cell BK167.out 3).trans rfl; have hcz12_4 : w11.cell? ⟨gb167, 4, none⟩ = some (.int .i64 a0_4) := (blk_cell BK167.out 4).trans rfl; have hcz12_5 : w11.cell? ⟨gb167, 5, none⟩ = some (.int .i64 a0_5) := (blk_cell BK167.out 5).trans rfl; have hcz12_6 : w11.cell? ⟨gb167, 6, none⟩ = some (.int .i64 a0_6) := (blk_cell BK167.out 6).trans rfl; have hfz12_0 := blk_frozen BK167.out 0; have hfz12_1 := blk_frozen BK167.out 1; have hfz12_2 := blk_frozen BK167.out 2; have hfz12_3 := blk_frozen BK167.out 3; have hfz12_4 := blk_frozen BK167.out 4; have hfz12_5 := blk_frozen BK167.out 5; have hfz12_6 := blk_frozen BK167.out 6))
  go_ret
  exact ⟨by first | rfl | (simp [errW_none, errW_some] <;> rfl) | (simp only [← hji2, ← hji3, ← hji4]; first | rfl | (simp [errW_none, errW_some] <;> rfl)) | (simp [*, errW_none, errW_some] <;> rfl), by repeat (first | (with_reducible first | exact HB.out | apply below_alloc | apply pw_below_drewN | apply below_drew1 | refine below_set ?_ GE167.out) | exact HB.out)⟩

/-! ### overfalllaw11_awake: function 8 -/
def overfalllaw11_awake.f (k : Nat)  : Option (Bool) := (pid_State_Sample.f k 0 0 0 4294967296 8589934592 0 0 0 100 1000 17179869184).bind fun bt169 => ((pid_State_Sample.f k bt169.1 bt169.2.1 bt169.2.2 4294967296 8589934592 0 0 0 100 1000 4294967296).bind fun bt173 => (if bt169.2.2 = 6 then (if bt173.2.2 = 5 then ((pid_Params_Right.f 4294967296 8589934592 0 0 0 100 1000).bind fun t177 => (some t177)) else (none)) else (none)))
theorem overfalllaw11_awake.mono : ∀ k, LeO (overfalllaw11_awake.f k ) (overfalllaw11_awake.f (k + 1) ) := by
 intro  k
 unfold overfalllaw11_awake.f
 repeat' first
   | (with_reducible exact pid_State_Sample.mono _ _ _ _ _ _ _ _ _ _ _ _)
   | (with_reducible exact LeO.refl _)
   | (with_reducible exact LeO.none _)
   | (with_reducible refine LeO.ite ?_ ?_)
   | (with_reducible refine LeO.bind ?_ (fun _ => ?_))
   | exact pid_State_Sample.mono _ _ _ _ _ _ _ _ _ _ _ _
   | exact LeO.none _
   | refine LeO.ite ?_ ?_
   | refine LeO.bind ?_ (fun _ => ?_)
set_option maxHeartbeats 8000000 in
set_option maxRecDepth 100000 in
theorem overfalllaw11_awake.calls (k : Nat)  (r : Bool) (w : World) (h : overfalllaw11_awake.f k  = some r) :
  Calls Try.prog 8 #[] w fun e w' => e = .returned (.bool r) ∧ Below w.heap.size w w' := by
 have hu26 := Try.underlying26
 have hu24 := Try.underlying24
 have HB := Aside0.mk (Below.refl w.heap.size w)
 have H : ((pid_State_Sample.f k 0 0 0 4294967296 8589934592 0 0 0 100 1000 17179869184).bind fun bt169 => ((pid_State_Sample.f k bt169.1 bt169.2.1 bt169.2.2 4294967296 8589934592 0 0 0 100 1000 4294967296).bind fun bt173 => (if bt169.2.2 = 6 then (if bt173.2.2 = 5 then ((pid_Params_Right.f 4294967296 8589934592 0 0 0 100 1000).bind fun t177 => (some t177)) else (none)) else (none)))) = some r := h
 clear h
 replace H := Option.bind_eq_some_iff.mp H
 obtain ⟨⟨t169, t170, t171⟩, A10, H⟩ := H
 replace H : ((pid_State_Sample.f k t169 t170 t171 4294967296 8589934592 0 0 0 100 1000 4294967296).bind fun bt173 => (if t171 = 6 then (if bt173.2.2 = 5 then ((pid_Params_Right.f 4294967296 8589934592 0 0 0 100 1000).bind fun t177 => (some t177)) else (none)) else (none))) = some r := H
 have A1 := Aside0.mk A10
 clear A10
 replace H := Option.bind_eq_some_iff.mp H
 obtain ⟨⟨t173, t174, t175⟩, A20, H⟩ := H
 replace H : (if t171 = 6 then (if t175 = 5 then ((pid_Params_Right.f 4294967296 8589934592 0 0 0 100 1000).bind fun t177 => (some t177)) else (none)) else (none)) = some r := H
 have A2 := Aside0.mk A20
 clear A20
 by_cases c3 : t171 = 6
 ·rw [if_pos c3] at H
  have c3b0 : (t171 == 6) = true := beq_iff_eq.mpr c3
  have c3b1 : (t171 != 6) = false := bne_eq_false_iff_eq.mpr c3
  clear c3
  by_cases c4 : t175 = 5
  ·rw [if_pos c4] at H
   have c4b0 : (t175 == 5) = true := beq_iff_eq.mpr c4
   have c4b1 : (t175 != 5) = false := bne_eq_false_iff_eq.mpr c4
   clear c4
   replace H := Option.bind_eq_some_iff.mp H
   obtain ⟨t177, A50, H⟩ := H
   replace H : (some t177) = some r := H
   have A5 := Aside0.mk A50
   clear A50
   obtain rfl := Option.some.inj H
   go_enter Try.func8, Try.ntmps8
   go_wp2_with (first | ((with_reducible refine gate_dst (N := 1) rfl ?_); refine box_event ?hg (N := 1) ?hd (cs := #[.int .i64 0, .int .i64 0, .int .i64 0, .int .i64 0, .int .i64 0, .int .i64 0, .int .i64 0]) (t := 26) ?hr ?_; (case hd => rfl); (case hg => rfl); (case hr => first | (go_simp; done) | (go_simp; rfl)); intro gb168 hg w6 hbox hb; have n0_ := Aside0.mk (below_step (by repeat (first | (with_reducible first | exact HB.out | apply below_alloc | apply pw_below_drewN | apply below_drew1) | exact HB.out)) hb); have n1_ := Aside0.mk (hbox); have n2_ := Aside0.mk ((by rw [hg]; exact (below_size (by repeat (first | (with_reducible first | exact HB.out | apply below_alloc | apply pw_below_drewN | apply below_drew1) | exact HB.out))) : w.heap.size ≤ gb168)); have n3_ := Aside0.mk ((by rw [hg]; exact (below_size (by repeat (first | (with_reducible first | exact HB.out | apply below_alloc | apply pw_below_drewN | apply below_drew1) | exact HB.out))) : w.heap.size ≤ gb168)); clear HB; have HB := n0_; have BK168 := n1_; have GW168 := n2_; have GE168 := n3_; clear n0_ n1_ n2_ n3_; clear hb hbox hg; have hcz7_0 : w6.cell? ⟨gb168, 0, none⟩ = some (.int .i64 0) := (blk_cell BK168.out 0).trans rfl; have hcz7_1 : w6.cell? ⟨gb168, 1, none⟩ = some (.int .i64 0) := (blk_cell BK168.out 1).trans rfl; have hcz7_2 : w6.cell? ⟨gb168, 2, none⟩ = some (.int .i64 0) := (blk_cell BK168.out 2).trans rfl; have hcz7_3 : w6.cell? ⟨gb168, 3, none⟩ = some (.int .i64 0) := (blk_cell BK168.out 3).trans rfl; have hcz7_4 : w6.cell? ⟨gb168, 4, none⟩ = some (.int .i64 0) := (blk_cell BK168.out 4).trans rfl; have hcz7_5 : w6.cell? ⟨gb168, 5, none⟩ = some (.int .i64 0) := (blk_cell BK168.out 5).trans rfl; have hcz7_6 : w6.cell? ⟨gb168, 6, none⟩ = some (.int .i64 0) := (blk_cell BK168.out 6).trans rfl; have hfz7_0 := blk_frozen BK168.out 0; have hfz7_1 := blk_frozen BK168.out 1; have hfz7_2 := blk_frozen BK168.out 2; have hfz7_3 := blk_frozen BK168.out 3; have hfz7_4 := blk_frozen BK168.out 4; have hfz7_5 := blk_frozen BK168.out 5; have hfz7_6 := blk_frozen BK168.out 6) | ((with_reducible refine gate_callee (f := 11) rfl ?_); refine goesL_ (some 7) rfl rfl Try.func11 (by kernel_rfl) rfl #[.agg #[.int .i64 0, .int .i64 0, .int .i64 0], .agg #[.int .i64 4294967296, .int .i64 8589934592, .int .i64 0, .int .i64 0, .int .i64 0, .int .i64 100, .int .i64 1000], .int .i64 17179869184] rfl (by (try simp only [List.map_toArray, List.map_cons, List.map_nil]); first | done | rfl | (simp only [List.length_drop, List.length_take]; rfl)) ?_; (with_reducible refine (pid_State_Sample.calls k 0 0 0 4294967296 8589934592 0 0 0 100 1000 17179869184 t169 t170 t171 _ A1.out).mono ?_); rintro e w8 ⟨rfl, hb⟩; refine ⟨_, rfl, ?_⟩; have n0_ := Aside0.mk (blk_below (g := gb168) (o := .cells #[.int .i64 4294967296, .int .i64 8589934592, .int .i64 0, .int .i64 0, .int .i64 0, .int .i64 100, .int .i64 1000] 26 (0, 0)) (by refine blk_put (cs := #[.int .i64 4294967296, .int .i64 8589934592, .int .i64 0, .int .i64 0, .int .i64 0, .int .i64 100, .int .i64 0]) ?_ 6 _ rfl; refine blk_put (cs := #[.int .i64 4294967296, .int .i64 8589934592, .int .i64 0, .int .i64 0, .int .i64 0, .int .i64 0, .int .i64 0]) ?_ 5 _ rfl; refine blk_put (cs := #[.int .i64 4294967296, .int .i64 8589934592, .int .i64 0, .int .i64 0, .int .i64 0, .int .i64 0, .int .i64 0]) ?_ 4 _ rfl; refine blk_put (cs := #[.int .i64 4294967296, .int .i64 8589934592, .int .i64 0, .int .i64 0, .int .i64 0, .int .i64 0, .int .i64 0]) ?_ 3 _ rfl; refine blk_put (cs := #[.int .i64 4294967296, .int .i64 8589934592, .int .i64 0, .int .i64 0, .int .i64 0, .int .i64 0, .int .i64 0]) ?_ 2 _ rfl; refine blk_put (cs := #[.int .i64 4294967296, .int .i64 0, .int .i64 0, .int .i64 0, .int .i64 0, .int .i64 0, .int .i64 0]) ?_ 1 _ rfl; refine blk_put (cs := #[.int .i64 0, .int .i64 0, .int .i64 0, .int .i64 0, .int .i64 0, .int .i64 0, .int .i64 0]) ?_ 0 _ rfl; exact BK168.out) hb); have n1_ := Aside0.mk (below_step (by repeat (first | (with_reducible first | exact HB.out | apply below_alloc | apply pw_below_drewN | apply below_drew1 | refine below_set ?_ GE168.out) | exact HB.out)) hb); clear BK168; clear HB; have BK168 := n0_; have HB := n1_; clear n0_ n1_; (try clear hb); (try clear hb2); (try clear hk); (try clear hi)) | ((with_reducible refine gate_dst (N := 2) rfl ?_); refine box_event ?hg (N := 2) ?hd (cs := #[.int .i64 0, .int .i64 0, .int .i64 0]) (t := 24) ?hr ?_; (case hd => rfl); (case hg => rfl); (case hr => first | (go_simp; done) | (go_simp; rfl)); intro gb172 hg w9 hbox hb; have n0_ := Aside0.mk (blk_below (by exact BK168.out) hb); have n1_ := Aside0.mk (below_step (by repeat (first | (with_reducible first | exact HB.out | apply below_alloc | apply pw_below_drewN | apply below_drew1 | refine below_set ?_ GE168.out) | exact HB.out)) hb); have n2_ := Aside0.mk (hbox); have n3_ := Aside0.mk ((by rw [hg]; exact (below_size (by repeat (first | (with_reducible first | exact HB.out | apply below_alloc | apply pw_below_drewN | apply below_drew1 | refine below_set ?_ GE168.out) | exact HB.out))) : w.heap.size ≤ gb172)); have n4_ := Aside0.mk ((by rw [hg]; exact (below_size (by repeat (first | (with_reducible first | exact HB.out | apply below_alloc | apply pw_below_drewN | apply below_drew1 | refine below_set ?_ GE168.out) | exact HB.out))) : w.heap.size ≤ gb172)); have n5_ := Aside0.mk ((by rw [hg]; exact Nat.ne_of_lt (blk_lt (by exact BK168.out)) : gb168 ≠ gb172)); have n6_ := Aside0.mk ((by rw [hg]; exact Nat.ne_of_gt (blk_lt (by exact BK168.out)) : gb172 ≠ gb168)); clear BK168; clear HB; have BK168 := n0_; have HB := n1_; have BK172 := n2_; have GW172 := n3_; have GE172 := n4_; have NB168_172 := n5_; have NB172_168 := n6_; clear n0_ n1_ n2_ n3_ n4_ n5_ n6_; clear hb hbox hg; have hnb10 := NB172_168.out; have hnc10 := NB168_172.out; have hcz11_0 : w9.cell? ⟨gb172, 0, none⟩ = some (.int .i64 0) := (blk_cell BK172.out 0).trans rfl; have hcz11_1 : w9.cell? ⟨gb172, 1, none⟩ = some (.int .i64 0) := (blk_cell BK172.out 1).trans rfl; have hcz11_2 : w9.cell? ⟨gb172, 2, none⟩ = some (.int .i64 0) := (blk_cell BK172.out 2).trans rfl; have hfz11_0 := blk_frozen BK172.out 0; have hfz11_1 := blk_frozen BK172.out 1; have hfz11_2 := blk_frozen BK172.out 2; have hcz12_0 : w9.cell? ⟨gb168, 0, none⟩ = some (.int .i64 4294967296) := (blk_cell BK168.out 0).trans rfl; have hcz12_1 : w9.cell? ⟨gb168, 1, none⟩ = some (.int .i64 8589934592) := (blk_cell BK168.out 1).trans rfl; have hcz12_2 : w9.cell? ⟨gb168, 2, none⟩ = some (.int .i64 0) := (blk_cell BK168.out 2).trans rfl; have hcz12_3 : w9.cell? ⟨gb168, 3, none⟩ = some (.int .i64 0) := (blk_cell BK168.out 3).trans rfl; have hcz12_4 : w9.cell? ⟨gb168, 4, none⟩ = some (.int .i64 0) := (blk_cell BK168.out 4).trans rfl; have hcz12_5 : w9.cell? ⟨gb168, 5, none⟩ = some (.int .i64 100) := (blk_cell BK168.out 5).trans rfl; have hcz12_6 : w9.cell? ⟨gb168, 6, none⟩ = some (.int .i64 1000) := (blk_cell BK168.out 6).trans rfl; have hfz12_0 := blk_frozen BK168.out 0; have hfz12_1 := blk_frozen BK168.out 1; have hfz12_2 := blk_frozen BK168.out 2; have hfz12_3 := blk_frozen BK168.out 3; have hfz12_4 := blk_frozen BK168.out 4; have hfz12_5 := blk_frozen BK168.out 5; have hfz12_6 := blk_frozen BK168.out 6) | ((with_reducible refine gate_callee (f := 11) rfl ?_); refine goesL_ (some 10) rfl rfl Try.func11 (by kernel_rfl) rfl #[.agg #[.int .i64 t169, .int .i64 t170, .int .i64 t171], .agg #[.int .i64 4294967296, .int .i64 8589934592, .int .i64 0, .int .i64 0, .int .i64 0, .int .i64 100, .int .i64 1000], .int .i64 4294967296] rfl (by (try simp only [List.map_toArray, List.map_cons, List.map_nil]); first | done | rfl | (simp only [List.length_drop, List.length_take]; rfl)) ?_; (with_reducible refine (pid_State_Sample.calls k t169 t170 t171 4294967296 8589934592 0 0 0 100 1000 4294967296 t173 t174 t175 _ A2.out).mono ?_); rintro e w13 ⟨rfl, hb⟩; refine ⟨_, rfl, ?_⟩; have n0_ := Aside0.mk (blk_below (g := gb168) (o := .cells #[.int .i64 4294967296, .int .i64 8589934592, .int .i64 0, .int .i64 0, .int .i64 0, .int .i64 100, .int .i64 1000] 26 (0, 0)) (by refine blk_far ?_ NB168_172.out _; refine blk_far ?_ NB168_172.out _; refine blk_far ?_ NB168_172.out _; exact BK168.out) hb); have n1_ := Aside0.mk (blk_below (g := gb172) (o := .cells #[.int .i64 t169, .int .i64 t170, .int .i64 t171] 24 (0, 0)) (by refine blk_put (cs := #[.int .i64 t169, .int .i64 t170, .int .i64 0]) ?_ 2 _ rfl; refine blk_put (cs := #[.int .i64 t169, .int .i64 0, .int .i64 0]) ?_ 1 _ rfl; refine blk_put (cs := #[.int .i64 0, .int .i64 0, .int .i64 0]) ?_ 0 _ rfl; exact BK172.out) hb); have n2_ := Aside0.mk (below_step (by repeat (first | (with_reducible first | exact HB.out | apply below_alloc | apply pw_below_drewN | apply below_drew1 | refine below_set ?_ GE168.out | refine below_set ?_ GE172.out) | exact HB.out)) hb); clear BK168; clear BK172; clear HB; have BK168 := n0_; have BK172 := n1_; have HB := n2_; clear n0_ n1_ n2_; (try clear hb); (try clear hb2); (try clear hk); (try clear hi)) | ((with_reducible refine gate_dst (N := 3) rfl ?_); refine box_event ?hg (N := 3) ?hd (cs := #[.int .i64 0, .int .i64 0, .int .i64 0]) (t := 24) ?hr ?_; (case hd => rfl); (case hg => rfl); (case hr => first | (go_simp; done) | (go_simp; rfl)); intro gb176 hg w14 hbox hb; have n0_ := Aside0.mk (blk_below (by exact BK168.out) hb); have n1_ := Aside0.mk (blk_below (by exact BK172.out) hb); have n2_ := Aside0.mk (below_step (by repeat (first | (with_reducible first | exact HB.out | apply below_alloc | apply pw_below_drewN | apply below_drew1 | refine below_set ?_ GE168.out | refine below_set ?_ GE172.out) | exact HB.out)) hb); have n3_ := Aside0.mk (hbox); have n4_ := Aside0.mk ((by rw [hg]; exact (below_size (by repeat (first | (with_reducible first | exact HB.out | apply below_alloc | apply pw_below_drewN | apply below_drew1 | refine below_set ?_ GE168.out | refine below_set ?_ GE172.out) | exact HB.out))) : w.heap.size ≤ gb176)); have n5_ := Aside0.mk ((by rw [hg]; exact (below_size (by repeat (first | (with_reducible first | exact HB.out | apply below_alloc | apply pw_below_drewN | apply below_drew1 | refine below_set ?_ GE168.out | refine below_set ?_ GE172.out) | exact HB.out))) : w.heap.size ≤ gb176)); have n6_ := Aside0.mk ((by rw [hg]; exact Nat.ne_of_lt (blk_lt (by exact BK168.out)) : gb168 ≠ gb176)); have n7_ := Aside0.mk ((by rw [hg]; exact Nat.ne_of_gt (blk_lt (by exact BK168.out)) : gb176 ≠ gb168)); have n8_ := Aside0.mk ((by rw [hg]; exact Nat.ne_of_lt (blk_lt (by exact BK172.out)) : gb172 ≠ gb176)); have n9_ := Aside0.mk ((by rw [hg]; exact Nat.ne_of_gt (blk_lt (by exact BK172.out)) : gb176 ≠ gb172)); clear BK168; clear BK172; clear HB; have BK168 := n0_; have BK172 := n1_; have HB := n2_; have BK176 := n3_; have GW176 := n4_; have GE176 := n5_; have NB168_176 := n6_; have NB176_168 := n7_; have NB172_176 := n8_; have NB176_172 := n9_; clear n0_ n1_ n2_ n3_ n4_ n5_ n6_ n7_ n8_ n9_; clear hb hbox hg; have hnb15 := NB176_168.out; have hnc15 := NB168_176.out; have hnb16 := NB176_172.out; have hnc16 := NB172_176.out; have hcz17_0 : w14.cell? ⟨gb176, 0, none⟩ = some (.int .i64 0) := (blk_cell BK176.out 0).trans rfl; have hcz17_1 : w14.cell? ⟨gb176, 1, none⟩ = some (.int .i64 0) := (blk_cell BK176.out 1).trans rfl; have hcz17_2 : w14.cell? ⟨gb176, 2, none⟩ = some (.int .i64 0) := (blk_cell BK176.out 2).trans rfl; have hfz17_0 := blk_frozen BK176.out 0; have hfz17_1 := blk_frozen BK176.out 1; have hfz17_2 := blk_frozen BK176.out 2; have hcz18_0 : w14.cell? ⟨gb172, 0, none⟩ = some (.int .i64 t169) := (blk_cell BK172.out 0).trans rfl; have hcz18_1 : w14.cell? ⟨gb172, 1, none⟩ = some (.int .i64 t170) := (blk_cell BK172.out 1).trans rfl; have hcz18_2 : w14.cell? ⟨gb172, 2, none⟩ = some (.int .i64 t171) := (blk_cell BK172.out 2).trans rfl; have hfz18_0 := blk_frozen BK172.out 0; have hfz18_1 := blk_frozen BK172.out 1; have hfz18_2 := blk_frozen BK172.out 2; have hcz19_0 : w14.cell? ⟨gb168, 0, none⟩ = some (.int .i64 4294967296) := (blk_cell BK168.out 0).trans rfl; have hcz19_1 : w14.cell? ⟨gb168, 1, none⟩ = some (.int .i64 8589934592) := (blk_cell BK168.out 1).trans rfl; have hcz19_2 : w14.cell? ⟨gb168, 2, none⟩ = some (.int .i64 0) := (blk_cell BK168.out 2).trans rfl; have hcz19_3 : w14.cell? ⟨gb168, 3, none⟩ = some (.int .i64 0) := (blk_cell BK168.out 3).trans rfl; have hcz19_4 : w14.cell? ⟨gb168, 4, none⟩ = some (.int .i64 0) := (blk_cell BK168.out 4).trans rfl; have hcz19_5 : w14.cell? ⟨gb168, 5, none⟩ = some (.int .i64 100) := (blk_cell BK168.out 5).trans rfl; have hcz19_6 : w14.cell? ⟨gb168, 6, none⟩ = some (.int .i64 1000) := (blk_cell BK168.out 6).trans rfl; have hfz19_0 := blk_frozen BK168.out 0; have hfz19_1 := blk_frozen BK168.out 1; have hfz19_2 := blk_frozen BK168.out 2; have hfz19_3 := blk_frozen BK168.out 3; have hfz19_4 := blk_frozen BK168.out 4; have hfz19_5 := blk_frozen BK168.out 5; have hfz19_6 := blk_frozen BK168.out 6) | (go_at_call 14; (with_reducible refine (pid_Params_Right.calls 4294967296 8589934592 0 0 0 100 1000 t177 _ A5.out).mono ?_); rintro e w20 ⟨rfl, hb⟩; have n0_ := Aside0.mk (blk_below (g := gb168) (o := .cells #[.int .i64 4294967296, .int .i64 8589934592, .int .i64 0, .int .i64 0, .int .i64 0, .int .i64 100, .int .i64 1000] 26 (0, 0)) (by refine blk_far ?_ NB168_176.out _; refine blk_far ?_ NB168_176.out _; refine blk_far ?_ NB168_176.out _; exact BK168.out) hb); have n1_ := Aside0.mk (blk_below (g := gb172) (o := .cells #[.int .i64 t169, .int .i64 t170, .int .i64 t171] 24 (0, 0)) (by refine blk_far ?_ NB172_176.out _; refine blk_far ?_ NB172_176.out _; refine blk_far ?_ NB172_176.out _; exact BK172.out) hb); have n2_ := Aside0.mk (blk_below (g := gb176) (o := .cells #[.int .i64 t173, .int .i64 t174, .int .i64 t175] 24 (0, 0)) (by refine blk_put (cs := #[.int .i64 t173, .int .i64 t174, .int .i64 0]) ?_ 2 _ rfl; refine blk_put (cs := #[.int .i64 t173, .int .i64 0, .int .i64 0]) ?_ 1 _ rfl; refine blk_put (cs := #[.int .i64 0, .int .i64 0, .int .i64 0]) ?_ 0 _ rfl; exact BK176.out) hb); have n3_ := Aside0.mk (below_step (by repeat (first | (with_reducible first | exact HB.out | apply below_alloc | apply pw_below_drewN | apply below_drew1 | refine below_set ?_ GE168.out | refine below_set ?_ GE172.out | refine below_set ?_ GE176.out) | exact HB.out)) hb); clear BK168; clear BK172; clear BK176; clear HB; have BK168 := n0_; have BK172 := n1_; have BK176 := n2_; have HB := n3_; clear n0_ n1_ n2_ n3_; (try clear hb); (try clear hb2); (try clear hk); (try clear hi)))
   go_ret
   exact ⟨by first | rfl | (simp [errW_none, errW_some] <;> rfl) | (simp [*, errW_none, errW_some] <;> rfl), by repeat (first | (with_reducible first | exact HB.out | apply below_alloc | apply pw_below_drewN | apply below_drew1 | refine below_set ?_ GE168.out | refine below_set ?_ GE172.out | refine below_set ?_ GE176.out) | exact HB.out)⟩
  ·rw [if_neg c4] at H
   exact absurd H (by simp)
 ·rw [if_neg c3] at H
  exact absurd H (by simp)

end Go.Proofs.Ythmapfhemiamhaa.S

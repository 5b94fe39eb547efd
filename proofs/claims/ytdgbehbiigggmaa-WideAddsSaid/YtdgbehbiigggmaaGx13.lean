-- Laid by a program of this claim's session (wip/tools/myprint.py) over the kit's printer.
import Derived.Test.YtdgbehbiigggmaaGx0
import Derived.Test.YtdgbehbiigggmaaGx1
import Derived.Test.YtdgbehbiigggmaaGx2
import Derived.Test.YtdgbehbiigggmaaGx4
import Derived.Test.YtdgbehbiigggmaaGx7
import Derived.Test.YtdgbehbiigggmaaGx8
import Derived.Test.YtdgbehbiigggmaaGx9
import Derived.Test.YtdgbehbiigggmaaGx12
namespace Go.Proofs.Ytdgbehbiigggmaa.G
open Go.RowKit Go.Proofs.YtdgbehbiigggmaaW.PrintWords Go.Proofs.YtdgbehbiigggmaaW.PrintLast Go.Proofs.YtdgbehbiigggmaaW.PrintMore
attribute [local go_sem] max2_int min2_int max_two min_two max_three min_three max_four min_four   -- for this text's walks alone
set_option linter.unusedVariables false
set_option linter.unusedSimpArgs false

attribute [local go_sem high] eqA25 eqA29
/-! ### overfalllaw01_WideAdds: function 6 -/
def overfalllaw01_WideAdds.f (k : Nat) (a0_0 : Int) (a0_1 : Int) (a1_0 : Int) (a1_1 : Int) : Option (Bool) := (overfalllaw01_awake.f k).bind fun t302 => (if t302 = true then ((wide_Num_Add.f a0_0 a0_1 a1_0 a1_1).bind fun bt303 => ((wide_Num_Sub.f a0_0 a0_1 a1_0 a1_1).bind fun bt307 => ((overfalllaw01_own.f a0_0 a0_1).bind fun bt311 => ((overfalllaw01_own.f a1_0 a1_1).bind fun bt313 => ((overfallref01_Add.f k bt311.1 bt311.2 bt313.1 bt313.2).bind fun bt315 => ((overfalllaw01_own.f a0_0 a0_1).bind fun bt319 => ((overfalllaw01_own.f a1_0 a1_1).bind fun bt321 => ((overfallref01_Sub.f k bt319.1 bt319.2 bt321.1 bt321.2).bind fun bt323 => ((wide_Num_Sub.f bt303.1 bt303.2.1 a1_0 a1_1).bind fun bt327 => ((overfalllaw01_own.f bt303.1 bt303.2.1).bind fun bt331 => (if (bt331.1 == bt315.1 && (bt331.2 == bt315.2.1)) = true then ((overfalllaw01_own.f bt307.1 bt307.2.1).bind fun bt333 => (if (bt333.1 == bt323.1 && (bt333.2 == bt323.2.1)) = true then (if (bt303.2.2 == bt315.2.2) = true then (if (bt307.2.2 == bt323.2.2) = true then (some (bt327.1 == a0_0 && (bt327.2.1 == a0_1))) else (none)) else (none)) else (none))) else (none)))))))))))) else (none))
theorem overfalllaw01_WideAdds.mono : ∀ a0 a1 a2 a3 k, LeO (overfalllaw01_WideAdds.f k a0 a1 a2 a3) (overfalllaw01_WideAdds.f (k + 1) a0 a1 a2 a3) := by
  intro a0 a1 a2 a3 k
  unfold overfalllaw01_WideAdds.f
  repeat' first
      | (with_reducible exact overfalllaw01_awake.mono _)
      | (with_reducible exact overfallref01_Add.mono _ _ _ _ _)
      | (with_reducible exact overfallref01_Sub.mono _ _ _ _ _)
      | (with_reducible exact LeO.refl _)
      | (with_reducible exact LeO.none _)
      | (with_reducible refine LeO.ite ?_ ?_)
      | (with_reducible refine LeO.bind ?_ (fun _ => ?_))
      | exact overfalllaw01_awake.mono _
      | exact overfallref01_Add.mono _ _ _ _ _
      | exact overfallref01_Sub.mono _ _ _ _ _
      | exact LeO.none _
      | refine LeO.ite ?_ ?_
      | refine LeO.bind ?_ (fun _ => ?_)
def overfalllaw01_WideAdds.T5 : Bool × List (List Nat × List Nat) := (true, [([], []), ([0], [0]), ([], []), ([2, 1], [2]), ([1, 3, 3], [1, 3]), ([4], [4]), ([5], [5]), ([5], [5]), ([], []), ([8, 6, 4, 0, 1, 2, 3, 4, 5, 6, 8], [6, 8]), ([7, 9, 0, 1, 2, 3, 4, 5, 6, 7, 8, 9], [7])])
def overfalllaw01_WideAdds.B5 : List Nat := [0, 1, 0, 7, 15, 31, 63, 63, 0, 383, 1023]
theorem overfalllaw01_WideAdds.tab5 : rtab .any (opsOf Try.f6 5) = overfalllaw01_WideAdds.T5 := by kernel_rfl
theorem overfalllaw01_WideAdds.bits5 : waitsOk overfalllaw01_WideAdds.T5.2 overfalllaw01_WideAdds.B5 = true := by kernel_rfl
def overfalllaw01_WideAdds.T6 : Bool × List (List Nat × List Nat) := (true, [([], []), ([0], [0]), ([], []), ([2, 1], [2]), ([1, 3, 3], [1, 3]), ([4], [4]), ([5], [5]), ([5], [5]), ([], []), ([8, 6, 4, 0, 1, 2, 3, 4, 5, 6, 8], [6, 8]), ([7, 9, 0, 1, 2, 3, 4, 5, 6, 7, 8, 9], [7])])
def overfalllaw01_WideAdds.B6 : List Nat := [0, 1, 0, 7, 15, 31, 63, 63, 0, 383, 1023]
theorem overfalllaw01_WideAdds.tab6 : rtab .any (opsOf Try.f6 6) = overfalllaw01_WideAdds.T6 := by kernel_rfl
theorem overfalllaw01_WideAdds.bits6 : waitsOk overfalllaw01_WideAdds.T6.2 overfalllaw01_WideAdds.B6 = true := by kernel_rfl
def overfalllaw01_WideAdds.T8 : Bool × List (List Nat × List Nat) := (true, [([], []), ([0], [0]), ([], []), ([1, 2], [1, 2]), ([3, 1], [3]), ([4], [4]), ([5, 4, 4], [4, 5]), ([4], [4]), ([6, 7, 4], [4, 6, 7]), ([4, 8], [4, 8]), ([9, 6], [9]), ([10], [10]), ([10], [10]), ([11, 12, 10], [10, 11, 12]), ([10, 13], [10, 13]), ([14, 10], [14]), ([15], [15]), ([15], [15]), ([16, 17, 15], [15, 16, 17]), ([15, 18], [15, 18]), ([19, 15], [19]), ([20], [20]), ([20], [20]), ([21, 22, 20], [20, 21, 22]), ([20, 23], [20, 23]), ([24, 20, 0, 1, 2, 3, 4, 5, 6, 7, 8, 9, 10, 11, 12, 13, 14, 15, 16, 17, 18, 19, 20, 21, 22, 23, 24], [24])])
def overfalllaw01_WideAdds.B8 : List Nat := [0, 1, 0, 7, 15, 31, 63, 31, 255, 511, 1023, 2047, 2047, 8191, 16383, 32767, 65535, 65535, 262143, 524287, 1048575, 2097151, 2097151, 8388607, 16777215, 33554431]
theorem overfalllaw01_WideAdds.tab8 : rtab .any (opsOf Try.f6 8) = overfalllaw01_WideAdds.T8 := by kernel_rfl
theorem overfalllaw01_WideAdds.bits8 : waitsOk overfalllaw01_WideAdds.T8.2 overfalllaw01_WideAdds.B8 = true := by kernel_rfl
set_option maxHeartbeats 8000000 in
set_option maxRecDepth 100000 in
theorem overfalllaw01_WideAdds.calls (k : Nat) (a0_0 : Int) (a0_1 : Int) (a1_0 : Int) (a1_1 : Int) (r : Bool) (w : World) (h : overfalllaw01_WideAdds.f k a0_0 a0_1 a1_0 a1_1 = some r) :
    Calls Try.prog 6 #[.agg #[.int .u64 a0_0, .int .u64 a0_1], .agg #[.int .u64 a1_0, .int .u64 a1_1]] w fun e w' => e = .returned (.bool r) ∧ Below w.heap.size w w' := by
  have hu25 := Try.underlying25
  have hu29 := Try.underlying29
  have HB := Aside0.mk (Below.refl w.heap.size w)
  have H : ((overfalllaw01_awake.f k).bind fun t302 => (if t302 = true then ((wide_Num_Add.f a0_0 a0_1 a1_0 a1_1).bind fun bt303 => ((wide_Num_Sub.f a0_0 a0_1 a1_0 a1_1).bind fun bt307 => ((overfalllaw01_own.f a0_0 a0_1).bind fun bt311 => ((overfalllaw01_own.f a1_0 a1_1).bind fun bt313 => ((overfallref01_Add.f k bt311.1 bt311.2 bt313.1 bt313.2).bind fun bt315 => ((overfalllaw01_own.f a0_0 a0_1).bind fun bt319 => ((overfalllaw01_own.f a1_0 a1_1).bind fun bt321 => ((overfallref01_Sub.f k bt319.1 bt319.2 bt321.1 bt321.2).bind fun bt323 => ((wide_Num_Sub.f bt303.1 bt303.2.1 a1_0 a1_1).bind fun bt327 => ((overfalllaw01_own.f bt303.1 bt303.2.1).bind fun bt331 => (if (bt331.1 == bt315.1 && (bt331.2 == bt315.2.1)) = true then ((overfalllaw01_own.f bt307.1 bt307.2.1).bind fun bt333 => (if (bt333.1 == bt323.1 && (bt333.2 == bt323.2.1)) = true then (if (bt303.2.2 == bt315.2.2) = true then (if (bt307.2.2 == bt323.2.2) = true then (some (bt327.1 == a0_0 && (bt327.2.1 == a0_1))) else (none)) else (none)) else (none))) else (none)))))))))))) else (none))) = some r := h
  clear h
  replace H := Option.bind_eq_some_iff.mp H
  obtain ⟨t302, A30, H⟩ := H
  replace H : (if t302 = true then ((wide_Num_Add.f a0_0 a0_1 a1_0 a1_1).bind fun bt303 => ((wide_Num_Sub.f a0_0 a0_1 a1_0 a1_1).bind fun bt307 => ((overfalllaw01_own.f a0_0 a0_1).bind fun bt311 => ((overfalllaw01_own.f a1_0 a1_1).bind fun bt313 => ((overfallref01_Add.f k bt311.1 bt311.2 bt313.1 bt313.2).bind fun bt315 => ((overfalllaw01_own.f a0_0 a0_1).bind fun bt319 => ((overfalllaw01_own.f a1_0 a1_1).bind fun bt321 => ((overfallref01_Sub.f k bt319.1 bt319.2 bt321.1 bt321.2).bind fun bt323 => ((wide_Num_Sub.f bt303.1 bt303.2.1 a1_0 a1_1).bind fun bt327 => ((overfalllaw01_own.f bt303.1 bt303.2.1).bind fun bt331 => (if (bt331.1 == bt315.1 && (bt331.2 == bt315.2.1)) = true then ((overfalllaw01_own.f bt307.1 bt307.2.1).bind fun bt333 => (if (bt333.1 == bt323.1 && (bt333.2 == bt323.2.1)) = true then (if (bt303.2.2 == bt315.2.2) = true then (if (bt307.2.2 == bt323.2.2) = true then (some (bt327.1 == a0_0 && (bt327.2.1 == a0_1))) else (none)) else (none)) else (none))) else (none)))))))))))) else (none)) = some r := H
  have A3 := Aside0.mk A30
  clear A30
  by_cases c4 : t302 = true
  · subst c4
    have H1 : ((wide_Num_Add.f a0_0 a0_1 a1_0 a1_1).bind fun bt303 => ((wide_Num_Sub.f a0_0 a0_1 a1_0 a1_1).bind fun bt307 => ((overfalllaw01_own.f a0_0 a0_1).bind fun bt311 => ((overfalllaw01_own.f a1_0 a1_1).bind fun bt313 => ((overfallref01_Add.f k bt311.1 bt311.2 bt313.1 bt313.2).bind fun bt315 => ((overfalllaw01_own.f a0_0 a0_1).bind fun bt319 => ((overfalllaw01_own.f a1_0 a1_1).bind fun bt321 => ((overfallref01_Sub.f k bt319.1 bt319.2 bt321.1 bt321.2).bind fun bt323 => ((wide_Num_Sub.f bt303.1 bt303.2.1 a1_0 a1_1).bind fun bt327 => ((overfalllaw01_own.f bt303.1 bt303.2.1).bind fun bt331 => (if (bt331.1 == bt315.1 && (bt331.2 == bt315.2.1)) = true then ((overfalllaw01_own.f bt307.1 bt307.2.1).bind fun bt333 => (if (bt333.1 == bt323.1 && (bt333.2 == bt323.2.1)) = true then (if (bt303.2.2 == bt315.2.2) = true then (if (bt307.2.2 == bt323.2.2) = true then (some (bt327.1 == a0_0 && (bt327.2.1 == a0_1))) else (none)) else (none)) else (none))) else (none)))))))))))) = some r := by rw [if_pos rfl] at H; exact H
    clear H
    have H := H1
    clear H1
    replace H := Option.bind_eq_some_iff.mp H
    obtain ⟨⟨t303, t304, t305⟩, A50, H⟩ := H
    replace H : ((wide_Num_Sub.f a0_0 a0_1 a1_0 a1_1).bind fun bt307 => ((overfalllaw01_own.f a0_0 a0_1).bind fun bt311 => ((overfalllaw01_own.f a1_0 a1_1).bind fun bt313 => ((overfallref01_Add.f k bt311.1 bt311.2 bt313.1 bt313.2).bind fun bt315 => ((overfalllaw01_own.f a0_0 a0_1).bind fun bt319 => ((overfalllaw01_own.f a1_0 a1_1).bind fun bt321 => ((overfallref01_Sub.f k bt319.1 bt319.2 bt321.1 bt321.2).bind fun bt323 => ((wide_Num_Sub.f t303 t304 a1_0 a1_1).bind fun bt327 => ((overfalllaw01_own.f t303 t304).bind fun bt331 => (if (bt331.1 == bt315.1 && (bt331.2 == bt315.2.1)) = true then ((overfalllaw01_own.f bt307.1 bt307.2.1).bind fun bt333 => (if (bt333.1 == bt323.1 && (bt333.2 == bt323.2.1)) = true then (if (t305 == bt315.2.2) = true then (if (bt307.2.2 == bt323.2.2) = true then (some (bt327.1 == a0_0 && (bt327.2.1 == a0_1))) else (none)) else (none)) else (none))) else (none))))))))))) = some r := H
    have A5 := Aside0.mk A50
    clear A50
    replace H := Option.bind_eq_some_iff.mp H
    obtain ⟨⟨t307, t308, t309⟩, A60, H⟩ := H
    replace H : ((overfalllaw01_own.f a0_0 a0_1).bind fun bt311 => ((overfalllaw01_own.f a1_0 a1_1).bind fun bt313 => ((overfallref01_Add.f k bt311.1 bt311.2 bt313.1 bt313.2).bind fun bt315 => ((overfalllaw01_own.f a0_0 a0_1).bind fun bt319 => ((overfalllaw01_own.f a1_0 a1_1).bind fun bt321 => ((overfallref01_Sub.f k bt319.1 bt319.2 bt321.1 bt321.2).bind fun bt323 => ((wide_Num_Sub.f t303 t304 a1_0 a1_1).bind fun bt327 => ((overfalllaw01_own.f t303 t304).bind fun bt331 => (if (bt331.1 == bt315.1 && (bt331.2 == bt315.2.1)) = true then ((overfalllaw01_own.f t307 t308).bind fun bt333 => (if (bt333.1 == bt323.1 && (bt333.2 == bt323.2.1)) = true then (if (t305 == bt315.2.2) = true then (if (t309 == bt323.2.2) = true then (some (bt327.1 == a0_0 && (bt327.2.1 == a0_1))) else (none)) else (none)) else (none))) else (none)))))))))) = some r := H
    have A6 := Aside0.mk A60
    clear A60
    replace H := Option.bind_eq_some_iff.mp H
    obtain ⟨⟨t311, t312⟩, A70, H⟩ := H
    replace H : ((overfalllaw01_own.f a1_0 a1_1).bind fun bt313 => ((overfallref01_Add.f k t311 t312 bt313.1 bt313.2).bind fun bt315 => ((overfalllaw01_own.f a0_0 a0_1).bind fun bt319 => ((overfalllaw01_own.f a1_0 a1_1).bind fun bt321 => ((overfallref01_Sub.f k bt319.1 bt319.2 bt321.1 bt321.2).bind fun bt323 => ((wide_Num_Sub.f t303 t304 a1_0 a1_1).bind fun bt327 => ((overfalllaw01_own.f t303 t304).bind fun bt331 => (if (bt331.1 == bt315.1 && (bt331.2 == bt315.2.1)) = true then ((overfalllaw01_own.f t307 t308).bind fun bt333 => (if (bt333.1 == bt323.1 && (bt333.2 == bt323.2.1)) = true then (if (t305 == bt315.2.2) = true then (if (t309 == bt323.2.2) = true then (some (bt327.1 == a0_0 && (bt327.2.1 == a0_1))) else (none)) else (none)) else (none))) else (none))))))))) = some r := H
    have A7 := Aside0.mk A70
    clear A70
    replace H := Option.bind_eq_some_iff.mp H
    obtain ⟨⟨t313, t314⟩, A80, H⟩ := H
    replace H : ((overfallref01_Add.f k t311 t312 t313 t314).bind fun bt315 => ((overfalllaw01_own.f a0_0 a0_1).bind fun bt319 => ((overfalllaw01_own.f a1_0 a1_1).bind fun bt321 => ((overfallref01_Sub.f k bt319.1 bt319.2 bt321.1 bt321.2).bind fun bt323 => ((wide_Num_Sub.f t303 t304 a1_0 a1_1).bind fun bt327 => ((overfalllaw01_own.f t303 t304).bind fun bt331 => (if (bt331.1 == bt315.1 && (bt331.2 == bt315.2.1)) = true then ((overfalllaw01_own.f t307 t308).bind fun bt333 => (if (bt333.1 == bt323.1 && (bt333.2 == bt323.2.1)) = true then (if (t305 == bt315.2.2) = true then (if (t309 == bt323.2.2) = true then (some (bt327.1 == a0_0 && (bt327.2.1 == a0_1))) else (none)) else (none)) else (none))) else (none)))))))) = some r := H
    have A8 := Aside0.mk A80
    clear A80
    replace H := Option.bind_eq_some_iff.mp H
    obtain ⟨⟨t315, t316, t317⟩, A90, H⟩ := H
    replace H : ((overfalllaw01_own.f a0_0 a0_1).bind fun bt319 => ((overfalllaw01_own.f a1_0 a1_1).bind fun bt321 => ((overfallref01_Sub.f k bt319.1 bt319.2 bt321.1 bt321.2).bind fun bt323 => ((wide_Num_Sub.f t303 t304 a1_0 a1_1).bind fun bt327 => ((overfalllaw01_own.f t303 t304).bind fun bt331 => (if (bt331.1 == t315 && (bt331.2 == t316)) = true then ((overfalllaw01_own.f t307 t308).bind fun bt333 => (if (bt333.1 == bt323.1 && (bt333.2 == bt323.2.1)) = true then (if (t305 == t317) = true then (if (t309 == bt323.2.2) = true then (some (bt327.1 == a0_0 && (bt327.2.1 == a0_1))) else (none)) else (none)) else (none))) else (none))))))) = some r := H
    have A9 := Aside0.mk A90
    clear A90
    replace H := Option.bind_eq_some_iff.mp H
    obtain ⟨⟨t319, t320⟩, A100, H⟩ := H
    replace H : ((overfalllaw01_own.f a1_0 a1_1).bind fun bt321 => ((overfallref01_Sub.f k t319 t320 bt321.1 bt321.2).bind fun bt323 => ((wide_Num_Sub.f t303 t304 a1_0 a1_1).bind fun bt327 => ((overfalllaw01_own.f t303 t304).bind fun bt331 => (if (bt331.1 == t315 && (bt331.2 == t316)) = true then ((overfalllaw01_own.f t307 t308).bind fun bt333 => (if (bt333.1 == bt323.1 && (bt333.2 == bt323.2.1)) = true then (if (t305 == t317) = true then (if (t309 == bt323.2.2) = true then (some (bt327.1 == a0_0 && (bt327.2.1 == a0_1))) else (none)) else (none)) else (none))) else (none)))))) = some r := H
    have A10 := Aside0.mk A100
    clear A100
    replace H := Option.bind_eq_some_iff.mp H
    obtain ⟨⟨t321, t322⟩, A110, H⟩ := H
    replace H : ((overfallref01_Sub.f k t319 t320 t321 t322).bind fun bt323 => ((wide_Num_Sub.f t303 t304 a1_0 a1_1).bind fun bt327 => ((overfalllaw01_own.f t303 t304).bind fun bt331 => (if (bt331.1 == t315 && (bt331.2 == t316)) = true then ((overfalllaw01_own.f t307 t308).bind fun bt333 => (if (bt333.1 == bt323.1 && (bt333.2 == bt323.2.1)) = true then (if (t305 == t317) = true then (if (t309 == bt323.2.2) = true then (some (bt327.1 == a0_0 && (bt327.2.1 == a0_1))) else (none)) else (none)) else (none))) else (none))))) = some r := H
    have A11 := Aside0.mk A110
    clear A110
    replace H := Option.bind_eq_some_iff.mp H
    obtain ⟨⟨t323, t324, t325⟩, A120, H⟩ := H
    replace H : ((wide_Num_Sub.f t303 t304 a1_0 a1_1).bind fun bt327 => ((overfalllaw01_own.f t303 t304).bind fun bt331 => (if (bt331.1 == t315 && (bt331.2 == t316)) = true then ((overfalllaw01_own.f t307 t308).bind fun bt333 => (if (bt333.1 == t323 && (bt333.2 == t324)) = true then (if (t305 == t317) = true then (if (t309 == t325) = true then (some (bt327.1 == a0_0 && (bt327.2.1 == a0_1))) else (none)) else (none)) else (none))) else (none)))) = some r := H
    have A12 := Aside0.mk A120
    clear A120
    replace H := Option.bind_eq_some_iff.mp H
    obtain ⟨⟨t327, t328, t329⟩, A130, H⟩ := H
    replace H : ((overfalllaw01_own.f t303 t304).bind fun bt331 => (if (bt331.1 == t315 && (bt331.2 == t316)) = true then ((overfalllaw01_own.f t307 t308).bind fun bt333 => (if (bt333.1 == t323 && (bt333.2 == t324)) = true then (if (t305 == t317) = true then (if (t309 == t325) = true then (some (t327 == a0_0 && (t328 == a0_1))) else (none)) else (none)) else (none))) else (none))) = some r := H
    have A13 := Aside0.mk A130
    clear A130
    replace H := Option.bind_eq_some_iff.mp H
    obtain ⟨⟨t331, t332⟩, A140, H⟩ := H
    replace H : (if (t331 == t315 && (t332 == t316)) = true then ((overfalllaw01_own.f t307 t308).bind fun bt333 => (if (bt333.1 == t323 && (bt333.2 == t324)) = true then (if (t305 == t317) = true then (if (t309 == t325) = true then (some (t327 == a0_0 && (t328 == a0_1))) else (none)) else (none)) else (none))) else (none)) = some r := H
    have A14 := Aside0.mk A140
    clear A140
    by_cases c15 : (t331 == t315 && (t332 == t316)) = true
    · rw [if_pos c15] at H
      have c15b0 : (t331 == t315 && (t332 == t316)) = true := c15
      (try (have c15b1 : decide (t331 = t315 && (t332 == t316)) = true := by simpa using c15))
      (try (have c15b2 : (t331 == t315 && (t332 == t316)) = true := by simpa using c15))
      clear c15
      replace H := Option.bind_eq_some_iff.mp H
      obtain ⟨⟨t333, t334⟩, A160, H⟩ := H
      replace H : (if (t333 == t323 && (t334 == t324)) = true then (if (t305 == t317) = true then (if (t309 == t325) = true then (some (t327 == a0_0 && (t328 == a0_1))) else (none)) else (none)) else (none)) = some r := H
      have A16 := Aside0.mk A160
      clear A160
      by_cases c17 : (t333 == t323 && (t334 == t324)) = true
      · rw [if_pos c17] at H
        have c17b0 : (t333 == t323 && (t334 == t324)) = true := c17
        (try (have c17b1 : decide (t333 = t323 && (t334 == t324)) = true := by simpa using c17))
        (try (have c17b2 : (t333 == t323 && (t334 == t324)) = true := by simpa using c17))
        clear c17
        by_cases c18 : (t305 == t317) = true
        · rw [if_pos c18] at H
          have c18b0 : (t305 == t317) = true := c18
          (try (have c18b1 : decide (t305 = t317) = true := by simpa using c18))
          (try (have c18b2 : (t305 == t317) = true := by simpa using c18))
          clear c18
          by_cases c19 : (t309 == t325) = true
          · rw [if_pos c19] at H
            have c19b0 : (t309 == t325) = true := c19
            (try (have c19b1 : decide (t309 = t325) = true := by simpa using c19))
            (try (have c19b2 : (t309 == t325) = true := by simpa using c19))
            clear c19
            obtain rfl := Option.some.inj H
            go_enter Try.func6, Try.ntmps6
            try go_wp2_with (first | ((with_reducible refine gate_dst (N := 2) rfl ?_); refine box_event ?hg (N := 2) ?hd (cs := #[.int .u64 a0_0, .int .u64 a0_1]) (t := 25) ?hr ?_; (case hd => rfl); (case hg => rfl); (case hr => first | (go_simp; done) | (go_simp; rfl)); intro gb300 hg w20 hbox hb; have n0_ := Aside0.mk (below_step (by repeat (first | (with_reducible first | exact HB.out | apply below_alloc | apply pw_below_drewN | apply below_drew1) | exact HB.out)) hb); have n1_ := Aside0.mk (hbox); have n2_ := Aside0.mk ((by rw [hg]; exact (below_size (by repeat (first | (with_reducible first | exact HB.out | apply below_alloc | apply pw_below_drewN | apply below_drew1) | exact HB.out))) : w.heap.size ≤ gb300)); have n3_ := Aside0.mk ((by rw [hg]; exact (below_size (by repeat (first | (with_reducible first | exact HB.out | apply below_alloc | apply pw_below_drewN | apply below_drew1) | exact HB.out))) : w.heap.size ≤ gb300)); clear HB; have HB := n0_; have BK300 := n1_; have GW300 := n2_; have GE300 := n3_; clear n0_ n1_ n2_ n3_; clear hb hbox hg) | ((with_reducible refine gate_dst (N := 3) rfl ?_); refine box_event ?hg (N := 3) ?hd (cs := #[.int .u64 a1_0, .int .u64 a1_1]) (t := 25) ?hr ?_; (case hd => rfl); (case hg => rfl); (case hr => first | (go_simp; done) | (go_simp; rfl)); intro gb301 hg w21 hbox hb; have n0_ := Aside0.mk (blk_below (g := gb300) (o := .cells #[.int .u64 a0_0, .int .u64 a0_1] 25 (0, 0)) (by exact BK300.out) hb); have n1_ := Aside0.mk (below_step (by repeat (first | (with_reducible first | exact HB.out | apply below_alloc | apply pw_below_drewN | apply below_drew1 | refine below_set ?_ GE300.out) | exact HB.out)) hb); have n2_ := Aside0.mk (hbox); have n3_ := Aside0.mk ((by rw [hg]; exact (below_size (by repeat (first | (with_reducible first | exact HB.out | apply below_alloc | apply pw_below_drewN | apply below_drew1 | refine below_set ?_ GE300.out) | exact HB.out))) : w.heap.size ≤ gb301)); have n4_ := Aside0.mk ((by rw [hg]; exact (below_size (by repeat (first | (with_reducible first | exact HB.out | apply below_alloc | apply pw_below_drewN | apply below_drew1 | refine below_set ?_ GE300.out) | exact HB.out))) : w.heap.size ≤ gb301)); have n5_ := Aside0.mk ((by rw [hg]; exact Nat.ne_of_lt (blk_lt (g := gb300) (o := .cells #[.int .u64 a0_0, .int .u64 a0_1] 25 (0, 0)) (by exact BK300.out)) : gb300 ≠ gb301)); have n6_ := Aside0.mk ((by rw [hg]; exact Nat.ne_of_gt (blk_lt (g := gb300) (o := .cells #[.int .u64 a0_0, .int .u64 a0_1] 25 (0, 0)) (by exact BK300.out)) : gb301 ≠ gb300)); clear BK300; clear HB; have BK300 := n0_; have HB := n1_; have BK301 := n2_; have GW301 := n3_; have GE301 := n4_; have NB300_301 := n5_; have NB301_300 := n6_; clear n0_ n1_ n2_ n3_ n4_ n5_ n6_; clear hb hbox hg) | ((with_reducible refine gate_callee (f := 11) rfl ?_); refine goesL_ (some 15) rfl rfl Try.func11 (by kernel_rfl) rfl #[] rfl (by (try simp only [List.map_toArray, List.map_cons, List.map_nil]); first | done | rfl | (simp only [List.length_drop, List.length_take]; rfl)) ?_; (with_reducible refine (overfalllaw01_awake.calls k  true _ A3.out).mono ?_); rintro e w22 ⟨rfl, hb⟩; refine ⟨_, rfl, ?_⟩; have n0_ := Aside0.mk (blk_below (g := gb300) (o := .cells #[.int .u64 a0_0, .int .u64 a0_1] 25 (0, 0)) (by exact BK300.out) hb); have n1_ := Aside0.mk (blk_below (g := gb301) (o := .cells #[.int .u64 a1_0, .int .u64 a1_1] 25 (0, 0)) (by exact BK301.out) hb); have n2_ := Aside0.mk (below_step (by repeat (first | (with_reducible first | exact HB.out | apply below_alloc | apply pw_below_drewN | apply below_drew1 | refine below_set ?_ GE300.out | refine below_set ?_ GE301.out) | exact HB.out)) hb); clear BK300; clear BK301; clear HB; have BK300 := n0_; have BK301 := n1_; have HB := n2_; clear n0_ n1_ n2_; (try clear hb); (try clear hb2); (try clear hk); (try clear hi); have hnb23 := NB300_301.out; have hnc23 := NB301_300.out; have hcz24_0 : w22.cell? ⟨gb300, 0, none⟩ = some (.int .u64 a0_0) := (blk_cell BK300.out 0).trans rfl; have hcz24_1 : w22.cell? ⟨gb300, 1, none⟩ = some (.int .u64 a0_1) := (blk_cell BK300.out 1).trans rfl; have hfz24_0 := blk_frozen BK300.out 0; have hfz24_1 := blk_frozen BK300.out 1; have hcz25_0 : w22.cell? ⟨gb301, 0, none⟩ = some (.int .u64 a1_0) := (blk_cell BK301.out 0).trans rfl; have hcz25_1 : w22.cell? ⟨gb301, 1, none⟩ = some (.int .u64 a1_1) := (blk_cell BK301.out 1).trans rfl; have hfz25_0 := blk_frozen BK301.out 0; have hfz25_1 := blk_frozen BK301.out 1) | ((with_reducible refine gate_callee (f := 18) rfl ?_); refine goesL_ (some 20) rfl rfl Try.func18 (by kernel_rfl) rfl #[.agg #[.int .u64 a0_0, .int .u64 a0_1], .agg #[.int .u64 a1_0, .int .u64 a1_1]] rfl (by (try simp only [List.map_toArray, List.map_cons, List.map_nil]); first | done | rfl | (simp only [List.length_drop, List.length_take]; rfl)) ?_; (with_reducible refine (wide_Num_Add.calls a0_0 a0_1 a1_0 a1_1 t303 t304 t305 _ A5.out).mono ?_); rintro e w26 ⟨rfl, hb⟩; refine ⟨_, rfl, ?_⟩; have n0_ := Aside0.mk (blk_below (g := gb300) (o := .cells #[.int .u64 a0_0, .int .u64 a0_1] 25 (0, 0)) (by exact BK300.out) hb); have n1_ := Aside0.mk (blk_below (g := gb301) (o := .cells #[.int .u64 a1_0, .int .u64 a1_1] 25 (0, 0)) (by exact BK301.out) hb); have n2_ := Aside0.mk (below_step (by repeat (first | (with_reducible first | exact HB.out | apply below_alloc | apply pw_below_drewN | apply below_drew1 | refine below_set ?_ GE300.out | refine below_set ?_ GE301.out) | exact HB.out)) hb); clear BK300; clear BK301; clear HB; have BK300 := n0_; have BK301 := n1_; have HB := n2_; clear n0_ n1_ n2_; (try clear hb); (try clear hb2); (try clear hk); (try clear hi)) | ((with_reducible refine gate_dst (N := 5) rfl ?_); refine box_event ?hg (N := 5) ?hd (cs := #[.int .u64 0, .int .u64 0]) (t := 25) ?hr ?_; (case hd => rfl); (case hg => rfl); (case hr => first | (go_simp; done) | (go_simp; rfl)); intro gb306 hg w27 hbox hb; have n0_ := Aside0.mk (blk_below (g := gb300) (o := .cells #[.int .u64 a0_0, .int .u64 a0_1] 25 (0, 0)) (by exact BK300.out) hb); have n1_ := Aside0.mk (blk_below (g := gb301) (o := .cells #[.int .u64 a1_0, .int .u64 a1_1] 25 (0, 0)) (by exact BK301.out) hb); have n2_ := Aside0.mk (below_step (by repeat (first | (with_reducible first | exact HB.out | apply below_alloc | apply pw_below_drewN | apply below_drew1 | refine below_set ?_ GE300.out | refine below_set ?_ GE301.out) | exact HB.out)) hb); have n3_ := Aside0.mk (hbox); have n4_ := Aside0.mk ((by rw [hg]; exact (below_size (by repeat (first | (with_reducible first | exact HB.out | apply below_alloc | apply pw_below_drewN | apply below_drew1 | refine below_set ?_ GE300.out | refine below_set ?_ GE301.out) | exact HB.out))) : w.heap.size ≤ gb306)); have n5_ := Aside0.mk ((by rw [hg]; exact (below_size (by repeat (first | (with_reducible first | exact HB.out | apply below_alloc | apply pw_below_drewN | apply below_drew1 | refine below_set ?_ GE300.out | refine below_set ?_ GE301.out) | exact HB.out))) : w.heap.size ≤ gb306)); have n6_ := Aside0.mk ((by rw [hg]; exact Nat.ne_of_lt (blk_lt (g := gb300) (o := .cells #[.int .u64 a0_0, .int .u64 a0_1] 25 (0, 0)) (by exact BK300.out)) : gb300 ≠ gb306)); have n7_ := Aside0.mk ((by rw [hg]; exact Nat.ne_of_gt (blk_lt (g := gb300) (o := .cells #[.int .u64 a0_0, .int .u64 a0_1] 25 (0, 0)) (by exact BK300.out)) : gb306 ≠ gb300)); have n8_ := Aside0.mk ((by rw [hg]; exact Nat.ne_of_lt (blk_lt (g := gb301) (o := .cells #[.int .u64 a1_0, .int .u64 a1_1] 25 (0, 0)) (by exact BK301.out)) : gb301 ≠ gb306)); have n9_ := Aside0.mk ((by rw [hg]; exact Nat.ne_of_gt (blk_lt (g := gb301) (o := .cells #[.int .u64 a1_0, .int .u64 a1_1] 25 (0, 0)) (by exact BK301.out)) : gb306 ≠ gb301)); clear BK300; clear BK301; clear HB; have BK300 := n0_; have BK301 := n1_; have HB := n2_; have BK306 := n3_; have GW306 := n4_; have GE306 := n5_; have NB300_306 := n6_; have NB306_300 := n7_; have NB301_306 := n8_; have NB306_301 := n9_; clear n0_ n1_ n2_ n3_ n4_ n5_ n6_ n7_ n8_ n9_; clear hb hbox hg; have hnb28 := NB306_300.out; have hnc28 := NB300_306.out; have hnb29 := NB306_301.out; have hnc29 := NB301_306.out; have hcz30_0 : w27.cell? ⟨gb306, 0, none⟩ = some (.int .u64 0) := (blk_cell BK306.out 0).trans rfl; have hcz30_1 : w27.cell? ⟨gb306, 1, none⟩ = some (.int .u64 0) := (blk_cell BK306.out 1).trans rfl; have hfz30_0 := blk_frozen BK306.out 0; have hfz30_1 := blk_frozen BK306.out 1; have hcz31_0 : w27.cell? ⟨gb300, 0, none⟩ = some (.int .u64 a0_0) := (blk_cell BK300.out 0).trans rfl; have hcz31_1 : w27.cell? ⟨gb300, 1, none⟩ = some (.int .u64 a0_1) := (blk_cell BK300.out 1).trans rfl; have hfz31_0 := blk_frozen BK300.out 0; have hfz31_1 := blk_frozen BK300.out 1; have hcz32_0 : w27.cell? ⟨gb301, 0, none⟩ = some (.int .u64 a1_0) := (blk_cell BK301.out 0).trans rfl; have hcz32_1 : w27.cell? ⟨gb301, 1, none⟩ = some (.int .u64 a1_1) := (blk_cell BK301.out 1).trans rfl; have hfz32_0 := blk_frozen BK301.out 0; have hfz32_1 := blk_frozen BK301.out 1) | ((with_reducible refine gate_callee (f := 23) rfl ?_); refine goesL_ (some 26) rfl rfl Try.func23 (by kernel_rfl) rfl #[.agg #[.int .u64 a0_0, .int .u64 a0_1], .agg #[.int .u64 a1_0, .int .u64 a1_1]] rfl (by (try simp only [List.map_toArray, List.map_cons, List.map_nil]); first | done | rfl | (simp only [List.length_drop, List.length_take]; rfl)) ?_; (with_reducible refine (wide_Num_Sub.calls a0_0 a0_1 a1_0 a1_1 t307 t308 t309 _ A6.out).mono ?_); rintro e w33 ⟨rfl, hb⟩; refine ⟨_, rfl, ?_⟩; have n0_ := Aside0.mk (blk_below (g := gb300) (o := .cells #[.int .u64 a0_0, .int .u64 a0_1] 25 (0, 0)) (by refine blk_far ?_ NB300_306.out _; refine blk_far ?_ NB300_306.out _; exact BK300.out) hb); have n1_ := Aside0.mk (blk_below (g := gb301) (o := .cells #[.int .u64 a1_0, .int .u64 a1_1] 25 (0, 0)) (by refine blk_far ?_ NB301_306.out _; refine blk_far ?_ NB301_306.out _; exact BK301.out) hb); have n2_ := Aside0.mk (blk_below (g := gb306) (o := .cells #[.int .u64 t303, .int .u64 t304] 25 (0, 0)) (by refine blk_put (cs := #[.int .u64 t303, .int .u64 0]) ?_ 1 _ rfl; refine blk_put (cs := #[.int .u64 0, .int .u64 0]) ?_ 0 _ rfl; exact BK306.out) hb); have n3_ := Aside0.mk (below_step (by repeat (first | (with_reducible first | exact HB.out | apply below_alloc | apply pw_below_drewN | apply below_drew1 | refine below_set ?_ GE300.out | refine below_set ?_ GE301.out | refine below_set ?_ GE306.out) | exact HB.out)) hb); clear BK300; clear BK301; clear BK306; clear HB; have BK300 := n0_; have BK301 := n1_; have BK306 := n2_; have HB := n3_; clear n0_ n1_ n2_ n3_; (try clear hb); (try clear hb2); (try clear hk); (try clear hi)) | ((with_reducible refine gate_dst (N := 7) rfl ?_); refine box_event ?hg (N := 7) ?hd (cs := #[.int .u64 0, .int .u64 0]) (t := 25) ?hr ?_; (case hd => rfl); (case hg => rfl); (case hr => first | (go_simp; done) | (go_simp; rfl)); intro gb310 hg w34 hbox hb; have n0_ := Aside0.mk (blk_below (g := gb300) (o := .cells #[.int .u64 a0_0, .int .u64 a0_1] 25 (0, 0)) (by exact BK300.out) hb); have n1_ := Aside0.mk (blk_below (g := gb301) (o := .cells #[.int .u64 a1_0, .int .u64 a1_1] 25 (0, 0)) (by exact BK301.out) hb); have n2_ := Aside0.mk (blk_below (g := gb306) (o := .cells #[.int .u64 t303, .int .u64 t304] 25 (0, 0)) (by exact BK306.out) hb); have n3_ := Aside0.mk (below_step (by repeat (first | (with_reducible first | exact HB.out | apply below_alloc | apply pw_below_drewN | apply below_drew1 | refine below_set ?_ GE300.out | refine below_set ?_ GE301.out | refine below_set ?_ GE306.out) | exact HB.out)) hb); have n4_ := Aside0.mk (hbox); have n5_ := Aside0.mk ((by rw [hg]; exact (below_size (by repeat (first | (with_reducible first | exact HB.out | apply below_alloc | apply pw_below_drewN | apply below_drew1 | refine below_set ?_ GE300.out | refine below_set ?_ GE301.out | refine below_set ?_ GE306.out) | exact HB.out))) : w.heap.size ≤ gb310)); have n6_ := Aside0.mk ((by rw [hg]; exact (below_size (by repeat (first | (with_reducible first | exact HB.out | apply below_alloc | apply pw_below_drewN | apply below_drew1 | refine below_set ?_ GE300.out | refine below_set ?_ GE301.out | refine below_set ?_ GE306.out) | exact HB.out))) : w.heap.size ≤ gb310)); have n7_ := Aside0.mk ((by rw [hg]; exact Nat.ne_of_lt (blk_lt (g := gb300) (o := .cells #[.int .u64 a0_0, .int .u64 a0_1] 25 (0, 0)) (by exact BK300.out)) : gb300 ≠ gb310)); have n8_ := Aside0.mk ((by rw [hg]; exact Nat.ne_of_gt (blk_lt (g := gb300) (o := .cells #[.int .u64 a0_0, .int .u64 a0_1] 25 (0, 0)) (by exact BK300.out)) : gb310 ≠ gb300)); have n9_ := Aside0.mk ((by rw [hg]; exact Nat.ne_of_lt (blk_lt (g := gb301) (o := .cells #[.int .u64 a1_0, .int .u64 a1_1] 25 (0, 0)) (by exact BK301.out)) : gb301 ≠ gb310)); have n10_ := Aside0.mk ((by rw [hg]; exact Nat.ne_of_gt (blk_lt (g := gb301) (o := .cells #[.int .u64 a1_0, .int .u64 a1_1] 25 (0, 0)) (by exact BK301.out)) : gb310 ≠ gb301)); have n11_ := Aside0.mk ((by rw [hg]; exact Nat.ne_of_lt (blk_lt (g := gb306) (o := .cells #[.int .u64 t303, .int .u64 t304] 25 (0, 0)) (by exact BK306.out)) : gb306 ≠ gb310)); have n12_ := Aside0.mk ((by rw [hg]; exact Nat.ne_of_gt (blk_lt (g := gb306) (o := .cells #[.int .u64 t303, .int .u64 t304] 25 (0, 0)) (by exact BK306.out)) : gb310 ≠ gb306)); clear BK300; clear BK301; clear BK306; clear HB; have BK300 := n0_; have BK301 := n1_; have BK306 := n2_; have HB := n3_; have BK310 := n4_; have GW310 := n5_; have GE310 := n6_; have NB300_310 := n7_; have NB310_300 := n8_; have NB301_310 := n9_; have NB310_301 := n10_; have NB306_310 := n11_; have NB310_306 := n12_; clear n0_ n1_ n2_ n3_ n4_ n5_ n6_ n7_ n8_ n9_ n10_ n11_ n12_; clear hb hbox hg; have hnb35 := NB310_300.out; have hnc35 := NB300_310.out; have hnb36 := NB310_301.out; have hnc36 := NB301_310.out; have hnb37 := NB310_306.out; have hnc37 := NB306_310.out; have hcz38_0 : w34.cell? ⟨gb310, 0, none⟩ = some (.int .u64 0) := (blk_cell BK310.out 0).trans rfl; have hcz38_1 : w34.cell? ⟨gb310, 1, none⟩ = some (.int .u64 0) := (blk_cell BK310.out 1).trans rfl; have hfz38_0 := blk_frozen BK310.out 0; have hfz38_1 := blk_frozen BK310.out 1))
            have n0_ : Aside0 (((w34.setCell ⟨gb310, 0, none⟩ (.int .u64 t307)).setCell ⟨gb310, 1, none⟩ (.int .u64 t308)).heap[gb300]? = some (.cells #[.int .u64 a0_0, .int .u64 a0_1] 25 (0, 0))) := ⟨by refine blk_far ?_ NB300_310.out _; refine blk_far ?_ NB300_310.out _; exact BK300.out⟩
            have n1_ : Aside0 (((w34.setCell ⟨gb310, 0, none⟩ (.int .u64 t307)).setCell ⟨gb310, 1, none⟩ (.int .u64 t308)).heap[gb301]? = some (.cells #[.int .u64 a1_0, .int .u64 a1_1] 25 (0, 0))) := ⟨by refine blk_far ?_ NB301_310.out _; refine blk_far ?_ NB301_310.out _; exact BK301.out⟩
            have n2_ : Aside0 (((w34.setCell ⟨gb310, 0, none⟩ (.int .u64 t307)).setCell ⟨gb310, 1, none⟩ (.int .u64 t308)).heap[gb306]? = some (.cells #[.int .u64 t303, .int .u64 t304] 25 (0, 0))) := ⟨by refine blk_far ?_ NB306_310.out _; refine blk_far ?_ NB306_310.out _; exact BK306.out⟩
            have n3_ : Aside0 (((w34.setCell ⟨gb310, 0, none⟩ (.int .u64 t307)).setCell ⟨gb310, 1, none⟩ (.int .u64 t308)).heap[gb310]? = some (.cells #[.int .u64 t307, .int .u64 t308] 25 (0, 0))) := ⟨by refine blk_put (cs := #[.int .u64 t307, .int .u64 0]) ?_ 1 _ rfl; refine blk_put (cs := #[.int .u64 0, .int .u64 0]) ?_ 0 _ rfl; exact BK310.out⟩
            have n4_ : Aside0 (Below w.heap.size w ((w34.setCell ⟨gb310, 0, none⟩ (.int .u64 t307)).setCell ⟨gb310, 1, none⟩ (.int .u64 t308))) := ⟨by repeat (first | (with_reducible first | exact HB.out | apply below_alloc | apply pw_below_drewN | apply below_drew1 | refine below_set ?_ GE300.out | refine below_set ?_ GE301.out | refine below_set ?_ GE306.out | refine below_set ?_ GE310.out) | exact HB.out)⟩
            (try clear BK300)
            (try clear BK301)
            (try clear BK306)
            (try clear BK310)
            (try clear HB)
            generalize ((w34.setCell ⟨gb310, 0, none⟩ (.int .u64 t307)).setCell ⟨gb310, 1, none⟩ (.int .u64 t308)) = w39 at n0_ n1_ n2_ n3_ n4_ ⊢
            have BK300 := n0_
            have BK301 := n1_
            have BK306 := n2_
            have BK310 := n3_
            have HB := n4_
            clear n0_ n1_ n2_ n3_ n4_
            have n0_ := Aside0.mk (blk_drew BK300.out)
            have n1_ := Aside0.mk (blk_drew BK301.out)
            have n2_ := Aside0.mk (blk_drew BK306.out)
            have n3_ := Aside0.mk (blk_drew BK310.out)
            have n4_ := Aside0.mk (below_drew1 HB.out)
            clear BK300
            clear BK301
            clear BK306
            clear BK310
            clear HB
            have BK300 := n0_
            have BK301 := n1_
            have BK306 := n2_
            have BK310 := n3_
            have HB := n4_
            clear n0_ n1_ n2_ n3_ n4_
            refine start_ (n := 11) (S := fun w' => w'.cell? ⟨gb300, 0, none⟩ = some (.int .u64 a0_0) ∧ w'.cell? ⟨gb300, 1, none⟩ = some (.int .u64 a0_1) ∧ w'.cell? ⟨gb301, 0, none⟩ = some (.int .u64 a1_0) ∧ w'.cell? ⟨gb301, 1, none⟩ = some (.int .u64 a1_1)) (ds := []) #[false, false, false, false, false, false, false, false, false, false, false] (by kernel_rfl) rfl rfl ⟨(blk_cell BK300.out 0).trans rfl, (blk_cell BK300.out 1).trans rfl, (blk_cell BK301.out 0).trans rfl, (blk_cell BK301.out 1).trans rfl⟩ (fun hHeld => ?_); refine with_tabW overfalllaw01_WideAdds.tab5 overfalllaw01_WideAdds.bits5 (fun HT_ HW_ => ?_)
            generalize w39.drew = w40 at BK300 BK301 BK306 BK310 HB hHeld ⊢
            refine take_ (i := 0) (N := some 30) (v := ?_) (a' := ?_) #[true, false, false, false, false, false, false, false, false, false, false] rfl rfl (take_ofW HT_.out HW_.out (by kernel_rfl)) (fun _ _ _ h => h) (Or.inl ⟨by rfl, ?_⟩) hHeld ?_ ?_
            rotate_left
            · rintro w' ⟨s0, s1, s2, s3⟩
              go_simp
              with_reducible rfl
            rotate_left
            · simp only [Act.put, List.setIfInBounds_toArray, List.set_cons_zero, List.set_cons_succ, i64_w, i32_w]
              rfl
            refine take_ (i := 2) (N := some 32) (v := ?_) (a' := ?_) #[true, false, true, false, false, false, false, false, false, false, false] rfl rfl (take_ofW HT_.out HW_.out (by kernel_rfl)) (fun _ _ _ h => h) (Or.inl ⟨by rfl, ?_⟩) hHeld ?_ ?_
            rotate_left
            · rintro w' ⟨s0, s1, s2, s3⟩
              go_simp
              with_reducible rfl
            rotate_left
            · simp only [Act.put, List.setIfInBounds_toArray, List.set_cons_zero, List.set_cons_succ, i64_w, i32_w]
              rfl
            refine join_ (σ := Nat) 2 #[true, true, true, true, true, true, true, true, true, false, false] (fun s_ => [(31, .agg #[.int .u64 t311, .int .u64 t312]), (33, .agg #[.int .u64 t313, .int .u64 t314]), (34, .tuple #[.agg #[.int .u64 t315, .int .u64 t316], .bool t317]), (9, .pointer (some ⟨s_, 0, none⟩)), (29, .tuple #[.agg #[.int .u64 t315, .int .u64 t316], .bool t317]), (35, .agg #[.int .u64 t315, .int .u64 t316]), (36, .bool t317)]) (fun s_ w' => (w'.cell? ⟨gb300, 0, none⟩ = some (.int .u64 a0_0) ∧ w'.cell? ⟨gb300, 1, none⟩ = some (.int .u64 a0_1) ∧ w'.cell? ⟨gb301, 0, none⟩ = some (.int .u64 a1_0) ∧ w'.cell? ⟨gb301, 1, none⟩ = some (.int .u64 a1_1)) ∧ (w'.heap[gb300]? = some (.cells #[.int .u64 a0_0, .int .u64 a0_1] 25 (0, 0))) ∧ (w'.heap[gb301]? = some (.cells #[.int .u64 a1_0, .int .u64 a1_1] 25 (0, 0))) ∧ (w'.heap[gb306]? = some (.cells #[.int .u64 t303, .int .u64 t304] 25 (0, 0))) ∧ (w'.heap[gb310]? = some (.cells #[.int .u64 t307, .int .u64 t308] 25 (0, 0))) ∧ (w'.heap[s_]? = some (.cells #[.int .u64 0, .int .u64 0] 29 (0, 0))) ∧ (w.heap.size ≤ s_) ∧ (w.heap.size ≤ s_) ∧ (gb300 ≠ s_) ∧ (s_ ≠ gb300) ∧ (gb301 ≠ s_) ∧ (s_ ≠ gb301) ∧ (gb306 ≠ s_) ∧ (s_ ≠ gb306) ∧ (gb310 ≠ s_) ∧ (s_ ≠ gb310) ∧ (Below w.heap.size w w')) ?_ ?_
            rotate_left
            · intro hCont
              refine two_ (i := 1) (j := 8) (Ni := some 31) (Nj := some 9) #[true, true, true, false, false, false, false, false, false, false, false] #[true, false, true, false, false, false, false, false, true, false, false] rfl rfl rfl rfl (two_of HT_.out (by kernel_rfl)) (by decide) (by decide) (fun K hK => ?_) (fun K hK => ?_)
              · skip
                refine goes_ Try.func14 (by kernel_rfl) rfl #[.agg #[.int .u64 a0_0, .int .u64 a0_1]] (by rfl) rfl rfl (by (try simp only [List.map_toArray, List.map_cons, List.map_nil]); first | done | rfl | (simp only [List.length_drop, List.length_take]; rfl)) ?_
                with_reducible refine (overfalllaw01_own.calls a0_0 a0_1 t311 t312 _ A7.out).mono ?_
                rintro e w41 ⟨rfl, hb⟩
                refine ⟨_, rfl, ?_⟩
                have n0_ := Aside0.mk (blk_below (g := gb300) (o := .cells #[.int .u64 a0_0, .int .u64 a0_1] 25 (0, 0)) (by exact BK300.out) hb)
                have n1_ := Aside0.mk (blk_below (g := gb301) (o := .cells #[.int .u64 a1_0, .int .u64 a1_1] 25 (0, 0)) (by exact BK301.out) hb)
                have n2_ := Aside0.mk (blk_below (g := gb306) (o := .cells #[.int .u64 t303, .int .u64 t304] 25 (0, 0)) (by exact BK306.out) hb)
                have n3_ := Aside0.mk (blk_below (g := gb310) (o := .cells #[.int .u64 t307, .int .u64 t308] 25 (0, 0)) (by exact BK310.out) hb)
                have n4_ := Aside0.mk (below_step (by repeat (first | (with_reducible first | exact HB.out | apply below_alloc | apply pw_below_drewN | apply below_drew1 | refine below_set ?_ GE300.out | refine below_set ?_ GE301.out | refine below_set ?_ GE306.out | refine below_set ?_ GE310.out) | exact HB.out)) hb)
                clear BK300
                clear BK301
                clear BK306
                clear BK310
                clear HB
                have BK300 := n0_
                have BK301 := n1_
                have BK306 := n2_
                have BK310 := n3_
                have HB := n4_
                clear n0_ n1_ n2_ n3_ n4_
                (try clear hb)
                (try clear hb2)
                (try clear hk)
                (try clear hi)
                refine hK.out _ _ ⟨(blk_cell BK300.out 0).trans rfl, (blk_cell BK300.out 1).trans rfl, (blk_cell BK301.out 0).trans rfl, (blk_cell BK301.out 1).trans rfl⟩ (fun hHeld => ?_)
                clear hK K
                refine norm_ (a' := ?_) ?_ ?_
                rotate_left
                · show Act.put _ (some 31) _ = _
                  simp only [Act.put, List.setIfInBounds_toArray, List.set_cons_zero, List.set_cons_succ, i64_w, i32_w]
                  rfl
                refine two_ (i := 3) (j := 8) (Ni := some 33) (Nj := some 9) #[true, true, true, true, false, false, false, false, false, false, false] #[true, true, true, false, false, false, false, false, true, false, false] rfl rfl rfl rfl (two_of HT_.out (by kernel_rfl)) (by decide) (by decide) (fun K hK => ?_) (fun K hK => ?_)
                · skip
                  refine goes_ Try.func14 (by kernel_rfl) rfl #[.agg #[.int .u64 a1_0, .int .u64 a1_1]] (by rfl) rfl rfl (by (try simp only [List.map_toArray, List.map_cons, List.map_nil]); first | done | rfl | (simp only [List.length_drop, List.length_take]; rfl)) ?_
                  with_reducible refine (overfalllaw01_own.calls a1_0 a1_1 t313 t314 _ A8.out).mono ?_
                  rintro e w42 ⟨rfl, hb⟩
                  refine ⟨_, rfl, ?_⟩
                  have n0_ := Aside0.mk (blk_below (g := gb300) (o := .cells #[.int .u64 a0_0, .int .u64 a0_1] 25 (0, 0)) (by exact BK300.out) hb)
                  have n1_ := Aside0.mk (blk_below (g := gb301) (o := .cells #[.int .u64 a1_0, .int .u64 a1_1] 25 (0, 0)) (by exact BK301.out) hb)
                  have n2_ := Aside0.mk (blk_below (g := gb306) (o := .cells #[.int .u64 t303, .int .u64 t304] 25 (0, 0)) (by exact BK306.out) hb)
                  have n3_ := Aside0.mk (blk_below (g := gb310) (o := .cells #[.int .u64 t307, .int .u64 t308] 25 (0, 0)) (by exact BK310.out) hb)
                  have n4_ := Aside0.mk (below_step (by repeat (first | (with_reducible first | exact HB.out | apply below_alloc | apply pw_below_drewN | apply below_drew1 | refine below_set ?_ GE300.out | refine below_set ?_ GE301.out | refine below_set ?_ GE306.out | refine below_set ?_ GE310.out) | exact HB.out)) hb)
                  clear BK300
                  clear BK301
                  clear BK306
                  clear BK310
                  clear HB
                  have BK300 := n0_
                  have BK301 := n1_
                  have BK306 := n2_
                  have BK310 := n3_
                  have HB := n4_
                  clear n0_ n1_ n2_ n3_ n4_
                  (try clear hb)
                  (try clear hb2)
                  (try clear hk)
                  (try clear hi)
                  refine hK.out _ _ ⟨(blk_cell BK300.out 0).trans rfl, (blk_cell BK300.out 1).trans rfl, (blk_cell BK301.out 0).trans rfl, (blk_cell BK301.out 1).trans rfl⟩ (fun hHeld => ?_)
                  clear hK K
                  refine norm_ (a' := ?_) ?_ ?_
                  rotate_left
                  · show Act.put _ (some 33) _ = _
                    simp only [Act.put, List.setIfInBounds_toArray, List.set_cons_zero, List.set_cons_succ, i64_w, i32_w]
                    rfl
                  refine two_ (i := 4) (j := 8) (Ni := some 34) (Nj := some 9) #[true, true, true, true, true, false, false, false, false, false, false] #[true, true, true, true, false, false, false, false, true, false, false] rfl rfl rfl rfl (two_of HT_.out (by kernel_rfl)) (by decide) (by decide) (fun K hK => ?_) (fun K hK => ?_)
                  · skip
                    refine goes_ Try.func24 (by kernel_rfl) rfl #[.agg #[.int .u64 t311, .int .u64 t312], .agg #[.int .u64 t313, .int .u64 t314]] (by rfl) rfl rfl (by (try simp only [List.map_toArray, List.map_cons, List.map_nil]); first | done | rfl | (simp only [List.length_drop, List.length_take]; rfl)) ?_
                    with_reducible refine (overfallref01_Add.calls k t311 t312 t313 t314 t315 t316 t317 _ A9.out).mono ?_
                    rintro e w43 ⟨rfl, hb⟩
                    refine ⟨_, rfl, ?_⟩
                    have n0_ := Aside0.mk (blk_below (g := gb300) (o := .cells #[.int .u64 a0_0, .int .u64 a0_1] 25 (0, 0)) (by exact BK300.out) hb)
                    have n1_ := Aside0.mk (blk_below (g := gb301) (o := .cells #[.int .u64 a1_0, .int .u64 a1_1] 25 (0, 0)) (by exact BK301.out) hb)
                    have n2_ := Aside0.mk (blk_below (g := gb306) (o := .cells #[.int .u64 t303, .int .u64 t304] 25 (0, 0)) (by exact BK306.out) hb)
                    have n3_ := Aside0.mk (blk_below (g := gb310) (o := .cells #[.int .u64 t307, .int .u64 t308] 25 (0, 0)) (by exact BK310.out) hb)
                    have n4_ := Aside0.mk (below_step (by repeat (first | (with_reducible first | exact HB.out | apply below_alloc | apply pw_below_drewN | apply below_drew1 | refine below_set ?_ GE300.out | refine below_set ?_ GE301.out | refine below_set ?_ GE306.out | refine below_set ?_ GE310.out) | exact HB.out)) hb)
                    clear BK300
                    clear BK301
                    clear BK306
                    clear BK310
                    clear HB
                    have BK300 := n0_
                    have BK301 := n1_
                    have BK306 := n2_
                    have BK310 := n3_
                    have HB := n4_
                    clear n0_ n1_ n2_ n3_ n4_
                    (try clear hb)
                    (try clear hb2)
                    (try clear hk)
                    (try clear hi)
                    refine hK.out _ _ ⟨(blk_cell BK300.out 0).trans rfl, (blk_cell BK300.out 1).trans rfl, (blk_cell BK301.out 0).trans rfl, (blk_cell BK301.out 1).trans rfl⟩ (fun hHeld => ?_)
                    clear hK K
                    refine norm_ (a' := ?_) ?_ ?_
                    rotate_left
                    · show Act.put _ (some 34) _ = _
                      simp only [Act.put, List.setIfInBounds_toArray, List.set_cons_zero, List.set_cons_succ, i64_w, i32_w]
                      rfl
                    refine pure_ (i := 5) (N := some 29) (v := ?_) (a' := ?_) #[true, true, true, true, true, true, false, false, false, false, false] rfl rfl (any_of HT_.out (by kernel_rfl)) (fun _ _ _ h => h) (Or.inl ⟨by rfl, ?_⟩) ?_ ?_
                    rotate_left
                    · intro w'
                      go_simp
                      with_reducible rfl
                    rotate_left
                    · simp only [Act.put, List.setIfInBounds_toArray, List.set_cons_zero, List.set_cons_succ, i64_w, i32_w]
                      rfl
                    refine pure_ (i := 6) (N := some 35) (v := ?_) (a' := ?_) #[true, true, true, true, true, true, true, false, false, false, false] rfl rfl (any_of HT_.out (by kernel_rfl)) (fun _ _ _ h => h) (Or.inl ⟨by rfl, ?_⟩) ?_ ?_
                    rotate_left
                    · intro w'
                      go_simp
                      with_reducible rfl
                    rotate_left
                    · simp only [Act.put, List.setIfInBounds_toArray, List.set_cons_zero, List.set_cons_succ, i64_w, i32_w]
                      rfl
                    refine pure_ (i := 7) (N := some 36) (v := ?_) (a' := ?_) #[true, true, true, true, true, true, true, true, false, false, false] rfl rfl (any_of HT_.out (by kernel_rfl)) (fun _ _ _ h => h) (Or.inl ⟨by rfl, ?_⟩) ?_ ?_
                    rotate_left
                    · intro w'
                      go_simp
                      with_reducible rfl
                    rotate_left
                    · simp only [Act.put, List.setIfInBounds_toArray, List.set_cons_zero, List.set_cons_succ, i64_w, i32_w]
                      rfl
                    refine one_ (i := 8) (N := some 9) #[true, true, true, true, true, true, true, true, true, false, false] rfl rfl (one_of HT_.out (by kernel_rfl)) (by decide) (fun K hK => ?_)
                    refine box_step ?hg (N := 9) ?hd (cs := #[.int .u64 0, .int .u64 0]) (t := 29) ?hr ?_; (case hd => rfl); (case hg => rfl); (case hr => first | (go_simp; done) | (go_simp; rfl))
                    intro gb318 hg w44 hbox hb
                    have n0_ := Aside0.mk (blk_below (g := gb300) (o := .cells #[.int .u64 a0_0, .int .u64 a0_1] 25 (0, 0)) (by exact BK300.out) hb)
                    have n1_ := Aside0.mk (blk_below (g := gb301) (o := .cells #[.int .u64 a1_0, .int .u64 a1_1] 25 (0, 0)) (by exact BK301.out) hb)
                    have n2_ := Aside0.mk (blk_below (g := gb306) (o := .cells #[.int .u64 t303, .int .u64 t304] 25 (0, 0)) (by exact BK306.out) hb)
                    have n3_ := Aside0.mk (blk_below (g := gb310) (o := .cells #[.int .u64 t307, .int .u64 t308] 25 (0, 0)) (by exact BK310.out) hb)
                    have n4_ := Aside0.mk (below_step (by repeat (first | (with_reducible first | exact HB.out | apply below_alloc | apply pw_below_drewN | apply below_drew1 | refine below_set ?_ GE300.out | refine below_set ?_ GE301.out | refine below_set ?_ GE306.out | refine below_set ?_ GE310.out) | exact HB.out)) hb)
                    have n5_ := Aside0.mk (hbox)
                    have n6_ := Aside0.mk ((by rw [hg]; exact (below_size (by repeat (first | (with_reducible first | exact HB.out | apply below_alloc | apply pw_below_drewN | apply below_drew1 | refine below_set ?_ GE300.out | refine below_set ?_ GE301.out | refine below_set ?_ GE306.out | refine below_set ?_ GE310.out) | exact HB.out))) : w.heap.size ≤ gb318))
                    have n7_ := Aside0.mk ((by rw [hg]; exact (below_size (by repeat (first | (with_reducible first | exact HB.out | apply below_alloc | apply pw_below_drewN | apply below_drew1 | refine below_set ?_ GE300.out | refine below_set ?_ GE301.out | refine below_set ?_ GE306.out | refine below_set ?_ GE310.out) | exact HB.out))) : w.heap.size ≤ gb318))
                    have n8_ := Aside0.mk ((by rw [hg]; exact Nat.ne_of_lt (blk_lt (g := gb300) (o := .cells #[.int .u64 a0_0, .int .u64 a0_1] 25 (0, 0)) (by exact BK300.out)) : gb300 ≠ gb318))
                    have n9_ := Aside0.mk ((by rw [hg]; exact Nat.ne_of_gt (blk_lt (g := gb300) (o := .cells #[.int .u64 a0_0, .int .u64 a0_1] 25 (0, 0)) (by exact BK300.out)) : gb318 ≠ gb300))
                    have n10_ := Aside0.mk ((by rw [hg]; exact Nat.ne_of_lt (blk_lt (g := gb301) (o := .cells #[.int .u64 a1_0, .int .u64 a1_1] 25 (0, 0)) (by exact BK301.out)) : gb301 ≠ gb318))
                    have n11_ := Aside0.mk ((by rw [hg]; exact Nat.ne_of_gt (blk_lt (g := gb301) (o := .cells #[.int .u64 a1_0, .int .u64 a1_1] 25 (0, 0)) (by exact BK301.out)) : gb318 ≠ gb301))
                    have n12_ := Aside0.mk ((by rw [hg]; exact Nat.ne_of_lt (blk_lt (g := gb306) (o := .cells #[.int .u64 t303, .int .u64 t304] 25 (0, 0)) (by exact BK306.out)) : gb306 ≠ gb318))
                    have n13_ := Aside0.mk ((by rw [hg]; exact Nat.ne_of_gt (blk_lt (g := gb306) (o := .cells #[.int .u64 t303, .int .u64 t304] 25 (0, 0)) (by exact BK306.out)) : gb318 ≠ gb306))
                    have n14_ := Aside0.mk ((by rw [hg]; exact Nat.ne_of_lt (blk_lt (g := gb310) (o := .cells #[.int .u64 t307, .int .u64 t308] 25 (0, 0)) (by exact BK310.out)) : gb310 ≠ gb318))
                    have n15_ := Aside0.mk ((by rw [hg]; exact Nat.ne_of_gt (blk_lt (g := gb310) (o := .cells #[.int .u64 t307, .int .u64 t308] 25 (0, 0)) (by exact BK310.out)) : gb318 ≠ gb310))
                    clear BK300
                    clear BK301
                    clear BK306
                    clear BK310
                    clear HB
                    have BK300 := n0_
                    have BK301 := n1_
                    have BK306 := n2_
                    have BK310 := n3_
                    have HB := n4_
                    have BK318 := n5_
                    have GW318 := n6_
                    have GE318 := n7_
                    have NB300_318 := n8_
                    have NB318_300 := n9_
                    have NB301_318 := n10_
                    have NB318_301 := n11_
                    have NB306_318 := n12_
                    have NB318_306 := n13_
                    have NB310_318 := n14_
                    have NB318_310 := n15_
                    clear n0_ n1_ n2_ n3_ n4_ n5_ n6_ n7_ n8_ n9_ n10_ n11_ n12_ n13_ n14_ n15_
                    clear hb hbox hg
                    refine hK.out _ _ ⟨(blk_cell BK300.out 0).trans rfl, (blk_cell BK300.out 1).trans rfl, (blk_cell BK301.out 0).trans rfl, (blk_cell BK301.out 1).trans rfl⟩ (fun hHeld => ?_)
                    clear hK K
                    refine norm_ (a' := ?_) ?_ ?_
                    rotate_left
                    · show Act.put _ (some 9) _ = _
                      simp only [Act.put, List.setIfInBounds_toArray, List.set_cons_zero, List.set_cons_succ, i64_w, i32_w]
                      rfl
                    exact norm_ (by simp only [putAll, Act.put, List.setIfInBounds_toArray, List.set_cons_zero, List.set_cons_succ]) (hCont (gb318) _ ⟨hHeld, (by exact BK300.out), (by exact BK301.out), (by exact BK306.out), (by exact BK310.out), (by exact BK318.out), GW318.out, GE318.out, NB300_318.out, NB318_300.out, NB301_318.out, NB318_301.out, NB306_318.out, NB318_306.out, NB310_318.out, NB318_310.out, (by repeat (first | (with_reducible first | exact HB.out | apply below_alloc | apply pw_below_drewN | apply below_drew1 | refine below_set ?_ GE300.out | refine below_set ?_ GE301.out | refine below_set ?_ GE306.out | refine below_set ?_ GE310.out | refine below_set ?_ GE318.out) | exact HB.out))⟩)
                  · skip
                    refine box_step ?hg (N := 9) ?hd (cs := #[.int .u64 0, .int .u64 0]) (t := 29) ?hr ?_; (case hd => rfl); (case hg => rfl); (case hr => first | (go_simp; done) | (go_simp; rfl))
                    intro gb318 hg w43 hbox hb
                    have n0_ := Aside0.mk (blk_below (g := gb300) (o := .cells #[.int .u64 a0_0, .int .u64 a0_1] 25 (0, 0)) (by exact BK300.out) hb)
                    have n1_ := Aside0.mk (blk_below (g := gb301) (o := .cells #[.int .u64 a1_0, .int .u64 a1_1] 25 (0, 0)) (by exact BK301.out) hb)
                    have n2_ := Aside0.mk (blk_below (g := gb306) (o := .cells #[.int .u64 t303, .int .u64 t304] 25 (0, 0)) (by exact BK306.out) hb)
                    have n3_ := Aside0.mk (blk_below (g := gb310) (o := .cells #[.int .u64 t307, .int .u64 t308] 25 (0, 0)) (by exact BK310.out) hb)
                    have n4_ := Aside0.mk (below_step (by repeat (first | (with_reducible first | exact HB.out | apply below_alloc | apply pw_below_drewN | apply below_drew1 | refine below_set ?_ GE300.out | refine below_set ?_ GE301.out | refine below_set ?_ GE306.out | refine below_set ?_ GE310.out) | exact HB.out)) hb)
                    have n5_ := Aside0.mk (hbox)
                    have n6_ := Aside0.mk ((by rw [hg]; exact (below_size (by repeat (first | (with_reducible first | exact HB.out | apply below_alloc | apply pw_below_drewN | apply below_drew1 | refine below_set ?_ GE300.out | refine below_set ?_ GE301.out | refine below_set ?_ GE306.out | refine below_set ?_ GE310.out) | exact HB.out))) : w.heap.size ≤ gb318))
                    have n7_ := Aside0.mk ((by rw [hg]; exact (below_size (by repeat (first | (with_reducible first | exact HB.out | apply below_alloc | apply pw_below_drewN | apply below_drew1 | refine below_set ?_ GE300.out | refine below_set ?_ GE301.out | refine below_set ?_ GE306.out | refine below_set ?_ GE310.out) | exact HB.out))) : w.heap.size ≤ gb318))
                    have n8_ := Aside0.mk ((by rw [hg]; exact Nat.ne_of_lt (blk_lt (g := gb300) (o := .cells #[.int .u64 a0_0, .int .u64 a0_1] 25 (0, 0)) (by exact BK300.out)) : gb300 ≠ gb318))
                    have n9_ := Aside0.mk ((by rw [hg]; exact Nat.ne_of_gt (blk_lt (g := gb300) (o := .cells #[.int .u64 a0_0, .int .u64 a0_1] 25 (0, 0)) (by exact BK300.out)) : gb318 ≠ gb300))
                    have n10_ := Aside0.mk ((by rw [hg]; exact Nat.ne_of_lt (blk_lt (g := gb301) (o := .cells #[.int .u64 a1_0, .int .u64 a1_1] 25 (0, 0)) (by exact BK301.out)) : gb301 ≠ gb318))
                    have n11_ := Aside0.mk ((by rw [hg]; exact Nat.ne_of_gt (blk_lt (g := gb301) (o := .cells #[.int .u64 a1_0, .int .u64 a1_1] 25 (0, 0)) (by exact BK301.out)) : gb318 ≠ gb301))
                    have n12_ := Aside0.mk ((by rw [hg]; exact Nat.ne_of_lt (blk_lt (g := gb306) (o := .cells #[.int .u64 t303, .int .u64 t304] 25 (0, 0)) (by exact BK306.out)) : gb306 ≠ gb318))
                    have n13_ := Aside0.mk ((by rw [hg]; exact Nat.ne_of_gt (blk_lt (g := gb306) (o := .cells #[.int .u64 t303, .int .u64 t304] 25 (0, 0)) (by exact BK306.out)) : gb318 ≠ gb306))
                    have n14_ := Aside0.mk ((by rw [hg]; exact Nat.ne_of_lt (blk_lt (g := gb310) (o := .cells #[.int .u64 t307, .int .u64 t308] 25 (0, 0)) (by exact BK310.out)) : gb310 ≠ gb318))
                    have n15_ := Aside0.mk ((by rw [hg]; exact Nat.ne_of_gt (blk_lt (g := gb310) (o := .cells #[.int .u64 t307, .int .u64 t308] 25 (0, 0)) (by exact BK310.out)) : gb318 ≠ gb310))
                    clear BK300
                    clear BK301
                    clear BK306
                    clear BK310
                    clear HB
                    have BK300 := n0_
                    have BK301 := n1_
                    have BK306 := n2_
                    have BK310 := n3_
                    have HB := n4_
                    have BK318 := n5_
                    have GW318 := n6_
                    have GE318 := n7_
                    have NB300_318 := n8_
                    have NB318_300 := n9_
                    have NB301_318 := n10_
                    have NB318_301 := n11_
                    have NB306_318 := n12_
                    have NB318_306 := n13_
                    have NB310_318 := n14_
                    have NB318_310 := n15_
                    clear n0_ n1_ n2_ n3_ n4_ n5_ n6_ n7_ n8_ n9_ n10_ n11_ n12_ n13_ n14_ n15_
                    clear hb hbox hg
                    refine hK.out _ _ ⟨(blk_cell BK300.out 0).trans rfl, (blk_cell BK300.out 1).trans rfl, (blk_cell BK301.out 0).trans rfl, (blk_cell BK301.out 1).trans rfl⟩ (fun hHeld => ?_)
                    clear hK K
                    refine norm_ (a' := ?_) ?_ ?_
                    rotate_left
                    · show Act.put _ (some 9) _ = _
                      simp only [Act.put, List.setIfInBounds_toArray, List.set_cons_zero, List.set_cons_succ, i64_w, i32_w]
                      rfl
                    refine one_ (i := 4) (N := some 34) #[true, true, true, true, true, false, false, false, true, false, false] rfl rfl (one_of HT_.out (by kernel_rfl)) (by decide) (fun K hK => ?_)
                    refine goes_ Try.func24 (by kernel_rfl) rfl #[.agg #[.int .u64 t311, .int .u64 t312], .agg #[.int .u64 t313, .int .u64 t314]] (by rfl) rfl rfl (by (try simp only [List.map_toArray, List.map_cons, List.map_nil]); first | done | rfl | (simp only [List.length_drop, List.length_take]; rfl)) ?_
                    with_reducible refine (overfallref01_Add.calls k t311 t312 t313 t314 t315 t316 t317 _ A9.out).mono ?_
                    rintro e w44 ⟨rfl, hb⟩
                    refine ⟨_, rfl, ?_⟩
                    have n0_ := Aside0.mk (blk_below (g := gb300) (o := .cells #[.int .u64 a0_0, .int .u64 a0_1] 25 (0, 0)) (by exact BK300.out) hb)
                    have n1_ := Aside0.mk (blk_below (g := gb301) (o := .cells #[.int .u64 a1_0, .int .u64 a1_1] 25 (0, 0)) (by exact BK301.out) hb)
                    have n2_ := Aside0.mk (blk_below (g := gb306) (o := .cells #[.int .u64 t303, .int .u64 t304] 25 (0, 0)) (by exact BK306.out) hb)
                    have n3_ := Aside0.mk (blk_below (g := gb310) (o := .cells #[.int .u64 t307, .int .u64 t308] 25 (0, 0)) (by exact BK310.out) hb)
                    have n4_ := Aside0.mk (blk_below (g := gb318) (o := .cells #[.int .u64 0, .int .u64 0] 29 (0, 0)) (by exact BK318.out) hb)
                    have n5_ := Aside0.mk (below_step (by repeat (first | (with_reducible first | exact HB.out | apply below_alloc | apply pw_below_drewN | apply below_drew1 | refine below_set ?_ GE300.out | refine below_set ?_ GE301.out | refine below_set ?_ GE306.out | refine below_set ?_ GE310.out | refine below_set ?_ GE318.out) | exact HB.out)) hb)
                    clear BK300
                    clear BK301
                    clear BK306
                    clear BK310
                    clear BK318
                    clear HB
                    have BK300 := n0_
                    have BK301 := n1_
                    have BK306 := n2_
                    have BK310 := n3_
                    have BK318 := n4_
                    have HB := n5_
                    clear n0_ n1_ n2_ n3_ n4_ n5_
                    (try clear hb)
                    (try clear hb2)
                    (try clear hk)
                    (try clear hi)
                    refine hK.out _ _ ⟨(blk_cell BK300.out 0).trans rfl, (blk_cell BK300.out 1).trans rfl, (blk_cell BK301.out 0).trans rfl, (blk_cell BK301.out 1).trans rfl⟩ (fun hHeld => ?_)
                    clear hK K
                    refine norm_ (a' := ?_) ?_ ?_
                    rotate_left
                    · show Act.put _ (some 34) _ = _
                      simp only [Act.put, List.setIfInBounds_toArray, List.set_cons_zero, List.set_cons_succ, i64_w, i32_w]
                      rfl
                    refine pure_ (i := 5) (N := some 29) (v := ?_) (a' := ?_) #[true, true, true, true, true, true, false, false, true, false, false] rfl rfl (any_of HT_.out (by kernel_rfl)) (fun _ _ _ h => h) (Or.inl ⟨by rfl, ?_⟩) ?_ ?_
                    rotate_left
                    · intro w'
                      go_simp
                      with_reducible rfl
                    rotate_left
                    · simp only [Act.put, List.setIfInBounds_toArray, List.set_cons_zero, List.set_cons_succ, i64_w, i32_w]
                      rfl
                    refine pure_ (i := 6) (N := some 35) (v := ?_) (a' := ?_) #[true, true, true, true, true, true, true, false, true, false, false] rfl rfl (any_of HT_.out (by kernel_rfl)) (fun _ _ _ h => h) (Or.inl ⟨by rfl, ?_⟩) ?_ ?_
                    rotate_left
                    · intro w'
                      go_simp
                      with_reducible rfl
                    rotate_left
                    · simp only [Act.put, List.setIfInBounds_toArray, List.set_cons_zero, List.set_cons_succ, i64_w, i32_w]
                      rfl
                    refine pure_ (i := 7) (N := some 36) (v := ?_) (a' := ?_) #[true, true, true, true, true, true, true, true, true, false, false] rfl rfl (any_of HT_.out (by kernel_rfl)) (fun _ _ _ h => h) (Or.inl ⟨by rfl, ?_⟩) ?_ ?_
                    rotate_left
                    · intro w'
                      go_simp
                      with_reducible rfl
                    rotate_left
                    · simp only [Act.put, List.setIfInBounds_toArray, List.set_cons_zero, List.set_cons_succ, i64_w, i32_w]
                      rfl
                    exact norm_ (by simp only [putAll, Act.put, List.setIfInBounds_toArray, List.set_cons_zero, List.set_cons_succ]) (hCont (gb318) _ ⟨hHeld, (by exact BK300.out), (by exact BK301.out), (by exact BK306.out), (by exact BK310.out), (by exact BK318.out), GW318.out, GE318.out, NB300_318.out, NB318_300.out, NB301_318.out, NB318_301.out, NB306_318.out, NB318_306.out, NB310_318.out, NB318_310.out, (by repeat (first | (with_reducible first | exact HB.out | apply below_alloc | apply pw_below_drewN | apply below_drew1 | refine below_set ?_ GE300.out | refine below_set ?_ GE301.out | refine below_set ?_ GE306.out | refine below_set ?_ GE310.out | refine below_set ?_ GE318.out) | exact HB.out))⟩)
                · skip
                  refine box_step ?hg (N := 9) ?hd (cs := #[.int .u64 0, .int .u64 0]) (t := 29) ?hr ?_; (case hd => rfl); (case hg => rfl); (case hr => first | (go_simp; done) | (go_simp; rfl))
                  intro gb318 hg w42 hbox hb
                  have n0_ := Aside0.mk (blk_below (g := gb300) (o := .cells #[.int .u64 a0_0, .int .u64 a0_1] 25 (0, 0)) (by exact BK300.out) hb)
                  have n1_ := Aside0.mk (blk_below (g := gb301) (o := .cells #[.int .u64 a1_0, .int .u64 a1_1] 25 (0, 0)) (by exact BK301.out) hb)
                  have n2_ := Aside0.mk (blk_below (g := gb306) (o := .cells #[.int .u64 t303, .int .u64 t304] 25 (0, 0)) (by exact BK306.out) hb)
                  have n3_ := Aside0.mk (blk_below (g := gb310) (o := .cells #[.int .u64 t307, .int .u64 t308] 25 (0, 0)) (by exact BK310.out) hb)
                  have n4_ := Aside0.mk (below_step (by repeat (first | (with_reducible first | exact HB.out | apply below_alloc | apply pw_below_drewN | apply below_drew1 | refine below_set ?_ GE300.out | refine below_set ?_ GE301.out | refine below_set ?_ GE306.out | refine below_set ?_ GE310.out) | exact HB.out)) hb)
                  have n5_ := Aside0.mk (hbox)
                  have n6_ := Aside0.mk ((by rw [hg]; exact (below_size (by repeat (first | (with_reducible first | exact HB.out | apply below_alloc | apply pw_below_drewN | apply below_drew1 | refine below_set ?_ GE300.out | refine below_set ?_ GE301.out | refine below_set ?_ GE306.out | refine below_set ?_ GE310.out) | exact HB.out))) : w.heap.size ≤ gb318))
                  have n7_ := Aside0.mk ((by rw [hg]; exact (below_size (by repeat (first | (with_reducible first | exact HB.out | apply below_alloc | apply pw_below_drewN | apply below_drew1 | refine below_set ?_ GE300.out | refine below_set ?_ GE301.out | refine below_set ?_ GE306.out | refine below_set ?_ GE310.out) | exact HB.out))) : w.heap.size ≤ gb318))
                  have n8_ := Aside0.mk ((by rw [hg]; exact Nat.ne_of_lt (blk_lt (g := gb300) (o := .cells #[.int .u64 a0_0, .int .u64 a0_1] 25 (0, 0)) (by exact BK300.out)) : gb300 ≠ gb318))
                  have n9_ := Aside0.mk ((by rw [hg]; exact Nat.ne_of_gt (blk_lt (g := gb300) (o := .cells #[.int .u64 a0_0, .int .u64 a0_1] 25 (0, 0)) (by exact BK300.out)) : gb318 ≠ gb300))
                  have n10_ := Aside0.mk ((by rw [hg]; exact Nat.ne_of_lt (blk_lt (g := gb301) (o := .cells #[.int .u64 a1_0, .int .u64 a1_1] 25 (0, 0)) (by exact BK301.out)) : gb301 ≠ gb318))
                  have n11_ := Aside0.mk ((by rw [hg]; exact Nat.ne_of_gt (blk_lt (g := gb301) (o := .cells #[.int .u64 a1_0, .int .u64 a1_1] 25 (0, 0)) (by exact BK301.out)) : gb318 ≠ gb301))
                  have n12_ := Aside0.mk ((by rw [hg]; exact Nat.ne_of_lt (blk_lt (g := gb306) (o := .cells #[.int .u64 t303, .int .u64 t304] 25 (0, 0)) (by exact BK306.out)) : gb306 ≠ gb318))
                  have n13_ := Aside0.mk ((by rw [hg]; exact Nat.ne_of_gt (blk_lt (g := gb306) (o := .cells #[.int .u64 t303, .int .u64 t304] 25 (0, 0)) (by exact BK306.out)) : gb318 ≠ gb306))
                  have n14_ := Aside0.mk ((by rw [hg]; exact Nat.ne_of_lt (blk_lt (g := gb310) (o := .cells #[.int .u64 t307, .int .u64 t308] 25 (0, 0)) (by exact BK310.out)) : gb310 ≠ gb318))
                  have n15_ := Aside0.mk ((by rw [hg]; exact Nat.ne_of_gt (blk_lt (g := gb310) (o := .cells #[.int .u64 t307, .int .u64 t308] 25 (0, 0)) (by exact BK310.out)) : gb318 ≠ gb310))
                  clear BK300
                  clear BK301
                  clear BK306
                  clear BK310
                  clear HB
                  have BK300 := n0_
                  have BK301 := n1_
                  have BK306 := n2_
                  have BK310 := n3_
                  have HB := n4_
                  have BK318 := n5_
                  have GW318 := n6_
                  have GE318 := n7_
                  have NB300_318 := n8_
                  have NB318_300 := n9_
                  have NB301_318 := n10_
                  have NB318_301 := n11_
                  have NB306_318 := n12_
                  have NB318_306 := n13_
                  have NB310_318 := n14_
                  have NB318_310 := n15_
                  clear n0_ n1_ n2_ n3_ n4_ n5_ n6_ n7_ n8_ n9_ n10_ n11_ n12_ n13_ n14_ n15_
                  clear hb hbox hg
                  refine hK.out _ _ ⟨(blk_cell BK300.out 0).trans rfl, (blk_cell BK300.out 1).trans rfl, (blk_cell BK301.out 0).trans rfl, (blk_cell BK301.out 1).trans rfl⟩ (fun hHeld => ?_)
                  clear hK K
                  refine norm_ (a' := ?_) ?_ ?_
                  rotate_left
                  · show Act.put _ (some 9) _ = _
                    simp only [Act.put, List.setIfInBounds_toArray, List.set_cons_zero, List.set_cons_succ, i64_w, i32_w]
                    rfl
                  refine one_ (i := 3) (N := some 33) #[true, true, true, true, false, false, false, false, true, false, false] rfl rfl (one_of HT_.out (by kernel_rfl)) (by decide) (fun K hK => ?_)
                  refine goes_ Try.func14 (by kernel_rfl) rfl #[.agg #[.int .u64 a1_0, .int .u64 a1_1]] (by rfl) rfl rfl (by (try simp only [List.map_toArray, List.map_cons, List.map_nil]); first | done | rfl | (simp only [List.length_drop, List.length_take]; rfl)) ?_
                  with_reducible refine (overfalllaw01_own.calls a1_0 a1_1 t313 t314 _ A8.out).mono ?_
                  rintro e w43 ⟨rfl, hb⟩
                  refine ⟨_, rfl, ?_⟩
                  have n0_ := Aside0.mk (blk_below (g := gb300) (o := .cells #[.int .u64 a0_0, .int .u64 a0_1] 25 (0, 0)) (by exact BK300.out) hb)
                  have n1_ := Aside0.mk (blk_below (g := gb301) (o := .cells #[.int .u64 a1_0, .int .u64 a1_1] 25 (0, 0)) (by exact BK301.out) hb)
                  have n2_ := Aside0.mk (blk_below (g := gb306) (o := .cells #[.int .u64 t303, .int .u64 t304] 25 (0, 0)) (by exact BK306.out) hb)
                  have n3_ := Aside0.mk (blk_below (g := gb310) (o := .cells #[.int .u64 t307, .int .u64 t308] 25 (0, 0)) (by exact BK310.out) hb)
                  have n4_ := Aside0.mk (blk_below (g := gb318) (o := .cells #[.int .u64 0, .int .u64 0] 29 (0, 0)) (by exact BK318.out) hb)
                  have n5_ := Aside0.mk (below_step (by repeat (first | (with_reducible first | exact HB.out | apply below_alloc | apply pw_below_drewN | apply below_drew1 | refine below_set ?_ GE300.out | refine below_set ?_ GE301.out | refine below_set ?_ GE306.out | refine below_set ?_ GE310.out | refine below_set ?_ GE318.out) | exact HB.out)) hb)
                  clear BK300
                  clear BK301
                  clear BK306
                  clear BK310
                  clear BK318
                  clear HB
                  have BK300 := n0_
                  have BK301 := n1_
                  have BK306 := n2_
                  have BK310 := n3_
                  have BK318 := n4_
                  have HB := n5_
                  clear n0_ n1_ n2_ n3_ n4_ n5_
                  (try clear hb)
                  (try clear hb2)
                  (try clear hk)
                  (try clear hi)
                  refine hK.out _ _ ⟨(blk_cell BK300.out 0).trans rfl, (blk_cell BK300.out 1).trans rfl, (blk_cell BK301.out 0).trans rfl, (blk_cell BK301.out 1).trans rfl⟩ (fun hHeld => ?_)
                  clear hK K
                  refine norm_ (a' := ?_) ?_ ?_
                  rotate_left
                  · show Act.put _ (some 33) _ = _
                    simp only [Act.put, List.setIfInBounds_toArray, List.set_cons_zero, List.set_cons_succ, i64_w, i32_w]
                    rfl
                  refine one_ (i := 4) (N := some 34) #[true, true, true, true, true, false, false, false, true, false, false] rfl rfl (one_of HT_.out (by kernel_rfl)) (by decide) (fun K hK => ?_)
                  refine goes_ Try.func24 (by kernel_rfl) rfl #[.agg #[.int .u64 t311, .int .u64 t312], .agg #[.int .u64 t313, .int .u64 t314]] (by rfl) rfl rfl (by (try simp only [List.map_toArray, List.map_cons, List.map_nil]); first | done | rfl | (simp only [List.length_drop, List.length_take]; rfl)) ?_
                  with_reducible refine (overfallref01_Add.calls k t311 t312 t313 t314 t315 t316 t317 _ A9.out).mono ?_
                  rintro e w44 ⟨rfl, hb⟩
                  refine ⟨_, rfl, ?_⟩
                  have n0_ := Aside0.mk (blk_below (g := gb300) (o := .cells #[.int .u64 a0_0, .int .u64 a0_1] 25 (0, 0)) (by exact BK300.out) hb)
                  have n1_ := Aside0.mk (blk_below (g := gb301) (o := .cells #[.int .u64 a1_0, .int .u64 a1_1] 25 (0, 0)) (by exact BK301.out) hb)
                  have n2_ := Aside0.mk (blk_below (g := gb306) (o := .cells #[.int .u64 t303, .int .u64 t304] 25 (0, 0)) (by exact BK306.out) hb)
                  have n3_ := Aside0.mk (blk_below (g := gb310) (o := .cells #[.int .u64 t307, .int .u64 t308] 25 (0, 0)) (by exact BK310.out) hb)
                  have n4_ := Aside0.mk (blk_below (g := gb318) (o := .cells #[.int .u64 0, .int .u64 0] 29 (0, 0)) (by exact BK318.out) hb)
                  have n5_ := Aside0.mk (below_step (by repeat (first | (with_reducible first | exact HB.out | apply below_alloc | apply pw_below_drewN | apply below_drew1 | refine below_set ?_ GE300.out | refine below_set ?_ GE301.out | refine below_set ?_ GE306.out | refine below_set ?_ GE310.out | refine below_set ?_ GE318.out) | exact HB.out)) hb)
                  clear BK300
                  clear BK301
                  clear BK306
                  clear BK310
                  clear BK318
                  clear HB
                  have BK300 := n0_
                  have BK301 := n1_
                  have BK306 := n2_
                  have BK310 := n3_
                  have BK318 := n4_
                  have HB := n5_
                  clear n0_ n1_ n2_ n3_ n4_ n5_
                  (try clear hb)
                  (try clear hb2)
                  (try clear hk)
                  (try clear hi)
                  refine hK.out _ _ ⟨(blk_cell BK300.out 0).trans rfl, (blk_cell BK300.out 1).trans rfl, (blk_cell BK301.out 0).trans rfl, (blk_cell BK301.out 1).trans rfl⟩ (fun hHeld => ?_)
                  clear hK K
                  refine norm_ (a' := ?_) ?_ ?_
                  rotate_left
                  · show Act.put _ (some 34) _ = _
                    simp only [Act.put, List.setIfInBounds_toArray, List.set_cons_zero, List.set_cons_succ, i64_w, i32_w]
                    rfl
                  refine pure_ (i := 5) (N := some 29) (v := ?_) (a' := ?_) #[true, true, true, true, true, true, false, false, true, false, false] rfl rfl (any_of HT_.out (by kernel_rfl)) (fun _ _ _ h => h) (Or.inl ⟨by rfl, ?_⟩) ?_ ?_
                  rotate_left
                  · intro w'
                    go_simp
                    with_reducible rfl
                  rotate_left
                  · simp only [Act.put, List.setIfInBounds_toArray, List.set_cons_zero, List.set_cons_succ, i64_w, i32_w]
                    rfl
                  refine pure_ (i := 6) (N := some 35) (v := ?_) (a' := ?_) #[true, true, true, true, true, true, true, false, true, false, false] rfl rfl (any_of HT_.out (by kernel_rfl)) (fun _ _ _ h => h) (Or.inl ⟨by rfl, ?_⟩) ?_ ?_
                  rotate_left
                  · intro w'
                    go_simp
                    with_reducible rfl
                  rotate_left
                  · simp only [Act.put, List.setIfInBounds_toArray, List.set_cons_zero, List.set_cons_succ, i64_w, i32_w]
                    rfl
                  refine pure_ (i := 7) (N := some 36) (v := ?_) (a' := ?_) #[true, true, true, true, true, true, true, true, true, false, false] rfl rfl (any_of HT_.out (by kernel_rfl)) (fun _ _ _ h => h) (Or.inl ⟨by rfl, ?_⟩) ?_ ?_
                  rotate_left
                  · intro w'
                    go_simp
                    with_reducible rfl
                  rotate_left
                  · simp only [Act.put, List.setIfInBounds_toArray, List.set_cons_zero, List.set_cons_succ, i64_w, i32_w]
                    rfl
                  exact norm_ (by simp only [putAll, Act.put, List.setIfInBounds_toArray, List.set_cons_zero, List.set_cons_succ]) (hCont (gb318) _ ⟨hHeld, (by exact BK300.out), (by exact BK301.out), (by exact BK306.out), (by exact BK310.out), (by exact BK318.out), GW318.out, GE318.out, NB300_318.out, NB318_300.out, NB301_318.out, NB318_301.out, NB306_318.out, NB318_306.out, NB310_318.out, NB318_310.out, (by repeat (first | (with_reducible first | exact HB.out | apply below_alloc | apply pw_below_drewN | apply below_drew1 | refine below_set ?_ GE300.out | refine below_set ?_ GE301.out | refine below_set ?_ GE306.out | refine below_set ?_ GE310.out | refine below_set ?_ GE318.out) | exact HB.out))⟩)
              · skip
                refine box_step ?hg (N := 9) ?hd (cs := #[.int .u64 0, .int .u64 0]) (t := 29) ?hr ?_; (case hd => rfl); (case hg => rfl); (case hr => first | (go_simp; done) | (go_simp; rfl))
                intro gb318 hg w41 hbox hb
                have n0_ := Aside0.mk (blk_below (g := gb300) (o := .cells #[.int .u64 a0_0, .int .u64 a0_1] 25 (0, 0)) (by exact BK300.out) hb)
                have n1_ := Aside0.mk (blk_below (g := gb301) (o := .cells #[.int .u64 a1_0, .int .u64 a1_1] 25 (0, 0)) (by exact BK301.out) hb)
                have n2_ := Aside0.mk (blk_below (g := gb306) (o := .cells #[.int .u64 t303, .int .u64 t304] 25 (0, 0)) (by exact BK306.out) hb)
                have n3_ := Aside0.mk (blk_below (g := gb310) (o := .cells #[.int .u64 t307, .int .u64 t308] 25 (0, 0)) (by exact BK310.out) hb)
                have n4_ := Aside0.mk (below_step (by repeat (first | (with_reducible first | exact HB.out | apply below_alloc | apply pw_below_drewN | apply below_drew1 | refine below_set ?_ GE300.out | refine below_set ?_ GE301.out | refine below_set ?_ GE306.out | refine below_set ?_ GE310.out) | exact HB.out)) hb)
                have n5_ := Aside0.mk (hbox)
                have n6_ := Aside0.mk ((by rw [hg]; exact (below_size (by repeat (first | (with_reducible first | exact HB.out | apply below_alloc | apply pw_below_drewN | apply below_drew1 | refine below_set ?_ GE300.out | refine below_set ?_ GE301.out | refine below_set ?_ GE306.out | refine below_set ?_ GE310.out) | exact HB.out))) : w.heap.size ≤ gb318))
                have n7_ := Aside0.mk ((by rw [hg]; exact (below_size (by repeat (first | (with_reducible first | exact HB.out | apply below_alloc | apply pw_below_drewN | apply below_drew1 | refine below_set ?_ GE300.out | refine below_set ?_ GE301.out | refine below_set ?_ GE306.out | refine below_set ?_ GE310.out) | exact HB.out))) : w.heap.size ≤ gb318))
                have n8_ := Aside0.mk ((by rw [hg]; exact Nat.ne_of_lt (blk_lt (g := gb300) (o := .cells #[.int .u64 a0_0, .int .u64 a0_1] 25 (0, 0)) (by exact BK300.out)) : gb300 ≠ gb318))
                have n9_ := Aside0.mk ((by rw [hg]; exact Nat.ne_of_gt (blk_lt (g := gb300) (o := .cells #[.int .u64 a0_0, .int .u64 a0_1] 25 (0, 0)) (by exact BK300.out)) : gb318 ≠ gb300))
                have n10_ := Aside0.mk ((by rw [hg]; exact Nat.ne_of_lt (blk_lt (g := gb301) (o := .cells #[.int .u64 a1_0, .int .u64 a1_1] 25 (0, 0)) (by exact BK301.out)) : gb301 ≠ gb318))
                have n11_ := Aside0.mk ((by rw [hg]; exact Nat.ne_of_gt (blk_lt (g := gb301) (o := .cells #[.int .u64 a1_0, .int .u64 a1_1] 25 (0, 0)) (by exact BK301.out)) : gb318 ≠ gb301))
                have n12_ := Aside0.mk ((by rw [hg]; exact Nat.ne_of_lt (blk_lt (g := gb306) (o := .cells #[.int .u64 t303, .int .u64 t304] 25 (0, 0)) (by exact BK306.out)) : gb306 ≠ gb318))
                have n13_ := Aside0.mk ((by rw [hg]; exact Nat.ne_of_gt (blk_lt (g := gb306) (o := .cells #[.int .u64 t303, .int .u64 t304] 25 (0, 0)) (by exact BK306.out)) : gb318 ≠ gb306))
                have n14_ := Aside0.mk ((by rw [hg]; exact Nat.ne_of_lt (blk_lt (g := gb310) (o := .cells #[.int .u64 t307, .int .u64 t308] 25 (0, 0)) (by exact BK310.out)) : gb310 ≠ gb318))
                have n15_ := Aside0.mk ((by rw [hg]; exact Nat.ne_of_gt (blk_lt (g := gb310) (o := .cells #[.int .u64 t307, .int .u64 t308] 25 (0, 0)) (by exact BK310.out)) : gb318 ≠ gb310))
                clear BK300
                clear BK301
                clear BK306
                clear BK310
                clear HB
                have BK300 := n0_
                have BK301 := n1_
                have BK306 := n2_
                have BK310 := n3_
                have HB := n4_
                have BK318 := n5_
                have GW318 := n6_
                have GE318 := n7_
                have NB300_318 := n8_
                have NB318_300 := n9_
                have NB301_318 := n10_
                have NB318_301 := n11_
                have NB306_318 := n12_
                have NB318_306 := n13_
                have NB310_318 := n14_
                have NB318_310 := n15_
                clear n0_ n1_ n2_ n3_ n4_ n5_ n6_ n7_ n8_ n9_ n10_ n11_ n12_ n13_ n14_ n15_
                clear hb hbox hg
                refine hK.out _ _ ⟨(blk_cell BK300.out 0).trans rfl, (blk_cell BK300.out 1).trans rfl, (blk_cell BK301.out 0).trans rfl, (blk_cell BK301.out 1).trans rfl⟩ (fun hHeld => ?_)
                clear hK K
                refine norm_ (a' := ?_) ?_ ?_
                rotate_left
                · show Act.put _ (some 9) _ = _
                  simp only [Act.put, List.setIfInBounds_toArray, List.set_cons_zero, List.set_cons_succ, i64_w, i32_w]
                  rfl
                refine one_ (i := 1) (N := some 31) #[true, true, true, false, false, false, false, false, true, false, false] rfl rfl (one_of HT_.out (by kernel_rfl)) (by decide) (fun K hK => ?_)
                refine goes_ Try.func14 (by kernel_rfl) rfl #[.agg #[.int .u64 a0_0, .int .u64 a0_1]] (by rfl) rfl rfl (by (try simp only [List.map_toArray, List.map_cons, List.map_nil]); first | done | rfl | (simp only [List.length_drop, List.length_take]; rfl)) ?_
                with_reducible refine (overfalllaw01_own.calls a0_0 a0_1 t311 t312 _ A7.out).mono ?_
                rintro e w42 ⟨rfl, hb⟩
                refine ⟨_, rfl, ?_⟩
                have n0_ := Aside0.mk (blk_below (g := gb300) (o := .cells #[.int .u64 a0_0, .int .u64 a0_1] 25 (0, 0)) (by exact BK300.out) hb)
                have n1_ := Aside0.mk (blk_below (g := gb301) (o := .cells #[.int .u64 a1_0, .int .u64 a1_1] 25 (0, 0)) (by exact BK301.out) hb)
                have n2_ := Aside0.mk (blk_below (g := gb306) (o := .cells #[.int .u64 t303, .int .u64 t304] 25 (0, 0)) (by exact BK306.out) hb)
                have n3_ := Aside0.mk (blk_below (g := gb310) (o := .cells #[.int .u64 t307, .int .u64 t308] 25 (0, 0)) (by exact BK310.out) hb)
                have n4_ := Aside0.mk (blk_below (g := gb318) (o := .cells #[.int .u64 0, .int .u64 0] 29 (0, 0)) (by exact BK318.out) hb)
                have n5_ := Aside0.mk (below_step (by repeat (first | (with_reducible first | exact HB.out | apply below_alloc | apply pw_below_drewN | apply below_drew1 | refine below_set ?_ GE300.out | refine below_set ?_ GE301.out | refine below_set ?_ GE306.out | refine below_set ?_ GE310.out | refine below_set ?_ GE318.out) | exact HB.out)) hb)
                clear BK300
                clear BK301
                clear BK306
                clear BK310
                clear BK318
                clear HB
                have BK300 := n0_
                have BK301 := n1_
                have BK306 := n2_
                have BK310 := n3_
                have BK318 := n4_
                have HB := n5_
                clear n0_ n1_ n2_ n3_ n4_ n5_
                (try clear hb)
                (try clear hb2)
                (try clear hk)
                (try clear hi)
                refine hK.out _ _ ⟨(blk_cell BK300.out 0).trans rfl, (blk_cell BK300.out 1).trans rfl, (blk_cell BK301.out 0).trans rfl, (blk_cell BK301.out 1).trans rfl⟩ (fun hHeld => ?_)
                clear hK K
                refine norm_ (a' := ?_) ?_ ?_
                rotate_left
                · show Act.put _ (some 31) _ = _
                  simp only [Act.put, List.setIfInBounds_toArray, List.set_cons_zero, List.set_cons_succ, i64_w, i32_w]
                  rfl
                refine one_ (i := 3) (N := some 33) #[true, true, true, true, false, false, false, false, true, false, false] rfl rfl (one_of HT_.out (by kernel_rfl)) (by decide) (fun K hK => ?_)
                refine goes_ Try.func14 (by kernel_rfl) rfl #[.agg #[.int .u64 a1_0, .int .u64 a1_1]] (by rfl) rfl rfl (by (try simp only [List.map_toArray, List.map_cons, List.map_nil]); first | done | rfl | (simp only [List.length_drop, List.length_take]; rfl)) ?_
                with_reducible refine (overfalllaw01_own.calls a1_0 a1_1 t313 t314 _ A8.out).mono ?_
                rintro e w43 ⟨rfl, hb⟩
                refine ⟨_, rfl, ?_⟩
                have n0_ := Aside0.mk (blk_below (g := gb300) (o := .cells #[.int .u64 a0_0, .int .u64 a0_1] 25 (0, 0)) (by exact BK300.out) hb)
                have n1_ := Aside0.mk (blk_below (g := gb301) (o := .cells #[.int .u64 a1_0, .int .u64 a1_1] 25 (0, 0)) (by exact BK301.out) hb)
                have n2_ := Aside0.mk (blk_below (g := gb306) (o := .cells #[.int .u64 t303, .int .u64 t304] 25 (0, 0)) (by exact BK306.out) hb)
                have n3_ := Aside0.mk (blk_below (g := gb310) (o := .cells #[.int .u64 t307, .int .u64 t308] 25 (0, 0)) (by exact BK310.out) hb)
                have n4_ := Aside0.mk (blk_below (g := gb318) (o := .cells #[.int .u64 0, .int .u64 0] 29 (0, 0)) (by exact BK318.out) hb)
                have n5_ := Aside0.mk (below_step (by repeat (first | (with_reducible first | exact HB.out | apply below_alloc | apply pw_below_drewN | apply below_drew1 | refine below_set ?_ GE300.out | refine below_set ?_ GE301.out | refine below_set ?_ GE306.out | refine below_set ?_ GE310.out | refine below_set ?_ GE318.out) | exact HB.out)) hb)
                clear BK300
                clear BK301
                clear BK306
                clear BK310
                clear BK318
                clear HB
                have BK300 := n0_
                have BK301 := n1_
                have BK306 := n2_
                have BK310 := n3_
                have BK318 := n4_
                have HB := n5_
                clear n0_ n1_ n2_ n3_ n4_ n5_
                (try clear hb)
                (try clear hb2)
                (try clear hk)
                (try clear hi)
                refine hK.out _ _ ⟨(blk_cell BK300.out 0).trans rfl, (blk_cell BK300.out 1).trans rfl, (blk_cell BK301.out 0).trans rfl, (blk_cell BK301.out 1).trans rfl⟩ (fun hHeld => ?_)
                clear hK K
                refine norm_ (a' := ?_) ?_ ?_
                rotate_left
                · show Act.put _ (some 33) _ = _
                  simp only [Act.put, List.setIfInBounds_toArray, List.set_cons_zero, List.set_cons_succ, i64_w, i32_w]
                  rfl
                refine one_ (i := 4) (N := some 34) #[true, true, true, true, true, false, false, false, true, false, false] rfl rfl (one_of HT_.out (by kernel_rfl)) (by decide) (fun K hK => ?_)
                refine goes_ Try.func24 (by kernel_rfl) rfl #[.agg #[.int .u64 t311, .int .u64 t312], .agg #[.int .u64 t313, .int .u64 t314]] (by rfl) rfl rfl (by (try simp only [List.map_toArray, List.map_cons, List.map_nil]); first | done | rfl | (simp only [List.length_drop, List.length_take]; rfl)) ?_
                with_reducible refine (overfallref01_Add.calls k t311 t312 t313 t314 t315 t316 t317 _ A9.out).mono ?_
                rintro e w44 ⟨rfl, hb⟩
                refine ⟨_, rfl, ?_⟩
                have n0_ := Aside0.mk (blk_below (g := gb300) (o := .cells #[.int .u64 a0_0, .int .u64 a0_1] 25 (0, 0)) (by exact BK300.out) hb)
                have n1_ := Aside0.mk (blk_below (g := gb301) (o := .cells #[.int .u64 a1_0, .int .u64 a1_1] 25 (0, 0)) (by exact BK301.out) hb)
                have n2_ := Aside0.mk (blk_below (g := gb306) (o := .cells #[.int .u64 t303, .int .u64 t304] 25 (0, 0)) (by exact BK306.out) hb)
                have n3_ := Aside0.mk (blk_below (g := gb310) (o := .cells #[.int .u64 t307, .int .u64 t308] 25 (0, 0)) (by exact BK310.out) hb)
                have n4_ := Aside0.mk (blk_below (g := gb318) (o := .cells #[.int .u64 0, .int .u64 0] 29 (0, 0)) (by exact BK318.out) hb)
                have n5_ := Aside0.mk (below_step (by repeat (first | (with_reducible first | exact HB.out | apply below_alloc | apply pw_below_drewN | apply below_drew1 | refine below_set ?_ GE300.out | refine below_set ?_ GE301.out | refine below_set ?_ GE306.out | refine below_set ?_ GE310.out | refine below_set ?_ GE318.out) | exact HB.out)) hb)
                clear BK300
                clear BK301
                clear BK306
                clear BK310
                clear BK318
                clear HB
                have BK300 := n0_
                have BK301 := n1_
                have BK306 := n2_
                have BK310 := n3_
                have BK318 := n4_
                have HB := n5_
                clear n0_ n1_ n2_ n3_ n4_ n5_
                (try clear hb)
                (try clear hb2)
                (try clear hk)
                (try clear hi)
                refine hK.out _ _ ⟨(blk_cell BK300.out 0).trans rfl, (blk_cell BK300.out 1).trans rfl, (blk_cell BK301.out 0).trans rfl, (blk_cell BK301.out 1).trans rfl⟩ (fun hHeld => ?_)
                clear hK K
                refine norm_ (a' := ?_) ?_ ?_
                rotate_left
                · show Act.put _ (some 34) _ = _
                  simp only [Act.put, List.setIfInBounds_toArray, List.set_cons_zero, List.set_cons_succ, i64_w, i32_w]
                  rfl
                refine pure_ (i := 5) (N := some 29) (v := ?_) (a' := ?_) #[true, true, true, true, true, true, false, false, true, false, false] rfl rfl (any_of HT_.out (by kernel_rfl)) (fun _ _ _ h => h) (Or.inl ⟨by rfl, ?_⟩) ?_ ?_
                rotate_left
                · intro w'
                  go_simp
                  with_reducible rfl
                rotate_left
                · simp only [Act.put, List.setIfInBounds_toArray, List.set_cons_zero, List.set_cons_succ, i64_w, i32_w]
                  rfl
                refine pure_ (i := 6) (N := some 35) (v := ?_) (a' := ?_) #[true, true, true, true, true, true, true, false, true, false, false] rfl rfl (any_of HT_.out (by kernel_rfl)) (fun _ _ _ h => h) (Or.inl ⟨by rfl, ?_⟩) ?_ ?_
                rotate_left
                · intro w'
                  go_simp
                  with_reducible rfl
                rotate_left
                · simp only [Act.put, List.setIfInBounds_toArray, List.set_cons_zero, List.set_cons_succ, i64_w, i32_w]
                  rfl
                refine pure_ (i := 7) (N := some 36) (v := ?_) (a' := ?_) #[true, true, true, true, true, true, true, true, true, false, false] rfl rfl (any_of HT_.out (by kernel_rfl)) (fun _ _ _ h => h) (Or.inl ⟨by rfl, ?_⟩) ?_ ?_
                rotate_left
                · intro w'
                  go_simp
                  with_reducible rfl
                rotate_left
                · simp only [Act.put, List.setIfInBounds_toArray, List.set_cons_zero, List.set_cons_succ, i64_w, i32_w]
                  rfl
                exact norm_ (by simp only [putAll, Act.put, List.setIfInBounds_toArray, List.set_cons_zero, List.set_cons_succ]) (hCont (gb318) _ ⟨hHeld, (by exact BK300.out), (by exact BK301.out), (by exact BK306.out), (by exact BK310.out), (by exact BK318.out), GW318.out, GE318.out, NB300_318.out, NB318_300.out, NB301_318.out, NB318_301.out, NB306_318.out, NB318_306.out, NB310_318.out, NB318_310.out, (by repeat (first | (with_reducible first | exact HB.out | apply below_alloc | apply pw_below_drewN | apply below_drew1 | refine below_set ?_ GE300.out | refine below_set ?_ GE301.out | refine below_set ?_ GE306.out | refine below_set ?_ GE310.out | refine below_set ?_ GE318.out) | exact HB.out))⟩)
            rintro gb318 w45 ⟨hS_, h0_, h1_, h2_, h3_, h4_, h5_, h6_, h7_, h8_, h9_, h10_, h11_, h12_, h13_, h14_, h15_⟩
            have n0_ : Aside0 (w45.heap[gb300]? = some (.cells #[.int .u64 a0_0, .int .u64 a0_1] 25 (0, 0))) := ⟨h0_⟩
            have n1_ : Aside0 (w45.heap[gb301]? = some (.cells #[.int .u64 a1_0, .int .u64 a1_1] 25 (0, 0))) := ⟨h1_⟩
            have n2_ : Aside0 (w45.heap[gb306]? = some (.cells #[.int .u64 t303, .int .u64 t304] 25 (0, 0))) := ⟨h2_⟩
            have n3_ : Aside0 (w45.heap[gb310]? = some (.cells #[.int .u64 t307, .int .u64 t308] 25 (0, 0))) := ⟨h3_⟩
            have n4_ : Aside0 (w45.heap[gb318]? = some (.cells #[.int .u64 0, .int .u64 0] 29 (0, 0))) := ⟨h4_⟩
            have n5_ : Aside0 (w.heap.size ≤ gb318) := ⟨h5_⟩
            have n6_ : Aside0 (w.heap.size ≤ gb318) := ⟨h6_⟩
            have n7_ : Aside0 (gb300 ≠ gb318) := ⟨h7_⟩
            have n8_ : Aside0 (gb318 ≠ gb300) := ⟨h8_⟩
            have n9_ : Aside0 (gb301 ≠ gb318) := ⟨h9_⟩
            have n10_ : Aside0 (gb318 ≠ gb301) := ⟨h10_⟩
            have n11_ : Aside0 (gb306 ≠ gb318) := ⟨h11_⟩
            have n12_ : Aside0 (gb318 ≠ gb306) := ⟨h12_⟩
            have n13_ : Aside0 (gb310 ≠ gb318) := ⟨h13_⟩
            have n14_ : Aside0 (gb318 ≠ gb310) := ⟨h14_⟩
            have n15_ : Aside0 (Below w.heap.size w w45) := ⟨h15_⟩
            clear BK300
            clear BK301
            clear BK306
            clear BK310
            clear HB
            clear h0_ h1_ h2_ h3_ h4_ h5_ h6_ h7_ h8_ h9_ h10_ h11_ h12_ h13_ h14_ h15_
            have BK300 := n0_
            have BK301 := n1_
            have BK306 := n2_
            have BK310 := n3_
            have BK318 := n4_
            have GW318 := n5_
            have GE318 := n6_
            have NB300_318 := n7_
            have NB318_300 := n8_
            have NB301_318 := n9_
            have NB318_301 := n10_
            have NB306_318 := n11_
            have NB318_306 := n12_
            have NB310_318 := n13_
            have NB318_310 := n14_
            have HB := n15_
            clear n0_ n1_ n2_ n3_ n4_ n5_ n6_ n7_ n8_ n9_ n10_ n11_ n12_ n13_ n14_ n15_
            have hHeld : w45.cell? ⟨gb300, 0, none⟩ = some (.int .u64 a0_0) ∧ w45.cell? ⟨gb300, 1, none⟩ = some (.int .u64 a0_1) ∧ w45.cell? ⟨gb301, 0, none⟩ = some (.int .u64 a1_0) ∧ w45.cell? ⟨gb301, 1, none⟩ = some (.int .u64 a1_1) := hS_
            refine norm_ (a' := ?_) ?_ ?_
            rotate_left
            · simp only [putAll, Act.put, List.setIfInBounds_toArray, List.set_cons_zero, List.set_cons_succ]
              rfl
            refine one_ (i := 9) (N := none) #[true, true, true, true, true, true, true, true, true, true, false] rfl rfl (one_of HT_.out (by kernel_rfl)) (by decide) (fun K hK => ?_)
            have hs46 : w45.cell? ⟨gb318, 0, none⟩ = some (.int .u64 0) := (blk_cell BK318.out 0).trans rfl
            have hfs46 := blk_frozen BK318.out 0
            have hns46_0 := NB300_318.out
            have hns46_1 := NB301_318.out
            have hns46_2 := NB306_318.out
            have hns46_3 := NB310_318.out
            have hms46_0 := NB318_300.out
            have hms46_1 := NB318_301.out
            have hms46_2 := NB318_306.out
            have hms46_3 := NB318_310.out
            have hs47 : w45.cell? ⟨gb318, 1, none⟩ = some (.int .u64 0) := (blk_cell BK318.out 1).trans rfl
            have hfs47 := blk_frozen BK318.out 1
            have hns47_0 := NB300_318.out
            have hns47_1 := NB301_318.out
            have hns47_2 := NB306_318.out
            have hns47_3 := NB310_318.out
            have hms47_0 := NB318_300.out
            have hms47_1 := NB318_301.out
            have hms47_2 := NB318_306.out
            have hms47_3 := NB318_310.out
            refine skip_ (w1 := ?_) (by rfl) rfl ?_ ?_
            rotate_left
            · go_simp
              rfl
            refine hK.out _ _ ⟨((cell_far (p := ⟨gb318, _, none⟩) NB300_318.out _).trans (((cell_far (p := ⟨gb318, _, none⟩) NB300_318.out _).trans (hHeld.1)))), ((cell_far (p := ⟨gb318, _, none⟩) NB300_318.out _).trans (((cell_far (p := ⟨gb318, _, none⟩) NB300_318.out _).trans (hHeld.2.1)))), ((cell_far (p := ⟨gb318, _, none⟩) NB301_318.out _).trans (((cell_far (p := ⟨gb318, _, none⟩) NB301_318.out _).trans (hHeld.2.2.1)))), ((cell_far (p := ⟨gb318, _, none⟩) NB301_318.out _).trans (((cell_far (p := ⟨gb318, _, none⟩) NB301_318.out _).trans (hHeld.2.2.2))))⟩ (fun hHeld => ?_)
            clear hK K
            refine pure_ (i := 10) (N := some 10) (v := ?_) (a' := ?_) #[true, true, true, true, true, true, true, true, true, true, true] rfl rfl (any_of HT_.out (by kernel_rfl)) (fun _ _ _ h => h) (Or.inl ⟨by rfl, ?_⟩) ?_ ?_
            rotate_left
            · intro w'
              go_simp
              with_reducible rfl
            rotate_left
            · simp only [Act.put, List.setIfInBounds_toArray, List.set_cons_zero, List.set_cons_succ, i64_w, i32_w]
              rfl
            refine done_ (done_of HT_.out (by kernel_rfl)) ?_
            try go_wp2
            have n0_ : Aside0 (((w45.setCell ⟨gb318, 0, none⟩ (.int .u64 t315)).setCell ⟨gb318, 1, none⟩ (.int .u64 t316)).heap[gb300]? = some (.cells #[.int .u64 a0_0, .int .u64 a0_1] 25 (0, 0))) := ⟨by refine blk_far ?_ NB300_318.out _; refine blk_far ?_ NB300_318.out _; exact BK300.out⟩
            have n1_ : Aside0 (((w45.setCell ⟨gb318, 0, none⟩ (.int .u64 t315)).setCell ⟨gb318, 1, none⟩ (.int .u64 t316)).heap[gb301]? = some (.cells #[.int .u64 a1_0, .int .u64 a1_1] 25 (0, 0))) := ⟨by refine blk_far ?_ NB301_318.out _; refine blk_far ?_ NB301_318.out _; exact BK301.out⟩
            have n2_ : Aside0 (((w45.setCell ⟨gb318, 0, none⟩ (.int .u64 t315)).setCell ⟨gb318, 1, none⟩ (.int .u64 t316)).heap[gb306]? = some (.cells #[.int .u64 t303, .int .u64 t304] 25 (0, 0))) := ⟨by refine blk_far ?_ NB306_318.out _; refine blk_far ?_ NB306_318.out _; exact BK306.out⟩
            have n3_ : Aside0 (((w45.setCell ⟨gb318, 0, none⟩ (.int .u64 t315)).setCell ⟨gb318, 1, none⟩ (.int .u64 t316)).heap[gb310]? = some (.cells #[.int .u64 t307, .int .u64 t308] 25 (0, 0))) := ⟨by refine blk_far ?_ NB310_318.out _; refine blk_far ?_ NB310_318.out _; exact BK310.out⟩
            have n4_ : Aside0 (((w45.setCell ⟨gb318, 0, none⟩ (.int .u64 t315)).setCell ⟨gb318, 1, none⟩ (.int .u64 t316)).heap[gb318]? = some (.cells #[.int .u64 t315, .int .u64 t316] 29 (0, 0))) := ⟨by refine blk_put (cs := #[.int .u64 t315, .int .u64 0]) ?_ 1 _ rfl; refine blk_put (cs := #[.int .u64 0, .int .u64 0]) ?_ 0 _ rfl; exact BK318.out⟩
            have n5_ : Aside0 (Below w.heap.size w ((w45.setCell ⟨gb318, 0, none⟩ (.int .u64 t315)).setCell ⟨gb318, 1, none⟩ (.int .u64 t316))) := ⟨by repeat (first | (with_reducible first | exact HB.out | apply below_alloc | apply pw_below_drewN | apply below_drew1 | refine below_set ?_ GE300.out | refine below_set ?_ GE301.out | refine below_set ?_ GE306.out | refine below_set ?_ GE310.out | refine below_set ?_ GE318.out) | exact HB.out)⟩
            (try clear BK300)
            (try clear BK301)
            (try clear BK306)
            (try clear BK310)
            (try clear BK318)
            (try clear HB)
            generalize ((w45.setCell ⟨gb318, 0, none⟩ (.int .u64 t315)).setCell ⟨gb318, 1, none⟩ (.int .u64 t316)) = w48 at n0_ n1_ n2_ n3_ n4_ n5_ ⊢
            have BK300 := n0_
            have BK301 := n1_
            have BK306 := n2_
            have BK310 := n3_
            have BK318 := n4_
            have HB := n5_
            clear n0_ n1_ n2_ n3_ n4_ n5_
            have n0_ := Aside0.mk (blk_drew BK300.out)
            have n1_ := Aside0.mk (blk_drew BK301.out)
            have n2_ := Aside0.mk (blk_drew BK306.out)
            have n3_ := Aside0.mk (blk_drew BK310.out)
            have n4_ := Aside0.mk (blk_drew BK318.out)
            have n5_ := Aside0.mk (below_drew1 HB.out)
            clear BK300
            clear BK301
            clear BK306
            clear BK310
            clear BK318
            clear HB
            have BK300 := n0_
            have BK301 := n1_
            have BK306 := n2_
            have BK310 := n3_
            have BK318 := n4_
            have HB := n5_
            clear n0_ n1_ n2_ n3_ n4_ n5_
            refine start_ (n := 11) (S := fun w' => w'.cell? ⟨gb300, 0, none⟩ = some (.int .u64 a0_0) ∧ w'.cell? ⟨gb300, 1, none⟩ = some (.int .u64 a0_1) ∧ w'.cell? ⟨gb301, 0, none⟩ = some (.int .u64 a1_0) ∧ w'.cell? ⟨gb301, 1, none⟩ = some (.int .u64 a1_1)) (ds := []) #[false, false, false, false, false, false, false, false, false, false, false] (by kernel_rfl) rfl rfl ⟨(blk_cell BK300.out 0).trans rfl, (blk_cell BK300.out 1).trans rfl, (blk_cell BK301.out 0).trans rfl, (blk_cell BK301.out 1).trans rfl⟩ (fun hHeld => ?_); refine with_tabW overfalllaw01_WideAdds.tab6 overfalllaw01_WideAdds.bits6 (fun HT_ HW_ => ?_)
            generalize w48.drew = w49 at BK300 BK301 BK306 BK310 BK318 HB hHeld ⊢
            refine take_ (i := 0) (N := some 38) (v := ?_) (a' := ?_) #[true, false, false, false, false, false, false, false, false, false, false] rfl rfl (take_ofW HT_.out HW_.out (by kernel_rfl)) (fun _ _ _ h => h) (Or.inl ⟨by rfl, ?_⟩) hHeld ?_ ?_
            rotate_left
            · rintro w' ⟨s0, s1, s2, s3⟩
              go_simp
              with_reducible rfl
            rotate_left
            · simp only [Act.put, List.setIfInBounds_toArray, List.set_cons_zero, List.set_cons_succ, i64_w, i32_w]
              rfl
            refine take_ (i := 2) (N := some 40) (v := ?_) (a' := ?_) #[true, false, true, false, false, false, false, false, false, false, false] rfl rfl (take_ofW HT_.out HW_.out (by kernel_rfl)) (fun _ _ _ h => h) (Or.inl ⟨by rfl, ?_⟩) hHeld ?_ ?_
            rotate_left
            · rintro w' ⟨s0, s1, s2, s3⟩
              go_simp
              with_reducible rfl
            rotate_left
            · simp only [Act.put, List.setIfInBounds_toArray, List.set_cons_zero, List.set_cons_succ, i64_w, i32_w]
              rfl
            refine join_ (σ := Nat) 2 #[true, true, true, true, true, true, true, true, true, false, false] (fun s_ => [(39, .agg #[.int .u64 t319, .int .u64 t320]), (41, .agg #[.int .u64 t321, .int .u64 t322]), (42, .tuple #[.agg #[.int .u64 t323, .int .u64 t324], .bool t325]), (11, .pointer (some ⟨s_, 0, none⟩)), (37, .tuple #[.agg #[.int .u64 t323, .int .u64 t324], .bool t325]), (43, .agg #[.int .u64 t323, .int .u64 t324]), (44, .bool t325)]) (fun s_ w' => (w'.cell? ⟨gb300, 0, none⟩ = some (.int .u64 a0_0) ∧ w'.cell? ⟨gb300, 1, none⟩ = some (.int .u64 a0_1) ∧ w'.cell? ⟨gb301, 0, none⟩ = some (.int .u64 a1_0) ∧ w'.cell? ⟨gb301, 1, none⟩ = some (.int .u64 a1_1)) ∧ (w'.heap[gb300]? = some (.cells #[.int .u64 a0_0, .int .u64 a0_1] 25 (0, 0))) ∧ (w'.heap[gb301]? = some (.cells #[.int .u64 a1_0, .int .u64 a1_1] 25 (0, 0))) ∧ (w'.heap[gb306]? = some (.cells #[.int .u64 t303, .int .u64 t304] 25 (0, 0))) ∧ (w'.heap[gb310]? = some (.cells #[.int .u64 t307, .int .u64 t308] 25 (0, 0))) ∧ (w'.heap[gb318]? = some (.cells #[.int .u64 t315, .int .u64 t316] 29 (0, 0))) ∧ (w'.heap[s_]? = some (.cells #[.int .u64 0, .int .u64 0] 29 (0, 0))) ∧ (w.heap.size ≤ s_) ∧ (w.heap.size ≤ s_) ∧ (gb300 ≠ s_) ∧ (s_ ≠ gb300) ∧ (gb301 ≠ s_) ∧ (s_ ≠ gb301) ∧ (gb306 ≠ s_) ∧ (s_ ≠ gb306) ∧ (gb310 ≠ s_) ∧ (s_ ≠ gb310) ∧ (gb318 ≠ s_) ∧ (s_ ≠ gb318) ∧ (Below w.heap.size w w')) ?_ ?_
            rotate_left
            · intro hCont
              refine two_ (i := 1) (j := 8) (Ni := some 39) (Nj := some 11) #[true, true, true, false, false, false, false, false, false, false, false] #[true, false, true, false, false, false, false, false, true, false, false] rfl rfl rfl rfl (two_of HT_.out (by kernel_rfl)) (by decide) (by decide) (fun K hK => ?_) (fun K hK => ?_)
              · skip
                refine goes_ Try.func14 (by kernel_rfl) rfl #[.agg #[.int .u64 a0_0, .int .u64 a0_1]] (by rfl) rfl rfl (by (try simp only [List.map_toArray, List.map_cons, List.map_nil]); first | done | rfl | (simp only [List.length_drop, List.length_take]; rfl)) ?_
                with_reducible refine (overfalllaw01_own.calls a0_0 a0_1 t319 t320 _ A10.out).mono ?_
                rintro e w50 ⟨rfl, hb⟩
                refine ⟨_, rfl, ?_⟩
                have n0_ := Aside0.mk (blk_below (g := gb300) (o := .cells #[.int .u64 a0_0, .int .u64 a0_1] 25 (0, 0)) (by exact BK300.out) hb)
                have n1_ := Aside0.mk (blk_below (g := gb301) (o := .cells #[.int .u64 a1_0, .int .u64 a1_1] 25 (0, 0)) (by exact BK301.out) hb)
                have n2_ := Aside0.mk (blk_below (g := gb306) (o := .cells #[.int .u64 t303, .int .u64 t304] 25 (0, 0)) (by exact BK306.out) hb)
                have n3_ := Aside0.mk (blk_below (g := gb310) (o := .cells #[.int .u64 t307, .int .u64 t308] 25 (0, 0)) (by exact BK310.out) hb)
                have n4_ := Aside0.mk (blk_below (g := gb318) (o := .cells #[.int .u64 t315, .int .u64 t316] 29 (0, 0)) (by exact BK318.out) hb)
                have n5_ := Aside0.mk (below_step (by repeat (first | (with_reducible first | exact HB.out | apply below_alloc | apply pw_below_drewN | apply below_drew1 | refine below_set ?_ GE300.out | refine below_set ?_ GE301.out | refine below_set ?_ GE306.out | refine below_set ?_ GE310.out | refine below_set ?_ GE318.out) | exact HB.out)) hb)
                clear BK300
                clear BK301
                clear BK306
                clear BK310
                clear BK318
                clear HB
                have BK300 := n0_
                have BK301 := n1_
                have BK306 := n2_
                have BK310 := n3_
                have BK318 := n4_
                have HB := n5_
                clear n0_ n1_ n2_ n3_ n4_ n5_
                (try clear hb)
                (try clear hb2)
                (try clear hk)
                (try clear hi)
                refine hK.out _ _ ⟨(blk_cell BK300.out 0).trans rfl, (blk_cell BK300.out 1).trans rfl, (blk_cell BK301.out 0).trans rfl, (blk_cell BK301.out 1).trans rfl⟩ (fun hHeld => ?_)
                clear hK K
                refine norm_ (a' := ?_) ?_ ?_
                rotate_left
                · show Act.put _ (some 39) _ = _
                  simp only [Act.put, List.setIfInBounds_toArray, List.set_cons_zero, List.set_cons_succ, i64_w, i32_w]
                  rfl
                refine two_ (i := 3) (j := 8) (Ni := some 41) (Nj := some 11) #[true, true, true, true, false, false, false, false, false, false, false] #[true, true, true, false, false, false, false, false, true, false, false] rfl rfl rfl rfl (two_of HT_.out (by kernel_rfl)) (by decide) (by decide) (fun K hK => ?_) (fun K hK => ?_)
                · skip
                  refine goes_ Try.func14 (by kernel_rfl) rfl #[.agg #[.int .u64 a1_0, .int .u64 a1_1]] (by rfl) rfl rfl (by (try simp only [List.map_toArray, List.map_cons, List.map_nil]); first | done | rfl | (simp only [List.length_drop, List.length_take]; rfl)) ?_
                  with_reducible refine (overfalllaw01_own.calls a1_0 a1_1 t321 t322 _ A11.out).mono ?_
                  rintro e w51 ⟨rfl, hb⟩
                  refine ⟨_, rfl, ?_⟩
                  have n0_ := Aside0.mk (blk_below (g := gb300) (o := .cells #[.int .u64 a0_0, .int .u64 a0_1] 25 (0, 0)) (by exact BK300.out) hb)
                  have n1_ := Aside0.mk (blk_below (g := gb301) (o := .cells #[.int .u64 a1_0, .int .u64 a1_1] 25 (0, 0)) (by exact BK301.out) hb)
                  have n2_ := Aside0.mk (blk_below (g := gb306) (o := .cells #[.int .u64 t303, .int .u64 t304] 25 (0, 0)) (by exact BK306.out) hb)
                  have n3_ := Aside0.mk (blk_below (g := gb310) (o := .cells #[.int .u64 t307, .int .u64 t308] 25 (0, 0)) (by exact BK310.out) hb)
                  have n4_ := Aside0.mk (blk_below (g := gb318) (o := .cells #[.int .u64 t315, .int .u64 t316] 29 (0, 0)) (by exact BK318.out) hb)
                  have n5_ := Aside0.mk (below_step (by repeat (first | (with_reducible first | exact HB.out | apply below_alloc | apply pw_below_drewN | apply below_drew1 | refine below_set ?_ GE300.out | refine below_set ?_ GE301.out | refine below_set ?_ GE306.out | refine below_set ?_ GE310.out | refine below_set ?_ GE318.out) | exact HB.out)) hb)
                  clear BK300
                  clear BK301
                  clear BK306
                  clear BK310
                  clear BK318
                  clear HB
                  have BK300 := n0_
                  have BK301 := n1_
                  have BK306 := n2_
                  have BK310 := n3_
                  have BK318 := n4_
                  have HB := n5_
                  clear n0_ n1_ n2_ n3_ n4_ n5_
                  (try clear hb)
                  (try clear hb2)
                  (try clear hk)
                  (try clear hi)
                  refine hK.out _ _ ⟨(blk_cell BK300.out 0).trans rfl, (blk_cell BK300.out 1).trans rfl, (blk_cell BK301.out 0).trans rfl, (blk_cell BK301.out 1).trans rfl⟩ (fun hHeld => ?_)
                  clear hK K
                  refine norm_ (a' := ?_) ?_ ?_
                  rotate_left
                  · show Act.put _ (some 41) _ = _
                    simp only [Act.put, List.setIfInBounds_toArray, List.set_cons_zero, List.set_cons_succ, i64_w, i32_w]
                    rfl
                  refine two_ (i := 4) (j := 8) (Ni := some 42) (Nj := some 11) #[true, true, true, true, true, false, false, false, false, false, false] #[true, true, true, true, false, false, false, false, true, false, false] rfl rfl rfl rfl (two_of HT_.out (by kernel_rfl)) (by decide) (by decide) (fun K hK => ?_) (fun K hK => ?_)
                  · skip
                    refine goes_ Try.func25 (by kernel_rfl) rfl #[.agg #[.int .u64 t319, .int .u64 t320], .agg #[.int .u64 t321, .int .u64 t322]] (by rfl) rfl rfl (by (try simp only [List.map_toArray, List.map_cons, List.map_nil]); first | done | rfl | (simp only [List.length_drop, List.length_take]; rfl)) ?_
                    with_reducible refine (overfallref01_Sub.calls k t319 t320 t321 t322 t323 t324 t325 _ A12.out).mono ?_
                    rintro e w52 ⟨rfl, hb⟩
                    refine ⟨_, rfl, ?_⟩
                    have n0_ := Aside0.mk (blk_below (g := gb300) (o := .cells #[.int .u64 a0_0, .int .u64 a0_1] 25 (0, 0)) (by exact BK300.out) hb)
                    have n1_ := Aside0.mk (blk_below (g := gb301) (o := .cells #[.int .u64 a1_0, .int .u64 a1_1] 25 (0, 0)) (by exact BK301.out) hb)
                    have n2_ := Aside0.mk (blk_below (g := gb306) (o := .cells #[.int .u64 t303, .int .u64 t304] 25 (0, 0)) (by exact BK306.out) hb)
                    have n3_ := Aside0.mk (blk_below (g := gb310) (o := .cells #[.int .u64 t307, .int .u64 t308] 25 (0, 0)) (by exact BK310.out) hb)
                    have n4_ := Aside0.mk (blk_below (g := gb318) (o := .cells #[.int .u64 t315, .int .u64 t316] 29 (0, 0)) (by exact BK318.out) hb)
                    have n5_ := Aside0.mk (below_step (by repeat (first | (with_reducible first | exact HB.out | apply below_alloc | apply pw_below_drewN | apply below_drew1 | refine below_set ?_ GE300.out | refine below_set ?_ GE301.out | refine below_set ?_ GE306.out | refine below_set ?_ GE310.out | refine below_set ?_ GE318.out) | exact HB.out)) hb)
                    clear BK300
                    clear BK301
                    clear BK306
                    clear BK310
                    clear BK318
                    clear HB
                    have BK300 := n0_
                    have BK301 := n1_
                    have BK306 := n2_
                    have BK310 := n3_
                    have BK318 := n4_
                    have HB := n5_
                    clear n0_ n1_ n2_ n3_ n4_ n5_
                    (try clear hb)
                    (try clear hb2)
                    (try clear hk)
                    (try clear hi)
                    refine hK.out _ _ ⟨(blk_cell BK300.out 0).trans rfl, (blk_cell BK300.out 1).trans rfl, (blk_cell BK301.out 0).trans rfl, (blk_cell BK301.out 1).trans rfl⟩ (fun hHeld => ?_)
                    clear hK K
                    refine norm_ (a' := ?_) ?_ ?_
                    rotate_left
                    · show Act.put _ (some 42) _ = _
                      simp only [Act.put, List.setIfInBounds_toArray, List.set_cons_zero, List.set_cons_succ, i64_w, i32_w]
                      rfl
                    refine pure_ (i := 5) (N := some 37) (v := ?_) (a' := ?_) #[true, true, true, true, true, true, false, false, false, false, false] rfl rfl (any_of HT_.out (by kernel_rfl)) (fun _ _ _ h => h) (Or.inl ⟨by rfl, ?_⟩) ?_ ?_
                    rotate_left
                    · intro w'
                      go_simp
                      with_reducible rfl
                    rotate_left
                    · simp only [Act.put, List.setIfInBounds_toArray, List.set_cons_zero, List.set_cons_succ, i64_w, i32_w]
                      rfl
                    refine pure_ (i := 6) (N := some 43) (v := ?_) (a' := ?_) #[true, true, true, true, true, true, true, false, false, false, false] rfl rfl (any_of HT_.out (by kernel_rfl)) (fun _ _ _ h => h) (Or.inl ⟨by rfl, ?_⟩) ?_ ?_
                    rotate_left
                    · intro w'
                      go_simp
                      with_reducible rfl
                    rotate_left
                    · simp only [Act.put, List.setIfInBounds_toArray, List.set_cons_zero, List.set_cons_succ, i64_w, i32_w]
                      rfl
                    refine pure_ (i := 7) (N := some 44) (v := ?_) (a' := ?_) #[true, true, true, true, true, true, true, true, false, false, false] rfl rfl (any_of HT_.out (by kernel_rfl)) (fun _ _ _ h => h) (Or.inl ⟨by rfl, ?_⟩) ?_ ?_
                    rotate_left
                    · intro w'
                      go_simp
                      with_reducible rfl
                    rotate_left
                    · simp only [Act.put, List.setIfInBounds_toArray, List.set_cons_zero, List.set_cons_succ, i64_w, i32_w]
                      rfl
                    refine one_ (i := 8) (N := some 11) #[true, true, true, true, true, true, true, true, true, false, false] rfl rfl (one_of HT_.out (by kernel_rfl)) (by decide) (fun K hK => ?_)
                    refine box_step ?hg (N := 11) ?hd (cs := #[.int .u64 0, .int .u64 0]) (t := 29) ?hr ?_; (case hd => rfl); (case hg => rfl); (case hr => first | (go_simp; done) | (go_simp; rfl))
                    intro gb326 hg w53 hbox hb
                    have n0_ := Aside0.mk (blk_below (g := gb300) (o := .cells #[.int .u64 a0_0, .int .u64 a0_1] 25 (0, 0)) (by exact BK300.out) hb)
                    have n1_ := Aside0.mk (blk_below (g := gb301) (o := .cells #[.int .u64 a1_0, .int .u64 a1_1] 25 (0, 0)) (by exact BK301.out) hb)
                    have n2_ := Aside0.mk (blk_below (g := gb306) (o := .cells #[.int .u64 t303, .int .u64 t304] 25 (0, 0)) (by exact BK306.out) hb)
                    have n3_ := Aside0.mk (blk_below (g := gb310) (o := .cells #[.int .u64 t307, .int .u64 t308] 25 (0, 0)) (by exact BK310.out) hb)
                    have n4_ := Aside0.mk (blk_below (g := gb318) (o := .cells #[.int .u64 t315, .int .u64 t316] 29 (0, 0)) (by exact BK318.out) hb)
                    have n5_ := Aside0.mk (below_step (by repeat (first | (with_reducible first | exact HB.out | apply below_alloc | apply pw_below_drewN | apply below_drew1 | refine below_set ?_ GE300.out | refine below_set ?_ GE301.out | refine below_set ?_ GE306.out | refine below_set ?_ GE310.out | refine below_set ?_ GE318.out) | exact HB.out)) hb)
                    have n6_ := Aside0.mk (hbox)
                    have n7_ := Aside0.mk ((by rw [hg]; exact (below_size (by repeat (first | (with_reducible first | exact HB.out | apply below_alloc | apply pw_below_drewN | apply below_drew1 | refine below_set ?_ GE300.out | refine below_set ?_ GE301.out | refine below_set ?_ GE306.out | refine below_set ?_ GE310.out | refine below_set ?_ GE318.out) | exact HB.out))) : w.heap.size ≤ gb326))
                    have n8_ := Aside0.mk ((by rw [hg]; exact (below_size (by repeat (first | (with_reducible first | exact HB.out | apply below_alloc | apply pw_below_drewN | apply below_drew1 | refine below_set ?_ GE300.out | refine below_set ?_ GE301.out | refine below_set ?_ GE306.out | refine below_set ?_ GE310.out | refine below_set ?_ GE318.out) | exact HB.out))) : w.heap.size ≤ gb326))
                    have n9_ := Aside0.mk ((by rw [hg]; exact Nat.ne_of_lt (blk_lt (g := gb300) (o := .cells #[.int .u64 a0_0, .int .u64 a0_1] 25 (0, 0)) (by exact BK300.out)) : gb300 ≠ gb326))
                    have n10_ := Aside0.mk ((by rw [hg]; exact Nat.ne_of_gt (blk_lt (g := gb300) (o := .cells #[.int .u64 a0_0, .int .u64 a0_1] 25 (0, 0)) (by exact BK300.out)) : gb326 ≠ gb300))
                    have n11_ := Aside0.mk ((by rw [hg]; exact Nat.ne_of_lt (blk_lt (g := gb301) (o := .cells #[.int .u64 a1_0, .int .u64 a1_1] 25 (0, 0)) (by exact BK301.out)) : gb301 ≠ gb326))
                    have n12_ := Aside0.mk ((by rw [hg]; exact Nat.ne_of_gt (blk_lt (g := gb301) (o := .cells #[.int .u64 a1_0, .int .u64 a1_1] 25 (0, 0)) (by exact BK301.out)) : gb326 ≠ gb301))
                    have n13_ := Aside0.mk ((by rw [hg]; exact Nat.ne_of_lt (blk_lt (g := gb306) (o := .cells #[.int .u64 t303, .int .u64 t304] 25 (0, 0)) (by exact BK306.out)) : gb306 ≠ gb326))
                    have n14_ := Aside0.mk ((by rw [hg]; exact Nat.ne_of_gt (blk_lt (g := gb306) (o := .cells #[.int .u64 t303, .int .u64 t304] 25 (0, 0)) (by exact BK306.out)) : gb326 ≠ gb306))
                    have n15_ := Aside0.mk ((by rw [hg]; exact Nat.ne_of_lt (blk_lt (g := gb310) (o := .cells #[.int .u64 t307, .int .u64 t308] 25 (0, 0)) (by exact BK310.out)) : gb310 ≠ gb326))
                    have n16_ := Aside0.mk ((by rw [hg]; exact Nat.ne_of_gt (blk_lt (g := gb310) (o := .cells #[.int .u64 t307, .int .u64 t308] 25 (0, 0)) (by exact BK310.out)) : gb326 ≠ gb310))
                    have n17_ := Aside0.mk ((by rw [hg]; exact Nat.ne_of_lt (blk_lt (g := gb318) (o := .cells #[.int .u64 t315, .int .u64 t316] 29 (0, 0)) (by exact BK318.out)) : gb318 ≠ gb326))
                    have n18_ := Aside0.mk ((by rw [hg]; exact Nat.ne_of_gt (blk_lt (g := gb318) (o := .cells #[.int .u64 t315, .int .u64 t316] 29 (0, 0)) (by exact BK318.out)) : gb326 ≠ gb318))
                    clear BK300
                    clear BK301
                    clear BK306
                    clear BK310
                    clear BK318
                    clear HB
                    have BK300 := n0_
                    have BK301 := n1_
                    have BK306 := n2_
                    have BK310 := n3_
                    have BK318 := n4_
                    have HB := n5_
                    have BK326 := n6_
                    have GW326 := n7_
                    have GE326 := n8_
                    have NB300_326 := n9_
                    have NB326_300 := n10_
                    have NB301_326 := n11_
                    have NB326_301 := n12_
                    have NB306_326 := n13_
                    have NB326_306 := n14_
                    have NB310_326 := n15_
                    have NB326_310 := n16_
                    have NB318_326 := n17_
                    have NB326_318 := n18_
                    clear n0_ n1_ n2_ n3_ n4_ n5_ n6_ n7_ n8_ n9_ n10_ n11_ n12_ n13_ n14_ n15_ n16_ n17_ n18_
                    clear hb hbox hg
                    refine hK.out _ _ ⟨(blk_cell BK300.out 0).trans rfl, (blk_cell BK300.out 1).trans rfl, (blk_cell BK301.out 0).trans rfl, (blk_cell BK301.out 1).trans rfl⟩ (fun hHeld => ?_)
                    clear hK K
                    refine norm_ (a' := ?_) ?_ ?_
                    rotate_left
                    · show Act.put _ (some 11) _ = _
                      simp only [Act.put, List.setIfInBounds_toArray, List.set_cons_zero, List.set_cons_succ, i64_w, i32_w]
                      rfl
                    exact norm_ (by simp only [putAll, Act.put, List.setIfInBounds_toArray, List.set_cons_zero, List.set_cons_succ]) (hCont (gb326) _ ⟨hHeld, (by exact BK300.out), (by exact BK301.out), (by exact BK306.out), (by exact BK310.out), (by exact BK318.out), (by exact BK326.out), GW326.out, GE326.out, NB300_326.out, NB326_300.out, NB301_326.out, NB326_301.out, NB306_326.out, NB326_306.out, NB310_326.out, NB326_310.out, NB318_326.out, NB326_318.out, (by repeat (first | (with_reducible first | exact HB.out | apply below_alloc | apply pw_below_drewN | apply below_drew1 | refine below_set ?_ GE300.out | refine below_set ?_ GE301.out | refine below_set ?_ GE306.out | refine below_set ?_ GE310.out | refine below_set ?_ GE318.out | refine below_set ?_ GE326.out) | exact HB.out))⟩)
                  · skip
                    refine box_step ?hg (N := 11) ?hd (cs := #[.int .u64 0, .int .u64 0]) (t := 29) ?hr ?_; (case hd => rfl); (case hg => rfl); (case hr => first | (go_simp; done) | (go_simp; rfl))
                    intro gb326 hg w52 hbox hb
                    have n0_ := Aside0.mk (blk_below (g := gb300) (o := .cells #[.int .u64 a0_0, .int .u64 a0_1] 25 (0, 0)) (by exact BK300.out) hb)
                    have n1_ := Aside0.mk (blk_below (g := gb301) (o := .cells #[.int .u64 a1_0, .int .u64 a1_1] 25 (0, 0)) (by exact BK301.out) hb)
                    have n2_ := Aside0.mk (blk_below (g := gb306) (o := .cells #[.int .u64 t303, .int .u64 t304] 25 (0, 0)) (by exact BK306.out) hb)
                    have n3_ := Aside0.mk (blk_below (g := gb310) (o := .cells #[.int .u64 t307, .int .u64 t308] 25 (0, 0)) (by exact BK310.out) hb)
                    have n4_ := Aside0.mk (blk_below (g := gb318) (o := .cells #[.int .u64 t315, .int .u64 t316] 29 (0, 0)) (by exact BK318.out) hb)
                    have n5_ := Aside0.mk (below_step (by repeat (first | (with_reducible first | exact HB.out | apply below_alloc | apply pw_below_drewN | apply below_drew1 | refine below_set ?_ GE300.out | refine below_set ?_ GE301.out | refine below_set ?_ GE306.out | refine below_set ?_ GE310.out | refine below_set ?_ GE318.out) | exact HB.out)) hb)
                    have n6_ := Aside0.mk (hbox)
                    have n7_ := Aside0.mk ((by rw [hg]; exact (below_size (by repeat (first | (with_reducible first | exact HB.out | apply below_alloc | apply pw_below_drewN | apply below_drew1 | refine below_set ?_ GE300.out | refine below_set ?_ GE301.out | refine below_set ?_ GE306.out | refine below_set ?_ GE310.out | refine below_set ?_ GE318.out) | exact HB.out))) : w.heap.size ≤ gb326))
                    have n8_ := Aside0.mk ((by rw [hg]; exact (below_size (by repeat (first | (with_reducible first | exact HB.out | apply below_alloc | apply pw_below_drewN | apply below_drew1 | refine below_set ?_ GE300.out | refine below_set ?_ GE301.out | refine below_set ?_ GE306.out | refine below_set ?_ GE310.out | refine below_set ?_ GE318.out) | exact HB.out))) : w.heap.size ≤ gb326))
                    have n9_ := Aside0.mk ((by rw [hg]; exact Nat.ne_of_lt (blk_lt (g := gb300) (o := .cells #[.int .u64 a0_0, .int .u64 a0_1] 25 (0, 0)) (by exact BK300.out)) : gb300 ≠ gb326))
                    have n10_ := Aside0.mk ((by rw [hg]; exact Nat.ne_of_gt (blk_lt (g := gb300) (o := .cells #[.int .u64 a0_0, .int .u64 a0_1] 25 (0, 0)) (by exact BK300.out)) : gb326 ≠ gb300))
                    have n11_ := Aside0.mk ((by rw [hg]; exact Nat.ne_of_lt (blk_lt (g := gb301) (o := .cells #[.int .u64 a1_0, .int .u64 a1_1] 25 (0, 0)) (by exact BK301.out)) : gb301 ≠ gb326))
                    have n12_ := Aside0.mk ((by rw [hg]; exact Nat.ne_of_gt (blk_lt (g := gb301) (o := .cells #[.int .u64 a1_0, .int .u64 a1_1] 25 (0, 0)) (by exact BK301.out)) : gb326 ≠ gb301))
                    have n13_ := Aside0.mk ((by rw [hg]; exact Nat.ne_of_lt (blk_lt (g := gb306) (o := .cells #[.int .u64 t303, .int .u64 t304] 25 (0, 0)) (by exact BK306.out)) : gb306 ≠ gb326))
                    have n14_ := Aside0.mk ((by rw [hg]; exact Nat.ne_of_gt (blk_lt (g := gb306) (o := .cells #[.int .u64 t303, .int .u64 t304] 25 (0, 0)) (by exact BK306.out)) : gb326 ≠ gb306))
                    have n15_ := Aside0.mk ((by rw [hg]; exact Nat.ne_of_lt (blk_lt (g := gb310) (o := .cells #[.int .u64 t307, .int .u64 t308] 25 (0, 0)) (by exact BK310.out)) : gb310 ≠ gb326))
                    have n16_ := Aside0.mk ((by rw [hg]; exact Nat.ne_of_gt (blk_lt (g := gb310) (o := .cells #[.int .u64 t307, .int .u64 t308] 25 (0, 0)) (by exact BK310.out)) : gb326 ≠ gb310))
                    have n17_ := Aside0.mk ((by rw [hg]; exact Nat.ne_of_lt (blk_lt (g := gb318) (o := .cells #[.int .u64 t315, .int .u64 t316] 29 (0, 0)) (by exact BK318.out)) : gb318 ≠ gb326))
                    have n18_ := Aside0.mk ((by rw [hg]; exact Nat.ne_of_gt (blk_lt (g := gb318) (o := .cells #[.int .u64 t315, .int .u64 t316] 29 (0, 0)) (by exact BK318.out)) : gb326 ≠ gb318))
                    clear BK300
                    clear BK301
                    clear BK306
                    clear BK310
                    clear BK318
                    clear HB
                    have BK300 := n0_
                    have BK301 := n1_
                    have BK306 := n2_
                    have BK310 := n3_
                    have BK318 := n4_
                    have HB := n5_
                    have BK326 := n6_
                    have GW326 := n7_
                    have GE326 := n8_
                    have NB300_326 := n9_
                    have NB326_300 := n10_
                    have NB301_326 := n11_
                    have NB326_301 := n12_
                    have NB306_326 := n13_
                    have NB326_306 := n14_
                    have NB310_326 := n15_
                    have NB326_310 := n16_
                    have NB318_326 := n17_
                    have NB326_318 := n18_
                    clear n0_ n1_ n2_ n3_ n4_ n5_ n6_ n7_ n8_ n9_ n10_ n11_ n12_ n13_ n14_ n15_ n16_ n17_ n18_
                    clear hb hbox hg
                    refine hK.out _ _ ⟨(blk_cell BK300.out 0).trans rfl, (blk_cell BK300.out 1).trans rfl, (blk_cell BK301.out 0).trans rfl, (blk_cell BK301.out 1).trans rfl⟩ (fun hHeld => ?_)
                    clear hK K
                    refine norm_ (a' := ?_) ?_ ?_
                    rotate_left
                    · show Act.put _ (some 11) _ = _
                      simp only [Act.put, List.setIfInBounds_toArray, List.set_cons_zero, List.set_cons_succ, i64_w, i32_w]
                      rfl
                    refine one_ (i := 4) (N := some 42) #[true, true, true, true, true, false, false, false, true, false, false] rfl rfl (one_of HT_.out (by kernel_rfl)) (by decide) (fun K hK => ?_)
                    refine goes_ Try.func25 (by kernel_rfl) rfl #[.agg #[.int .u64 t319, .int .u64 t320], .agg #[.int .u64 t321, .int .u64 t322]] (by rfl) rfl rfl (by (try simp only [List.map_toArray, List.map_cons, List.map_nil]); first | done | rfl | (simp only [List.length_drop, List.length_take]; rfl)) ?_
                    with_reducible refine (overfallref01_Sub.calls k t319 t320 t321 t322 t323 t324 t325 _ A12.out).mono ?_
                    rintro e w53 ⟨rfl, hb⟩
                    refine ⟨_, rfl, ?_⟩
                    have n0_ := Aside0.mk (blk_below (g := gb300) (o := .cells #[.int .u64 a0_0, .int .u64 a0_1] 25 (0, 0)) (by exact BK300.out) hb)
                    have n1_ := Aside0.mk (blk_below (g := gb301) (o := .cells #[.int .u64 a1_0, .int .u64 a1_1] 25 (0, 0)) (by exact BK301.out) hb)
                    have n2_ := Aside0.mk (blk_below (g := gb306) (o := .cells #[.int .u64 t303, .int .u64 t304] 25 (0, 0)) (by exact BK306.out) hb)
                    have n3_ := Aside0.mk (blk_below (g := gb310) (o := .cells #[.int .u64 t307, .int .u64 t308] 25 (0, 0)) (by exact BK310.out) hb)
                    have n4_ := Aside0.mk (blk_below (g := gb318) (o := .cells #[.int .u64 t315, .int .u64 t316] 29 (0, 0)) (by exact BK318.out) hb)
                    have n5_ := Aside0.mk (blk_below (g := gb326) (o := .cells #[.int .u64 0, .int .u64 0] 29 (0, 0)) (by exact BK326.out) hb)
                    have n6_ := Aside0.mk (below_step (by repeat (first | (with_reducible first | exact HB.out | apply below_alloc | apply pw_below_drewN | apply below_drew1 | refine below_set ?_ GE300.out | refine below_set ?_ GE301.out | refine below_set ?_ GE306.out | refine below_set ?_ GE310.out | refine below_set ?_ GE318.out | refine below_set ?_ GE326.out) | exact HB.out)) hb)
                    clear BK300
                    clear BK301
                    clear BK306
                    clear BK310
                    clear BK318
                    clear BK326
                    clear HB
                    have BK300 := n0_
                    have BK301 := n1_
                    have BK306 := n2_
                    have BK310 := n3_
                    have BK318 := n4_
                    have BK326 := n5_
                    have HB := n6_
                    clear n0_ n1_ n2_ n3_ n4_ n5_ n6_
                    (try clear hb)
                    (try clear hb2)
                    (try clear hk)
                    (try clear hi)
                    refine hK.out _ _ ⟨(blk_cell BK300.out 0).trans rfl, (blk_cell BK300.out 1).trans rfl, (blk_cell BK301.out 0).trans rfl, (blk_cell BK301.out 1).trans rfl⟩ (fun hHeld => ?_)
                    clear hK K
                    refine norm_ (a' := ?_) ?_ ?_
                    rotate_left
                    · show Act.put _ (some 42) _ = _
                      simp only [Act.put, List.setIfInBounds_toArray, List.set_cons_zero, List.set_cons_succ, i64_w, i32_w]
                      rfl
                    refine pure_ (i := 5) (N := some 37) (v := ?_) (a' := ?_) #[true, true, true, true, true, true, false, false, true, false, false] rfl rfl (any_of HT_.out (by kernel_rfl)) (fun _ _ _ h => h) (Or.inl ⟨by rfl, ?_⟩) ?_ ?_
                    rotate_left
                    · intro w'
                      go_simp
                      with_reducible rfl
                    rotate_left
                    · simp only [Act.put, List.setIfInBounds_toArray, List.set_cons_zero, List.set_cons_succ, i64_w, i32_w]
                      rfl
                    refine pure_ (i := 6) (N := some 43) (v := ?_) (a' := ?_) #[true, true, true, true, true, true, true, false, true, false, false] rfl rfl (any_of HT_.out (by kernel_rfl)) (fun _ _ _ h => h) (Or.inl ⟨by rfl, ?_⟩) ?_ ?_
                    rotate_left
                    · intro w'
                      go_simp
                      with_reducible rfl
                    rotate_left
                    · simp only [Act.put, List.setIfInBounds_toArray, List.set_cons_zero, List.set_cons_succ, i64_w, i32_w]
                      rfl
                    refine pure_ (i := 7) (N := some 44) (v := ?_) (a' := ?_) #[true, true, true, true, true, true, true, true, true, false, false] rfl rfl (any_of HT_.out (by kernel_rfl)) (fun _ _ _ h => h) (Or.inl ⟨by rfl, ?_⟩) ?_ ?_
                    rotate_left
                    · intro w'
                      go_simp
                      with_reducible rfl
                    rotate_left
                    · simp only [Act.put, List.setIfInBounds_toArray, List.set_cons_zero, List.set_cons_succ, i64_w, i32_w]
                      rfl
                    exact norm_ (by simp only [putAll, Act.put, List.setIfInBounds_toArray, List.set_cons_zero, List.set_cons_succ]) (hCont (gb326) _ ⟨hHeld, (by exact BK300.out), (by exact BK301.out), (by exact BK306.out), (by exact BK310.out), (by exact BK318.out), (by exact BK326.out), GW326.out, GE326.out, NB300_326.out, NB326_300.out, NB301_326.out, NB326_301.out, NB306_326.out, NB326_306.out, NB310_326.out, NB326_310.out, NB318_326.out, NB326_318.out, (by repeat (first | (with_reducible first | exact HB.out | apply below_alloc | apply pw_below_drewN | apply below_drew1 | refine below_set ?_ GE300.out | refine below_set ?_ GE301.out | refine below_set ?_ GE306.out | refine below_set ?_ GE310.out | refine below_set ?_ GE318.out | refine below_set ?_ GE326.out) | exact HB.out))⟩)
                · skip
                  refine box_step ?hg (N := 11) ?hd (cs := #[.int .u64 0, .int .u64 0]) (t := 29) ?hr ?_; (case hd => rfl); (case hg => rfl); (case hr => first | (go_simp; done) | (go_simp; rfl))
                  intro gb326 hg w51 hbox hb
                  have n0_ := Aside0.mk (blk_below (g := gb300) (o := .cells #[.int .u64 a0_0, .int .u64 a0_1] 25 (0, 0)) (by exact BK300.out) hb)
                  have n1_ := Aside0.mk (blk_below (g := gb301) (o := .cells #[.int .u64 a1_0, .int .u64 a1_1] 25 (0, 0)) (by exact BK301.out) hb)
                  have n2_ := Aside0.mk (blk_below (g := gb306) (o := .cells #[.int .u64 t303, .int .u64 t304] 25 (0, 0)) (by exact BK306.out) hb)
                  have n3_ := Aside0.mk (blk_below (g := gb310) (o := .cells #[.int .u64 t307, .int .u64 t308] 25 (0, 0)) (by exact BK310.out) hb)
                  have n4_ := Aside0.mk (blk_below (g := gb318) (o := .cells #[.int .u64 t315, .int .u64 t316] 29 (0, 0)) (by exact BK318.out) hb)
                  have n5_ := Aside0.mk (below_step (by repeat (first | (with_reducible first | exact HB.out | apply below_alloc | apply pw_below_drewN | apply below_drew1 | refine below_set ?_ GE300.out | refine below_set ?_ GE301.out | refine below_set ?_ GE306.out | refine below_set ?_ GE310.out | refine below_set ?_ GE318.out) | exact HB.out)) hb)
                  have n6_ := Aside0.mk (hbox)
                  have n7_ := Aside0.mk ((by rw [hg]; exact (below_size (by repeat (first | (with_reducible first | exact HB.out | apply below_alloc | apply pw_below_drewN | apply below_drew1 | refine below_set ?_ GE300.out | refine below_set ?_ GE301.out | refine below_set ?_ GE306.out | refine below_set ?_ GE310.out | refine below_set ?_ GE318.out) | exact HB.out))) : w.heap.size ≤ gb326))
                  have n8_ := Aside0.mk ((by rw [hg]; exact (below_size (by repeat (first | (with_reducible first | exact HB.out | apply below_alloc | apply pw_below_drewN | apply below_drew1 | refine below_set ?_ GE300.out | refine below_set ?_ GE301.out | refine below_set ?_ GE306.out | refine below_set ?_ GE310.out | refine below_set ?_ GE318.out) | exact HB.out))) : w.heap.size ≤ gb326))
                  have n9_ := Aside0.mk ((by rw [hg]; exact Nat.ne_of_lt (blk_lt (g := gb300) (o := .cells #[.int .u64 a0_0, .int .u64 a0_1] 25 (0, 0)) (by exact BK300.out)) : gb300 ≠ gb326))
                  have n10_ := Aside0.mk ((by rw [hg]; exact Nat.ne_of_gt (blk_lt (g := gb300) (o := .cells #[.int .u64 a0_0, .int .u64 a0_1] 25 (0, 0)) (by exact BK300.out)) : gb326 ≠ gb300))
                  have n11_ := Aside0.mk ((by rw [hg]; exact Nat.ne_of_lt (blk_lt (g := gb301) (o := .cells #[.int .u64 a1_0, .int .u64 a1_1] 25 (0, 0)) (by exact BK301.out)) : gb301 ≠ gb326))
                  have n12_ := Aside0.mk ((by rw [hg]; exact Nat.ne_of_gt (blk_lt (g := gb301) (o := .cells #[.int .u64 a1_0, .int .u64 a1_1] 25 (0, 0)) (by exact BK301.out)) : gb326 ≠ gb301))
                  have n13_ := Aside0.mk ((by rw [hg]; exact Nat.ne_of_lt (blk_lt (g := gb306) (o := .cells #[.int .u64 t303, .int .u64 t304] 25 (0, 0)) (by exact BK306.out)) : gb306 ≠ gb326))
                  have n14_ := Aside0.mk ((by rw [hg]; exact Nat.ne_of_gt (blk_lt (g := gb306) (o := .cells #[.int .u64 t303, .int .u64 t304] 25 (0, 0)) (by exact BK306.out)) : gb326 ≠ gb306))
                  have n15_ := Aside0.mk ((by rw [hg]; exact Nat.ne_of_lt (blk_lt (g := gb310) (o := .cells #[.int .u64 t307, .int .u64 t308] 25 (0, 0)) (by exact BK310.out)) : gb310 ≠ gb326))
                  have n16_ := Aside0.mk ((by rw [hg]; exact Nat.ne_of_gt (blk_lt (g := gb310) (o := .cells #[.int .u64 t307, .int .u64 t308] 25 (0, 0)) (by exact BK310.out)) : gb326 ≠ gb310))
                  have n17_ := Aside0.mk ((by rw [hg]; exact Nat.ne_of_lt (blk_lt (g := gb318) (o := .cells #[.int .u64 t315, .int .u64 t316] 29 (0, 0)) (by exact BK318.out)) : gb318 ≠ gb326))
                  have n18_ := Aside0.mk ((by rw [hg]; exact Nat.ne_of_gt (blk_lt (g := gb318) (o := .cells #[.int .u64 t315, .int .u64 t316] 29 (0, 0)) (by exact BK318.out)) : gb326 ≠ gb318))
                  clear BK300
                  clear BK301
                  clear BK306
                  clear BK310
                  clear BK318
                  clear HB
                  have BK300 := n0_
                  have BK301 := n1_
                  have BK306 := n2_
                  have BK310 := n3_
                  have BK318 := n4_
                  have HB := n5_
                  have BK326 := n6_
                  have GW326 := n7_
                  have GE326 := n8_
                  have NB300_326 := n9_
                  have NB326_300 := n10_
                  have NB301_326 := n11_
                  have NB326_301 := n12_
                  have NB306_326 := n13_
                  have NB326_306 := n14_
                  have NB310_326 := n15_
                  have NB326_310 := n16_
                  have NB318_326 := n17_
                  have NB326_318 := n18_
                  clear n0_ n1_ n2_ n3_ n4_ n5_ n6_ n7_ n8_ n9_ n10_ n11_ n12_ n13_ n14_ n15_ n16_ n17_ n18_
                  clear hb hbox hg
                  refine hK.out _ _ ⟨(blk_cell BK300.out 0).trans rfl, (blk_cell BK300.out 1).trans rfl, (blk_cell BK301.out 0).trans rfl, (blk_cell BK301.out 1).trans rfl⟩ (fun hHeld => ?_)
                  clear hK K
                  refine norm_ (a' := ?_) ?_ ?_
                  rotate_left
                  · show Act.put _ (some 11) _ = _
                    simp only [Act.put, List.setIfInBounds_toArray, List.set_cons_zero, List.set_cons_succ, i64_w, i32_w]
                    rfl
                  refine one_ (i := 3) (N := some 41) #[true, true, true, true, false, false, false, false, true, false, false] rfl rfl (one_of HT_.out (by kernel_rfl)) (by decide) (fun K hK => ?_)
                  refine goes_ Try.func14 (by kernel_rfl) rfl #[.agg #[.int .u64 a1_0, .int .u64 a1_1]] (by rfl) rfl rfl (by (try simp only [List.map_toArray, List.map_cons, List.map_nil]); first | done | rfl | (simp only [List.length_drop, List.length_take]; rfl)) ?_
                  with_reducible refine (overfalllaw01_own.calls a1_0 a1_1 t321 t322 _ A11.out).mono ?_
                  rintro e w52 ⟨rfl, hb⟩
                  refine ⟨_, rfl, ?_⟩
                  have n0_ := Aside0.mk (blk_below (g := gb300) (o := .cells #[.int .u64 a0_0, .int .u64 a0_1] 25 (0, 0)) (by exact BK300.out) hb)
                  have n1_ := Aside0.mk (blk_below (g := gb301) (o := .cells #[.int .u64 a1_0, .int .u64 a1_1] 25 (0, 0)) (by exact BK301.out) hb)
                  have n2_ := Aside0.mk (blk_below (g := gb306) (o := .cells #[.int .u64 t303, .int .u64 t304] 25 (0, 0)) (by exact BK306.out) hb)
                  have n3_ := Aside0.mk (blk_below (g := gb310) (o := .cells #[.int .u64 t307, .int .u64 t308] 25 (0, 0)) (by exact BK310.out) hb)
                  have n4_ := Aside0.mk (blk_below (g := gb318) (o := .cells #[.int .u64 t315, .int .u64 t316] 29 (0, 0)) (by exact BK318.out) hb)
                  have n5_ := Aside0.mk (blk_below (g := gb326) (o := .cells #[.int .u64 0, .int .u64 0] 29 (0, 0)) (by exact BK326.out) hb)
                  have n6_ := Aside0.mk (below_step (by repeat (first | (with_reducible first | exact HB.out | apply below_alloc | apply pw_below_drewN | apply below_drew1 | refine below_set ?_ GE300.out | refine below_set ?_ GE301.out | refine below_set ?_ GE306.out | refine below_set ?_ GE310.out | refine below_set ?_ GE318.out | refine below_set ?_ GE326.out) | exact HB.out)) hb)
                  clear BK300
                  clear BK301
                  clear BK306
                  clear BK310
                  clear BK318
                  clear BK326
                  clear HB
                  have BK300 := n0_
                  have BK301 := n1_
                  have BK306 := n2_
                  have BK310 := n3_
                  have BK318 := n4_
                  have BK326 := n5_
                  have HB := n6_
                  clear n0_ n1_ n2_ n3_ n4_ n5_ n6_
                  (try clear hb)
                  (try clear hb2)
                  (try clear hk)
                  (try clear hi)
                  refine hK.out _ _ ⟨(blk_cell BK300.out 0).trans rfl, (blk_cell BK300.out 1).trans rfl, (blk_cell BK301.out 0).trans rfl, (blk_cell BK301.out 1).trans rfl⟩ (fun hHeld => ?_)
                  clear hK K
                  refine norm_ (a' := ?_) ?_ ?_
                  rotate_left
                  · show Act.put _ (some 41) _ = _
                    simp only [Act.put, List.setIfInBounds_toArray, List.set_cons_zero, List.set_cons_succ, i64_w, i32_w]
                    rfl
                  refine one_ (i := 4) (N := some 42) #[true, true, true, true, true, false, false, false, true, false, false] rfl rfl (one_of HT_.out (by kernel_rfl)) (by decide) (fun K hK => ?_)
                  refine goes_ Try.func25 (by kernel_rfl) rfl #[.agg #[.int .u64 t319, .int .u64 t320], .agg #[.int .u64 t321, .int .u64 t322]] (by rfl) rfl rfl (by (try simp only [List.map_toArray, List.map_cons, List.map_nil]); first | done | rfl | (simp only [List.length_drop, List.length_take]; rfl)) ?_
                  with_reducible refine (overfallref01_Sub.calls k t319 t320 t321 t322 t323 t324 t325 _ A12.out).mono ?_
                  rintro e w53 ⟨rfl, hb⟩
                  refine ⟨_, rfl, ?_⟩
                  have n0_ := Aside0.mk (blk_below (g := gb300) (o := .cells #[.int .u64 a0_0, .int .u64 a0_1] 25 (0, 0)) (by exact BK300.out) hb)
                  have n1_ := Aside0.mk (blk_below (g := gb301) (o := .cells #[.int .u64 a1_0, .int .u64 a1_1] 25 (0, 0)) (by exact BK301.out) hb)
                  have n2_ := Aside0.mk (blk_below (g := gb306) (o := .cells #[.int .u64 t303, .int .u64 t304] 25 (0, 0)) (by exact BK306.out) hb)
                  have n3_ := Aside0.mk (blk_below (g := gb310) (o := .cells #[.int .u64 t307, .int .u64 t308] 25 (0, 0)) (by exact BK310.out) hb)
                  have n4_ := Aside0.mk (blk_below (g := gb318) (o := .cells #[.int .u64 t315, .int .u64 t316] 29 (0, 0)) (by exact BK318.out) hb)
                  have n5_ := Aside0.mk (blk_below (g := gb326) (o := .cells #[.int .u64 0, .int .u64 0] 29 (0, 0)) (by exact BK326.out) hb)
                  have n6_ := Aside0.mk (below_step (by repeat (first | (with_reducible first | exact HB.out | apply below_alloc | apply pw_below_drewN | apply below_drew1 | refine below_set ?_ GE300.out | refine below_set ?_ GE301.out | refine below_set ?_ GE306.out | refine below_set ?_ GE310.out | refine below_set ?_ GE318.out | refine below_set ?_ GE326.out) | exact HB.out)) hb)
                  clear BK300
                  clear BK301
                  clear BK306
                  clear BK310
                  clear BK318
                  clear BK326
                  clear HB
                  have BK300 := n0_
                  have BK301 := n1_
                  have BK306 := n2_
                  have BK310 := n3_
                  have BK318 := n4_
                  have BK326 := n5_
                  have HB := n6_
                  clear n0_ n1_ n2_ n3_ n4_ n5_ n6_
                  (try clear hb)
                  (try clear hb2)
                  (try clear hk)
                  (try clear hi)
                  refine hK.out _ _ ⟨(blk_cell BK300.out 0).trans rfl, (blk_cell BK300.out 1).trans rfl, (blk_cell BK301.out 0).trans rfl, (blk_cell BK301.out 1).trans rfl⟩ (fun hHeld => ?_)
                  clear hK K
                  refine norm_ (a' := ?_) ?_ ?_
                  rotate_left
                  · show Act.put _ (some 42) _ = _
                    simp only [Act.put, List.setIfInBounds_toArray, List.set_cons_zero, List.set_cons_succ, i64_w, i32_w]
                    rfl
                  refine pure_ (i := 5) (N := some 37) (v := ?_) (a' := ?_) #[true, true, true, true, true, true, false, false, true, false, false] rfl rfl (any_of HT_.out (by kernel_rfl)) (fun _ _ _ h => h) (Or.inl ⟨by rfl, ?_⟩) ?_ ?_
                  rotate_left
                  · intro w'
                    go_simp
                    with_reducible rfl
                  rotate_left
                  · simp only [Act.put, List.setIfInBounds_toArray, List.set_cons_zero, List.set_cons_succ, i64_w, i32_w]
                    rfl
                  refine pure_ (i := 6) (N := some 43) (v := ?_) (a' := ?_) #[true, true, true, true, true, true, true, false, true, false, false] rfl rfl (any_of HT_.out (by kernel_rfl)) (fun _ _ _ h => h) (Or.inl ⟨by rfl, ?_⟩) ?_ ?_
                  rotate_left
                  · intro w'
                    go_simp
                    with_reducible rfl
                  rotate_left
                  · simp only [Act.put, List.setIfInBounds_toArray, List.set_cons_zero, List.set_cons_succ, i64_w, i32_w]
                    rfl
                  refine pure_ (i := 7) (N := some 44) (v := ?_) (a' := ?_) #[true, true, true, true, true, true, true, true, true, false, false] rfl rfl (any_of HT_.out (by kernel_rfl)) (fun _ _ _ h => h) (Or.inl ⟨by rfl, ?_⟩) ?_ ?_
                  rotate_left
                  · intro w'
                    go_simp
                    with_reducible rfl
                  rotate_left
                  · simp only [Act.put, List.setIfInBounds_toArray, List.set_cons_zero, List.set_cons_succ, i64_w, i32_w]
                    rfl
                  exact norm_ (by simp only [putAll, Act.put, List.setIfInBounds_toArray, List.set_cons_zero, List.set_cons_succ]) (hCont (gb326) _ ⟨hHeld, (by exact BK300.out), (by exact BK301.out), (by exact BK306.out), (by exact BK310.out), (by exact BK318.out), (by exact BK326.out), GW326.out, GE326.out, NB300_326.out, NB326_300.out, NB301_326.out, NB326_301.out, NB306_326.out, NB326_306.out, NB310_326.out, NB326_310.out, NB318_326.out, NB326_318.out, (by repeat (first | (with_reducible first | exact HB.out | apply below_alloc | apply pw_below_drewN | apply below_drew1 | refine below_set ?_ GE300.out | refine below_set ?_ GE301.out | refine below_set ?_ GE306.out | refine below_set ?_ GE310.out | refine below_set ?_ GE318.out | refine below_set ?_ GE326.out) | exact HB.out))⟩)
              · skip
                refine box_step ?hg (N := 11) ?hd (cs := #[.int .u64 0, .int .u64 0]) (t := 29) ?hr ?_; (case hd => rfl); (case hg => rfl); (case hr => first | (go_simp; done) | (go_simp; rfl))
                intro gb326 hg w50 hbox hb
                have n0_ := Aside0.mk (blk_below (g := gb300) (o := .cells #[.int .u64 a0_0, .int .u64 a0_1] 25 (0, 0)) (by exact BK300.out) hb)
                have n1_ := Aside0.mk (blk_below (g := gb301) (o := .cells #[.int .u64 a1_0, .int .u64 a1_1] 25 (0, 0)) (by exact BK301.out) hb)
                have n2_ := Aside0.mk (blk_below (g := gb306) (o := .cells #[.int .u64 t303, .int .u64 t304] 25 (0, 0)) (by exact BK306.out) hb)
                have n3_ := Aside0.mk (blk_below (g := gb310) (o := .cells #[.int .u64 t307, .int .u64 t308] 25 (0, 0)) (by exact BK310.out) hb)
                have n4_ := Aside0.mk (blk_below (g := gb318) (o := .cells #[.int .u64 t315, .int .u64 t316] 29 (0, 0)) (by exact BK318.out) hb)
                have n5_ := Aside0.mk (below_step (by repeat (first | (with_reducible first | exact HB.out | apply below_alloc | apply pw_below_drewN | apply below_drew1 | refine below_set ?_ GE300.out | refine below_set ?_ GE301.out | refine below_set ?_ GE306.out | refine below_set ?_ GE310.out | refine below_set ?_ GE318.out) | exact HB.out)) hb)
                have n6_ := Aside0.mk (hbox)
                have n7_ := Aside0.mk ((by rw [hg]; exact (below_size (by repeat (first | (with_reducible first | exact HB.out | apply below_alloc | apply pw_below_drewN | apply below_drew1 | refine below_set ?_ GE300.out | refine below_set ?_ GE301.out | refine below_set ?_ GE306.out | refine below_set ?_ GE310.out | refine below_set ?_ GE318.out) | exact HB.out))) : w.heap.size ≤ gb326))
                have n8_ := Aside0.mk ((by rw [hg]; exact (below_size (by repeat (first | (with_reducible first | exact HB.out | apply below_alloc | apply pw_below_drewN | apply below_drew1 | refine below_set ?_ GE300.out | refine below_set ?_ GE301.out | refine below_set ?_ GE306.out | refine below_set ?_ GE310.out | refine below_set ?_ GE318.out) | exact HB.out))) : w.heap.size ≤ gb326))
                have n9_ := Aside0.mk ((by rw [hg]; exact Nat.ne_of_lt (blk_lt (g := gb300) (o := .cells #[.int .u64 a0_0, .int .u64 a0_1] 25 (0, 0)) (by exact BK300.out)) : gb300 ≠ gb326))
                have n10_ := Aside0.mk ((by rw [hg]; exact Nat.ne_of_gt (blk_lt (g := gb300) (o := .cells #[.int .u64 a0_0, .int .u64 a0_1] 25 (0, 0)) (by exact BK300.out)) : gb326 ≠ gb300))
                have n11_ := Aside0.mk ((by rw [hg]; exact Nat.ne_of_lt (blk_lt (g := gb301) (o := .cells #[.int .u64 a1_0, .int .u64 a1_1] 25 (0, 0)) (by exact BK301.out)) : gb301 ≠ gb326))
                have n12_ := Aside0.mk ((by rw [hg]; exact Nat.ne_of_gt (blk_lt (g := gb301) (o := .cells #[.int .u64 a1_0, .int .u64 a1_1] 25 (0, 0)) (by exact BK301.out)) : gb326 ≠ gb301))
                have n13_ := Aside0.mk ((by rw [hg]; exact Nat.ne_of_lt (blk_lt (g := gb306) (o := .cells #[.int .u64 t303, .int .u64 t304] 25 (0, 0)) (by exact BK306.out)) : gb306 ≠ gb326))
                have n14_ := Aside0.mk ((by rw [hg]; exact Nat.ne_of_gt (blk_lt (g := gb306) (o := .cells #[.int .u64 t303, .int .u64 t304] 25 (0, 0)) (by exact BK306.out)) : gb326 ≠ gb306))
                have n15_ := Aside0.mk ((by rw [hg]; exact Nat.ne_of_lt (blk_lt (g := gb310) (o := .cells #[.int .u64 t307, .int .u64 t308] 25 (0, 0)) (by exact BK310.out)) : gb310 ≠ gb326))
                have n16_ := Aside0.mk ((by rw [hg]; exact Nat.ne_of_gt (blk_lt (g := gb310) (o := .cells #[.int .u64 t307, .int .u64 t308] 25 (0, 0)) (by exact BK310.out)) : gb326 ≠ gb310))
                have n17_ := Aside0.mk ((by rw [hg]; exact Nat.ne_of_lt (blk_lt (g := gb318) (o := .cells #[.int .u64 t315, .int .u64 t316] 29 (0, 0)) (by exact BK318.out)) : gb318 ≠ gb326))
                have n18_ := Aside0.mk ((by rw [hg]; exact Nat.ne_of_gt (blk_lt (g := gb318) (o := .cells #[.int .u64 t315, .int .u64 t316] 29 (0, 0)) (by exact BK318.out)) : gb326 ≠ gb318))
                clear BK300
                clear BK301
                clear BK306
                clear BK310
                clear BK318
                clear HB
                have BK300 := n0_
                have BK301 := n1_
                have BK306 := n2_
                have BK310 := n3_
                have BK318 := n4_
                have HB := n5_
                have BK326 := n6_
                have GW326 := n7_
                have GE326 := n8_
                have NB300_326 := n9_
                have NB326_300 := n10_
                have NB301_326 := n11_
                have NB326_301 := n12_
                have NB306_326 := n13_
                have NB326_306 := n14_
                have NB310_326 := n15_
                have NB326_310 := n16_
                have NB318_326 := n17_
                have NB326_318 := n18_
                clear n0_ n1_ n2_ n3_ n4_ n5_ n6_ n7_ n8_ n9_ n10_ n11_ n12_ n13_ n14_ n15_ n16_ n17_ n18_
                clear hb hbox hg
                refine hK.out _ _ ⟨(blk_cell BK300.out 0).trans rfl, (blk_cell BK300.out 1).trans rfl, (blk_cell BK301.out 0).trans rfl, (blk_cell BK301.out 1).trans rfl⟩ (fun hHeld => ?_)
                clear hK K
                refine norm_ (a' := ?_) ?_ ?_
                rotate_left
                · show Act.put _ (some 11) _ = _
                  simp only [Act.put, List.setIfInBounds_toArray, List.set_cons_zero, List.set_cons_succ, i64_w, i32_w]
                  rfl
                refine one_ (i := 1) (N := some 39) #[true, true, true, false, false, false, false, false, true, false, false] rfl rfl (one_of HT_.out (by kernel_rfl)) (by decide) (fun K hK => ?_)
                refine goes_ Try.func14 (by kernel_rfl) rfl #[.agg #[.int .u64 a0_0, .int .u64 a0_1]] (by rfl) rfl rfl (by (try simp only [List.map_toArray, List.map_cons, List.map_nil]); first | done | rfl | (simp only [List.length_drop, List.length_take]; rfl)) ?_
                with_reducible refine (overfalllaw01_own.calls a0_0 a0_1 t319 t320 _ A10.out).mono ?_
                rintro e w51 ⟨rfl, hb⟩
                refine ⟨_, rfl, ?_⟩
                have n0_ := Aside0.mk (blk_below (g := gb300) (o := .cells #[.int .u64 a0_0, .int .u64 a0_1] 25 (0, 0)) (by exact BK300.out) hb)
                have n1_ := Aside0.mk (blk_below (g := gb301) (o := .cells #[.int .u64 a1_0, .int .u64 a1_1] 25 (0, 0)) (by exact BK301.out) hb)
                have n2_ := Aside0.mk (blk_below (g := gb306) (o := .cells #[.int .u64 t303, .int .u64 t304] 25 (0, 0)) (by exact BK306.out) hb)
                have n3_ := Aside0.mk (blk_below (g := gb310) (o := .cells #[.int .u64 t307, .int .u64 t308] 25 (0, 0)) (by exact BK310.out) hb)
                have n4_ := Aside0.mk (blk_below (g := gb318) (o := .cells #[.int .u64 t315, .int .u64 t316] 29 (0, 0)) (by exact BK318.out) hb)
                have n5_ := Aside0.mk (blk_below (g := gb326) (o := .cells #[.int .u64 0, .int .u64 0] 29 (0, 0)) (by exact BK326.out) hb)
                have n6_ := Aside0.mk (below_step (by repeat (first | (with_reducible first | exact HB.out | apply below_alloc | apply pw_below_drewN | apply below_drew1 | refine below_set ?_ GE300.out | refine below_set ?_ GE301.out | refine below_set ?_ GE306.out | refine below_set ?_ GE310.out | refine below_set ?_ GE318.out | refine below_set ?_ GE326.out) | exact HB.out)) hb)
                clear BK300
                clear BK301
                clear BK306
                clear BK310
                clear BK318
                clear BK326
                clear HB
                have BK300 := n0_
                have BK301 := n1_
                have BK306 := n2_
                have BK310 := n3_
                have BK318 := n4_
                have BK326 := n5_
                have HB := n6_
                clear n0_ n1_ n2_ n3_ n4_ n5_ n6_
                (try clear hb)
                (try clear hb2)
                (try clear hk)
                (try clear hi)
                refine hK.out _ _ ⟨(blk_cell BK300.out 0).trans rfl, (blk_cell BK300.out 1).trans rfl, (blk_cell BK301.out 0).trans rfl, (blk_cell BK301.out 1).trans rfl⟩ (fun hHeld => ?_)
                clear hK K
                refine norm_ (a' := ?_) ?_ ?_
                rotate_left
                · show Act.put _ (some 39) _ = _
                  simp only [Act.put, List.setIfInBounds_toArray, List.set_cons_zero, List.set_cons_succ, i64_w, i32_w]
                  rfl
                refine one_ (i := 3) (N := some 41) #[true, true, true, true, false, false, false, false, true, false, false] rfl rfl (one_of HT_.out (by kernel_rfl)) (by decide) (fun K hK => ?_)
                refine goes_ Try.func14 (by kernel_rfl) rfl #[.agg #[.int .u64 a1_0, .int .u64 a1_1]] (by rfl) rfl rfl (by (try simp only [List.map_toArray, List.map_cons, List.map_nil]); first | done | rfl | (simp only [List.length_drop, List.length_take]; rfl)) ?_
                with_reducible refine (overfalllaw01_own.calls a1_0 a1_1 t321 t322 _ A11.out).mono ?_
                rintro e w52 ⟨rfl, hb⟩
                refine ⟨_, rfl, ?_⟩
                have n0_ := Aside0.mk (blk_below (g := gb300) (o := .cells #[.int .u64 a0_0, .int .u64 a0_1] 25 (0, 0)) (by exact BK300.out) hb)
                have n1_ := Aside0.mk (blk_below (g := gb301) (o := .cells #[.int .u64 a1_0, .int .u64 a1_1] 25 (0, 0)) (by exact BK301.out) hb)
                have n2_ := Aside0.mk (blk_below (g := gb306) (o := .cells #[.int .u64 t303, .int .u64 t304] 25 (0, 0)) (by exact BK306.out) hb)
                have n3_ := Aside0.mk (blk_below (g := gb310) (o := .cells #[.int .u64 t307, .int .u64 t308] 25 (0, 0)) (by exact BK310.out) hb)
                have n4_ := Aside0.mk (blk_below (g := gb318) (o := .cells #[.int .u64 t315, .int .u64 t316] 29 (0, 0)) (by exact BK318.out) hb)
                have n5_ := Aside0.mk (blk_below (g := gb326) (o := .cells #[.int .u64 0, .int .u64 0] 29 (0, 0)) (by exact BK326.out) hb)
                have n6_ := Aside0.mk (below_step (by repeat (first | (with_reducible first | exact HB.out | apply below_alloc | apply pw_below_drewN | apply below_drew1 | refine below_set ?_ GE300.out | refine below_set ?_ GE301.out | refine below_set ?_ GE306.out | refine below_set ?_ GE310.out | refine below_set ?_ GE318.out | refine below_set ?_ GE326.out) | exact HB.out)) hb)
                clear BK300
                clear BK301
                clear BK306
                clear BK310
                clear BK318
                clear BK326
                clear HB
                have BK300 := n0_
                have BK301 := n1_
                have BK306 := n2_
                have BK310 := n3_
                have BK318 := n4_
                have BK326 := n5_
                have HB := n6_
                clear n0_ n1_ n2_ n3_ n4_ n5_ n6_
                (try clear hb)
                (try clear hb2)
                (try clear hk)
                (try clear hi)
                refine hK.out _ _ ⟨(blk_cell BK300.out 0).trans rfl, (blk_cell BK300.out 1).trans rfl, (blk_cell BK301.out 0).trans rfl, (blk_cell BK301.out 1).trans rfl⟩ (fun hHeld => ?_)
                clear hK K
                refine norm_ (a' := ?_) ?_ ?_
                rotate_left
                · show Act.put _ (some 41) _ = _
                  simp only [Act.put, List.setIfInBounds_toArray, List.set_cons_zero, List.set_cons_succ, i64_w, i32_w]
                  rfl
                refine one_ (i := 4) (N := some 42) #[true, true, true, true, true, false, false, false, true, false, false] rfl rfl (one_of HT_.out (by kernel_rfl)) (by decide) (fun K hK => ?_)
                refine goes_ Try.func25 (by kernel_rfl) rfl #[.agg #[.int .u64 t319, .int .u64 t320], .agg #[.int .u64 t321, .int .u64 t322]] (by rfl) rfl rfl (by (try simp only [List.map_toArray, List.map_cons, List.map_nil]); first | done | rfl | (simp only [List.length_drop, List.length_take]; rfl)) ?_
                with_reducible refine (overfallref01_Sub.calls k t319 t320 t321 t322 t323 t324 t325 _ A12.out).mono ?_
                rintro e w53 ⟨rfl, hb⟩
                refine ⟨_, rfl, ?_⟩
                have n0_ := Aside0.mk (blk_below (g := gb300) (o := .cells #[.int .u64 a0_0, .int .u64 a0_1] 25 (0, 0)) (by exact BK300.out) hb)
                have n1_ := Aside0.mk (blk_below (g := gb301) (o := .cells #[.int .u64 a1_0, .int .u64 a1_1] 25 (0, 0)) (by exact BK301.out) hb)
                have n2_ := Aside0.mk (blk_below (g := gb306) (o := .cells #[.int .u64 t303, .int .u64 t304] 25 (0, 0)) (by exact BK306.out) hb)
                have n3_ := Aside0.mk (blk_below (g := gb310) (o := .cells #[.int .u64 t307, .int .u64 t308] 25 (0, 0)) (by exact BK310.out) hb)
                have n4_ := Aside0.mk (blk_below (g := gb318) (o := .cells #[.int .u64 t315, .int .u64 t316] 29 (0, 0)) (by exact BK318.out) hb)
                have n5_ := Aside0.mk (blk_below (g := gb326) (o := .cells #[.int .u64 0, .int .u64 0] 29 (0, 0)) (by exact BK326.out) hb)
                have n6_ := Aside0.mk (below_step (by repeat (first | (with_reducible first | exact HB.out | apply below_alloc | apply pw_below_drewN | apply below_drew1 | refine below_set ?_ GE300.out | refine below_set ?_ GE301.out | refine below_set ?_ GE306.out | refine below_set ?_ GE310.out | refine below_set ?_ GE318.out | refine below_set ?_ GE326.out) | exact HB.out)) hb)
                clear BK300
                clear BK301
                clear BK306
                clear BK310
                clear BK318
                clear BK326
                clear HB
                have BK300 := n0_
                have BK301 := n1_
                have BK306 := n2_
                have BK310 := n3_
                have BK318 := n4_
                have BK326 := n5_
                have HB := n6_
                clear n0_ n1_ n2_ n3_ n4_ n5_ n6_
                (try clear hb)
                (try clear hb2)
                (try clear hk)
                (try clear hi)
                refine hK.out _ _ ⟨(blk_cell BK300.out 0).trans rfl, (blk_cell BK300.out 1).trans rfl, (blk_cell BK301.out 0).trans rfl, (blk_cell BK301.out 1).trans rfl⟩ (fun hHeld => ?_)
                clear hK K
                refine norm_ (a' := ?_) ?_ ?_
                rotate_left
                · show Act.put _ (some 42) _ = _
                  simp only [Act.put, List.setIfInBounds_toArray, List.set_cons_zero, List.set_cons_succ, i64_w, i32_w]
                  rfl
                refine pure_ (i := 5) (N := some 37) (v := ?_) (a' := ?_) #[true, true, true, true, true, true, false, false, true, false, false] rfl rfl (any_of HT_.out (by kernel_rfl)) (fun _ _ _ h => h) (Or.inl ⟨by rfl, ?_⟩) ?_ ?_
                rotate_left
                · intro w'
                  go_simp
                  with_reducible rfl
                rotate_left
                · simp only [Act.put, List.setIfInBounds_toArray, List.set_cons_zero, List.set_cons_succ, i64_w, i32_w]
                  rfl
                refine pure_ (i := 6) (N := some 43) (v := ?_) (a' := ?_) #[true, true, true, true, true, true, true, false, true, false, false] rfl rfl (any_of HT_.out (by kernel_rfl)) (fun _ _ _ h => h) (Or.inl ⟨by rfl, ?_⟩) ?_ ?_
                rotate_left
                · intro w'
                  go_simp
                  with_reducible rfl
                rotate_left
                · simp only [Act.put, List.setIfInBounds_toArray, List.set_cons_zero, List.set_cons_succ, i64_w, i32_w]
                  rfl
                refine pure_ (i := 7) (N := some 44) (v := ?_) (a' := ?_) #[true, true, true, true, true, true, true, true, true, false, false] rfl rfl (any_of HT_.out (by kernel_rfl)) (fun _ _ _ h => h) (Or.inl ⟨by rfl, ?_⟩) ?_ ?_
                rotate_left
                · intro w'
                  go_simp
                  with_reducible rfl
                rotate_left
                · simp only [Act.put, List.setIfInBounds_toArray, List.set_cons_zero, List.set_cons_succ, i64_w, i32_w]
                  rfl
                exact norm_ (by simp only [putAll, Act.put, List.setIfInBounds_toArray, List.set_cons_zero, List.set_cons_succ]) (hCont (gb326) _ ⟨hHeld, (by exact BK300.out), (by exact BK301.out), (by exact BK306.out), (by exact BK310.out), (by exact BK318.out), (by exact BK326.out), GW326.out, GE326.out, NB300_326.out, NB326_300.out, NB301_326.out, NB326_301.out, NB306_326.out, NB326_306.out, NB310_326.out, NB326_310.out, NB318_326.out, NB326_318.out, (by repeat (first | (with_reducible first | exact HB.out | apply below_alloc | apply pw_below_drewN | apply below_drew1 | refine below_set ?_ GE300.out | refine below_set ?_ GE301.out | refine below_set ?_ GE306.out | refine below_set ?_ GE310.out | refine below_set ?_ GE318.out | refine below_set ?_ GE326.out) | exact HB.out))⟩)
            rintro gb326 w54 ⟨hS_, h0_, h1_, h2_, h3_, h4_, h5_, h6_, h7_, h8_, h9_, h10_, h11_, h12_, h13_, h14_, h15_, h16_, h17_, h18_⟩
            have n0_ : Aside0 (w54.heap[gb300]? = some (.cells #[.int .u64 a0_0, .int .u64 a0_1] 25 (0, 0))) := ⟨h0_⟩
            have n1_ : Aside0 (w54.heap[gb301]? = some (.cells #[.int .u64 a1_0, .int .u64 a1_1] 25 (0, 0))) := ⟨h1_⟩
            have n2_ : Aside0 (w54.heap[gb306]? = some (.cells #[.int .u64 t303, .int .u64 t304] 25 (0, 0))) := ⟨h2_⟩
            have n3_ : Aside0 (w54.heap[gb310]? = some (.cells #[.int .u64 t307, .int .u64 t308] 25 (0, 0))) := ⟨h3_⟩
            have n4_ : Aside0 (w54.heap[gb318]? = some (.cells #[.int .u64 t315, .int .u64 t316] 29 (0, 0))) := ⟨h4_⟩
            have n5_ : Aside0 (w54.heap[gb326]? = some (.cells #[.int .u64 0, .int .u64 0] 29 (0, 0))) := ⟨h5_⟩
            have n6_ : Aside0 (w.heap.size ≤ gb326) := ⟨h6_⟩
            have n7_ : Aside0 (w.heap.size ≤ gb326) := ⟨h7_⟩
            have n8_ : Aside0 (gb300 ≠ gb326) := ⟨h8_⟩
            have n9_ : Aside0 (gb326 ≠ gb300) := ⟨h9_⟩
            have n10_ : Aside0 (gb301 ≠ gb326) := ⟨h10_⟩
            have n11_ : Aside0 (gb326 ≠ gb301) := ⟨h11_⟩
            have n12_ : Aside0 (gb306 ≠ gb326) := ⟨h12_⟩
            have n13_ : Aside0 (gb326 ≠ gb306) := ⟨h13_⟩
            have n14_ : Aside0 (gb310 ≠ gb326) := ⟨h14_⟩
            have n15_ : Aside0 (gb326 ≠ gb310) := ⟨h15_⟩
            have n16_ : Aside0 (gb318 ≠ gb326) := ⟨h16_⟩
            have n17_ : Aside0 (gb326 ≠ gb318) := ⟨h17_⟩
            have n18_ : Aside0 (Below w.heap.size w w54) := ⟨h18_⟩
            clear BK300
            clear BK301
            clear BK306
            clear BK310
            clear BK318
            clear HB
            clear h0_ h1_ h2_ h3_ h4_ h5_ h6_ h7_ h8_ h9_ h10_ h11_ h12_ h13_ h14_ h15_ h16_ h17_ h18_
            have BK300 := n0_
            have BK301 := n1_
            have BK306 := n2_
            have BK310 := n3_
            have BK318 := n4_
            have BK326 := n5_
            have GW326 := n6_
            have GE326 := n7_
            have NB300_326 := n8_
            have NB326_300 := n9_
            have NB301_326 := n10_
            have NB326_301 := n11_
            have NB306_326 := n12_
            have NB326_306 := n13_
            have NB310_326 := n14_
            have NB326_310 := n15_
            have NB318_326 := n16_
            have NB326_318 := n17_
            have HB := n18_
            clear n0_ n1_ n2_ n3_ n4_ n5_ n6_ n7_ n8_ n9_ n10_ n11_ n12_ n13_ n14_ n15_ n16_ n17_ n18_
            have hHeld : w54.cell? ⟨gb300, 0, none⟩ = some (.int .u64 a0_0) ∧ w54.cell? ⟨gb300, 1, none⟩ = some (.int .u64 a0_1) ∧ w54.cell? ⟨gb301, 0, none⟩ = some (.int .u64 a1_0) ∧ w54.cell? ⟨gb301, 1, none⟩ = some (.int .u64 a1_1) := hS_
            refine norm_ (a' := ?_) ?_ ?_
            rotate_left
            · simp only [putAll, Act.put, List.setIfInBounds_toArray, List.set_cons_zero, List.set_cons_succ]
              rfl
            refine one_ (i := 9) (N := none) #[true, true, true, true, true, true, true, true, true, true, false] rfl rfl (one_of HT_.out (by kernel_rfl)) (by decide) (fun K hK => ?_)
            have hs55 : w54.cell? ⟨gb326, 0, none⟩ = some (.int .u64 0) := (blk_cell BK326.out 0).trans rfl
            have hfs55 := blk_frozen BK326.out 0
            have hns55_0 := NB300_326.out
            have hns55_1 := NB301_326.out
            have hns55_2 := NB306_326.out
            have hns55_3 := NB310_326.out
            have hns55_4 := NB318_326.out
            have hms55_0 := NB326_300.out
            have hms55_1 := NB326_301.out
            have hms55_2 := NB326_306.out
            have hms55_3 := NB326_310.out
            have hms55_4 := NB326_318.out
            have hs56 : w54.cell? ⟨gb326, 1, none⟩ = some (.int .u64 0) := (blk_cell BK326.out 1).trans rfl
            have hfs56 := blk_frozen BK326.out 1
            have hns56_0 := NB300_326.out
            have hns56_1 := NB301_326.out
            have hns56_2 := NB306_326.out
            have hns56_3 := NB310_326.out
            have hns56_4 := NB318_326.out
            have hms56_0 := NB326_300.out
            have hms56_1 := NB326_301.out
            have hms56_2 := NB326_306.out
            have hms56_3 := NB326_310.out
            have hms56_4 := NB326_318.out
            refine skip_ (w1 := ?_) (by rfl) rfl ?_ ?_
            rotate_left
            · go_simp
              rfl
            refine hK.out _ _ ⟨((cell_far (p := ⟨gb326, _, none⟩) NB300_326.out _).trans (((cell_far (p := ⟨gb326, _, none⟩) NB300_326.out _).trans (hHeld.1)))), ((cell_far (p := ⟨gb326, _, none⟩) NB300_326.out _).trans (((cell_far (p := ⟨gb326, _, none⟩) NB300_326.out _).trans (hHeld.2.1)))), ((cell_far (p := ⟨gb326, _, none⟩) NB301_326.out _).trans (((cell_far (p := ⟨gb326, _, none⟩) NB301_326.out _).trans (hHeld.2.2.1)))), ((cell_far (p := ⟨gb326, _, none⟩) NB301_326.out _).trans (((cell_far (p := ⟨gb326, _, none⟩) NB301_326.out _).trans (hHeld.2.2.2))))⟩ (fun hHeld => ?_)
            clear hK K
            refine pure_ (i := 10) (N := some 12) (v := ?_) (a' := ?_) #[true, true, true, true, true, true, true, true, true, true, true] rfl rfl (any_of HT_.out (by kernel_rfl)) (fun _ _ _ h => h) (Or.inl ⟨by rfl, ?_⟩) ?_ ?_
            rotate_left
            · intro w'
              go_simp
              with_reducible rfl
            rotate_left
            · simp only [Act.put, List.setIfInBounds_toArray, List.set_cons_zero, List.set_cons_succ, i64_w, i32_w]
              rfl
            refine done_ (done_of HT_.out (by kernel_rfl)) ?_
            have hnb57 := NB306_318.out
            have hnc57 := NB318_306.out
            have hnb58 := NB306_326.out
            have hnc58 := NB326_306.out
            have hcz59_0 : w54.cell? ⟨gb306, 0, none⟩ = some (.int .u64 t303) := (blk_cell BK306.out 0).trans rfl
            have hcz59_1 : w54.cell? ⟨gb306, 1, none⟩ = some (.int .u64 t304) := (blk_cell BK306.out 1).trans rfl
            have hfz59_0 := blk_frozen BK306.out 0
            have hfz59_1 := blk_frozen BK306.out 1
            have hnb60 := NB301_318.out
            have hnc60 := NB318_301.out
            have hnb61 := NB301_326.out
            have hnc61 := NB326_301.out
            have hcz62_0 : w54.cell? ⟨gb301, 0, none⟩ = some (.int .u64 a1_0) := (blk_cell BK301.out 0).trans rfl
            have hcz62_1 : w54.cell? ⟨gb301, 1, none⟩ = some (.int .u64 a1_1) := (blk_cell BK301.out 1).trans rfl
            have hfz62_0 := blk_frozen BK301.out 0
            have hfz62_1 := blk_frozen BK301.out 1
            try go_wp2_with (first | ((with_reducible refine gate_callee (f := 23) rfl ?_); refine goesL_ (some 48) rfl rfl Try.func23 (by kernel_rfl) rfl #[.agg #[.int .u64 t303, .int .u64 t304], .agg #[.int .u64 a1_0, .int .u64 a1_1]] rfl (by (try simp only [List.map_toArray, List.map_cons, List.map_nil]); first | done | rfl | (simp only [List.length_drop, List.length_take]; rfl)) ?_; (with_reducible refine (wide_Num_Sub.calls t303 t304 a1_0 a1_1 t327 t328 t329 _ A13.out).mono ?_); rintro e w63 ⟨rfl, hb⟩; refine ⟨_, rfl, ?_⟩; have n0_ := Aside0.mk (blk_below (g := gb300) (o := .cells #[.int .u64 a0_0, .int .u64 a0_1] 25 (0, 0)) (by refine blk_far ?_ NB300_326.out _; refine blk_far ?_ NB300_326.out _; exact BK300.out) hb); have n1_ := Aside0.mk (blk_below (g := gb301) (o := .cells #[.int .u64 a1_0, .int .u64 a1_1] 25 (0, 0)) (by refine blk_far ?_ NB301_326.out _; refine blk_far ?_ NB301_326.out _; exact BK301.out) hb); have n2_ := Aside0.mk (blk_below (g := gb306) (o := .cells #[.int .u64 t303, .int .u64 t304] 25 (0, 0)) (by refine blk_far ?_ NB306_326.out _; refine blk_far ?_ NB306_326.out _; exact BK306.out) hb); have n3_ := Aside0.mk (blk_below (g := gb310) (o := .cells #[.int .u64 t307, .int .u64 t308] 25 (0, 0)) (by refine blk_far ?_ NB310_326.out _; refine blk_far ?_ NB310_326.out _; exact BK310.out) hb); have n4_ := Aside0.mk (blk_below (g := gb318) (o := .cells #[.int .u64 t315, .int .u64 t316] 29 (0, 0)) (by refine blk_far ?_ NB318_326.out _; refine blk_far ?_ NB318_326.out _; exact BK318.out) hb); have n5_ := Aside0.mk (blk_below (g := gb326) (o := .cells #[.int .u64 t323, .int .u64 t324] 29 (0, 0)) (by refine blk_put (cs := #[.int .u64 t323, .int .u64 0]) ?_ 1 _ rfl; refine blk_put (cs := #[.int .u64 0, .int .u64 0]) ?_ 0 _ rfl; exact BK326.out) hb); have n6_ := Aside0.mk (below_step (by repeat (first | (with_reducible first | exact HB.out | apply below_alloc | apply pw_below_drewN | apply below_drew1 | refine below_set ?_ GE300.out | refine below_set ?_ GE301.out | refine below_set ?_ GE306.out | refine below_set ?_ GE310.out | refine below_set ?_ GE318.out | refine below_set ?_ GE326.out) | exact HB.out)) hb); clear BK300; clear BK301; clear BK306; clear BK310; clear BK318; clear BK326; clear HB; have BK300 := n0_; have BK301 := n1_; have BK306 := n2_; have BK310 := n3_; have BK318 := n4_; have BK326 := n5_; have HB := n6_; clear n0_ n1_ n2_ n3_ n4_ n5_ n6_; (try clear hb); (try clear hb2); (try clear hk); (try clear hi)) | ((with_reducible refine gate_dst (N := 13) rfl ?_); refine box_event ?hg (N := 13) ?hd (cs := #[.int .u64 0, .int .u64 0]) (t := 25) ?hr ?_; (case hd => rfl); (case hg => rfl); (case hr => first | (go_simp; done) | (go_simp; rfl)); intro gb330 hg w64 hbox hb; have n0_ := Aside0.mk (blk_below (g := gb300) (o := .cells #[.int .u64 a0_0, .int .u64 a0_1] 25 (0, 0)) (by exact BK300.out) hb); have n1_ := Aside0.mk (blk_below (g := gb301) (o := .cells #[.int .u64 a1_0, .int .u64 a1_1] 25 (0, 0)) (by exact BK301.out) hb); have n2_ := Aside0.mk (blk_below (g := gb306) (o := .cells #[.int .u64 t303, .int .u64 t304] 25 (0, 0)) (by exact BK306.out) hb); have n3_ := Aside0.mk (blk_below (g := gb310) (o := .cells #[.int .u64 t307, .int .u64 t308] 25 (0, 0)) (by exact BK310.out) hb); have n4_ := Aside0.mk (blk_below (g := gb318) (o := .cells #[.int .u64 t315, .int .u64 t316] 29 (0, 0)) (by exact BK318.out) hb); have n5_ := Aside0.mk (blk_below (g := gb326) (o := .cells #[.int .u64 t323, .int .u64 t324] 29 (0, 0)) (by exact BK326.out) hb); have n6_ := Aside0.mk (below_step (by repeat (first | (with_reducible first | exact HB.out | apply below_alloc | apply pw_below_drewN | apply below_drew1 | refine below_set ?_ GE300.out | refine below_set ?_ GE301.out | refine below_set ?_ GE306.out | refine below_set ?_ GE310.out | refine below_set ?_ GE318.out | refine below_set ?_ GE326.out) | exact HB.out)) hb); have n7_ := Aside0.mk (hbox); have n8_ := Aside0.mk ((by rw [hg]; exact (below_size (by repeat (first | (with_reducible first | exact HB.out | apply below_alloc | apply pw_below_drewN | apply below_drew1 | refine below_set ?_ GE300.out | refine below_set ?_ GE301.out | refine below_set ?_ GE306.out | refine below_set ?_ GE310.out | refine below_set ?_ GE318.out | refine below_set ?_ GE326.out) | exact HB.out))) : w.heap.size ≤ gb330)); have n9_ := Aside0.mk ((by rw [hg]; exact (below_size (by repeat (first | (with_reducible first | exact HB.out | apply below_alloc | apply pw_below_drewN | apply below_drew1 | refine below_set ?_ GE300.out | refine below_set ?_ GE301.out | refine below_set ?_ GE306.out | refine below_set ?_ GE310.out | refine below_set ?_ GE318.out | refine below_set ?_ GE326.out) | exact HB.out))) : w.heap.size ≤ gb330)); have n10_ := Aside0.mk ((by rw [hg]; exact Nat.ne_of_lt (blk_lt (g := gb300) (o := .cells #[.int .u64 a0_0, .int .u64 a0_1] 25 (0, 0)) (by exact BK300.out)) : gb300 ≠ gb330)); have n11_ := Aside0.mk ((by rw [hg]; exact Nat.ne_of_gt (blk_lt (g := gb300) (o := .cells #[.int .u64 a0_0, .int .u64 a0_1] 25 (0, 0)) (by exact BK300.out)) : gb330 ≠ gb300)); have n12_ := Aside0.mk ((by rw [hg]; exact Nat.ne_of_lt (blk_lt (g := gb301) (o := .cells #[.int .u64 a1_0, .int .u64 a1_1] 25 (0, 0)) (by exact BK301.out)) : gb301 ≠ gb330)); have n13_ := Aside0.mk ((by rw [hg]; exact Nat.ne_of_gt (blk_lt (g := gb301) (o := .cells #[.int .u64 a1_0, .int .u64 a1_1] 25 (0, 0)) (by exact BK301.out)) : gb330 ≠ gb301)); have n14_ := Aside0.mk ((by rw [hg]; exact Nat.ne_of_lt (blk_lt (g := gb306) (o := .cells #[.int .u64 t303, .int .u64 t304] 25 (0, 0)) (by exact BK306.out)) : gb306 ≠ gb330)); have n15_ := Aside0.mk ((by rw [hg]; exact Nat.ne_of_gt (blk_lt (g := gb306) (o := .cells #[.int .u64 t303, .int .u64 t304] 25 (0, 0)) (by exact BK306.out)) : gb330 ≠ gb306)); have n16_ := Aside0.mk ((by rw [hg]; exact Nat.ne_of_lt (blk_lt (g := gb310) (o := .cells #[.int .u64 t307, .int .u64 t308] 25 (0, 0)) (by exact BK310.out)) : gb310 ≠ gb330)); have n17_ := Aside0.mk ((by rw [hg]; exact Nat.ne_of_gt (blk_lt (g := gb310) (o := .cells #[.int .u64 t307, .int .u64 t308] 25 (0, 0)) (by exact BK310.out)) : gb330 ≠ gb310)); have n18_ := Aside0.mk ((by rw [hg]; exact Nat.ne_of_lt (blk_lt (g := gb318) (o := .cells #[.int .u64 t315, .int .u64 t316] 29 (0, 0)) (by exact BK318.out)) : gb318 ≠ gb330)); have n19_ := Aside0.mk ((by rw [hg]; exact Nat.ne_of_gt (blk_lt (g := gb318) (o := .cells #[.int .u64 t315, .int .u64 t316] 29 (0, 0)) (by exact BK318.out)) : gb330 ≠ gb318)); have n20_ := Aside0.mk ((by rw [hg]; exact Nat.ne_of_lt (blk_lt (g := gb326) (o := .cells #[.int .u64 t323, .int .u64 t324] 29 (0, 0)) (by exact BK326.out)) : gb326 ≠ gb330)); have n21_ := Aside0.mk ((by rw [hg]; exact Nat.ne_of_gt (blk_lt (g := gb326) (o := .cells #[.int .u64 t323, .int .u64 t324] 29 (0, 0)) (by exact BK326.out)) : gb330 ≠ gb326)); clear BK300; clear BK301; clear BK306; clear BK310; clear BK318; clear BK326; clear HB; have BK300 := n0_; have BK301 := n1_; have BK306 := n2_; have BK310 := n3_; have BK318 := n4_; have BK326 := n5_; have HB := n6_; have BK330 := n7_; have GW330 := n8_; have GE330 := n9_; have NB300_330 := n10_; have NB330_300 := n11_; have NB301_330 := n12_; have NB330_301 := n13_; have NB306_330 := n14_; have NB330_306 := n15_; have NB310_330 := n16_; have NB330_310 := n17_; have NB318_330 := n18_; have NB330_318 := n19_; have NB326_330 := n20_; have NB330_326 := n21_; clear n0_ n1_ n2_ n3_ n4_ n5_ n6_ n7_ n8_ n9_ n10_ n11_ n12_ n13_ n14_ n15_ n16_ n17_ n18_ n19_ n20_ n21_; clear hb hbox hg; have hnb65 := NB330_300.out; have hnc65 := NB300_330.out; have hnb66 := NB330_301.out; have hnc66 := NB301_330.out; have hnb67 := NB330_306.out; have hnc67 := NB306_330.out; have hnb68 := NB330_310.out; have hnc68 := NB310_330.out; have hnb69 := NB330_318.out; have hnc69 := NB318_330.out; have hnb70 := NB330_326.out; have hnc70 := NB326_330.out; have hcz71_0 : w64.cell? ⟨gb330, 0, none⟩ = some (.int .u64 0) := (blk_cell BK330.out 0).trans rfl; have hcz71_1 : w64.cell? ⟨gb330, 1, none⟩ = some (.int .u64 0) := (blk_cell BK330.out 1).trans rfl; have hfz71_0 := blk_frozen BK330.out 0; have hfz71_1 := blk_frozen BK330.out 1))
            have n0_ : Aside0 (((w64.setCell ⟨gb330, 0, none⟩ (.int .u64 t327)).setCell ⟨gb330, 1, none⟩ (.int .u64 t328)).heap[gb300]? = some (.cells #[.int .u64 a0_0, .int .u64 a0_1] 25 (0, 0))) := ⟨by refine blk_far ?_ NB300_330.out _; refine blk_far ?_ NB300_330.out _; exact BK300.out⟩
            have n1_ : Aside0 (((w64.setCell ⟨gb330, 0, none⟩ (.int .u64 t327)).setCell ⟨gb330, 1, none⟩ (.int .u64 t328)).heap[gb301]? = some (.cells #[.int .u64 a1_0, .int .u64 a1_1] 25 (0, 0))) := ⟨by refine blk_far ?_ NB301_330.out _; refine blk_far ?_ NB301_330.out _; exact BK301.out⟩
            have n2_ : Aside0 (((w64.setCell ⟨gb330, 0, none⟩ (.int .u64 t327)).setCell ⟨gb330, 1, none⟩ (.int .u64 t328)).heap[gb306]? = some (.cells #[.int .u64 t303, .int .u64 t304] 25 (0, 0))) := ⟨by refine blk_far ?_ NB306_330.out _; refine blk_far ?_ NB306_330.out _; exact BK306.out⟩
            have n3_ : Aside0 (((w64.setCell ⟨gb330, 0, none⟩ (.int .u64 t327)).setCell ⟨gb330, 1, none⟩ (.int .u64 t328)).heap[gb310]? = some (.cells #[.int .u64 t307, .int .u64 t308] 25 (0, 0))) := ⟨by refine blk_far ?_ NB310_330.out _; refine blk_far ?_ NB310_330.out _; exact BK310.out⟩
            have n4_ : Aside0 (((w64.setCell ⟨gb330, 0, none⟩ (.int .u64 t327)).setCell ⟨gb330, 1, none⟩ (.int .u64 t328)).heap[gb318]? = some (.cells #[.int .u64 t315, .int .u64 t316] 29 (0, 0))) := ⟨by refine blk_far ?_ NB318_330.out _; refine blk_far ?_ NB318_330.out _; exact BK318.out⟩
            have n5_ : Aside0 (((w64.setCell ⟨gb330, 0, none⟩ (.int .u64 t327)).setCell ⟨gb330, 1, none⟩ (.int .u64 t328)).heap[gb326]? = some (.cells #[.int .u64 t323, .int .u64 t324] 29 (0, 0))) := ⟨by refine blk_far ?_ NB326_330.out _; refine blk_far ?_ NB326_330.out _; exact BK326.out⟩
            have n6_ : Aside0 (((w64.setCell ⟨gb330, 0, none⟩ (.int .u64 t327)).setCell ⟨gb330, 1, none⟩ (.int .u64 t328)).heap[gb330]? = some (.cells #[.int .u64 t327, .int .u64 t328] 25 (0, 0))) := ⟨by refine blk_put (cs := #[.int .u64 t327, .int .u64 0]) ?_ 1 _ rfl; refine blk_put (cs := #[.int .u64 0, .int .u64 0]) ?_ 0 _ rfl; exact BK330.out⟩
            have n7_ : Aside0 (Below w.heap.size w ((w64.setCell ⟨gb330, 0, none⟩ (.int .u64 t327)).setCell ⟨gb330, 1, none⟩ (.int .u64 t328))) := ⟨by repeat (first | (with_reducible first | exact HB.out | apply below_alloc | apply pw_below_drewN | apply below_drew1 | refine below_set ?_ GE300.out | refine below_set ?_ GE301.out | refine below_set ?_ GE306.out | refine below_set ?_ GE310.out | refine below_set ?_ GE318.out | refine below_set ?_ GE326.out | refine below_set ?_ GE330.out) | exact HB.out)⟩
            (try clear BK300)
            (try clear BK301)
            (try clear BK306)
            (try clear BK310)
            (try clear BK318)
            (try clear BK326)
            (try clear BK330)
            (try clear HB)
            generalize ((w64.setCell ⟨gb330, 0, none⟩ (.int .u64 t327)).setCell ⟨gb330, 1, none⟩ (.int .u64 t328)) = w72 at n0_ n1_ n2_ n3_ n4_ n5_ n6_ n7_ ⊢
            have BK300 := n0_
            have BK301 := n1_
            have BK306 := n2_
            have BK310 := n3_
            have BK318 := n4_
            have BK326 := n5_
            have BK330 := n6_
            have HB := n7_
            clear n0_ n1_ n2_ n3_ n4_ n5_ n6_ n7_
            have n0_ := Aside0.mk (blk_drew BK300.out)
            have n1_ := Aside0.mk (blk_drew BK301.out)
            have n2_ := Aside0.mk (blk_drew BK306.out)
            have n3_ := Aside0.mk (blk_drew BK310.out)
            have n4_ := Aside0.mk (blk_drew BK318.out)
            have n5_ := Aside0.mk (blk_drew BK326.out)
            have n6_ := Aside0.mk (blk_drew BK330.out)
            have n7_ := Aside0.mk (below_drew1 HB.out)
            clear BK300
            clear BK301
            clear BK306
            clear BK310
            clear BK318
            clear BK326
            clear BK330
            clear HB
            have BK300 := n0_
            have BK301 := n1_
            have BK306 := n2_
            have BK310 := n3_
            have BK318 := n4_
            have BK326 := n5_
            have BK330 := n6_
            have HB := n7_
            clear n0_ n1_ n2_ n3_ n4_ n5_ n6_ n7_
            refine start_ (n := 26) (S := fun w' => w'.cell? ⟨gb306, 0, none⟩ = some (.int .u64 t303) ∧ w'.cell? ⟨gb306, 1, none⟩ = some (.int .u64 t304) ∧ w'.cell? ⟨gb318, 0, none⟩ = some (.int .u64 t315) ∧ w'.cell? ⟨gb318, 1, none⟩ = some (.int .u64 t316) ∧ w'.cell? ⟨gb310, 0, none⟩ = some (.int .u64 t307) ∧ w'.cell? ⟨gb310, 1, none⟩ = some (.int .u64 t308) ∧ w'.cell? ⟨gb326, 0, none⟩ = some (.int .u64 t323) ∧ w'.cell? ⟨gb326, 1, none⟩ = some (.int .u64 t324) ∧ w'.cell? ⟨gb330, 0, none⟩ = some (.int .u64 t327) ∧ w'.cell? ⟨gb330, 1, none⟩ = some (.int .u64 t328) ∧ w'.cell? ⟨gb300, 0, none⟩ = some (.int .u64 a0_0) ∧ w'.cell? ⟨gb300, 1, none⟩ = some (.int .u64 a0_1)) (ds := []) #[false, false, false, false, false, false, false, false, false, false, false, false, false, false, false, false, false, false, false, false, false, false, false, false, false, false] (by kernel_rfl) rfl rfl ⟨(blk_cell BK306.out 0).trans rfl, (blk_cell BK306.out 1).trans rfl, (blk_cell BK318.out 0).trans rfl, (blk_cell BK318.out 1).trans rfl, (blk_cell BK310.out 0).trans rfl, (blk_cell BK310.out 1).trans rfl, (blk_cell BK326.out 0).trans rfl, (blk_cell BK326.out 1).trans rfl, (blk_cell BK330.out 0).trans rfl, (blk_cell BK330.out 1).trans rfl, (blk_cell BK300.out 0).trans rfl, (blk_cell BK300.out 1).trans rfl⟩ (fun hHeld => ?_); refine with_tabW overfalllaw01_WideAdds.tab8 overfalllaw01_WideAdds.bits8 (fun HT_ HW_ => ?_)
            generalize w72.drew = w73 at BK300 BK301 BK306 BK310 BK318 BK326 BK330 HB hHeld ⊢
            refine take_ (i := 0) (N := some 51) (v := ?_) (a' := ?_) #[true, false, false, false, false, false, false, false, false, false, false, false, false, false, false, false, false, false, false, false, false, false, false, false, false, false] rfl rfl (take_ofW HT_.out HW_.out (by kernel_rfl)) (fun _ _ _ h => h) (Or.inl ⟨by rfl, ?_⟩) hHeld ?_ ?_
            rotate_left
            · rintro w' ⟨s0, s1, s2, s3, s4, s5, s6, s7, s8, s9, s10, s11⟩
              go_simp
              with_reducible rfl
            rotate_left
            · simp only [Act.put, List.setIfInBounds_toArray, List.set_cons_zero, List.set_cons_succ, i64_w, i32_w]
              rfl
            refine take_ (i := 2) (N := some 53) (v := ?_) (a' := ?_) #[true, false, true, false, false, false, false, false, false, false, false, false, false, false, false, false, false, false, false, false, false, false, false, false, false, false] rfl rfl (take_ofW HT_.out HW_.out (by kernel_rfl)) (fun _ _ _ h => h) (Or.inl ⟨by rfl, ?_⟩) hHeld ?_ ?_
            rotate_left
            · rintro w' ⟨s0, s1, s2, s3, s4, s5, s6, s7, s8, s9, s10, s11⟩
              go_simp
              with_reducible rfl
            rotate_left
            · simp only [Act.put, List.setIfInBounds_toArray, List.set_cons_zero, List.set_cons_succ, i64_w, i32_w]
              rfl
            refine one_ (i := 1) (N := some 52) #[true, true, true, false, false, false, false, false, false, false, false, false, false, false, false, false, false, false, false, false, false, false, false, false, false, false] rfl rfl (one_of HT_.out (by kernel_rfl)) (by decide) (fun K hK => ?_)
            refine goes_ Try.func14 (by kernel_rfl) rfl #[.agg #[.int .u64 t303, .int .u64 t304]] (by rfl) rfl rfl (by (try simp only [List.map_toArray, List.map_cons, List.map_nil]); first | done | rfl | (simp only [List.length_drop, List.length_take]; rfl)) ?_
            with_reducible refine (overfalllaw01_own.calls t303 t304 t331 t332 _ A14.out).mono ?_
            rintro e w74 ⟨rfl, hb⟩
            refine ⟨_, rfl, ?_⟩
            have n0_ := Aside0.mk (blk_below (g := gb300) (o := .cells #[.int .u64 a0_0, .int .u64 a0_1] 25 (0, 0)) (by exact BK300.out) hb)
            have n1_ := Aside0.mk (blk_below (g := gb301) (o := .cells #[.int .u64 a1_0, .int .u64 a1_1] 25 (0, 0)) (by exact BK301.out) hb)
            have n2_ := Aside0.mk (blk_below (g := gb306) (o := .cells #[.int .u64 t303, .int .u64 t304] 25 (0, 0)) (by exact BK306.out) hb)
            have n3_ := Aside0.mk (blk_below (g := gb310) (o := .cells #[.int .u64 t307, .int .u64 t308] 25 (0, 0)) (by exact BK310.out) hb)
            have n4_ := Aside0.mk (blk_below (g := gb318) (o := .cells #[.int .u64 t315, .int .u64 t316] 29 (0, 0)) (by exact BK318.out) hb)
            have n5_ := Aside0.mk (blk_below (g := gb326) (o := .cells #[.int .u64 t323, .int .u64 t324] 29 (0, 0)) (by exact BK326.out) hb)
            have n6_ := Aside0.mk (blk_below (g := gb330) (o := .cells #[.int .u64 t327, .int .u64 t328] 25 (0, 0)) (by exact BK330.out) hb)
            have n7_ := Aside0.mk (below_step (by repeat (first | (with_reducible first | exact HB.out | apply below_alloc | apply pw_below_drewN | apply below_drew1 | refine below_set ?_ GE300.out | refine below_set ?_ GE301.out | refine below_set ?_ GE306.out | refine below_set ?_ GE310.out | refine below_set ?_ GE318.out | refine below_set ?_ GE326.out | refine below_set ?_ GE330.out) | exact HB.out)) hb)
            clear BK300
            clear BK301
            clear BK306
            clear BK310
            clear BK318
            clear BK326
            clear BK330
            clear HB
            have BK300 := n0_
            have BK301 := n1_
            have BK306 := n2_
            have BK310 := n3_
            have BK318 := n4_
            have BK326 := n5_
            have BK330 := n6_
            have HB := n7_
            clear n0_ n1_ n2_ n3_ n4_ n5_ n6_ n7_
            (try clear hb)
            (try clear hb2)
            (try clear hk)
            (try clear hi)
            refine hK.out _ _ ⟨(blk_cell BK306.out 0).trans rfl, (blk_cell BK306.out 1).trans rfl, (blk_cell BK318.out 0).trans rfl, (blk_cell BK318.out 1).trans rfl, (blk_cell BK310.out 0).trans rfl, (blk_cell BK310.out 1).trans rfl, (blk_cell BK326.out 0).trans rfl, (blk_cell BK326.out 1).trans rfl, (blk_cell BK330.out 0).trans rfl, (blk_cell BK330.out 1).trans rfl, (blk_cell BK300.out 0).trans rfl, (blk_cell BK300.out 1).trans rfl⟩ (fun hHeld => ?_)
            clear hK K
            refine norm_ (a' := ?_) ?_ ?_
            rotate_left
            · show Act.put _ (some 52) _ = _
              simp only [Act.put, List.setIfInBounds_toArray, List.set_cons_zero, List.set_cons_succ, i64_w, i32_w]
              rfl
            refine pure_ (i := 3) (N := some 54) (v := ?_) (a' := ?_) #[true, true, true, true, false, false, false, false, false, false, false, false, false, false, false, false, false, false, false, false, false, false, false, false, false, false] rfl rfl (any_of HT_.out (by kernel_rfl)) (fun _ _ _ h => h) (Or.inl ⟨by rfl, ?_⟩) ?_ ?_
            rotate_left
            · intro w'
              go_simp
              with_reducible rfl
            rotate_left
            · simp only [Act.put, List.setIfInBounds_toArray, List.set_cons_zero, List.set_cons_succ, i64_w, i32_w]
              rfl
            refine pure_ (i := 4) (N := some 55) (v := ?_) (a' := ?_) #[true, true, true, true, true, false, false, false, false, false, false, false, false, false, false, false, false, false, false, false, false, false, false, false, false, false] rfl rfl (any_of HT_.out (by kernel_rfl)) (fun _ _ _ h => h) (Or.inl ⟨by rfl, ?_⟩) ?_ ?_
            rotate_left
            · intro w'
              go_simp
              with_reducible rfl
            rotate_left
            · simp only [Act.put, List.setIfInBounds_toArray, List.set_cons_zero, List.set_cons_succ, i64_w, i32_w]
              rfl
            refine take_ (i := 5) (N := some 56) (v := ?_) (a' := ?_) #[true, true, true, true, true, true, false, false, false, false, false, false, false, false, false, false, false, false, false, false, false, false, false, false, false, false] rfl rfl (take_ofW HT_.out HW_.out (by kernel_rfl)) (fun _ _ _ h => h) (Or.inl ⟨by rfl, ?_⟩) hHeld ?_ ?_
            rotate_left
            · rintro w' ⟨s0, s1, s2, s3, s4, s5, s6, s7, s8, s9, s10, s11⟩
              go_simp
              with_reducible rfl
            rotate_left
            · simp only [Act.put, List.setIfInBounds_toArray, List.set_cons_zero, List.set_cons_succ, i64_w, i32_w]
              rfl
            refine take_ (i := 7) (N := some 58) (v := ?_) (a' := ?_) #[true, true, true, true, true, true, false, true, false, false, false, false, false, false, false, false, false, false, false, false, false, false, false, false, false, false] rfl rfl (take_ofW HT_.out HW_.out (by kernel_rfl)) (fun _ _ _ h => h) (Or.inl ⟨by rfl, ?_⟩) hHeld ?_ ?_
            rotate_left
            · rintro w' ⟨s0, s1, s2, s3, s4, s5, s6, s7, s8, s9, s10, s11⟩
              go_simp
              with_reducible rfl
            rotate_left
            · simp only [Act.put, List.setIfInBounds_toArray, List.set_cons_zero, List.set_cons_succ, i64_w, i32_w]
              rfl
            refine one_ (i := 6) (N := some 57) #[true, true, true, true, true, true, true, true, false, false, false, false, false, false, false, false, false, false, false, false, false, false, false, false, false, false] rfl rfl (one_of HT_.out (by kernel_rfl)) (by decide) (fun K hK => ?_)
            refine goes_ Try.func14 (by kernel_rfl) rfl #[.agg #[.int .u64 t307, .int .u64 t308]] (by rfl) rfl rfl (by (try simp only [List.map_toArray, List.map_cons, List.map_nil]); first | done | rfl | (simp only [List.length_drop, List.length_take]; rfl)) ?_
            with_reducible refine (overfalllaw01_own.calls t307 t308 t333 t334 _ A16.out).mono ?_
            rintro e w75 ⟨rfl, hb⟩
            refine ⟨_, rfl, ?_⟩
            have n0_ := Aside0.mk (blk_below (g := gb300) (o := .cells #[.int .u64 a0_0, .int .u64 a0_1] 25 (0, 0)) (by exact BK300.out) hb)
            have n1_ := Aside0.mk (blk_below (g := gb301) (o := .cells #[.int .u64 a1_0, .int .u64 a1_1] 25 (0, 0)) (by exact BK301.out) hb)
            have n2_ := Aside0.mk (blk_below (g := gb306) (o := .cells #[.int .u64 t303, .int .u64 t304] 25 (0, 0)) (by exact BK306.out) hb)
            have n3_ := Aside0.mk (blk_below (g := gb310) (o := .cells #[.int .u64 t307, .int .u64 t308] 25 (0, 0)) (by exact BK310.out) hb)
            have n4_ := Aside0.mk (blk_below (g := gb318) (o := .cells #[.int .u64 t315, .int .u64 t316] 29 (0, 0)) (by exact BK318.out) hb)
            have n5_ := Aside0.mk (blk_below (g := gb326) (o := .cells #[.int .u64 t323, .int .u64 t324] 29 (0, 0)) (by exact BK326.out) hb)
            have n6_ := Aside0.mk (blk_below (g := gb330) (o := .cells #[.int .u64 t327, .int .u64 t328] 25 (0, 0)) (by exact BK330.out) hb)
            have n7_ := Aside0.mk (below_step (by repeat (first | (with_reducible first | exact HB.out | apply below_alloc | apply pw_below_drewN | apply below_drew1 | refine below_set ?_ GE300.out | refine below_set ?_ GE301.out | refine below_set ?_ GE306.out | refine below_set ?_ GE310.out | refine below_set ?_ GE318.out | refine below_set ?_ GE326.out | refine below_set ?_ GE330.out) | exact HB.out)) hb)
            clear BK300
            clear BK301
            clear BK306
            clear BK310
            clear BK318
            clear BK326
            clear BK330
            clear HB
            have BK300 := n0_
            have BK301 := n1_
            have BK306 := n2_
            have BK310 := n3_
            have BK318 := n4_
            have BK326 := n5_
            have BK330 := n6_
            have HB := n7_
            clear n0_ n1_ n2_ n3_ n4_ n5_ n6_ n7_
            (try clear hb)
            (try clear hb2)
            (try clear hk)
            (try clear hi)
            refine hK.out _ _ ⟨(blk_cell BK306.out 0).trans rfl, (blk_cell BK306.out 1).trans rfl, (blk_cell BK318.out 0).trans rfl, (blk_cell BK318.out 1).trans rfl, (blk_cell BK310.out 0).trans rfl, (blk_cell BK310.out 1).trans rfl, (blk_cell BK326.out 0).trans rfl, (blk_cell BK326.out 1).trans rfl, (blk_cell BK330.out 0).trans rfl, (blk_cell BK330.out 1).trans rfl, (blk_cell BK300.out 0).trans rfl, (blk_cell BK300.out 1).trans rfl⟩ (fun hHeld => ?_)
            clear hK K
            refine norm_ (a' := ?_) ?_ ?_
            rotate_left
            · show Act.put _ (some 57) _ = _
              simp only [Act.put, List.setIfInBounds_toArray, List.set_cons_zero, List.set_cons_succ, i64_w, i32_w]
              rfl
            refine pure_ (i := 8) (N := some 59) (v := ?_) (a' := ?_) #[true, true, true, true, true, true, true, true, true, false, false, false, false, false, false, false, false, false, false, false, false, false, false, false, false, false] rfl rfl (any_of HT_.out (by kernel_rfl)) (fun _ _ _ h => h) (Or.inl ⟨by rfl, ?_⟩) ?_ ?_
            rotate_left
            · intro w'
              go_simp
              with_reducible rfl
            rotate_left
            · simp only [Act.put, List.setIfInBounds_toArray, List.set_cons_zero, List.set_cons_succ, i64_w, i32_w]
              rfl
            refine pure_ (i := 9) (N := some 60) (v := ?_) (a' := ?_) #[true, true, true, true, true, true, true, true, true, true, false, false, false, false, false, false, false, false, false, false, false, false, false, false, false, false] rfl rfl (any_of HT_.out (by kernel_rfl)) (fun _ _ _ h => h) (Or.inl ⟨by rfl, ?_⟩) ?_ ?_
            rotate_left
            · intro w'
              go_simp
              with_reducible rfl
            rotate_left
            · simp only [Act.put, List.setIfInBounds_toArray, List.set_cons_zero, List.set_cons_succ, i64_w, i32_w]
              rfl
            refine pure_ (i := 10) (N := some 61) (v := ?_) (a' := ?_) #[true, true, true, true, true, true, true, true, true, true, true, false, false, false, false, false, false, false, false, false, false, false, false, false, false, false] rfl rfl (any_of HT_.out (by kernel_rfl)) (fun _ _ _ h => h) (Or.inl ⟨by rfl, ?_⟩) ?_ ?_
            rotate_left
            · intro w'
              go_simp
              with_reducible rfl
            rotate_left
            · simp only [Act.put, List.setIfInBounds_toArray, List.set_cons_zero, List.set_cons_succ, i64_w, i32_w]
              rfl
            refine pure_ (i := 11) (N := some 62) (v := ?_) (a' := ?_) #[true, true, true, true, true, true, true, true, true, true, true, true, false, false, false, false, false, false, false, false, false, false, false, false, false, false] rfl rfl (any_of HT_.out (by kernel_rfl)) (fun _ _ _ h => h) (Or.inl ⟨by rfl, ?_⟩) ?_ ?_
            rotate_left
            · intro w'
              go_simp
              with_reducible rfl
            rotate_left
            · simp only [Act.put, List.setIfInBounds_toArray, List.set_cons_zero, List.set_cons_succ, i64_w, i32_w]
              rfl
            refine pure_ (i := 12) (N := some 63) (v := ?_) (a' := ?_) #[true, true, true, true, true, true, true, true, true, true, true, true, true, false, false, false, false, false, false, false, false, false, false, false, false, false] rfl rfl (any_of HT_.out (by kernel_rfl)) (fun _ _ _ h => h) (Or.inl ⟨by rfl, ?_⟩) ?_ ?_
            rotate_left
            · intro w'
              go_simp
              with_reducible rfl
            rotate_left
            · simp only [Act.put, List.setIfInBounds_toArray, List.set_cons_zero, List.set_cons_succ, i64_w, i32_w]
              rfl
            refine pure_ (i := 13) (N := some 64) (v := ?_) (a' := ?_) #[true, true, true, true, true, true, true, true, true, true, true, true, true, true, false, false, false, false, false, false, false, false, false, false, false, false] rfl rfl (any_of HT_.out (by kernel_rfl)) (fun _ _ _ h => h) (Or.inl ⟨by rfl, ?_⟩) ?_ ?_
            rotate_left
            · intro w'
              go_simp
              with_reducible rfl
            rotate_left
            · simp only [Act.put, List.setIfInBounds_toArray, List.set_cons_zero, List.set_cons_succ, i64_w, i32_w]
              rfl
            refine pure_ (i := 14) (N := some 65) (v := ?_) (a' := ?_) #[true, true, true, true, true, true, true, true, true, true, true, true, true, true, true, false, false, false, false, false, false, false, false, false, false, false] rfl rfl (any_of HT_.out (by kernel_rfl)) (fun _ _ _ h => h) (Or.inl ⟨by rfl, ?_⟩) ?_ ?_
            rotate_left
            · intro w'
              go_simp
              with_reducible rfl
            rotate_left
            · simp only [Act.put, List.setIfInBounds_toArray, List.set_cons_zero, List.set_cons_succ, i64_w, i32_w]
              rfl
            refine pure_ (i := 15) (N := some 66) (v := ?_) (a' := ?_) #[true, true, true, true, true, true, true, true, true, true, true, true, true, true, true, true, false, false, false, false, false, false, false, false, false, false] rfl rfl (any_of HT_.out (by kernel_rfl)) (fun _ _ _ h => h) (Or.inl ⟨by rfl, ?_⟩) ?_ ?_
            rotate_left
            · intro w'
              go_simp
              with_reducible rfl
            rotate_left
            · simp only [Act.put, List.setIfInBounds_toArray, List.set_cons_zero, List.set_cons_succ, i64_w, i32_w]
              rfl
            refine pure_ (i := 16) (N := some 67) (v := ?_) (a' := ?_) #[true, true, true, true, true, true, true, true, true, true, true, true, true, true, true, true, true, false, false, false, false, false, false, false, false, false] rfl rfl (any_of HT_.out (by kernel_rfl)) (fun _ _ _ h => h) (Or.inl ⟨by rfl, ?_⟩) ?_ ?_
            rotate_left
            · intro w'
              go_simp
              with_reducible rfl
            rotate_left
            · simp only [Act.put, List.setIfInBounds_toArray, List.set_cons_zero, List.set_cons_succ, i64_w, i32_w]
              rfl
            refine pure_ (i := 17) (N := some 68) (v := ?_) (a' := ?_) #[true, true, true, true, true, true, true, true, true, true, true, true, true, true, true, true, true, true, false, false, false, false, false, false, false, false] rfl rfl (any_of HT_.out (by kernel_rfl)) (fun _ _ _ h => h) (Or.inl ⟨by rfl, ?_⟩) ?_ ?_
            rotate_left
            · intro w'
              go_simp
              with_reducible rfl
            rotate_left
            · simp only [Act.put, List.setIfInBounds_toArray, List.set_cons_zero, List.set_cons_succ, i64_w, i32_w]
              rfl
            refine pure_ (i := 18) (N := some 69) (v := ?_) (a' := ?_) #[true, true, true, true, true, true, true, true, true, true, true, true, true, true, true, true, true, true, true, false, false, false, false, false, false, false] rfl rfl (any_of HT_.out (by kernel_rfl)) (fun _ _ _ h => h) (Or.inl ⟨by rfl, ?_⟩) ?_ ?_
            rotate_left
            · intro w'
              go_simp
              with_reducible rfl
            rotate_left
            · simp only [Act.put, List.setIfInBounds_toArray, List.set_cons_zero, List.set_cons_succ, i64_w, i32_w]
              rfl
            refine pure_ (i := 19) (N := some 70) (v := ?_) (a' := ?_) #[true, true, true, true, true, true, true, true, true, true, true, true, true, true, true, true, true, true, true, true, false, false, false, false, false, false] rfl rfl (any_of HT_.out (by kernel_rfl)) (fun _ _ _ h => h) (Or.inl ⟨by rfl, ?_⟩) ?_ ?_
            rotate_left
            · intro w'
              go_simp
              with_reducible rfl
            rotate_left
            · simp only [Act.put, List.setIfInBounds_toArray, List.set_cons_zero, List.set_cons_succ, i64_w, i32_w]
              rfl
            refine pure_ (i := 20) (N := some 71) (v := ?_) (a' := ?_) #[true, true, true, true, true, true, true, true, true, true, true, true, true, true, true, true, true, true, true, true, true, false, false, false, false, false] rfl rfl (any_of HT_.out (by kernel_rfl)) (fun _ _ _ h => h) (Or.inl ⟨by rfl, ?_⟩) ?_ ?_
            rotate_left
            · intro w'
              go_simp
              with_reducible rfl
            rotate_left
            · simp only [Act.put, List.setIfInBounds_toArray, List.set_cons_zero, List.set_cons_succ, i64_w, i32_w]
              rfl
            refine take_ (i := 21) (N := some 72) (v := ?_) (a' := ?_) #[true, true, true, true, true, true, true, true, true, true, true, true, true, true, true, true, true, true, true, true, true, true, false, false, false, false] rfl rfl (take_ofW HT_.out HW_.out (by kernel_rfl)) (fun _ _ _ h => h) (Or.inl ⟨by rfl, ?_⟩) hHeld ?_ ?_
            rotate_left
            · rintro w' ⟨s0, s1, s2, s3, s4, s5, s6, s7, s8, s9, s10, s11⟩
              go_simp
              with_reducible rfl
            rotate_left
            · simp only [Act.put, List.setIfInBounds_toArray, List.set_cons_zero, List.set_cons_succ, i64_w, i32_w]
              rfl
            refine take_ (i := 22) (N := some 73) (v := ?_) (a' := ?_) #[true, true, true, true, true, true, true, true, true, true, true, true, true, true, true, true, true, true, true, true, true, true, true, false, false, false] rfl rfl (take_ofW HT_.out HW_.out (by kernel_rfl)) (fun _ _ _ h => h) (Or.inl ⟨by rfl, ?_⟩) hHeld ?_ ?_
            rotate_left
            · rintro w' ⟨s0, s1, s2, s3, s4, s5, s6, s7, s8, s9, s10, s11⟩
              go_simp
              with_reducible rfl
            rotate_left
            · simp only [Act.put, List.setIfInBounds_toArray, List.set_cons_zero, List.set_cons_succ, i64_w, i32_w]
              rfl
            refine pure_ (i := 23) (N := some 74) (v := ?_) (a' := ?_) #[true, true, true, true, true, true, true, true, true, true, true, true, true, true, true, true, true, true, true, true, true, true, true, true, false, false] rfl rfl (any_of HT_.out (by kernel_rfl)) (fun _ _ _ h => h) (Or.inl ⟨by rfl, ?_⟩) ?_ ?_
            rotate_left
            · intro w'
              go_simp
              with_reducible rfl
            rotate_left
            · simp only [Act.put, List.setIfInBounds_toArray, List.set_cons_zero, List.set_cons_succ, i64_w, i32_w]
              rfl
            refine pure_ (i := 24) (N := some 75) (v := ?_) (a' := ?_) #[true, true, true, true, true, true, true, true, true, true, true, true, true, true, true, true, true, true, true, true, true, true, true, true, true, false] rfl rfl (any_of HT_.out (by kernel_rfl)) (fun _ _ _ h => h) (Or.inl ⟨by rfl, ?_⟩) ?_ ?_
            rotate_left
            · intro w'
              go_simp
              with_reducible rfl
            rotate_left
            · simp only [Act.put, List.setIfInBounds_toArray, List.set_cons_zero, List.set_cons_succ, i64_w, i32_w]
              rfl
            refine pure_ (i := 25) (N := some 4) (v := ?_) (a' := ?_) #[true, true, true, true, true, true, true, true, true, true, true, true, true, true, true, true, true, true, true, true, true, true, true, true, true, true] rfl rfl (any_of HT_.out (by kernel_rfl)) (fun _ _ _ h => h) (Or.inl ⟨by rfl, ?_⟩) ?_ ?_
            rotate_left
            · intro w'
              go_simp
              with_reducible rfl
            rotate_left
            · simp only [Act.put, List.setIfInBounds_toArray, List.set_cons_zero, List.set_cons_succ, i64_w, i32_w]
              rfl
            refine done_ (done_of HT_.out (by kernel_rfl)) ?_
            try go_wp2
            go_ret
            exact ⟨by first | rfl | (simp [errW_none, errW_some] <;> rfl) | (simp [*, errW_none, errW_some] <;> rfl), by repeat (first | (with_reducible first | exact HB.out | apply below_alloc | apply pw_below_drewN | apply below_drew1 | refine below_set ?_ GE300.out | refine below_set ?_ GE301.out | refine below_set ?_ GE306.out | refine below_set ?_ GE310.out | refine below_set ?_ GE318.out | refine below_set ?_ GE326.out | refine below_set ?_ GE330.out) | exact HB.out)⟩
          · rw [if_neg c19] at H
            exact absurd H (by simp)
        · rw [if_neg c18] at H
          exact absurd H (by simp)
      · rw [if_neg c17] at H
        exact absurd H (by simp)
    · rw [if_neg c15] at H
      exact absurd H (by simp)
  · replace c4 := Bool.eq_false_iff.mpr c4
    subst c4
    have H1 : (none) = some r := by rw [if_neg (show ¬ (false = true) by decide)] at H; exact H
    clear H
    have H := H1
    clear H1
    exact absurd H (by simp)

end Go.Proofs.Ytdgbehbiigggmaa.G

/- The rows' example. -/
import Derived.Test.YtofapimappeppaaDqs
namespace Go.Proofs.Ytofapimappeppaa.Z
open Go.RowKit Go.Proofs.YtofapimappeppaaW.PrintWords Go.Proofs.YtofapimappeppaaW.PrintLast Go.Proofs.YtofapimappeppaaW.PrintMore
attribute [local go_sem] max2_int min2_int max_two min_two max_three min_three max_four min_four
set_option linter.unusedVariables false
set_option linter.unusedSimpArgs false
theorem kp2_to {B b1 b2 : Nat} {w W V : World} (k : Kp [b1, b2] W V) (hb : Below B w W) (h1 : B ≤ b1) (h2 : B ≤ b2) (hB : B ≤ W.heap.size) : Below B w V :=
  Kp.to_below hb hB k (by simp only [List.mem_cons, List.not_mem_nil, or_false]; rintro b (rfl | rfl) <;> omega)
set_option maxHeartbeats 8000000 in
set_option maxRecDepth 100000 in
theorem dawake_ok (w : World) : Calls Try.prog 8 #[] w fun e w' => e = .returned (.bool true) ∧ Below w.heap.size w w' := by
 go_enter Try.func8, Try.ntmps8
 go_wp2_with (fail)
 refine (dnew_ok 2 5 (by omega) (by omega) (by omega) (by omega) _).mono ?_
 rintro e w1 ⟨g, br, bl, rfl, hs, hg, hbr, hbl, hb⟩
 have h0 := DR.new 2 5 (by omega)
 have HS := Aside0.mk hs
 have H0 := Aside0.mk h0
 have HB := Aside0.mk hb
 clear hs h0 hb
 go_wp2_with (fail)
 refine (push_dr 1 3 g br bl _ _ [] _ HS.out H0.out rfl (by decide) (fun r' l' hl' hm => by
   have := List.mem_of_getElem? hl'
   rw [List.mem_replicate] at this
   rw [this.2] at hm
   cases hm)).mono ?_
 rintro e w2 ⟨rfl, d2, hs2, h2, hl2, hk2⟩
 have h2 : DR d2 [[], [3]] := h2
 have hl2 : d2.links.length = 5 := by rw [hl2]; rfl
 have HS2 := Aside0.mk hs2
 have H2 := Aside0.mk h2
 have HL2 := Aside0.mk hl2
 have HK2 := Aside0.mk hk2
 clear hs2 h2 hl2 hk2 HS H0
 go_wp2_with (fail)
 refine (push_dr 1 0 g br bl _ _ [3] _ HS2.out H2.out rfl (by rw [HL2.out]; decide) (fun r' l' hl' hm => by
   have := List.mem_of_getElem? hl'
   simp at this
   rcases this with rfl | rfl <;> simp at hm)).mono ?_
 rintro e w3 ⟨rfl, d3, hs3, h3, hl3, hk3⟩
 have h3 : DR d3 [[], [3, 0]] := h3
 have HS3 := Aside0.mk hs3
 have H3 := Aside0.mk h3
 have HK3 := Aside0.mk hk3
 clear hs3 h3 hl3 hk3 HS2 H2
 go_wp2_with (fail)
 refine (front_any 1 g br bl _ _ HS3.out).mono ?_
 rintro e w' ⟨he, rfl⟩
 rw [show d3.endOf 1 false = (3, true) from H3.out.endOf (r := 1) rfl false (by simp)] at he
 subst he
 go_wp2_with (fail)
 refine (back_any 1 g br bl _ _ HS3.out).mono ?_
 rintro e w' ⟨he, rfl⟩
 rw [show d3.endOf 1 true = (0, true) from H3.out.endOf (r := 1) rfl true (by simp)] at he
 subst he
 go_wp2
 go_ret
 exact ⟨rfl, kp2_to HK3.out (kp2_to HK2.out HB.out hbr hbl HB.out.size) hbr hbl (Nat.le_trans HB.out.size HK2.out.size)⟩
end Go.Proofs.Ytofapimappeppaa.Z

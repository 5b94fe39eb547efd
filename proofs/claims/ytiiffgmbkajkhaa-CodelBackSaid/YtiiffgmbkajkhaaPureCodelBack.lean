/- CodelBack's pure statement: dropping that begins again soon goes on as fast as it went. -/
import Derived.Test.YtiiffgmbkajkhaaBCa
import Derived.Test.YtiiffgmbkajkhaaBx12
namespace Go.Proofs.Ytiiffgmbkajkhaa.Pure
set_option linter.unusedVariables false
set_option linter.unusedSimpArgs false
open Go.RowKit Go.Proofs.Ytiiffgmbkajkhaa.B Go.Proofs.YtiiffgmbkajkhaaW.PrintWords Go.Proofs.YtiiffgmbkajkhaaW.PrintLast Go.Proofs.YtiiffgmbkajkhaaW.PrintMore
open Go.Proofs.Ytiiffgmbkajkhaa.Lib

theorem back_j1 (k : Nat) (now d tg iv y c : Int) (b : Bool) (hc : c = if b = true then d else 1) (hl : overfallref03_Law.f k iv c = some y) (hz : overfallref02_Add.f k now y = some (sat (now + y))) :
    overfalllaw08_CodelBack.j1 (k + 1) now 2 d b tg iv true now true (sat (now + y)) c c = some true := by
  rw [overfalllaw08_CodelBack.j1]
  cases b
  · rw [if_neg Bool.false_ne_true] at hc
    subst hc
    rw [if_neg Bool.false_ne_true, if_pos (rfl : (2 : Int) = 2), if_pos (rfl : true = true), if_pos (rfl : (1 : Int) = 1), if_pos (rfl : (1 : Int) = 1), hl, Option.bind_some, hz, Option.bind_some, if_pos (rfl : sat (now + y) = sat (now + y)), beq_self_eq_true]
  · rw [if_pos (rfl : true = true)] at hc
    subst hc
    rw [if_pos (rfl : true = true), if_pos (rfl : (2 : Int) = 2), if_pos (rfl : true = true), if_pos (rfl : c = c), if_pos (rfl : c = c), hl, Option.bind_some, hz, Option.bind_some, if_pos (rfl : sat (now + y) = sat (now + y)), beq_self_eq_true]
theorem back_j0 (k : Nat) (now bl nx co la tg iv x y z d c : Int) (hd : IntKind.u64.wrap (co - la) = d) (hlook : codel_State_Look.f (k + 1) true now false nx co la tg iv now tg bl = some (true, now, true, sat (now + z), c, c, 2)) (h1 : overfallref02_Sub.f (k + 1) now nx = some x) (h2 : overfallref02_Mul.f (k + 1) 16 iv = some y) (hc : c = if d > 1 ∧ d ≤ 9223372036854775808 ∧ x < y then d else 1) (hl : overfallref03_Law.f k iv c = some z) (hz : overfallref02_Add.f k now z = some (sat (now + z))) :
    overfalllaw08_CodelBack.j0 (k + 1 + 1) now bl true now false nx co la tg iv = some true := by
  rw [overfalllaw08_CodelBack.j0, hlook, Option.bind_some]
  dsimp only
  rw [h1, Option.bind_some, h2, Option.bind_some, hd]
  by_cases a : x < y
  · rw [if_pos a]
    by_cases b : d ≥ 2
    · rw [if_pos b]
      refine back_j1 k now d tg iv z c _ ?_ hl hz
      rw [hc]
      by_cases e : d ≤ 9223372036854775808
      · rw [decide_eq_true e, if_pos (rfl : true = true), if_pos ⟨by omega, e, a⟩]
      · rw [decide_eq_false e, if_neg Bool.false_ne_true, if_neg (fun h => e h.2.1)]
    · rw [if_neg b]
      refine back_j1 k now d tg iv z c _ ?_ hl hz
      rw [hc, if_neg Bool.false_ne_true, if_neg (fun h => b (by omega))]
  · rw [if_neg a]
    refine back_j1 k now d tg iv z c _ ?_ hl hz
    rw [hc, if_neg Bool.false_ne_true, if_neg (fun h => a h.2.2)]
theorem back_core (s : Cs) (hs : s.ok) (hab : s.Ab = true) (hdr : s.Dr = false) (tg iv now bl : Int) (hfi : s.Fi = now) (hbl : bl > 1) (n0 : -9223372036854775808 ≤ now) (n1 : now < 9223372036854775808) (i0 : -9223372036854775808 ≤ iv) (i1 : iv < 9223372036854775808) : ∃ K, ∀ k, K ≤ k → overfalllaw08_CodelBack.j0 k now bl true now false s.Nx s.Co s.La tg iv = some true := by
  have hh : high tg tg bl = true := by unfold high; rw [decide_eq_true (show tg ≥ tg by omega), decide_eq_true hbl]; rfl
  have hm : mayS now true s = true := by unfold mayS; rw [hab, hfi, decide_eq_true (show now ≥ now by omega)]; rfl
  have hn : noteS iv now true s = s := by unfold noteS; rw [if_pos (rfl : true = true), if_pos hab]
  have lk : lookS iv now true s = enterS iv now s := by unfold lookS; rw [if_pos hm, hn, if_neg (by rw [hdr]; exact Bool.false_ne_true)]
  have lv : lookV iv now true s = 2 := by unfold lookV; rw [if_pos hm, if_neg (by rw [hdr]; exact Bool.false_ne_true)]
  obtain ⟨K1, e1⟩ := plookf hs tg iv now tg bl n0 n1 i0 i1
  rw [hh, lk, lv, hab, hdr, hfi] at e1
  have fb := fastC_bd iv now s
  have lb := lawv_bd iv (fastC iv now s) i0 i1 (by omega) (by omega)
  obtain ⟨K2, e2⟩ := rlawv iv (fastC iv now s) i0 i1 (by omega) (by omega)
  refine ⟨K1 + K2 + 60, fun k hk => ?_⟩
  obtain ⟨j, rfl⟩ : ∃ j, k = j + 40 + 1 + 1 := ⟨k - 42, by omega⟩
  refine back_j0 (j + 40) now bl s.Nx s.Co s.La tg iv _ _ (lawv iv (fastC iv now s)) _ (fastC iv now s) (wu _) ?_ (rsub2f (j + 21) now s.Nx n0 n1 hs.n0 hs.n1) (rmul2f (j + 1) 16 iv (by omega) (by omega) i0 i1) rfl (e2 _ (by omega)) (radd2f (j + 20) _ _ n0 n1 (by omega) (by omega))
  have := e1 (j + 40 + 1) (by omega)
  rw [this]
  unfold enterS
  dsimp only
  rw [hab, hfi]
theorem back_abs (k : Nat) (ab : Bool) (fi : Int) (dr : Bool) (nx co la tg iv now bl : Int) (ha : overfalllaw08_awake.f k = some true) (h : overfalllaw08_CodelBack.j0 k now (max bl 2) true now false nx co la tg (max iv 0) = some true) :
    overfalllaw08_CodelBack.f k ab fi dr nx co la tg iv now bl = some true := by
  rw [overfalllaw08_CodelBack.f, ha, Option.bind_some, if_pos (rfl : true = true), mx_max]
  by_cases c : bl < 2
  · rw [show max bl 2 = 2 by omega] at h
    rw [if_pos c, h]
  · rw [show max bl 2 = bl by omega] at h
    rw [if_neg c, h]
theorem CodelBack : ∀ (a0_0 : Bool) (a0_1 : Int) (a0_2 : Bool) (a0_3 : Int) (a0_4 : Int) (a0_5 : Int) (a1_0 : Int) (a1_1 : Int) (a2 : Int) (a3 : Int), (Lit.int .i64 a0_1).wf = true → (Lit.int .i64 a0_3).wf = true → (Lit.int .u64 a0_4).wf = true → (Lit.int .u64 a0_5).wf = true → (Lit.int .i64 a1_0).wf = true → (Lit.int .i64 a1_1).wf = true → (Lit.int .i64 a2).wf = true → (Lit.int .i64 a3).wf = true → ∃ k, overfalllaw08_CodelBack.f k a0_0 a0_1 a0_2 a0_3 a0_4 a0_5 a1_0 a1_1 a2 a3 = some true := by
  intro a0_0 a0_1 a0_2 a0_3 a0_4 a0_5 a1_0 a1_1 a2 a3 h1 h2 h3 h4 h5 h6 h7 h8
  have b1 := bounds_i64 h1
  have b2 := bounds_i64 h2
  have b3 := wf_u64 h3
  have b4 := wf_u64 h4
  have b5 := bounds_i64 h5
  have b6 := bounds_i64 h6
  have hs : Cs.ok ⟨a0_0, a0_1, a0_2, a0_3, a0_4, a0_5⟩ := ⟨b1.1, by show a0_1 < _; omega, b2.1, by show a0_3 < _; omega, b3.1, b3.2, b4.1, b4.2⟩
  obtain ⟨K0, ha⟩ := awakef
  have b7 := bounds_i64 h7
  have b8 := bounds_i64 h8
  have hs' : Cs.ok ⟨true, a2, false, a0_3, a0_4, a0_5⟩ := ⟨b7.1, by show a2 < _; omega, hs.n0, hs.n1, hs.c0, hs.c1, hs.l0, hs.l1⟩
  obtain ⟨K1, e⟩ := back_core ⟨true, a2, false, a0_3, a0_4, a0_5⟩ hs' rfl rfl a1_0 (max a1_1 0) a2 (max a3 2) rfl (by omega) b7.1 (by omega) (by omega) (by omega)
  exact ⟨K0 + K1, back_abs _ _ _ _ _ _ _ _ _ _ _ (ha _ (by omega)) (e _ (by omega))⟩
end Go.Proofs.Ytiiffgmbkajkhaa.Pure

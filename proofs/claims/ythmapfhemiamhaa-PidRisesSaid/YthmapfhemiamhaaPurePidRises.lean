/- PidRises' pure statement: a busier sample never leaves a lower level. -/
import Derived.Test.YthmapfhemiamhaaPPa
import Derived.Test.YthmapfhemiamhaaPx9
namespace Go.Proofs.Ythmapfhemiamhaa.Pure
set_option linter.unusedVariables false
set_option linter.unusedSimpArgs false
open Go.RowKit Go.Proofs.Ythmapfhemiamhaa.P Go.Proofs.YthmapfhemiamhaaW.PrintWords Go.Proofs.YthmapfhemiamhaaW.PrintLast Go.Proofs.YthmapfhemiamhaaW.PrintMore
open Go.Proofs.Ythmapfhemiamhaa.Lib

theorem rises_abs (k : Nat) (s : St) (p q : Pp) (u v x y z x' y' z' : Int) (ha : overfalllaw11_awake.f k = some true) (hr : overfalllaw11_right.f p.Sp p.Kp p.Ki p.Kd p.Lim p.Step p.Most = some (q.Sp, q.Kp, q.Ki, q.Kd, q.Lim, q.Step, q.Most)) (h1 : pid_State_Sample.f k (mx s.S 0) s.La s.Le q.Sp q.Kp q.Ki q.Kd q.Lim q.Step q.Most (min u v) = some (x, y, z)) (h2 : pid_State_Sample.f k (mx s.S 0) s.La s.Le q.Sp q.Kp q.Ki q.Kd q.Lim q.Step q.Most (max u v) = some (x', y', z')) (hz : z ≤ z') :
    overfalllaw11_PidRises.f k s.S s.La s.Le p.Sp p.Kp p.Ki p.Kd p.Lim p.Step p.Most u v = some true := by
  rw [overfalllaw11_PidRises.f, ha, Option.bind_some, if_pos (rfl : true = true), hr, Option.bind_some]
  dsimp only
  by_cases c : u > v
  · rw [show min u v = v by omega] at h1
    rw [show max u v = u by omega] at h2
    rw [if_pos c, h1, Option.bind_some, h2, Option.bind_some]
    dsimp only
    rw [decide_eq_true hz]
  · rw [show min u v = u by omega] at h1
    rw [show max u v = v by omega] at h2
    rw [if_neg c, h1, Option.bind_some, h2, Option.bind_some]
    dsimp only
    rw [decide_eq_true hz]
theorem PidRises : ∀ (a0_0 : Int) (a0_1 : Int) (a0_2 : Int) (a1_0 : Int) (a1_1 : Int) (a1_2 : Int) (a1_3 : Int) (a1_4 : Int) (a1_5 : Int) (a1_6 : Int) (a2 : Int) (a3 : Int), (Lit.int .i64 a0_0).wf = true → (Lit.int .i64 a0_1).wf = true → (Lit.int .i64 a0_2).wf = true → (Lit.int .i64 a1_0).wf = true → (Lit.int .i64 a1_1).wf = true → (Lit.int .i64 a1_2).wf = true → (Lit.int .i64 a1_3).wf = true → (Lit.int .i64 a1_4).wf = true → (Lit.int .i64 a1_5).wf = true → (Lit.int .i64 a1_6).wf = true → (Lit.int .i64 a2).wf = true → (Lit.int .i64 a3).wf = true → ∃ k, overfalllaw11_PidRises.f k a0_0 a0_1 a0_2 a1_0 a1_1 a1_2 a1_3 a1_4 a1_5 a1_6 a2 a3 = some true := by
  intro a0_0 a0_1 a0_2 a1_0 a1_1 a1_2 a1_3 a1_4 a1_5 a1_6 a2 a3 h0 h1 h2 h3 h4 h5 h6 h7 h8 h9 h10 h11
  have b0 := bounds_i64 h0
  have b1 := bounds_i64 h1
  have b2 := bounds_i64 h2
  have b3 := bounds_i64 h3
  have b4 := bounds_i64 h4
  have b5 := bounds_i64 h5
  have b6 := bounds_i64 h6
  have b7 := bounds_i64 h7
  have b8 := bounds_i64 h8
  have b9 := bounds_i64 h9
  have hs : St.ok ⟨a0_0, a0_1, a0_2⟩ := ⟨b0.1, by show a0_0 < _; omega, b1.1, by show a0_1 < _; omega, b2.1, by show a0_2 < _; omega⟩
  have hp : Pp.ok ⟨a1_0, a1_1, a1_2, a1_3, a1_4, a1_5, a1_6⟩ := ⟨b3.1, by show a1_0 < _; omega, b4.1, by show a1_1 < _; omega, b5.1, by show a1_2 < _; omega, b6.1, by show a1_3 < _; omega, b7.1, by show a1_4 < _; omega, b8.1, by show a1_5 < _; omega, b9.1, by show a1_6 < _; omega⟩
  have hr := rightP_right hp
  have er := lrightf ⟨a1_0, a1_1, a1_2, a1_3, a1_4, a1_5, a1_6⟩
  obtain ⟨K0, ha⟩ := awakef
  have b10 := bounds_i64 h10
  have b11 := bounds_i64 h11
  have hm : St.ok ⟨mx a0_0 0, a0_1, a0_2⟩ := by
    rw [mx_max]
    exact ⟨by show _ ≤ max a0_0 0; omega, by show max a0_0 0 < _; omega, hs.l0, hs.l1, hs.e0, hs.e1⟩
  have e1 := psampf K0 hr.1 hm (min a2 a3) (by omega) (by omega)
  have e2 := psampf K0 hr.1 hm (max a2 a3) (by omega) (by omega)
  have m := samp_rises hr ⟨mx a0_0 0, a0_1, a0_2⟩ (show min a2 a3 ≤ max a2 a3 by omega) hs.e0 hs.e1
  exact ⟨K0 + 7, rises_abs _ ⟨a0_0, a0_1, a0_2⟩ ⟨a1_0, a1_1, a1_2, a1_3, a1_4, a1_5, a1_6⟩ _ a2 a3 _ _ _ _ _ _ (ha _ (by omega)) er e1 e2 m⟩
end Go.Proofs.Ythmapfhemiamhaa.Pure

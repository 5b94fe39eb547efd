/- PidBounds' pure statement: it stays within its bounds. -/
import Derived.Test.YthmapfhemiamhaaPPa
import Derived.Test.YthmapfhemiamhaaPx7
namespace Go.Proofs.Ythmapfhemiamhaa.Pure
set_option linter.unusedVariables false
set_option linter.unusedSimpArgs false
open Go.RowKit Go.Proofs.Ythmapfhemiamhaa.P Go.Proofs.YthmapfhemiamhaaW.PrintWords Go.Proofs.YthmapfhemiamhaaW.PrintLast Go.Proofs.YthmapfhemiamhaaW.PrintMore
open Go.Proofs.Ythmapfhemiamhaa.Lib

theorem bounds_j1 (k : Nat) {p : Pp} (hp : p.right) (s t : St) (hs : s.ok) (us : List Int) (n i u : Int) (c0 : i > 0 → 0 ≤ s.Le) (c1 : i > 0 → t.Le ≤ sat (s.Le + p.Step) ∧ s.Le - 1 ≤ t.Le ∧ (u > p.Sp → s.Le ≤ t.Le)) (nx : overfalllaw11_PidBounds.l0 k us n (wrap64 (i + 1)) t.S t.La t.Le p.Sp p.Kp p.Ki p.Kd p.Lim p.Step p.Most = some true) :
    overfalllaw11_PidBounds.j1 (k + 1) i u us n i false t.S t.La t.Le p.Sp p.Kp p.Ki p.Kd p.Lim p.Step p.Most s.S s.La s.Le = some true := by
  have e1 := hs.e1
  rw [overfalllaw11_PidBounds.j1, if_neg Bool.false_ne_true]
  by_cases c : i > 0
  · obtain ⟨d1, d2, d3⟩ := c1 c
    have d0 := c0 c
    rw [if_pos c, faddf _ _ hs.e0 hs.e1 hp.f0 hp.f1, Option.bind_some, if_neg (by omega), w64 (x := s.Le - 1) (by omega) (by omega), if_neg (by omega), pid_State_Open.f, Option.bind_some]
    by_cases o : u > p.Sp
    · rw [decide_eq_true o, if_pos (rfl : true = true), if_neg (by have := d3 o; omega), nx]
    · rw [decide_eq_false o, if_neg Bool.false_ne_true, nx]
  · rw [if_neg c, nx]
theorem bounds_loop {p : Pp} (hp : p.right) (us : List Int) (hus : ∀ n ∈ us, (Lit.int .i64 n).wf = true) : ∀ (d : Nat) (i : Int) (s : St), s.ok → 0 ≤ i → (us.length : Int) - i ≤ d → (0 < i → 0 ≤ s.Le ∧ s.Le ≤ p.Most) → ∀ k, 2 * d + 20 ≤ k → overfalllaw11_PidBounds.l0 k us (us.length : Int) i s.S s.La s.Le p.Sp p.Kp p.Ki p.Kd p.Lim p.Step p.Most = some true := by
  intro d
  induction d with
  | zero =>
    intro i s hs h0 hd hi k hk
    obtain ⟨k, rfl⟩ : ∃ m, k = m + 1 := ⟨k - 1, by omega⟩
    rw [overfalllaw11_PidBounds.l0, if_neg (by omega)]
  | succ d ih =>
    intro i s hs h0 hd hi k hk
    obtain ⟨k, rfl⟩ : ∃ m, k = m + 1 + 1 := ⟨k - 2, by omega⟩
    rw [overfalllaw11_PidBounds.l0]
    by_cases c : i < (us.length : Int)
    · rw [if_pos c, if_pos h0, if_pos c]
      by_cases g : i ≥ 30
      · rw [if_pos g]
      · rw [if_neg g]
        have ub := bounds_i64 (rd_wf hus h0 c)
        obtain ⟨u, hu⟩ : ∃ u, u = rd us i := ⟨_, rfl⟩
        rw [← hu] at ub ⊢
        have E := psampf (k - 6) hp.1 hs u ub.1 (by omega)
        rw [show k - 6 + 7 = k + 1 by omega] at E
        have B := samp_bounds hp s u
        have O := samp_ok hp.1 hs u
        have T := fun z : 0 < i => samp_steps hp s u (hi z).1 (hi z).2
        obtain ⟨t, ht⟩ : ∃ t, t = samp p s u := ⟨_, rfl⟩
        rw [← ht] at E B O T
        have nx := ih (i + 1) t O (by omega) (by omega) (fun _ => ⟨B.1, B.2.1⟩) k (by omega)
        rw [← w64 (x := i + 1) (by omega) (by omega)] at nx
        have J := bounds_j1 k hp s t hs us (us.length : Int) i u (fun z => (hi z).1) (fun z => ⟨(T z).1, (T z).2.1, fun o => (T z).2.2 (by omega)⟩) nx
        rw [E, Option.bind_some]
        dsimp only
        rw [if_neg (show ¬ t.Le < 0 by omega), if_neg (show ¬ t.Le > p.Most by omega), if_neg (show ¬ t.S < 0 by omega), pid_State_Open.f, Option.bind_some]
        by_cases o : u > p.Sp
        · have := B.2.2.2 (by omega)
          rw [decide_eq_true o, if_pos (rfl : true = true), decide_eq_false (show ¬ t.S > p.Lim by omega), J]
        · rw [decide_eq_false o, if_neg Bool.false_ne_true, J]
    · rw [if_neg c]
theorem bounds_abs (k : Nat) (s : St) (p q : Pp) (l : List Int) (ha : overfalllaw11_awake.f k = some true) (hr : overfalllaw11_right.f p.Sp p.Kp p.Ki p.Kd p.Lim p.Step p.Most = some (q.Sp, q.Kp, q.Ki, q.Kd, q.Lim, q.Step, q.Most)) (h : overfalllaw11_PidBounds.l0 k l (l.length : Int) 0 s.S s.La s.Le q.Sp q.Kp q.Ki q.Kd q.Lim q.Step q.Most = some true) :
    overfalllaw11_PidBounds.f k s.S s.La s.Le p.Sp p.Kp p.Ki p.Kd p.Lim p.Step p.Most l = some true := by
  rw [overfalllaw11_PidBounds.f, ha, Option.bind_some, if_pos (rfl : true = true), hr, Option.bind_some]
  exact h
theorem PidBounds : ∀ (a0_0 : Int) (a0_1 : Int) (a0_2 : Int) (a1_0 : Int) (a1_1 : Int) (a1_2 : Int) (a1_3 : Int) (a1_4 : Int) (a1_5 : Int) (a1_6 : Int) (l2 : List Int), (Lit.int .i64 a0_0).wf = true → (Lit.int .i64 a0_1).wf = true → (Lit.int .i64 a0_2).wf = true → (Lit.int .i64 a1_0).wf = true → (Lit.int .i64 a1_1).wf = true → (Lit.int .i64 a1_2).wf = true → (Lit.int .i64 a1_3).wf = true → (Lit.int .i64 a1_4).wf = true → (Lit.int .i64 a1_5).wf = true → (Lit.int .i64 a1_6).wf = true → l2.length ≤ maxLen → l2.length * 8 ≤ 140737488351232 → (∀ n ∈ l2, (Lit.int .i64 n).wf = true) → ∃ k, overfalllaw11_PidBounds.f k a0_0 a0_1 a0_2 a1_0 a1_1 a1_2 a1_3 a1_4 a1_5 a1_6 l2 = some true := by
  intro a0_0 a0_1 a0_2 a1_0 a1_1 a1_2 a1_3 a1_4 a1_5 a1_6 l2 h0 h1 h2 h3 h4 h5 h6 h7 h8 h9 _ _ hl
  have b0 := bounds_i64 h0
  have b1 := bounds_i64 h1
  have b2 := bounds_i64 h2
  have b3 := bounds_i64 h3
  have b4 := bounds_i64 h4
  have b5 := bounds_i64 h5
  have b6 := bounds_i64 h6
  have b7 := bounds_i64 h7
  have b8 := bounds_i64 h8
  have b9 := bounds_i64 h9
  have hs : St.ok ⟨a0_0, a0_1, a0_2⟩ := ⟨b0.1, by show a0_0 < _; omega, b1.1, by show a0_1 < _; omega, b2.1, by show a0_2 < _; omega⟩
  have hp : Pp.ok ⟨a1_0, a1_1, a1_2, a1_3, a1_4, a1_5, a1_6⟩ := ⟨b3.1, by show a1_0 < _; omega, b4.1, by show a1_1 < _; omega, b5.1, by show a1_2 < _; omega, b6.1, by show a1_3 < _; omega, b7.1, by show a1_4 < _; omega, b8.1, by show a1_5 < _; omega, b9.1, by show a1_6 < _; omega⟩
  have hr := rightP_right hp
  have er := lrightf ⟨a1_0, a1_1, a1_2, a1_3, a1_4, a1_5, a1_6⟩
  obtain ⟨K0, ha⟩ := awakef
  have L := bounds_loop hr l2 hl l2.length 0 ⟨a0_0, a0_1, a0_2⟩ hs (by omega) (by omega) (fun z => absurd z (by omega)) (K0 + 2 * l2.length + 20) (by omega)
  exact ⟨_, bounds_abs _ ⟨a0_0, a0_1, a0_2⟩ ⟨a1_0, a1_1, a1_2, a1_3, a1_4, a1_5, a1_6⟩ _ l2 (ha _ (by omega)) er L⟩
end Go.Proofs.Ythmapfhemiamhaa.Pure

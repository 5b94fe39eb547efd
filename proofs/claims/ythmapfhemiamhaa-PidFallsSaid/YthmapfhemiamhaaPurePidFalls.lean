/- PidFalls' pure statement: it lets go, one by one. -/
import Derived.Test.YthmapfhemiamhaaPPa
import Derived.Test.YthmapfhemiamhaaPx8
namespace Go.Proofs.Ythmapfhemiamhaa.Pure
set_option linter.unusedVariables false
set_option linter.unusedSimpArgs false
open Go.RowKit Go.Proofs.Ythmapfhemiamhaa.P Go.Proofs.YthmapfhemiamhaaW.PrintWords Go.Proofs.YthmapfhemiamhaaW.PrintLast Go.Proofs.YthmapfhemiamhaaW.PrintMore
open Go.Proofs.Ythmapfhemiamhaa.Lib

theorem falls_j2 (k : Nat) (p : Pp) (t : St) (l : List Int) (x7 n i : Int) (c : i > 0 → t.Le = max (x7 - 1) 0) (hx : i > 0 → 0 ≤ x7 ∧ x7 < 1000) (nx : overfalllaw11_PidFalls.l0 k l t.Le n (wrap64 (i + 1)) t.S t.La t.Le p.Sp p.Kp p.Ki p.Kd p.Lim p.Step p.Most = some true) :
    overfalllaw11_PidFalls.j2 (k + 1) l x7 i n i false t.S t.La t.Le p.Sp p.Kp p.Ki p.Kd p.Lim p.Step p.Most = some true := by
  rw [overfalllaw11_PidFalls.j2, if_neg Bool.false_ne_true]
  by_cases g : i > 0
  · have z := c g
    have y := hx g
    rw [if_pos g, mx_max, w64 (x := x7 - 1) (by omega) (by omega), if_pos z, nx]
  · rw [if_neg g, nx]
theorem falls_loop {p : Pp} (hp : p.right) (hm : p.Most < 300) (l : List Int) (hl : ∀ n ∈ l, (Lit.int .u32 n).wf = true) : ∀ (d : Nat) (i x7 : Int) (s : St), s.ok → 0 ≤ i → i ≤ p.Most + 3 → p.Most + 3 - i ≤ d → (i = 0 → x7 = min (max s.Le 0) p.Most) → (0 < i → x7 = s.Le ∧ 0 ≤ s.Le ∧ s.Le ≤ max (p.Most - (i - 1)) 0) → ∀ k, 3 * d + 20 ≤ k → overfalllaw11_PidFalls.l0 k l x7 (p.Most + 3) i s.S s.La s.Le p.Sp p.Kp p.Ki p.Kd p.Lim p.Step p.Most = some true := by
  have m0 := hp.most
  intro d
  induction d with
  | zero =>
    intro i x7 s hs h0 hn hd c0 c1 k hk
    obtain ⟨k, rfl⟩ : ∃ m, k = m + 1 := ⟨k - 1, by omega⟩
    have := c1 (by omega)
    rw [overfalllaw11_PidFalls.l0, if_neg (by omega), show s.Le = 0 by omega]; rfl
  | succ d ih =>
    intro i x7 s hs h0 hn hd c0 c1 k hk
    obtain ⟨k, rfl⟩ : ∃ m, k = m + 1 + 1 + 1 := ⟨k - 3, by omega⟩
    by_cases c : i < p.Most + 3
    · have J : ∀ u : Int, -9223372036854775808 ≤ u → u ≤ p.Sp → overfalllaw11_PidFalls.j1 (k + 1 + 1) l x7 i u (p.Most + 3) i s.S s.La s.Le p.Sp p.Kp p.Ki p.Kd p.Lim p.Step p.Most = some true := by
        intro u u0 u1
        have a1 := hp.a1
        have E := psampf (k - 6) hp.1 hs u u0 (by omega)
        rw [show k - 6 + 7 = k + 1 by omega] at E
        have B := samp_bounds hp s u
        have O := samp_ok hp.1 hs u
        have F0 := samp_falls0 hp s u1 hs.e0 hs.e1
        have F := fun z : 0 < i => samp_falls hp s u1 (by have := c1 z; omega) (by have := c1 z; omega)
        obtain ⟨t, ht⟩ : ∃ t, t = samp p s u := ⟨_, rfl⟩
        rw [← ht] at E B O F F0
        have nx := ih (i + 1) t.Le t O (by omega) (by omega) (by omega) (fun z => by omega) (fun _ => ⟨rfl, B.1, by
          by_cases z : 0 < i
          · have := F z
            have := c1 z
            omega
          · omega⟩) k (by omega)
        rw [← w64 (x := i + 1) (by omega) (by omega)] at nx
        have J2 := falls_j2 k p t l x7 (p.Most + 3) i (fun z => by have := F z; have := c1 z; omega) (fun z => by have := c1 z; omega) nx
        rw [overfalllaw11_PidFalls.j1, E, Option.bind_some]
        dsimp only
        by_cases z : i = 0
        · have := c0 z
          rw [if_pos z, mx_max, decide_eq_false (show ¬ t.Le > max x7 0 by omega), J2]
        · rw [if_neg z, J2]
      rw [overfalllaw11_PidFalls.l0, if_pos c]
      by_cases e : (l.length : Int) > 0
      · have i0 := Int.tmod_nonneg (l.length : Int) h0
        have i1 := Int.tmod_lt_of_pos i e
        have ub := wf_u32 (rd_wf hl i0 i1)
        have a0 := hp.a0
        have a1 := hp.a1
        have sl := sat_le (show p.Sp - rd l (Int.tmod i (l.length : Int)) ≤ p.Sp by omega) a0
        have sb := sat_bd (p.Sp - rd l (Int.tmod i (l.length : Int)))
        rw [if_pos e, if_neg (by omega), if_pos i0, if_pos i1, w64 (by omega) (by omega), lessqf _ _ hp.a0 hp.a1 (by omega) (by omega), Option.bind_some]
        exact J _ sb.1 sl
      · rw [if_neg e]
        exact J _ hp.a0 (Int.le_refl _)
    · have := c1 (by omega)
      rw [overfalllaw11_PidFalls.l0, if_neg c, show s.Le = 0 by omega]; rfl
theorem falls_abs (k : Nat) (s : St) (p q : Pp) (l : List Int) (ha : overfalllaw11_awake.f k = some true) (hr : overfalllaw11_right.f p.Sp p.Kp p.Ki p.Kd p.Lim p.Step p.Most = some (q.Sp, q.Kp, q.Ki, q.Kd, q.Lim, q.Step, q.Most)) (h : overfalllaw11_PidFalls.l0 k l (min (max s.Le 0) (Int.tmod q.Most 300)) (Int.tmod q.Most 300 + 3) 0 s.S s.La s.Le q.Sp q.Kp q.Ki q.Kd q.Lim q.Step (Int.tmod q.Most 300) = some true) (hq : 0 ≤ q.Most) :
    overfalllaw11_PidFalls.f k s.S s.La s.Le p.Sp p.Kp p.Ki p.Kd p.Lim p.Step p.Most l = some true := by
  have i0 := Int.tmod_nonneg 300 hq
  have i1 := Int.tmod_lt_of_pos q.Most (show (0 : Int) < 300 by omega)
  rw [overfalllaw11_PidFalls.f, ha, Option.bind_some, if_pos (rfl : true = true), hr, Option.bind_some]
  dsimp only
  rw [mx_max, mn_min, w64 (x := Int.tmod q.Most 300 + 3) (by omega) (by omega)]
  exact h
theorem PidFalls : ∀ (a0_0 : Int) (a0_1 : Int) (a0_2 : Int) (a1_0 : Int) (a1_1 : Int) (a1_2 : Int) (a1_3 : Int) (a1_4 : Int) (a1_5 : Int) (a1_6 : Int) (l2 : List Int), (Lit.int .i64 a0_0).wf = true → (Lit.int .i64 a0_1).wf = true → (Lit.int .i64 a0_2).wf = true → (Lit.int .i64 a1_0).wf = true → (Lit.int .i64 a1_1).wf = true → (Lit.int .i64 a1_2).wf = true → (Lit.int .i64 a1_3).wf = true → (Lit.int .i64 a1_4).wf = true → (Lit.int .i64 a1_5).wf = true → (Lit.int .i64 a1_6).wf = true → l2.length ≤ maxLen → l2.length * 4 ≤ 140737488351232 → (∀ n ∈ l2, (Lit.int .u32 n).wf = true) → ∃ k, overfalllaw11_PidFalls.f k a0_0 a0_1 a0_2 a1_0 a1_1 a1_2 a1_3 a1_4 a1_5 a1_6 l2 = some true := by
  intro a0_0 a0_1 a0_2 a1_0 a1_1 a1_2 a1_3 a1_4 a1_5 a1_6 l2 h0 h1 h2 h3 h4 h5 h6 h7 h8 h9 _ _ hl
  have b0 := bounds_i64 h0
  have b1 := bounds_i64 h1
  have b2 := bounds_i64 h2
  have b3 := bounds_i64 h3
  have b4 := bounds_i64 h4
  have b5 := bounds_i64 h5
  have b6 := bounds_i64 h6
  have b7 := bounds_i64 h7
  have b8 := bounds_i64 h8
  have b9 := bounds_i64 h9
  have hs : St.ok ⟨a0_0, a0_1, a0_2⟩ := ⟨b0.1, by show a0_0 < _; omega, b1.1, by show a0_1 < _; omega, b2.1, by show a0_2 < _; omega⟩
  have hp : Pp.ok ⟨a1_0, a1_1, a1_2, a1_3, a1_4, a1_5, a1_6⟩ := ⟨b3.1, by show a1_0 < _; omega, b4.1, by show a1_1 < _; omega, b5.1, by show a1_2 < _; omega, b6.1, by show a1_3 < _; omega, b7.1, by show a1_4 < _; omega, b8.1, by show a1_5 < _; omega, b9.1, by show a1_6 < _; omega⟩
  have hr := rightP_right hp
  have er := lrightf ⟨a1_0, a1_1, a1_2, a1_3, a1_4, a1_5, a1_6⟩
  obtain ⟨K0, ha⟩ := awakef
  obtain ⟨q, hq⟩ : ∃ q, q = rightP ⟨a1_0, a1_1, a1_2, a1_3, a1_4, a1_5, a1_6⟩ := ⟨_, rfl⟩
  rw [← hq] at hr er
  have m0 := Int.tmod_nonneg 300 hr.most
  have m1 := Int.tmod_lt_of_pos q.Most (show (0 : Int) < 300 by omega)
  have hr' : Pp.right ⟨q.Sp, q.Kp, q.Ki, q.Kd, q.Lim, q.Step, Int.tmod q.Most 300⟩ :=
    ⟨⟨hr.a0, hr.a1, hr.b0, hr.b1, hr.c0, hr.c1, hr.d0, hr.d1, hr.e0, hr.e1, hr.f0, hr.f1, by show _ ≤ Int.tmod _ _; omega, by show Int.tmod _ _ < _; omega⟩, hr.kp, hr.ki, hr.kd, hr.lim, hr.step, m0⟩
  have L := falls_loop hr' m1 l2 hl 310 0 (min (max a0_2 0) (Int.tmod q.Most 300)) ⟨a0_0, a0_1, a0_2⟩ hs (by omega) (by show (0 : Int) ≤ Int.tmod _ _ + 3; omega) (by show Int.tmod _ _ + 3 - 0 ≤ _; omega) (fun _ => rfl) (fun z => absurd z (by omega)) (K0 + 1000) (by omega)
  exact ⟨_, falls_abs _ ⟨a0_0, a0_1, a0_2⟩ ⟨a1_0, a1_1, a1_2, a1_3, a1_4, a1_5, a1_6⟩ q l2 (ha _ (by omega)) er L hr.most⟩
end Go.Proofs.Ythmapfhemiamhaa.Pure

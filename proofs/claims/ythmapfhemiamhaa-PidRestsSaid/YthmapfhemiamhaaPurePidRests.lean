/- PidRests' pure statement: what has come together is halved while it is shut; with nothing to weigh the level stays. -/
import Derived.Test.YthmapfhemiamhaaPPa
import Derived.Test.YthmapfhemiamhaaPx10
namespace Go.Proofs.Ythmapfhemiamhaa.Pure
set_option linter.unusedVariables false
set_option linter.unusedSimpArgs false
open Go.RowKit Go.Proofs.Ythmapfhemiamhaa.P Go.Proofs.YthmapfhemiamhaaW.PrintWords Go.Proofs.YthmapfhemiamhaaW.PrintLast Go.Proofs.YthmapfhemiamhaaW.PrintMore
open Go.Proofs.Ythmapfhemiamhaa.Lib

theorem rests_l1 {p : Pp} (hp : p.right) (z1 : p.Kp = 0) (z2 : p.Ki = 0) (z3 : p.Kd = 0) (x9 : Int) (x0 : 0 ≤ x9) (x1 : x9 ≤ p.Most) (us : List Int) (hus : ∀ n ∈ us, (Lit.int .u32 n).wf = true) : ∀ (d : Nat) (i : Int) (s : St), s.ok → 0 ≤ i → (us.length : Int) - i ≤ d → (p.Sp < 9223372036854775807 → s.S = 0 ∧ s.Le = x9) → ∀ k, d + 20 ≤ k → overfalllaw11_PidRests.l1 k x9 us (us.length : Int) i s.S s.La s.Le p.Sp p.Kp p.Ki p.Kd p.Lim p.Step p.Most = some true := by
  intro d
  induction d with
  | zero =>
    intro i s hs h0 hd c1 k hk
    obtain ⟨k, rfl⟩ : ∃ m, k = m + 1 := ⟨k - 1, by omega⟩
    rw [overfalllaw11_PidRests.l1, if_neg (by omega)]
  | succ d ih =>
    intro i s hs h0 hd c1 k hk
    obtain ⟨k, rfl⟩ : ∃ m, k = m + 1 := ⟨k - 1, by omega⟩
    rw [overfalllaw11_PidRests.l1]
    by_cases c : i < (us.length : Int)
    · rw [if_pos c, if_pos h0, if_pos c]
      by_cases g : i ≥ 20
      · rw [if_pos g]
      · rw [if_neg g]
        have ub := wf_u32 (rd_wf hus h0 c)
        obtain ⟨b, hb⟩ : ∃ b, b = rd us i := ⟨_, rfl⟩
        rw [← hb] at ub ⊢
        have a0 := hp.a0
        have a1 := hp.a1
        have sb := sat_bd (p.Sp + (1 + b))
        rw [w64 (x := b) (by omega) (by omega), w64 (x := 1 + b) (by omega) (by omega), faddf _ _ hp.a0 hp.a1 (by omega) (by omega), Option.bind_some]
        have E := psampf (k - 7) hp.1 hs (sat (p.Sp + (1 + b))) sb.1 sb.2
        rw [show k - 7 + 7 = k by omega] at E
        have O := samp_ok hp.1 hs (sat (p.Sp + (1 + b)))
        have R : p.Sp < 9223372036854775807 → (samp p s (sat (p.Sp + (1 + b)))).Le = x9 ∧ (samp p s (sat (p.Sp + (1 + b)))).S = 0 := by
          intro z
          obtain ⟨y1, y2⟩ := c1 z
          have sg := sat_ge (show p.Sp + 1 ≤ p.Sp + (1 + b) by omega) (by omega)
          have := samp_rests hp s (sat (p.Sp + (1 + b))) (by omega) (by omega) (by omega) y1 z1 z2 z3
          rw [y2] at this
          exact this
        obtain ⟨t, ht⟩ : ∃ t, t = samp p s (sat (p.Sp + (1 + b))) := ⟨_, rfl⟩
        rw [← ht] at E O R
        have nx := ih (i + 1) t O (by omega) (by omega) (fun z => ⟨(R z).2, (R z).1⟩) k (by omega)
        rw [← w64 (x := i + 1) (by omega) (by omega)] at nx
        rw [E, Option.bind_some]
        dsimp only
        by_cases e : t.Le = x9
        · rw [if_pos e, nx]
        · rw [if_neg e, if_neg (fun z => e (R z).1), nx]
    · rw [if_neg c]
theorem rests_l0 {p : Pp} (hp : p.right) (s : St) (us : List Int) (K : Nat) (hend : ∀ k, K ≤ k → overfalllaw11_PidRests.l1 k (min (max s.Le 0) p.Most) us (us.length : Int) 0 0 s.La (min (max s.Le 0) p.Most) p.Sp 0 0 0 p.Lim p.Step p.Most = some true) : ∀ (d : Nat) (i : Int) (t : St), t.ok → 0 ≤ i → i + d = 64 → t.S < 2 ^ d → (0 < i → 0 ≤ t.S) → ∀ k, d + K + 20 ≤ k → overfalllaw11_PidRests.l0 k us i s.S s.La s.Le p.Sp p.Kp p.Ki p.Kd p.Lim p.Step p.Most t.S t.La t.Le = some true := by
  intro d
  induction d with
  | zero =>
    intro i t ht h0 hd c0 c1 k hk
    obtain ⟨k, rfl⟩ : ∃ m, k = m + 1 := ⟨k - 1, by omega⟩
    have := c1 (by omega)
    have z : t.S = 0 := by rw [Int.pow_zero] at c0; omega
    rw [overfalllaw11_PidRests.l0, if_neg (by omega), if_pos z, mx_max, mn_min]
    exact hend k (by omega)
  | succ d ih =>
    intro i t ht h0 hd c0 c1 k hk
    obtain ⟨k, rfl⟩ : ∃ m, k = m + 1 := ⟨k - 1, by omega⟩
    have s1 := ht.s1
    have E := psampf (k - 7) hp.1 ht p.Sp hp.a0 hp.a1
    rw [show k - 7 + 7 = k by omega] at E
    have O := samp_ok hp.1 ht p.Sp
    have H := fun z : 0 ≤ t.S => samp_half (p := p) t (Int.le_refl p.Sp) z s1
    have H0 := fun z : t.S < 0 => samp_half0 (p := p) t (Int.le_refl p.Sp) z
    obtain ⟨r, hr⟩ : ∃ r, r = samp p t p.Sp := ⟨_, rfl⟩
    rw [← hr] at E O H H0
    have e2 : (2 : Int) ^ (d + 1) = 2 ^ d * 2 := Int.pow_succ 2 d
    have p2 : 0 < (2 : Int) ^ d := Int.pow_pos (by omega)
    rw [e2] at c0
    obtain ⟨q, hq⟩ : ∃ q : Int, q = 2 ^ d := ⟨_, rfl⟩
    rw [← hq] at c0 p2
    have nn : 0 ≤ r.S ∧ r.S < q := by
      by_cases z : 0 ≤ t.S
      · rw [H z]; omega
      · rw [H0 (by omega)]; omega
    rw [hq] at nn
    have nx := ih (i + 1) r O (by omega) (by omega) nn.2 (fun _ => nn.1) k (by omega)
    rw [← w64 (x := i + 1) (by omega) (by omega)] at nx
    rw [overfalllaw11_PidRests.l0, if_pos (by omega), E, Option.bind_some]
    dsimp only
    by_cases z : t.S ≥ 0
    · rw [if_pos z, Int.tdiv_eq_ediv_of_nonneg z, w64 (x := t.S / 2) (by omega) (by omega), if_pos (H z), nx]
    · rw [if_neg z, nx]
theorem rests_abs (k : Nat) (s : St) (p q : Pp) (l : List Int) (ha : overfalllaw11_awake.f k = some true) (hr : overfalllaw11_right.f p.Sp p.Kp p.Ki p.Kd p.Lim p.Step p.Most = some (q.Sp, q.Kp, q.Ki, q.Kd, q.Lim, q.Step, q.Most)) (h : overfalllaw11_PidRests.l0 k l 0 s.S s.La s.Le q.Sp q.Kp q.Ki q.Kd q.Lim q.Step q.Most s.S s.La s.Le = some true) :
    overfalllaw11_PidRests.f k s.S s.La s.Le p.Sp p.Kp p.Ki p.Kd p.Lim p.Step p.Most l = some true := by
  rw [overfalllaw11_PidRests.f, ha, Option.bind_some, if_pos (rfl : true = true), hr, Option.bind_some]
  exact h
theorem PidRests : ∀ (a0_0 : Int) (a0_1 : Int) (a0_2 : Int) (a1_0 : Int) (a1_1 : Int) (a1_2 : Int) (a1_3 : Int) (a1_4 : Int) (a1_5 : Int) (a1_6 : Int) (l2 : List Int), (Lit.int .i64 a0_0).wf = true → (Lit.int .i64 a0_1).wf = true → (Lit.int .i64 a0_2).wf = true → (Lit.int .i64 a1_0).wf = true → (Lit.int .i64 a1_1).wf = true → (Lit.int .i64 a1_2).wf = true → (Lit.int .i64 a1_3).wf = true → (Lit.int .i64 a1_4).wf = true → (Lit.int .i64 a1_5).wf = true → (Lit.int .i64 a1_6).wf = true → l2.length ≤ maxLen → l2.length * 4 ≤ 140737488351232 → (∀ n ∈ l2, (Lit.int .u32 n).wf = true) → ∃ k, overfalllaw11_PidRests.f k a0_0 a0_1 a0_2 a1_0 a1_1 a1_2 a1_3 a1_4 a1_5 a1_6 l2 = some true := by
  intro a0_0 a0_1 a0_2 a1_0 a1_1 a1_2 a1_3 a1_4 a1_5 a1_6 l2 h0 h1 h2 h3 h4 h5 h6 h7 h8 h9 _ _ hl
  have b0 := bounds_i64 h0
  have b1 := bounds_i64 h1
  have b2 := bounds_i64 h2
  have b3 := bounds_i64 h3
  have b4 := bounds_i64 h4
  have b5 := bounds_i64 h5
  have b6 := bounds_i64 h6
  have b7 := bounds_i64 h7
  have b8 := bounds_i64 h8
  have b9 := bounds_i64 h9
  have hs : St.ok ⟨a0_0, a0_1, a0_2⟩ := ⟨b0.1, by show a0_0 < _; omega, b1.1, by show a0_1 < _; omega, b2.1, by show a0_2 < _; omega⟩
  have hp : Pp.ok ⟨a1_0, a1_1, a1_2, a1_3, a1_4, a1_5, a1_6⟩ := ⟨b3.1, by show a1_0 < _; omega, b4.1, by show a1_1 < _; omega, b5.1, by show a1_2 < _; omega, b6.1, by show a1_3 < _; omega, b7.1, by show a1_4 < _; omega, b8.1, by show a1_5 < _; omega, b9.1, by show a1_6 < _; omega⟩
  have hr := rightP_right hp
  have er := lrightf ⟨a1_0, a1_1, a1_2, a1_3, a1_4, a1_5, a1_6⟩
  obtain ⟨K0, ha⟩ := awakef
  obtain ⟨q, hq⟩ : ∃ q, q = rightP ⟨a1_0, a1_1, a1_2, a1_3, a1_4, a1_5, a1_6⟩ := ⟨_, rfl⟩
  rw [← hq] at hr er
  have m0 := hr.most
  have m1 := hr.g1
  have z0 : (-9223372036854775808 : Int) ≤ 0 := by decide
  have z1 : (0 : Int) < 9223372036854775808 := by decide
  have hz : Pp.right ⟨q.Sp, 0, 0, 0, q.Lim, q.Step, q.Most⟩ :=
    ⟨⟨hr.a0, hr.a1, z0, z1, z0, z1, z0, z1, hr.e0, hr.e1, hr.f0, hr.f1, hr.g0, hr.g1⟩, Int.le_refl 0, Int.le_refl 0, Int.le_refl 0, hr.lim, hr.step, m0⟩
  have os : St.ok ⟨0, a0_1, min (max a0_2 0) q.Most⟩ := ⟨by show _ ≤ (0 : Int); omega, by show (0 : Int) < _; omega, hs.l0, hs.l1, by show _ ≤ min _ _; omega, by show min _ _ < _; omega⟩
  have L1 := rests_l1 hz rfl rfl rfl (min (max a0_2 0) q.Most) (by omega) (by show min _ _ ≤ q.Most; omega) l2 hl l2.length 0 ⟨0, a0_1, min (max a0_2 0) q.Most⟩ os (by omega) (by omega) (fun _ => ⟨rfl, rfl⟩)
  have L0 := rests_l0 hr ⟨a0_0, a0_1, a0_2⟩ l2 (l2.length + 20) L1 64 0 ⟨a0_0, a0_1, a0_2⟩ hs (by omega) (by omega) (by show a0_0 < 2 ^ 64; omega) (fun z => absurd z (by omega)) (K0 + l2.length + 200) (by omega)
  exact ⟨_, rests_abs _ ⟨a0_0, a0_1, a0_2⟩ ⟨a1_0, a1_1, a1_2, a1_3, a1_4, a1_5, a1_6⟩ q l2 (ha _ (by omega)) er L0⟩
end Go.Proofs.Ythmapfhemiamhaa.Pure

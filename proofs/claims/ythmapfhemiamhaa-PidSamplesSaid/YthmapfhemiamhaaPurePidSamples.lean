/- PidSamples' pure statement: each sample leaves the document's state. -/
import Derived.Test.YthmapfhemiamhaaSPa
import Derived.Test.YthmapfhemiamhaaSx14
import Derived.Test.YthmapfhemiamhaaSx13
import Derived.Test.YthmapfhemiamhaaSx7
import Derived.Test.YthmapfhemiamhaaSx12
namespace Go.Proofs.Ythmapfhemiamhaa.Pure
set_option linter.unusedVariables false
set_option linter.unusedSimpArgs false
open Go.RowKit Go.Proofs.Ythmapfhemiamhaa.S Go.Proofs.YthmapfhemiamhaaW.PrintWords Go.Proofs.YthmapfhemiamhaaW.PrintLast Go.Proofs.YthmapfhemiamhaaW.PrintMore
open Go.Proofs.Ythmapfhemiamhaa.Lib

theorem right_end (p : Pp) : ((pid_Params_Right.f p.Sp p.Kp p.Ki p.Kd p.Lim p.Step p.Most).bind fun t364 => ((overfalllaw11_own.f p.Sp p.Kp p.Ki p.Kd p.Lim p.Step p.Most).bind fun bt365 => ((overfallref11_Right.f bt365.1 bt365.2.1 bt365.2.2.1 bt365.2.2.2.1 bt365.2.2.2.2.1 bt365.2.2.2.2.2.1 bt365.2.2.2.2.2.2).bind fun t372 => (some (t364 == t372))))) = some true := by
  have a : pid_Params_Right.f p.Sp p.Kp p.Ki p.Kd p.Lim p.Step p.Most = some (decide (0 ≤ p.Kp ∧ 0 ≤ p.Ki ∧ 0 ≤ p.Kd ∧ 0 ≤ p.Lim ∧ 1 ≤ p.Step ∧ 0 ≤ p.Most)) := by
    unfold pid_Params_Right.f
    rw [mn_min, mn_min, mn_min]
    by_cases c : min (min (min p.Kp p.Ki) p.Kd) p.Lim ≥ 0
    · rw [if_pos c]
      by_cases d : p.Step ≥ 1
      · rw [if_pos d]; congr 1; rw [decide_eq_decide]; omega
      · rw [if_neg d]; congr 1; symm; rw [decide_eq_false_iff_not]; omega
    · rw [if_neg c]; congr 1; symm; rw [decide_eq_false_iff_not]; omega
  have b : overfallref11_Right.f p.Sp p.Kp p.Ki p.Kd p.Lim p.Step p.Most = some (decide (0 ≤ p.Kp ∧ 0 ≤ p.Ki ∧ 0 ≤ p.Kd ∧ 0 ≤ p.Lim ∧ 1 ≤ p.Step ∧ 0 ≤ p.Most)) := by
    unfold overfallref11_Right.f
    (repeat' split) <;> (congr 1; first | (rw [decide_eq_decide]; omega) | (symm; rw [decide_eq_false_iff_not]; omega))
  rw [a, Option.bind_some, overfalllaw11_own.f, Option.bind_some]
  dsimp only
  rw [b, Option.bind_some, beq_self_eq_true]
theorem samples_loop {p : Pp} (hp : p.ok) (us : List Int) (hus : ∀ n ∈ us, (Lit.int .i64 n).wf = true) : ∀ (d : Nat) (i : Int) (s : St), s.ok → 0 ≤ i → (us.length : Int) - i ≤ d → ∀ k, d + 300 ≤ k → overfalllaw11_PidSamples.l0 k us (us.length : Int) i s.S s.La s.Le p.Sp p.Kp p.Ki p.Kd p.Lim p.Step p.Most s.S s.La s.Le = some true := by
  intro d
  induction d with
  | zero =>
    intro i s hs h0 hd k hk
    obtain ⟨k, rfl⟩ : ∃ m, k = m + 1 := ⟨k - 1, by omega⟩
    rw [overfalllaw11_PidSamples.l0, if_neg (by omega)]
    exact right_end p
  | succ d ih =>
    intro i s hs h0 hd k hk
    obtain ⟨k, rfl⟩ : ∃ m, k = m + 1 := ⟨k - 1, by omega⟩
    rw [overfalllaw11_PidSamples.l0]
    by_cases c : i < (us.length : Int)
    · rw [if_pos c, if_pos h0, if_pos c]
      by_cases g : i ≥ 30
      · rw [if_pos g]
        exact right_end p
      · rw [if_neg g]
        have ub := bounds_i64 (rd_wf hus h0 c)
        obtain ⟨u, hu⟩ : ∃ u, u = rd us i := ⟨_, rfl⟩
        rw [← hu] at ub ⊢
        have E := psampf (k - 7) hp hs u ub.1 (by omega)
        rw [show k - 7 + 7 = k by omega] at E
        have F := rsampf (k - 291) hp hs u ub.1 (by omega)
        rw [show k - 291 + 291 = k by omega] at F
        have O := samp_ok hp hs u
        obtain ⟨t, ht⟩ : ∃ t, t = samp p s u := ⟨_, rfl⟩
        rw [← ht] at E F O
        have nx := ih (i + 1) t O (by omega) (by omega) k (by omega)
        rw [← w64 (x := i + 1) (by omega) (by omega)] at nx
        rw [pid_State_Open.f, Option.bind_some, if_neg (by simp)]
        rw [E, Option.bind_some, overfalllaw11_own.f, Option.bind_some]
        dsimp only
        rw [F, Option.bind_some, overfalllaw11_state.f, Option.bind_some]
        dsimp only
        rw [if_neg (by simp), nx]
    · rw [if_neg c]
      exact right_end p
theorem samples_abs (k : Nat) (s : St) (p : Pp) (l : List Int) (ha : overfalllaw11_awake.f k = some true) (h : overfalllaw11_PidSamples.l0 k l (l.length : Int) 0 s.S s.La s.Le p.Sp p.Kp p.Ki p.Kd p.Lim p.Step p.Most s.S s.La s.Le = some true) :
    overfalllaw11_PidSamples.f k s.S s.La s.Le p.Sp p.Kp p.Ki p.Kd p.Lim p.Step p.Most l = some true := by
  rw [overfalllaw11_PidSamples.f, ha, Option.bind_some, if_pos (rfl : true = true), overfalllaw11_state.f, Option.bind_some]
  exact h
theorem PidSamples : ∀ (a0_0 : Int) (a0_1 : Int) (a0_2 : Int) (a1_0 : Int) (a1_1 : Int) (a1_2 : Int) (a1_3 : Int) (a1_4 : Int) (a1_5 : Int) (a1_6 : Int) (l2 : List Int), (Lit.int .i64 a0_0).wf = true → (Lit.int .i64 a0_1).wf = true → (Lit.int .i64 a0_2).wf = true → (Lit.int .i64 a1_0).wf = true → (Lit.int .i64 a1_1).wf = true → (Lit.int .i64 a1_2).wf = true → (Lit.int .i64 a1_3).wf = true → (Lit.int .i64 a1_4).wf = true → (Lit.int .i64 a1_5).wf = true → (Lit.int .i64 a1_6).wf = true → l2.length ≤ maxLen → l2.length * 8 ≤ 140737488351232 → (∀ n ∈ l2, (Lit.int .i64 n).wf = true) → ∃ k, overfalllaw11_PidSamples.f k a0_0 a0_1 a0_2 a1_0 a1_1 a1_2 a1_3 a1_4 a1_5 a1_6 l2 = some true := by
  intro a0_0 a0_1 a0_2 a1_0 a1_1 a1_2 a1_3 a1_4 a1_5 a1_6 l2 h0 h1 h2 h3 h4 h5 h6 h7 h8 h9 _ _ hl
  have b0 := bounds_i64 h0
  have b1 := bounds_i64 h1
  have b2 := bounds_i64 h2
  have b3 := bounds_i64 h3
  have b4 := bounds_i64 h4
  have b5 := bounds_i64 h5
  have b6 := bounds_i64 h6
  have b7 := bounds_i64 h7
  have b8 := bounds_i64 h8
  have b9 := bounds_i64 h9
  have hs : St.ok ⟨a0_0, a0_1, a0_2⟩ := ⟨b0.1, by show a0_0 < _; omega, b1.1, by show a0_1 < _; omega, b2.1, by show a0_2 < _; omega⟩
  have hp : Pp.ok ⟨a1_0, a1_1, a1_2, a1_3, a1_4, a1_5, a1_6⟩ := ⟨b3.1, by show a1_0 < _; omega, b4.1, by show a1_1 < _; omega, b5.1, by show a1_2 < _; omega, b6.1, by show a1_3 < _; omega, b7.1, by show a1_4 < _; omega, b8.1, by show a1_5 < _; omega, b9.1, by show a1_6 < _; omega⟩
  obtain ⟨K0, ha⟩ := awakef
  have L := samples_loop hp l2 hl l2.length 0 ⟨a0_0, a0_1, a0_2⟩ hs (by omega) (by omega) (K0 + l2.length + 300) (by omega)
  exact ⟨_, samples_abs _ ⟨a0_0, a0_1, a0_2⟩ ⟨a1_0, a1_1, a1_2, a1_3, a1_4, a1_5, a1_6⟩ l2 (ha _ (by omega)) L⟩
end Go.Proofs.Ythmapfhemiamhaa.Pure

/- CodelRate's pure statement: while it stays high it drops sooner and sooner, by the law. -/
import Derived.Test.YtiiffgmbkajkhaaACa
import Derived.Test.YtiiffgmbkajkhaaAx10
namespace Go.Proofs.Ytiiffgmbkajkhaa.Pure
set_option linter.unusedVariables false
set_option linter.unusedSimpArgs false
open Go.RowKit Go.Proofs.Ytiiffgmbkajkhaa.A Go.Proofs.YtiiffgmbkajkhaaW.PrintWords Go.Proofs.YtiiffgmbkajkhaaW.PrintLast Go.Proofs.YtiiffgmbkajkhaaW.PrintMore
open Go.Proofs.Ytiiffgmbkajkhaa.Lib

theorem law_next {iv c : Int} (i0 : 0 ≤ iv) (i1 : iv < 9223372036854775808) (c0 : 1 ≤ c) (c1 : c < 18446744073709551614) (h : 2 ≤ lawv iv c) : 1 ≤ lawv iv (c + 1) := by
  have a := (lawv_is iv c (by omega) i1 (by omega) (by omega)).most i0
  have b := (lawv_is iv (c + 1) (by omega) i1 (by omega) (by omega)).most i0
  have ec : n1 c = c := by unfold n1; (repeat' split) <;> omega
  have ec' : n1 (c + 1) = c + 1 := by unfold n1; (repeat' split) <;> omega
  rw [ec] at a
  rw [ec'] at b
  have f := a.1.fits
  have g := sqn_mono (n := c) (show (0 : Int) ≤ 2 by omega) h (by omega)
  exact b.1.le (by omega) (by omega) (by omega) (by omega)
/-- Where it stands: ahead of the first drop, or behind one. -/
structure At (iv first now next cnt : Int) (s : Cs) : Prop where
  ok : s.ok
  ab : s.Ab = true
  fi : s.Fi = first
  was : s.Dr = false → now < first ∧ next = first ∧ cnt = 0 ∧ s.Co = s.La
  is : s.Dr = true → first ≤ now ∧ now < next ∧ s.Nx = next ∧ s.Co = cnt ∧ 1 ≤ cnt ∧ cnt ≤ now - first + 1 ∧ next ≤ first + cnt * iv ∧ 2 ≤ lawv iv cnt
theorem rate_j3_keep (k : Nat) (now first next cnt iv x : Int) (s : Cs) (h : ¬ now ≥ next) (hl : overfallref03_Law.f k iv cnt = some x) (nx : ¬ x < 2 → overfalllaw08_CodelRate.l0 k now first next cnt 1 iv s.Ab s.Fi s.Dr s.Nx s.Co s.La = some true) :
    overfalllaw08_CodelRate.j3 (k + 1) now 0 first next cnt 1 iv s.Ab s.Fi s.Dr s.Nx s.Co s.La = some true := by
  rw [overfalllaw08_CodelRate.j3, decide_eq_false h, if_neg (by decide), if_pos (rfl : (0 : Int) = 0), hl, Option.bind_some]
  by_cases c : x < 2
  · rw [if_pos c]
  · rw [if_neg c, nx c]
theorem rate_j3_drop (k : Nat) (now v first next cnt iv x : Int) (s : Cs) (hv : v ≠ 0) (h : now ≥ next) (hw : IntKind.u64.wrap (cnt + 1) = cnt + 1) (hn : wrap64 (next + x) = next + x) (hl : overfallref03_Law.f k iv (cnt + 1) = some x) (nx : ¬ x < 2 → overfalllaw08_CodelRate.l0 k now first (next + x) (cnt + 1) 1 iv s.Ab s.Fi s.Dr s.Nx s.Co s.La = some true) :
    overfalllaw08_CodelRate.j3 (k + 1) now v first next cnt 1 iv s.Ab s.Fi s.Dr s.Nx s.Co s.La = some true := by
  have e : (v != 0) = true := by simpa using hv
  rw [overfalllaw08_CodelRate.j3, e, decide_eq_true h, if_neg (by decide), if_neg hv, hw, hl, Option.bind_some, Option.bind_some, hn]
  by_cases c : x < 2
  · rw [if_pos c]
  · rw [if_neg c, nx c]
theorem rate_l0 (k : Nat) (now first next cnt iv v : Int) (s r : Cs) (hw : wrap64 (first + wrap64 (6 * iv)) = first + 6 * iv) (hn : wrap64 (now + 1) = now + 1) (c : now < first + 6 * iv) (hv : v ≠ 1) (h1 : codel_State_Look.f k s.Ab s.Fi s.Dr s.Nx s.Co s.La 1 iv (now + 1) 1 2 = some (r.Ab, r.Fi, r.Dr, r.Nx, r.Co, r.La, v)) (h2 : overfalllaw08_CodelRate.j3 k (now + 1) v first next cnt 1 iv r.Ab r.Fi r.Dr r.Nx r.Co r.La = some true) :
    overfalllaw08_CodelRate.l0 (k + 1) now first next cnt 1 iv s.Ab s.Fi s.Dr s.Nx s.Co s.La = some true := by
  rw [overfalllaw08_CodelRate.l0, hw, if_pos c, hn, h1, Option.bind_some]
  dsimp only
  rw [if_neg hv, h2]
theorem rate_l0_drop (k : Nat) (now first next cnt iv : Int) (s r q : Cs) (hw : wrap64 (first + wrap64 (6 * iv)) = first + 6 * iv) (hn : wrap64 (now + 1) = now + 1) (c : now < first + 6 * iv) (h1 : codel_State_Look.f (k + 1 + 1) s.Ab s.Fi s.Dr s.Nx s.Co s.La 1 iv (now + 1) 1 2 = some (r.Ab, r.Fi, r.Dr, r.Nx, r.Co, r.La, 1)) (h2 : codel_State_More.f (k + 1 + 1) r.Ab r.Fi r.Dr r.Nx r.Co r.La 1 iv (now + 1) 1 2 = some (q.Ab, q.Fi, q.Dr, q.Nx, q.Co, q.La, 0)) (h3 : overfalllaw08_CodelRate.j3 k (now + 1) 1 first next cnt 1 iv q.Ab q.Fi q.Dr q.Nx q.Co q.La = some true) :
    overfalllaw08_CodelRate.l0 (k + 1 + 1 + 1) now first next cnt 1 iv s.Ab s.Fi s.Dr s.Nx s.Co s.La = some true := by
  rw [overfalllaw08_CodelRate.l0, hw, if_pos c, hn, h1, Option.bind_some]
  dsimp only
  rw [if_pos (rfl : (1 : Int) = 1), h2, Option.bind_some]
  dsimp only
  rw [overfalllaw08_CodelRate.l1, if_neg (show ¬ (0 : Int) = 1 by decide), overfalllaw08_CodelRate.j2, if_neg Bool.false_ne_true, h3]
theorem mul_step (a b : Int) : (a + 1) * b = a * b + b := by rw [Int.add_mul, Int.one_mul]
theorem rate_loop (iv first : Int) (i0 : 1 ≤ iv) (i1 : iv ≤ 60) (f0 : -1099511627776 ≤ first) (f1 : first ≤ 1099511627900) : ∀ (d : Nat) (now next cnt : Int) (s : Cs), At iv first now next cnt s → first - 60 ≤ now → now ≤ first + 6 * iv → first + 6 * iv - now ≤ d → ∃ K, ∀ k, K ≤ k → overfalllaw08_CodelRate.l0 k now first next cnt 1 iv s.Ab s.Fi s.Dr s.Nx s.Co s.La = some true := by
  have hw : wrap64 (first + wrap64 (6 * iv)) = first + 6 * iv := by rw [w64 (x := 6 * iv) (by omega) (by omega), w64 (by omega) (by omega)]
  have hh : high 1 1 2 = true := by decide
  intro d
  induction d with
  | zero =>
    intro now next cnt s h n0 n1 hd
    refine ⟨1, fun k hk => ?_⟩
    obtain ⟨k, rfl⟩ : ∃ j, k = j + 1 := ⟨k - 1, by omega⟩
    rw [overfalllaw08_CodelRate.l0, hw, if_neg (by omega)]
    by_cases e : s.Dr = false
    · have := h.was e; omega
    · replace e : s.Dr = true := by simpa using e
      have z := h.is e
      by_cases g : cnt ≥ 6
      · rw [decide_eq_true g]
      · have := Int.mul_le_mul_of_nonneg_right (show cnt ≤ 5 by omega) (show 0 ≤ iv by omega)
        omega
  | succ d ih =>
    intro now next cnt s h n0 n1 hd
    by_cases c : now < first + 6 * iv
    · have hn : wrap64 (now + 1) = now + 1 := w64 (by omega) (by omega)
      obtain ⟨K1, L⟩ := plookf h.ok 1 iv (now + 1) 1 2 (by omega) (by omega) (by omega) (by omega)
      rw [hh] at L
      have no : noteS iv (now + 1) true s = s := by unfold noteS; rw [if_pos (rfl : true = true), if_pos h.ab]
      by_cases e : s.Dr = false
      · obtain ⟨w1, w2, w3, w4⟩ := h.was e
        by_cases g : now + 1 < first
        · have hm : ¬ mayS (now + 1) true s = true := by
            unfold mayS; rw [h.ab, h.fi, decide_eq_false (by omega)]; decide
          have lk : lookS iv (now + 1) true s = s := by
            unfold lookS; rw [if_neg hm, no]; unfold stopS; rw [← e]
          have lv : lookV iv (now + 1) true s = 0 := by unfold lookV; rw [if_neg hm]
          rw [lk, lv] at L
          obtain ⟨K2, J⟩ := ih (now + 1) next cnt s ⟨h.ok, h.ab, h.fi, fun _ => ⟨g, w2, w3, w4⟩, fun z => by rw [e] at z; exact absurd z Bool.false_ne_true⟩ (by omega) (by omega) (by omega)
          obtain ⟨K3, R⟩ := rlawv iv cnt (by omega) (by omega) (by omega) (by omega)
          refine ⟨K1 + K2 + K3 + 3, fun k hk => ?_⟩
          obtain ⟨k, rfl⟩ : ∃ j, k = j + 1 + 1 := ⟨k - 2, by omega⟩
          exact rate_l0 (k + 1) now first next cnt iv 0 s s hw hn c (by decide) (L _ (by omega)) (rate_j3_keep k _ first next cnt iv _ s (by omega) (R _ (by omega)) (fun _ => J _ (by omega)))
        · have g2 : now + 1 = first := by omega
          have hm : mayS (now + 1) true s = true := by
            unfold mayS; rw [h.ab, h.fi, decide_eq_true (by omega)]; decide
          have fc : fastC iv (now + 1) s = 1 := by
            unfold fastC; rw [w4, Int.sub_self]; rfl
          have lk : lookS iv (now + 1) true s = ⟨true, first, true, sat (now + 1 + lawv iv 1), 1, 1⟩ := by
            unfold lookS; rw [if_pos hm, if_neg (by rw [e]; exact Bool.false_ne_true), no]; unfold enterS; rw [fc, h.ab, h.fi]
          have lv : lookV iv (now + 1) true s = 2 := by unfold lookV; rw [if_pos hm, if_neg (by rw [e]; exact Bool.false_ne_true)]
          have lb := lawv_bd iv 1 (by omega) (by omega) (by omega) (by omega)
          rw [sat_in (by omega) (by omega)] at lk
          have ok := lookS_ok h.ok iv (now + 1) true
          rw [lk] at ok
          rw [lk, lv] at L
          have J : 2 ≤ lawv iv 1 → ∃ K, ∀ k, K ≤ k → overfalllaw08_CodelRate.l0 k (now + 1) first (next + lawv iv 1) (cnt + 1) 1 iv true first true (now + 1 + lawv iv 1) 1 1 = some true := by
            intro z
            exact ih (now + 1) (next + lawv iv 1) (cnt + 1) ⟨true, first, true, now + 1 + lawv iv 1, 1, 1⟩ ⟨ok, rfl, rfl, fun y => absurd (show true = false from y) (by decide), fun _ => ⟨by omega, by omega, by show now + 1 + lawv iv 1 = _; omega, by show (1 : Int) = _; omega, by omega, by omega, by rw [w3]; omega, by rw [w3]; exact z⟩⟩ (by omega) (by omega) (by omega)
          obtain ⟨K3, R⟩ := rlawv iv (cnt + 1) (by omega) (by omega) (by omega) (by omega)
          have ec : cnt + 1 = 1 := by omega
          by_cases z : 2 ≤ lawv iv 1
          · obtain ⟨K2, J⟩ := J z
            refine ⟨K1 + K2 + K3 + 3, fun k hk => ?_⟩
            obtain ⟨k, rfl⟩ : ∃ j, k = j + 1 + 1 := ⟨k - 2, by omega⟩
            refine rate_l0 (k + 1) now first next cnt iv 2 s ⟨true, first, true, now + 1 + lawv iv 1, 1, 1⟩ hw hn c (by decide) (L _ (by omega)) (rate_j3_drop k _ 2 first next cnt iv (lawv iv 1) _ (by decide) (by omega) (wu_in (by omega) (by omega)) (w64 (by omega) (by omega)) ?_ (fun _ => J _ (by omega)))
            have := R k (by omega)
            rw [ec] at this ⊢
            exact this
          · refine ⟨K1 + K3 + 3, fun k hk => ?_⟩
            obtain ⟨k, rfl⟩ : ∃ j, k = j + 1 + 1 := ⟨k - 2, by omega⟩
            refine rate_l0 (k + 1) now first next cnt iv 2 s ⟨true, first, true, now + 1 + lawv iv 1, 1, 1⟩ hw hn c (by decide) (L _ (by omega)) (rate_j3_drop k _ 2 first next cnt iv (lawv iv 1) _ (by decide) (by omega) (wu_in (by omega) (by omega)) (w64 (by omega) (by omega)) ?_ (fun y => absurd (by omega) z))
            have := R k (by omega)
            rw [ec] at this ⊢
            exact this
      · replace e : s.Dr = true := by simpa using e
        obtain ⟨w1, w2, w3, w4, w5, w6, w7, w8⟩ := h.is e
        have hm : mayS (now + 1) true s = true := by
          unfold mayS; rw [h.ab, h.fi, decide_eq_true (by omega)]; decide
        by_cases g : now + 1 < next
        · have lk : lookS iv (now + 1) true s = s := by
            unfold lookS; rw [if_pos hm, if_pos e, no]; unfold dueS; rw [if_pos (by omega)]
          have lv : lookV iv (now + 1) true s = 0 := by
            unfold lookV; rw [if_pos hm, if_pos e, no]; unfold dueV; rw [if_pos (by omega)]
          rw [lk, lv] at L
          obtain ⟨K2, J⟩ := ih (now + 1) next cnt s ⟨h.ok, h.ab, h.fi, fun z => by rw [e] at z; exact absurd z.symm Bool.false_ne_true, fun _ => ⟨by omega, g, w3, w4, w5, by omega, w7, w8⟩⟩ (by omega) (by omega) (by omega)
          obtain ⟨K3, R⟩ := rlawv iv cnt (by omega) (by omega) (by omega) (by omega)
          refine ⟨K1 + K2 + K3 + 3, fun k hk => ?_⟩
          obtain ⟨k, rfl⟩ : ∃ j, k = j + 1 + 1 := ⟨k - 2, by omega⟩
          exact rate_l0 (k + 1) now first next cnt iv 0 s s hw hn c (by decide) (L _ (by omega)) (rate_j3_keep k _ first next cnt iv _ s (by omega) (R _ (by omega)) (fun _ => J _ (by omega)))
        · have g2 : now + 1 = next := by omega
          have inc : incS s.Co = cnt + 1 := by unfold incS; rw [w4, if_pos (by omega)]
          have lk : lookS iv (now + 1) true s = ⟨true, first, true, next, cnt + 1, s.La⟩ := by
            unfold lookS; rw [if_pos hm, if_pos e, no]; unfold dueS; rw [if_neg (by omega), inc, h.ab, h.fi, e, w3]
          have lv : lookV iv (now + 1) true s = 1 := by
            unfold lookV; rw [if_pos hm, if_pos e, no]; unfold dueV; rw [if_neg (by omega)]
          have ok := lookS_ok h.ok iv (now + 1) true
          rw [lk] at ok
          rw [lk, lv] at L
          have one := law_next (show 0 ≤ iv by omega) (by omega) w5 (by omega) w8
          have lb := lawv_bd iv (cnt + 1) (by omega) (by omega) (by omega) (by omega)
          obtain ⟨K4, M⟩ := pmoref ok 1 iv (now + 1) 1 2 (by omega) (by omega) (by omega) (by omega)
          rw [hh] at M
          have hm2 : mayS (now + 1) true ⟨true, first, true, next, cnt + 1, s.La⟩ = true := by
            unfold mayS; rw [decide_eq_true (show now + 1 ≥ first by omega)]; rfl
          have mk : moreS iv (now + 1) true ⟨true, first, true, next, cnt + 1, s.La⟩ = ⟨true, first, true, sat (next + lawv iv (cnt + 1)), cnt + 1, s.La⟩ := by
            unfold moreS; rw [if_pos hm2]; unfold noteS laterS dueS
            rw [if_pos (rfl : true = true), if_pos (rfl : true = true)]
            dsimp only
            rw [sat_in (by omega) (by omega), if_pos (by omega)]
          have mv : moreV iv (now + 1) true ⟨true, first, true, next, cnt + 1, s.La⟩ = 0 := by
            unfold moreV; rw [if_pos hm2]; unfold noteS laterS dueV
            rw [if_pos (rfl : true = true), if_pos (rfl : true = true)]
            dsimp only
            rw [sat_in (by omega) (by omega), if_pos (by omega)]
          have ok2 := moreS_ok ok iv (now + 1) true
          rw [sat_in (by omega) (by omega)] at mk
          rw [mk] at ok2
          rw [mk, mv] at M
          have ms := mul_step cnt iv
          obtain ⟨K3, R⟩ := rlawv iv (cnt + 1) (by omega) (by omega) (by omega) (by omega)
          have J : 2 ≤ lawv iv (cnt + 1) → ∃ K, ∀ k, K ≤ k → overfalllaw08_CodelRate.l0 k (now + 1) first (next + lawv iv (cnt + 1)) (cnt + 1) 1 iv true first true (next + lawv iv (cnt + 1)) (cnt + 1) s.La = some true := by
            intro z
            exact ih (now + 1) (next + lawv iv (cnt + 1)) (cnt + 1) ⟨true, first, true, next + lawv iv (cnt + 1), cnt + 1, s.La⟩ ⟨ok2, rfl, rfl, fun y => absurd (show true = false from y) (by decide), fun _ => ⟨by omega, by omega, rfl, rfl, by omega, by omega, by omega, z⟩⟩ (by omega) (by omega) (by omega)
          by_cases z : 2 ≤ lawv iv (cnt + 1)
          · obtain ⟨K2, J⟩ := J z
            refine ⟨K1 + K2 + K3 + K4 + 9, fun k hk => ?_⟩
            obtain ⟨k, rfl⟩ : ∃ j, k = j + 1 + 1 + 1 + 1 := ⟨k - 4, by omega⟩
            exact rate_l0_drop (k + 1) now first next cnt iv s ⟨true, first, true, next, cnt + 1, s.La⟩ ⟨true, first, true, next + lawv iv (cnt + 1), cnt + 1, s.La⟩ hw hn c (L _ (by omega)) (M _ (by omega)) (rate_j3_drop k _ 1 first next cnt iv (lawv iv (cnt + 1)) _ (by decide) (by omega) (wu_in (by omega) (by omega)) (w64 (by omega) (by omega)) (R _ (by omega)) (fun _ => J _ (by omega)))
          · refine ⟨K1 + K3 + K4 + 9, fun k hk => ?_⟩
            obtain ⟨k, rfl⟩ : ∃ j, k = j + 1 + 1 + 1 + 1 := ⟨k - 4, by omega⟩
            exact rate_l0_drop (k + 1) now first next cnt iv s ⟨true, first, true, next, cnt + 1, s.La⟩ ⟨true, first, true, next + lawv iv (cnt + 1), cnt + 1, s.La⟩ hw hn c (L _ (by omega)) (M _ (by omega)) (rate_j3_drop k _ 1 first next cnt iv (lawv iv (cnt + 1)) _ (by decide) (by omega) (wu_in (by omega) (by omega)) (w64 (by omega) (by omega)) (R _ (by omega)) (fun y => absurd (by omega) z))
    · refine ⟨1, fun k hk => ?_⟩
      obtain ⟨k, rfl⟩ : ∃ j, k = j + 1 := ⟨k - 1, by omega⟩
      rw [overfalllaw08_CodelRate.l0, hw, if_neg c]
      by_cases e : s.Dr = false
      · have := h.was e; omega
      · replace e : s.Dr = true := by simpa using e
        have z := h.is e
        by_cases g : cnt ≥ 6
        · rw [decide_eq_true g]
        · have := Int.mul_le_mul_of_nonneg_right (show cnt ≤ 5 by omega) (show 0 ≤ iv by omega)
          omega
theorem rate_abs (k : Nat) (a0 a1 iv now : Int) (ha : overfalllaw08_awake.f k = some true) (hi : wrap64 (1 + (wrap64 (Int.tmod a0 60))) = iv) (hn : Int.tmod a1 1099511627776 = now) (hf : wrap64 (now + iv) = now + iv) (h1 : codel_State_Look.f k false 0 false 0 0 0 1 iv now 1 2 = some (true, now + iv, false, 0, 0, 0, 0)) (h2 : overfalllaw08_CodelRate.l0 k now (now + iv) (now + iv) 0 1 iv true (now + iv) false 0 0 0 = some true) :
    overfalllaw08_CodelRate.f k a0 a1 = some true := by
  rw [overfalllaw08_CodelRate.f, ha, Option.bind_some, if_pos (rfl : true = true), hi, hn, h1, Option.bind_some, hf]
  dsimp only
  rw [if_pos (rfl : (0 : Int) = 0), h2]
theorem CodelRate : overfalllaw08_CodelRate.Pure := by
  intro a0 a1 h0 h1
  have b0 := bounds_u16 h0
  have b1 := bounds_i64 h1
  have m0 := Int.tmod_nonneg 60 b0.1
  have m1 := Int.tmod_lt_of_pos a0 (show (0 : Int) < 60 by omega)
  have m2 := Int.tmod_lt_of_pos a1 (show (0 : Int) < 1099511627776 by omega)
  have m3 := Int.lt_tmod_of_pos a1 (show (0 : Int) < 1099511627776 by omega)
  have hi : wrap64 (1 + (wrap64 (Int.tmod a0 60))) = 1 + Int.tmod a0 60 := by rw [w64 (x := Int.tmod a0 60) (by omega) (by omega), w64 (by omega) (by omega)]
  obtain ⟨iv, hiv⟩ : ∃ iv, iv = 1 + Int.tmod a0 60 := ⟨_, rfl⟩
  obtain ⟨now, hnow⟩ : ∃ now, now = Int.tmod a1 1099511627776 := ⟨_, rfl⟩
  rw [← hiv] at hi
  rw [← hnow] at m2 m3
  obtain ⟨K0, ha⟩ := awakef
  have z0 : Cs.ok ⟨false, 0, false, 0, 0, 0⟩ := ⟨by decide, by decide, by decide, by decide, by decide, by decide, by decide, by decide⟩
  obtain ⟨K1, L⟩ := plookf z0 1 iv now 1 2 (by omega) (by omega) (by omega) (by omega)
  have hh : high 1 1 2 = true := by decide
  have lk : lookS iv now true ⟨false, 0, false, 0, 0, 0⟩ = ⟨true, now + iv, false, 0, 0, 0⟩ := by
    unfold lookS mayS noteS stopS
    rw [sat_in (x := now + iv) (by omega) (by omega)]; rfl
  have lv : lookV iv now true ⟨false, 0, false, 0, 0, 0⟩ = 0 := rfl
  rw [hh, lk, lv] at L
  obtain ⟨K2, R⟩ := rate_loop iv (now + iv) (by omega) (by omega) (by omega) (by omega) 500 now (now + iv) 0 ⟨true, now + iv, false, 0, 0, 0⟩ ⟨⟨by show _ ≤ now + iv; omega, by show now + iv < _; omega, z0.n0, z0.n1, z0.c0, z0.c1, z0.l0, z0.l1⟩, rfl, rfl, fun _ => ⟨by omega, rfl, rfl, rfl⟩, fun y => absurd (show false = true from y) (by decide)⟩ (by omega) (by omega) (by omega)
  exact ⟨K0 + K1 + K2, rate_abs _ a0 a1 iv now (ha _ (by omega)) hi hnow.symm (w64 (by omega) (by omega)) (L _ (by omega)) (R _ (by omega))⟩
end Go.Proofs.Ytiiffgmbkajkhaa.Pure

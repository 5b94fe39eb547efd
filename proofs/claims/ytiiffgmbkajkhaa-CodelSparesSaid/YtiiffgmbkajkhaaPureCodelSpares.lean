/- CodelSpares' pure statement: behind one that was dropped once the next one, looked at sooner, is kept. -/
import Derived.Test.YtiiffgmbkajkhaaECa
import Derived.Test.YtiiffgmbkajkhaaEx12
namespace Go.Proofs.Ytiiffgmbkajkhaa.Pure
set_option linter.unusedVariables false
set_option linter.unusedSimpArgs false
open Go.RowKit Go.Proofs.Ytiiffgmbkajkhaa.E Go.Proofs.YtiiffgmbkajkhaaW.PrintWords Go.Proofs.YtiiffgmbkajkhaaW.PrintLast Go.Proofs.YtiiffgmbkajkhaaW.PrintMore
open Go.Proofs.Ytiiffgmbkajkhaa.Lib

/-- Behind nobody whoever comes is kept. -/
theorem empty_keeps (iv now : Int) (h : Bool) (s : Cs) : lookV iv now h (emptyS s) = 0 := by
  unfold lookV mayS emptyS
  rw [if_neg (by simp)]
theorem once_is {iv now : Int} {h : Bool} {s : Cs} (c : lookV iv now h s = 2) : h = true ∧ lookS iv now h s = enterS iv now (noteS iv now h s) := by
  unfold lookV at c
  by_cases m : mayS now h s = true
  · rw [if_pos m] at c
    by_cases d : s.Dr = true
    · rw [if_pos d] at c
      unfold dueV at c
      split at c <;> omega
    · refine ⟨?_, ?_⟩
      · unfold mayS at m
        cases h
        · simp at m
        · rfl
      · unfold lookS; rw [if_pos m, if_neg d]
  · rw [if_neg m] at c; omega
theorem noteS_nx (iv now : Int) (h : Bool) (s : Cs) : (noteS iv now h s).Nx = s.Nx := by
  unfold noteS
  split
  · split <;> rfl
  · rfl
theorem sooner_keeps {iv now t : Int} {h : Bool} {s : Cs} (c : lookV iv now h s = 2) (ht : t < (lookS iv now h s).Nx) : lookV iv t h (lookS iv now h s) = 0 := by
  obtain ⟨_, e⟩ := once_is c
  have dr : (lookS iv now h s).Dr = true := by rw [e]; rfl
  have nn := noteS_nx iv t h (lookS iv now h s)
  generalize lookS iv now h s = a at *
  unfold lookV
  by_cases m : mayS t h a = true
  · rw [if_pos m, if_pos dr]
    unfold dueV
    rw [if_pos (by omega)]
  · rw [if_neg m]
theorem spares_abs (k : Nat) (s a e : Cs) (tg iv now sj bl lt v iv' now' t nx x w w' : Int) (p q r : Cs) (ha : overfalllaw08_awake.f k = some true)
    (hiv : (mx iv 1) % 1099511627776 = iv') (hnow : Int.tmod now 1099511627776 = now') (ht : wrap64 (now' + ((mx lt 0) % 1099511627776)) = t)
    (h1 : codel_State_Look.f k s.Ab s.Fi s.Dr s.Nx s.Co s.La tg iv' now' sj bl = some (a.Ab, a.Fi, a.Dr, a.Nx, a.Co, a.La, v))
    (h2 : v = 2 → overfallref03_Law.f k iv' a.Co = some x ∧ overfallref02_Add.f k now' x = some a.Nx)
    (h3 : v = 2 → t < a.Nx → codel_State_Look.f k a.Ab a.Fi a.Dr a.Nx a.Co a.La tg iv' t sj bl = some (p.Ab, p.Fi, p.Dr, p.Nx, p.Co, p.La, 0))
    (h4 : codel_State_Look.f k false 0 false a.Nx a.Co a.La tg iv' now' sj bl = some (q.Ab, q.Fi, q.Dr, q.Nx, q.Co, q.La, 0)) :
    overfalllaw08_CodelSpares.f k s.Ab s.Fi s.Dr s.Nx s.Co s.La tg iv now sj bl lt = some true := by
  rw [overfalllaw08_CodelSpares.f, ha, Option.bind_some, if_pos (rfl : true = true), hiv, hnow, h1, Option.bind_some]
  dsimp only
  by_cases c : v = 2
  · obtain ⟨e1, e2⟩ := h2 c
    rw [if_pos c, e1, Option.bind_some, e2, Option.bind_some, if_pos (rfl : a.Nx = a.Nx), ht]
    by_cases d : t < a.Nx
    · rw [if_pos d, h3 c d, Option.bind_some]
      dsimp only
      rw [if_pos (rfl : (0 : Int) = 0), codel_State_Empty.f, Option.bind_some]
      dsimp only
      rw [h4, Option.bind_some]; rfl
    · rw [if_neg d, codel_State_Empty.f, Option.bind_some]
      dsimp only
      rw [h4, Option.bind_some]; rfl
  · rw [if_neg c, codel_State_Empty.f, Option.bind_some]
    dsimp only
    rw [h4, Option.bind_some]; rfl
theorem CodelSpares : ∀ (a0_0 : Bool) (a0_1 : Int) (a0_2 : Bool) (a0_3 : Int) (a0_4 : Int) (a0_5 : Int) (a1_0 : Int) (a1_1 : Int) (a2 : Int) (a3 : Int) (a4 : Int) (a5 : Int), (Lit.int .i64 a0_1).wf = true → (Lit.int .i64 a0_3).wf = true → (Lit.int .u64 a0_4).wf = true → (Lit.int .u64 a0_5).wf = true → (Lit.int .i64 a1_0).wf = true → (Lit.int .i64 a1_1).wf = true → (Lit.int .i64 a2).wf = true → (Lit.int .i64 a3).wf = true → (Lit.int .i64 a4).wf = true → (Lit.int .i64 a5).wf = true → ∃ k, overfalllaw08_CodelSpares.f k a0_0 a0_1 a0_2 a0_3 a0_4 a0_5 a1_0 a1_1 a2 a3 a4 a5 = some true := by
  intro a0_0 a0_1 a0_2 a0_3 a0_4 a0_5 a1_0 a1_1 a2 a3 a4 a5 h1 h2 h3 h4 h5 h6 h7 h8 h9 h10
  have b1 := bounds_i64 h1
  have b2 := bounds_i64 h2
  have b3 := wf_u64 h3
  have b4 := wf_u64 h4
  have b5 := bounds_i64 h5
  have b6 := bounds_i64 h6
  have hs : Cs.ok ⟨a0_0, a0_1, a0_2, a0_3, a0_4, a0_5⟩ := ⟨b1.1, by show a0_1 < _; omega, b2.1, by show a0_3 < _; omega, b3.1, b3.2, b4.1, b4.2⟩
  obtain ⟨K0, ha⟩ := awakef
  have b7 := bounds_i64 h7
  have m0 := Int.tmod_lt_of_pos a2 (show (0 : Int) < 1099511627776 by omega)
  have m1 := Int.lt_tmod_of_pos a2 (show (0 : Int) < 1099511627776 by omega)
  obtain ⟨iv, hiv⟩ : ∃ iv, iv = (mx a1_1 1) % 1099511627776 := ⟨_, rfl⟩
  obtain ⟨now, hnow⟩ : ∃ now, now = Int.tmod a2 1099511627776 := ⟨_, rfl⟩
  obtain ⟨lt, hlt⟩ : ∃ lt, lt = (mx a5 0) % 1099511627776 := ⟨_, rfl⟩
  rw [← hnow] at m0 m1
  have ib : 0 ≤ iv ∧ iv < 1099511627776 := by omega
  have lb : 0 ≤ lt ∧ lt < 1099511627776 := by omega
  have ew : wrap64 (now + lt) = now + lt := w64 (by omega) (by omega)
  have s0 : Cs := ⟨a0_0, a0_1, a0_2, a0_3, a0_4, a0_5⟩
  obtain ⟨K1, e1⟩ := plookf hs a1_0 iv now a3 a4 (by omega) (by omega) (by omega) (by omega)
  have ao := lookS_ok hs iv now (high a1_0 a3 a4)
  have O := fun c => once_is (iv := iv) (now := now) (h := high a1_0 a3 a4) (s := ⟨a0_0, a0_1, a0_2, a0_3, a0_4, a0_5⟩) c
  have S := fun t c => sooner_keeps (iv := iv) (now := now) (t := t) (h := high a1_0 a3 a4) (s := ⟨a0_0, a0_1, a0_2, a0_3, a0_4, a0_5⟩) c
  have Nn : lookV iv now (high a1_0 a3 a4) ⟨a0_0, a0_1, a0_2, a0_3, a0_4, a0_5⟩ = 2 → (lookS iv now (high a1_0 a3 a4) ⟨a0_0, a0_1, a0_2, a0_3, a0_4, a0_5⟩).Nx = sat (now + lawv iv (lookS iv now (high a1_0 a3 a4) ⟨a0_0, a0_1, a0_2, a0_3, a0_4, a0_5⟩).Co) := by
    intro c
    rw [(O c).2]; rfl
  generalize lookS iv now (high a1_0 a3 a4) ⟨a0_0, a0_1, a0_2, a0_3, a0_4, a0_5⟩ = a at *
  generalize lookV iv now (high a1_0 a3 a4) ⟨a0_0, a0_1, a0_2, a0_3, a0_4, a0_5⟩ = v at *
  obtain ⟨K2, e2⟩ := plookf ao a1_0 iv (now + lt) a3 a4 (by omega) (by omega) (by omega) (by omega)
  obtain ⟨K3, e3⟩ := plookf (emptyS_ok ao) a1_0 iv now a3 a4 (by omega) (by omega) (by omega) (by omega)
  rw [empty_keeps] at e3
  obtain ⟨K4, e4⟩ := rlawv iv a.Co (by omega) (by omega) ao.c0 ao.c1
  have lw := lawv_bd iv a.Co (by omega) (by omega) ao.c0 ao.c1
  refine ⟨K0 + K1 + K2 + K3 + K4 + 20, spares_abs _ ⟨a0_0, a0_1, a0_2, a0_3, a0_4, a0_5⟩ a a a1_0 a1_1 a2 a3 a4 a5 v iv now (now + lt) 0 (lawv iv a.Co) 0 0 (lookS iv (now + lt) (high a1_0 a3 a4) a) (lookS iv now (high a1_0 a3 a4) (emptyS a)) a (ha _ (by omega)) hiv.symm hnow.symm (by rw [← hlt]; exact ew) (e1 _ (by omega)) (fun c => ⟨e4 _ (by omega), ?_⟩) (fun c d => ?_) (e3 _ (by omega))⟩
  · rw [Nn c]
    exact radd2f _ _ _ (by omega) (by omega) (by omega) (by omega)
  · have := e2 (K0 + K1 + K2 + K3 + K4 + 20) (by omega)
    rw [S _ c d] at this
    exact this
end Go.Proofs.Ytiiffgmbkajkhaa.Pure

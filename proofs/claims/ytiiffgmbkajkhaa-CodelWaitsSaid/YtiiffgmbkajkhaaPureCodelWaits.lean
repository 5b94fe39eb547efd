/- CodelWaits' pure statement: nothing is dropped sooner than an interval behind the first one that was high. -/
import Derived.Test.YtiiffgmbkajkhaaTCa
import Derived.Test.YtiiffgmbkajkhaaTx9
namespace Go.Proofs.Ytiiffgmbkajkhaa.Pure
set_option linter.unusedVariables false
set_option linter.unusedSimpArgs false
open Go.RowKit Go.Proofs.Ytiiffgmbkajkhaa.T Go.Proofs.YtiiffgmbkajkhaaW.PrintWords Go.Proofs.YtiiffgmbkajkhaaW.PrintLast Go.Proofs.YtiiffgmbkajkhaaW.PrintMore
open Go.Proofs.Ytiiffgmbkajkhaa.Lib

theorem rd_in {l : List S30} {i : Int} (h0 : 0 ≤ i) (h1 : i < (l.length : Int)) : rd_T30 l i ∈ l := by
  have hi : i.toNat < l.length := by omega
  have e : rd_T30 l i = l[i.toNat] := by unfold rd_T30; rw [List.getD_eq_getElem?_getD, List.getElem?_eq_getElem hi]; rfl
  rw [e]; exact List.getElem_mem hi
theorem kept_ab (iv now : Int) (h : Bool) (s : Cs) : (lookS iv now h s).Ab = (noteS iv now h s).Ab ∧ (lookS iv now h s).Fi = (noteS iv now h s).Fi := by
  unfold lookS
  split
  · split
    · unfold dueS
      split <;> exact ⟨rfl, rfl⟩
    · exact ⟨rfl, rfl⟩
  · exact ⟨rfl, rfl⟩
theorem waits_j3 (k : Nat) (now since lt sj bl tg iv v t : Int) (hi is : Bool) (l : List S30) (n i : Int) (s r : Cs) (h2 : codel_State_Look.f k s.Ab s.Fi s.Dr s.Nx s.Co s.La tg iv now sj bl = some (r.Ab, r.Fi, r.Dr, r.Nx, r.Co, r.La, v)) (hv : v ≠ 0 → is = true ∧ hi = true ∧ overfallref02_Add.f k since iv = some t ∧ ¬ now < t) (nx : overfalllaw08_CodelWaits.l0 k now since is l n (wrap64 (i + 1)) r.Ab r.Fi r.Dr r.Nx r.Co r.La tg iv = some true) :
    overfalllaw08_CodelWaits.j3 (k + 1) now since hi is l n i s.Ab s.Fi s.Dr s.Nx s.Co s.La tg iv lt sj bl = some true := by
  rw [overfalllaw08_CodelWaits.j3, h2, Option.bind_some]
  dsimp only
  by_cases c : v = 0
  · rw [if_pos c, nx]
  · obtain ⟨e1, e2, e3, e4⟩ := hv c
    rw [if_neg c, if_pos e1, if_pos e2, e3, Option.bind_some, if_neg e4, nx]
theorem waits_j1 (k : Nat) (now since lt sj bl tg iv : Int) (hi is : Bool) (l : List S30) (n i : Int) (s : Cs) (h : overfalllaw08_CodelWaits.j3 k now (if is = true ∧ hi = false then now else since) hi is l n i s.Ab s.Fi s.Dr s.Nx s.Co s.La tg iv lt sj bl = some true) :
    overfalllaw08_CodelWaits.j1 (k + 1 + 1) now since hi is l n i s.Ab s.Fi s.Dr s.Nx s.Co s.La tg iv lt sj bl = some true := by
  rw [overfalllaw08_CodelWaits.j1]
  cases is
  · rw [if_neg Bool.false_ne_true, overfalllaw08_CodelWaits.j2, if_neg Bool.false_ne_true]
    rw [if_neg (by simp)] at h
    exact h
  · rw [if_pos (rfl : true = true), overfalllaw08_CodelWaits.j2]
    cases hi
    · rw [if_pos (by decide)] at h ⊢
      exact h
    · rw [if_neg (by decide)] at h ⊢
      exact h
theorem waits_loop (tg iv : Int) (i0 : -9223372036854775808 ≤ iv) (i1 : iv < 9223372036854775808) (l : List S30) (hl : ∀ x ∈ l, (Lit.int .i64 x.f0).wf = true) : ∀ (d : Nat) (i now since : Int) (hi : Bool) (s : Cs), s.ok → s.Ab = hi → (hi = true → s.Fi = sat (since + iv)) → 0 ≤ i → (l.length : Int) - i ≤ d → -9223372036854775808 ≤ now → now < 9223372036854775808 → -9223372036854775808 ≤ since → since < 9223372036854775808 → ∃ K, ∀ k, K ≤ k → overfalllaw08_CodelWaits.l0 k now since hi l (l.length : Int) i s.Ab s.Fi s.Dr s.Nx s.Co s.La tg iv = some true := by
  intro d
  induction d with
  | zero =>
    intro i now since hi s hs hab hfi h0 hd n0 n1 s0 s1
    refine ⟨1, fun k hk => ?_⟩
    obtain ⟨k, rfl⟩ : ∃ m, k = m + 1 := ⟨k - 1, by omega⟩
    rw [overfalllaw08_CodelWaits.l0, if_neg (by omega)]
  | succ d ih =>
    intro i now since hi s hs hab hfi h0 hd n0 n1 s0 s1
    by_cases c : i < (l.length : Int)
    · by_cases g : i ≥ 40
      · refine ⟨1, fun k hk => ?_⟩
        obtain ⟨k, rfl⟩ : ∃ m, k = m + 1 := ⟨k - 1, by omega⟩
        rw [overfalllaw08_CodelWaits.l0, if_pos c, if_pos h0, if_pos c, if_pos g]
      · have ub := bounds_i64 (hl _ (rd_in h0 c))
        obtain ⟨x, hx⟩ : ∃ x, x = rd_T30 l i := ⟨_, rfl⟩
        rw [← hx] at ub
        have sb := sat_bd (now + max x.f0 0)
        obtain ⟨nw, hnw⟩ : ∃ nw, nw = sat (now + max x.f0 0) := ⟨_, rfl⟩
        obtain ⟨is, his⟩ : ∃ is, is = high tg x.f1 x.f2 := ⟨_, rfl⟩
        obtain ⟨sn, hsn⟩ : ∃ sn, sn = if is = true ∧ hi = false then nw else since := ⟨_, rfl⟩
        rw [← hnw] at sb
        have snb : -9223372036854775808 ≤ sn ∧ sn < 9223372036854775808 := by rw [hsn]; split <;> omega
        obtain ⟨K1, L⟩ := plookf hs tg iv nw x.f1 x.f2 sb.1 sb.2 i0 i1
        rw [← his] at L
        have ok := lookS_ok hs iv nw is
        obtain ⟨ka, kf⟩ := kept_ab iv nw is s
        have nab : (lookS iv nw is s).Ab = is := by
          rw [ka]; unfold noteS
          cases is
          · rw [if_neg Bool.false_ne_true]
          · rw [if_pos (rfl : true = true)]
            split
            · assumption
            · rfl
        have nfi : is = true → (lookS iv nw is s).Fi = sat (sn + iv) := by
          intro z
          rw [kf, hsn, z]
          unfold noteS
          rw [if_pos (rfl : true = true)]
          cases hi
          · rw [if_neg (by rw [hab]; exact Bool.false_ne_true), if_pos ⟨rfl, rfl⟩]
          · rw [if_pos hab, if_neg (by simp), hfi rfl]
        obtain ⟨K2, J⟩ := ih (i + 1) nw sn is (lookS iv nw is s) ok nab nfi (by omega) (by omega) sb.1 sb.2 snb.1 snb.2
        rw [← w64 (x := i + 1) (by omega) (by omega)] at J
        have hv : lookV iv nw is s ≠ 0 → is = true ∧ hi = true ∧ ¬ nw < sat (sn + iv) := by
          intro z
          have m : mayS nw is s = true := by
            by_cases m : mayS nw is s = true
            · exact m
            · exact absurd (by unfold lookV; rw [if_neg m]) z
          unfold mayS at m
          rw [Bool.and_eq_true, Bool.and_eq_true] at m
          obtain ⟨⟨m1, m2⟩, m3⟩ := m
          have m4 : hi = true := by rw [← hab]; exact m2
          have m5 := of_decide_eq_true m3
          rw [hfi m4] at m5
          refine ⟨m1, m4, ?_⟩
          rw [hsn, if_neg (by rw [m4]; simp)]
          omega
        refine ⟨K1 + K2 + 30, fun k hk => ?_⟩
        obtain ⟨k, rfl⟩ : ∃ m, k = m + 20 + 1 + 1 + 1 + 1 := ⟨k - 24, by omega⟩
        have J3 := waits_j3 (k + 20) nw sn x.f0 x.f1 x.f2 tg iv _ (sat (sn + iv)) hi is l (l.length : Int) i s _ (L _ (by omega)) (fun z => ⟨(hv z).1, (hv z).2.1, radd2f k _ _ snb.1 snb.2 i0 i1, (hv z).2.2⟩) (J _ (by omega))
        rw [hsn] at J3
        have J1 := waits_j1 _ nw since x.f0 x.f1 x.f2 tg iv hi is l (l.length : Int) i s J3
        rw [overfalllaw08_CodelWaits.l0, if_pos c, if_pos h0, if_pos c, if_neg g, ← hx, mx_max, radd2f (k + 3) _ _ n0 n1 (by omega) (by omega), Option.bind_some, ← hnw]
        by_cases a : x.f1 ≥ tg
        · have e : decide (x.f2 > 1) = is := by rw [his]; unfold high; rw [decide_eq_true a, Bool.true_and]
          rw [if_pos a, e, J1]
        · have e : is = false := by rw [his]; unfold high; rw [decide_eq_false a, Bool.false_and]
          rw [e] at J1
          rw [if_neg a, J1]
    · refine ⟨1, fun k hk => ?_⟩
      obtain ⟨k, rfl⟩ : ∃ m, k = m + 1 := ⟨k - 1, by omega⟩
      rw [overfalllaw08_CodelWaits.l0, if_neg c]
theorem waits_abs (k : Nat) (ab : Bool) (fi : Int) (dr : Bool) (nx co la tg iv now : Int) (l : List S30) (ha : overfalllaw08_awake.f k = some true) (h : overfalllaw08_CodelWaits.l0 k now 0 false l (l.length : Int) 0 false 0 false nx co la tg iv = some true) :
    overfalllaw08_CodelWaits.f k ab fi dr nx co la tg iv now l = some true := by
  rw [overfalllaw08_CodelWaits.f, ha, Option.bind_some, if_pos (rfl : true = true), codel_State_Empty.f, Option.bind_some]
  exact h
theorem CodelWaits : ∀ (a0_0 : Bool) (a0_1 : Int) (a0_2 : Bool) (a0_3 : Int) (a0_4 : Int) (a0_5 : Int) (a1_0 : Int) (a1_1 : Int) (a2 : Int) (l3 : List S30), (Lit.int .i64 a0_1).wf = true → (Lit.int .i64 a0_3).wf = true → (Lit.int .u64 a0_4).wf = true → (Lit.int .u64 a0_5).wf = true → (Lit.int .i64 a1_0).wf = true → (Lit.int .i64 a1_1).wf = true → (Lit.int .i64 a2).wf = true → l3.length ≤ maxLen → (∀ x ∈ l3, (Lit.int .i64 x.f0).wf = true ∧ (Lit.int .i64 x.f1).wf = true ∧ (Lit.int .i64 x.f2).wf = true) → ∃ k, overfalllaw08_CodelWaits.f k a0_0 a0_1 a0_2 a0_3 a0_4 a0_5 a1_0 a1_1 a2 l3 = some true := by
  intro a0_0 a0_1 a0_2 a0_3 a0_4 a0_5 a1_0 a1_1 a2 l3 h1 h2 h3 h4 h5 h6 h7 _ hl
  have b1 := bounds_i64 h1
  have b2 := bounds_i64 h2
  have b3 := wf_u64 h3
  have b4 := wf_u64 h4
  have b5 := bounds_i64 h5
  have b6 := bounds_i64 h6
  have hs : Cs.ok ⟨a0_0, a0_1, a0_2, a0_3, a0_4, a0_5⟩ := ⟨b1.1, by show a0_1 < _; omega, b2.1, by show a0_3 < _; omega, b3.1, b3.2, b4.1, b4.2⟩
  obtain ⟨K0, ha⟩ := awakef
  have b7 := bounds_i64 h7
  obtain ⟨K1, L⟩ := waits_loop a1_0 a1_1 b6.1 (by omega) l3 (fun x hx => (hl x hx).1) l3.length 0 a2 0 false ⟨false, 0, false, a0_3, a0_4, a0_5⟩ (emptyS_ok hs) rfl (fun z => absurd z Bool.false_ne_true) (by omega) (by omega) b7.1 (by omega) (by omega) (by omega)
  exact ⟨K0 + K1, waits_abs _ _ _ _ _ _ _ _ _ _ l3 (ha _ (by omega)) (L _ (by omega))⟩
end Go.Proofs.Ytiiffgmbkajkhaa.Pure

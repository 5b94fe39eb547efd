/- CodelQuiet's pure statement: what doesn't stay is never dropped. -/
import Derived.Test.YtiiffgmbkajkhaaQCa
import Derived.Test.YtiiffgmbkajkhaaQx9
namespace Go.Proofs.Ytiiffgmbkajkhaa.Pure
set_option linter.unusedVariables false
set_option linter.unusedSimpArgs false
open Go.RowKit Go.Proofs.Ytiiffgmbkajkhaa.Q Go.Proofs.YtiiffgmbkajkhaaW.PrintWords Go.Proofs.YtiiffgmbkajkhaaW.PrintLast Go.Proofs.YtiiffgmbkajkhaaW.PrintMore
open Go.Proofs.Ytiiffgmbkajkhaa.Lib

theorem rd_in {l : List S30} {i : Int} (h0 : 0 ≤ i) (h1 : i < (l.length : Int)) : rd_T30 l i ∈ l := by
  have hi : i.toNat < l.length := by omega
  have e : rd_T30 l i = l[i.toNat] := by unfold rd_T30; rw [List.getD_eq_getElem?_getD, List.getElem?_eq_getElem hi]; rfl
  rw [e]; exact List.getElem_mem hi
theorem kept_ab (iv now : Int) (h : Bool) (s : Cs) : (lookS iv now h s).Ab = (noteS iv now h s).Ab ∧ (lookS iv now h s).Fi = (noteS iv now h s).Fi := by
  unfold lookS
  split
  · split
    · unfold dueS
      split <;> exact ⟨rfl, rfl⟩
    · exact ⟨rfl, rfl⟩
  · exact ⟨rfl, rfl⟩
theorem quiet_j2 (k : Nat) (now tg iv lt sj bl t : Int) (l : List S30) (n i : Int) (s r : Cs) (h1 : overfallref02_Add.f k now lt = some t) (h2 : codel_State_Look.f k s.Ab s.Fi s.Dr s.Nx s.Co s.La tg iv t sj bl = some (r.Ab, r.Fi, r.Dr, r.Nx, r.Co, r.La, 0)) (hd : r.Dr = false) (hb : r.Ab = false) (nx : overfalllaw08_CodelQuiet.l0 k t l n (wrap64 (i + 1)) r.Ab r.Fi r.Dr r.Nx r.Co r.La tg iv = some true) :
    overfalllaw08_CodelQuiet.j2 (k + 1) now l n i s.Ab s.Fi s.Dr s.Nx s.Co s.La tg iv lt sj bl = some true := by
  rw [overfalllaw08_CodelQuiet.j2, h1, Option.bind_some, h2, Option.bind_some]
  dsimp only
  rw [if_pos (rfl : (0 : Int) = 0), if_neg (by rw [hd]; exact Bool.false_ne_true), if_neg (by rw [hb]; exact Bool.false_ne_true), nx]
theorem low_look {iv now : Int} (s : Cs) : lookV iv now false s = 0 ∧ (lookS iv now false s).Dr = false ∧ (lookS iv now false s).Ab = false := by
  have hm : ¬ mayS now false s = true := by unfold mayS; simp
  unfold lookV lookS
  rw [if_neg hm, if_neg hm]
  unfold noteS
  rw [if_neg Bool.false_ne_true]
  exact ⟨rfl, rfl, rfl⟩
theorem quiet_loop (tg iv : Int) (i0 : -9223372036854775808 ≤ iv) (i1 : iv < 9223372036854775808) (l : List S30) (hl : ∀ x ∈ l, (Lit.int .i64 x.f0).wf = true) : ∀ (d : Nat) (i now : Int) (s : Cs), s.ok → 0 ≤ i → (l.length : Int) - i ≤ d → -9223372036854775808 ≤ now → now < 9223372036854775808 → ∃ K, ∀ k, K ≤ k → overfalllaw08_CodelQuiet.l0 k now l (l.length : Int) i s.Ab s.Fi s.Dr s.Nx s.Co s.La tg iv = some true := by
  intro d
  induction d with
  | zero =>
    intro i now s hs h0 hd n0 n1
    refine ⟨1, fun k hk => ?_⟩
    obtain ⟨k, rfl⟩ : ∃ m, k = m + 1 := ⟨k - 1, by omega⟩
    rw [overfalllaw08_CodelQuiet.l0, if_neg (by omega)]
  | succ d ih =>
    intro i now s hs h0 hd n0 n1
    by_cases c : i < (l.length : Int)
    · by_cases g : i ≥ 40
      · refine ⟨1, fun k hk => ?_⟩
        obtain ⟨k, rfl⟩ : ∃ m, k = m + 1 := ⟨k - 1, by omega⟩
        rw [overfalllaw08_CodelQuiet.l0, if_pos c, if_pos h0, if_pos c, if_pos g]
      · have ub := bounds_i64 (hl _ (rd_in h0 c))
        obtain ⟨x, hx⟩ : ∃ x, x = rd_T30 l i := ⟨_, rfl⟩
        rw [← hx] at ub
        have sb := sat_bd (now + x.f0)
        have key : ∀ bl : Int, high tg x.f1 bl = false → ∃ K, ∀ k, K ≤ k → overfalllaw08_CodelQuiet.j2 (k + 1) now l (l.length : Int) i s.Ab s.Fi s.Dr s.Nx s.Co s.La tg iv x.f0 x.f1 bl = some true := by
          intro bl hb
          obtain ⟨K1, L⟩ := plookf hs tg iv (sat (now + x.f0)) x.f1 bl sb.1 sb.2 i0 i1
          rw [hb] at L
          obtain ⟨z1, z2, z3⟩ := low_look (iv := iv) (now := sat (now + x.f0)) s
          rw [z1] at L
          have ok := lookS_ok hs iv (sat (now + x.f0)) false
          obtain ⟨K2, J⟩ := ih (i + 1) (sat (now + x.f0)) (lookS iv (sat (now + x.f0)) false s) ok (by omega) (by omega) sb.1 sb.2
          rw [← w64 (x := i + 1) (by omega) (by omega)] at J
          refine ⟨K1 + K2 + 20, fun k hk => ?_⟩
          obtain ⟨j, rfl⟩ : ∃ j, k = j + 20 := ⟨k - 20, by omega⟩
          exact quiet_j2 _ now tg iv x.f0 x.f1 bl _ l _ i s _ (radd2f j _ _ n0 n1 ub.1 (by omega)) (L _ (by omega)) z2 z3 (J _ (by omega))
        by_cases a : x.f1 ≥ tg
        · by_cases b : x.f2 > 1
          · obtain ⟨K, J⟩ := key 1 (by unfold high; rw [decide_eq_false (show ¬ (1 : Int) > 1 by decide), Bool.and_false])
            refine ⟨K + 3, fun k hk => ?_⟩
            obtain ⟨k, rfl⟩ : ∃ m, k = m + 1 + 1 + 1 := ⟨k - 3, by omega⟩
            rw [overfalllaw08_CodelQuiet.l0, if_pos c, if_pos h0, if_pos c, if_neg g, ← hx, if_pos a, decide_eq_true b, overfalllaw08_CodelQuiet.j1, if_pos (rfl : true = true)]
            exact J _ (by omega)
          · obtain ⟨K, J⟩ := key x.f2 (by unfold high; rw [decide_eq_false b, Bool.and_false])
            refine ⟨K + 3, fun k hk => ?_⟩
            obtain ⟨k, rfl⟩ : ∃ m, k = m + 1 + 1 + 1 := ⟨k - 3, by omega⟩
            rw [overfalllaw08_CodelQuiet.l0, if_pos c, if_pos h0, if_pos c, if_neg g, ← hx, if_pos a, decide_eq_false b, overfalllaw08_CodelQuiet.j1, if_neg Bool.false_ne_true]
            exact J _ (by omega)
        · obtain ⟨K, J⟩ := key x.f2 (by unfold high; rw [decide_eq_false a, Bool.false_and])
          refine ⟨K + 3, fun k hk => ?_⟩
          obtain ⟨k, rfl⟩ : ∃ m, k = m + 1 + 1 + 1 := ⟨k - 3, by omega⟩
          rw [overfalllaw08_CodelQuiet.l0, if_pos c, if_pos h0, if_pos c, if_neg g, ← hx, if_neg a, overfalllaw08_CodelQuiet.j1, if_neg Bool.false_ne_true]
          exact J _ (by omega)
    · refine ⟨1, fun k hk => ?_⟩
      obtain ⟨k, rfl⟩ : ∃ m, k = m + 1 := ⟨k - 1, by omega⟩
      rw [overfalllaw08_CodelQuiet.l0, if_neg c]
theorem quiet_abs (k : Nat) (s : Cs) (tg iv now : Int) (l : List S30) (ha : overfalllaw08_awake.f k = some true) (h : overfalllaw08_CodelQuiet.l0 k now l (l.length : Int) 0 s.Ab s.Fi s.Dr s.Nx s.Co s.La tg iv = some true) :
    overfalllaw08_CodelQuiet.f k s.Ab s.Fi s.Dr s.Nx s.Co s.La tg iv now l = some true := by
  rw [overfalllaw08_CodelQuiet.f, ha, Option.bind_some, if_pos (rfl : true = true), h]
theorem CodelQuiet : ∀ (a0_0 : Bool) (a0_1 : Int) (a0_2 : Bool) (a0_3 : Int) (a0_4 : Int) (a0_5 : Int) (a1_0 : Int) (a1_1 : Int) (a2 : Int) (l3 : List S30), (Lit.int .i64 a0_1).wf = true → (Lit.int .i64 a0_3).wf = true → (Lit.int .u64 a0_4).wf = true → (Lit.int .u64 a0_5).wf = true → (Lit.int .i64 a1_0).wf = true → (Lit.int .i64 a1_1).wf = true → (Lit.int .i64 a2).wf = true → l3.length ≤ maxLen → (∀ x ∈ l3, (Lit.int .i64 x.f0).wf = true ∧ (Lit.int .i64 x.f1).wf = true ∧ (Lit.int .i64 x.f2).wf = true) → ∃ k, overfalllaw08_CodelQuiet.f k a0_0 a0_1 a0_2 a0_3 a0_4 a0_5 a1_0 a1_1 a2 l3 = some true := by
  intro a0_0 a0_1 a0_2 a0_3 a0_4 a0_5 a1_0 a1_1 a2 l3 h1 h2 h3 h4 h5 h6 h7 _ hl
  have b1 := bounds_i64 h1
  have b2 := bounds_i64 h2
  have b3 := wf_u64 h3
  have b4 := wf_u64 h4
  have b5 := bounds_i64 h5
  have b6 := bounds_i64 h6
  have hs : Cs.ok ⟨a0_0, a0_1, a0_2, a0_3, a0_4, a0_5⟩ := ⟨b1.1, by show a0_1 < _; omega, b2.1, by show a0_3 < _; omega, b3.1, b3.2, b4.1, b4.2⟩
  obtain ⟨K0, ha⟩ := awakef
  have b7 := bounds_i64 h7
  obtain ⟨K1, L⟩ := quiet_loop a1_0 a1_1 b6.1 (by omega) l3 (fun x hx => (hl x hx).1) l3.length 0 a2 ⟨a0_0, a0_1, a0_2, a0_3, a0_4, a0_5⟩ hs (by omega) (by omega) b7.1 (by omega)
  exact ⟨K0 + K1, quiet_abs _ ⟨a0_0, a0_1, a0_2, a0_3, a0_4, a0_5⟩ a1_0 a1_1 a2 l3 (ha _ (by omega)) (L _ (by omega))⟩
end Go.Proofs.Ytiiffgmbkajkhaa.Pure

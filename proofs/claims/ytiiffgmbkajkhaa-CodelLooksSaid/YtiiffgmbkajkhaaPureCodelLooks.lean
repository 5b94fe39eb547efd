/- CodelLooks' pure statement: each look says what the document says, and leaves its state. -/
import Derived.Test.YtiiffgmbkajkhaaLCb
import Derived.Test.YtiiffgmbkajkhaaLx14
import Derived.Test.YtiiffgmbkajkhaaLx12
import Derived.Test.YtiiffgmbkajkhaaLx13
namespace Go.Proofs.Ytiiffgmbkajkhaa.Pure
set_option linter.unusedVariables false
set_option linter.unusedSimpArgs false
open Go.RowKit Go.Proofs.Ytiiffgmbkajkhaa.L Go.Proofs.YtiiffgmbkajkhaaW.PrintWords Go.Proofs.YtiiffgmbkajkhaaW.PrintLast Go.Proofs.YtiiffgmbkajkhaaW.PrintMore
open Go.Proofs.Ytiiffgmbkajkhaa.Lib

theorem same_six (s : Cs) : (s.Ab == s.Ab && (s.Fi == s.Fi && (s.Dr == s.Dr && (s.Nx == s.Nx && (s.Co == s.Co && (s.La == s.La)))))) = true := by simp
theorem looks_abs (k : Nat) (s a b n : Cs) (m : Bool) (tg iv now sj bl v w : Int) (ha : overfalllaw08_awake.f k = some true)
    (h1 : codel_State_Look.f k s.Ab s.Fi s.Dr s.Nx s.Co s.La tg iv now sj bl = some (a.Ab, a.Fi, a.Dr, a.Nx, a.Co, a.La, v)) (h2 : overfallref08_Look.f k s.Ab s.Fi s.Dr s.Nx s.Co s.La tg iv now sj bl = some (a.Ab, a.Fi, a.Dr, a.Nx, a.Co, a.La, v))
    (h3 : codel_State_More.f k s.Ab s.Fi s.Dr s.Nx s.Co s.La tg iv now sj bl = some (b.Ab, b.Fi, b.Dr, b.Nx, b.Co, b.La, w)) (h4 : overfallref08_More.f k s.Ab s.Fi s.Dr s.Nx s.Co s.La tg iv now sj bl = some (b.Ab, b.Fi, b.Dr, b.Nx, b.Co, b.La, w))
    (h5 : codel_State_note.f k s.Ab s.Fi s.Dr s.Nx s.Co s.La tg iv now sj bl = some (n.Ab, n.Fi, n.Dr, n.Nx, n.Co, n.La, m)) (h6 : overfallref08_Note.f k s.Ab s.Fi s.Dr s.Nx s.Co s.La tg iv now sj bl = some (n.Ab, n.Fi, n.Dr, n.Nx, n.Co, n.La, m)) :
    overfalllaw08_CodelLooks.f k s.Ab s.Fi s.Dr s.Nx s.Co s.La tg iv now sj bl = some true := by
  rw [overfalllaw08_CodelLooks.f, ha, Option.bind_some, if_pos (rfl : true = true), h1, Option.bind_some, overfalllaw08_own.f, Option.bind_some]
  dsimp only
  rw [h2, Option.bind_some, h3, Option.bind_some, Option.bind_some]
  dsimp only
  rw [h4, Option.bind_some, Option.bind_some]
  dsimp only
  rw [h6, Option.bind_some, codel_State_Empty.f, Option.bind_some, overfalllaw08_own.f, Option.bind_some]
  dsimp only
  rw [if_pos (same_six a), if_pos (rfl : v = v), overfalllaw08_own.f, Option.bind_some]
  dsimp only
  rw [if_pos (same_six b), if_pos (rfl : w = w), codel_State_Note.f, h5, Option.bind_some, Option.bind_some, overfalllaw08_own.f, Option.bind_some]
  dsimp only
  rw [if_pos (same_six n), if_neg Bool.false_ne_true, if_neg Bool.false_ne_true, if_pos (rfl : (0 : Int) = 0), if_pos (rfl : s.Nx = s.Nx), if_pos (rfl : s.Co = s.Co), beq_self_eq_true]
theorem CodelLooks : ∀ (a0_0 : Bool) (a0_1 : Int) (a0_2 : Bool) (a0_3 : Int) (a0_4 : Int) (a0_5 : Int) (a1_0 : Int) (a1_1 : Int) (a2 : Int) (a3 : Int) (a4 : Int), (Lit.int .i64 a0_1).wf = true → (Lit.int .i64 a0_3).wf = true → (Lit.int .u64 a0_4).wf = true → (Lit.int .u64 a0_5).wf = true → (Lit.int .i64 a1_0).wf = true → (Lit.int .i64 a1_1).wf = true → (Lit.int .i64 a2).wf = true → (Lit.int .i64 a3).wf = true → (Lit.int .i64 a4).wf = true → ∃ k, overfalllaw08_CodelLooks.f k a0_0 a0_1 a0_2 a0_3 a0_4 a0_5 a1_0 a1_1 a2 a3 a4 = some true := by
  intro a0_0 a0_1 a0_2 a0_3 a0_4 a0_5 a1_0 a1_1 a2 a3 a4 h1 h2 h3 h4 h5 h6 h7 h8 h9
  have b1 := bounds_i64 h1
  have b2 := bounds_i64 h2
  have b3 := wf_u64 h3
  have b4 := wf_u64 h4
  have b5 := bounds_i64 h5
  have b6 := bounds_i64 h6
  have hs : Cs.ok ⟨a0_0, a0_1, a0_2, a0_3, a0_4, a0_5⟩ := ⟨b1.1, by show a0_1 < _; omega, b2.1, by show a0_3 < _; omega, b3.1, b3.2, b4.1, b4.2⟩
  obtain ⟨K0, ha⟩ := awakef
  have b7 := bounds_i64 h7
  obtain ⟨K1, e1⟩ := plookf hs a1_0 a1_1 a2 a3 a4 b7.1 (by omega) b6.1 (by omega)
  obtain ⟨K2, e2⟩ := rlookf hs a1_0 a1_1 a2 a3 a4 b7.1 (by omega) b6.1 (by omega)
  obtain ⟨K3, e3⟩ := pmoref hs a1_0 a1_1 a2 a3 a4 b7.1 (by omega) b6.1 (by omega)
  obtain ⟨K4, e4⟩ := rmoref hs a1_0 a1_1 a2 a3 a4 b7.1 (by omega) b6.1 (by omega)
  exact ⟨K0 + K1 + K2 + K3 + K4 + 20 + 1, looks_abs _ ⟨a0_0, a0_1, a0_2, a0_3, a0_4, a0_5⟩ _ _ _ _ a1_0 a1_1 a2 a3 a4 _ _ (ha _ (by omega)) (e1 _ (by omega)) (e2 _ (by omega)) (e3 _ (by omega)) (e4 _ (by omega)) (pnotef _ ⟨a0_0, a0_1, a0_2, a0_3, a0_4, a0_5⟩ a1_0 a1_1 a2 a3 a4 b7.1 (by omega) b6.1 (by omega)) (rnotef (K0 + K1 + K2 + K3 + K4) ⟨a0_0, a0_1, a0_2, a0_3, a0_4, a0_5⟩ a1_0 a1_1 a2 a3 a4 b7.1 (by omega) b6.1 (by omega))⟩
end Go.Proofs.Ytiiffgmbkajkhaa.Pure

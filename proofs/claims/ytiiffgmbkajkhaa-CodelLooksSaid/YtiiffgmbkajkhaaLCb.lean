/- The document's notes and looks are the reckoned ones. -/
import Derived.Test.YtiiffgmbkajkhaaLCa
import Derived.Test.YtiiffgmbkajkhaaLx12
import Derived.Test.YtiiffgmbkajkhaaLx13
namespace Go.Proofs.Ytiiffgmbkajkhaa.Lib
set_option linter.unusedVariables false
set_option linter.unusedSimpArgs false
open Go.RowKit Go.Proofs.Ytiiffgmbkajkhaa.L Go.Proofs.YtiiffgmbkajkhaaW.PrintWords Go.Proofs.YtiiffgmbkajkhaaW.PrintLast Go.Proofs.YtiiffgmbkajkhaaW.PrintMore

theorem rnotef (k : Nat) (s : Cs) (tg iv now sj bl : Int) (n0 : -9223372036854775808 ≤ now) (n1 : now < 9223372036854775808) (i0 : -9223372036854775808 ≤ iv) (i1 : iv < 9223372036854775808) :
    overfallref08_Note.f (k + 21) s.Ab s.Fi s.Dr s.Nx s.Co s.La tg iv now sj bl = some ((noteS iv now (high tg sj bl) s).Ab, (noteS iv now (high tg sj bl) s).Fi, (noteS iv now (high tg sj bl) s).Dr, (noteS iv now (high tg sj bl) s).Nx, (noteS iv now (high tg sj bl) s).Co, (noteS iv now (high tg sj bl) s).La, mayS now (high tg sj bl) s) := by
  obtain ⟨ab, fi, dr, nx, co, la⟩ := s
  dsimp only
  have A := radd2f k now iv n0 n1 i0 i1
  rw [overfallref08_Note.f]
  unfold high
  by_cases c : sj < tg
  · rw [if_pos c, decide_eq_false (show ¬ sj ≥ tg by omega), Bool.false_and, overfallref08_Note.j0, if_pos (rfl : true = true)]; rfl
  · rw [if_neg c, decide_eq_true (show sj ≥ tg by omega), Bool.true_and, overfallref08_Note.j0]
    by_cases d : bl ≤ 1
    · rw [decide_eq_true d, decide_eq_false (show ¬ bl > 1 by omega), if_pos (rfl : true = true)]; rfl
    · rw [decide_eq_false d, decide_eq_true (show bl > 1 by omega), if_neg Bool.false_ne_true]
      cases ab
      · rw [if_neg Bool.false_ne_true, A, Option.bind_some]; rfl
      · rw [if_pos (rfl : true = true)]; rfl
theorem rincf {c : Int} (c0 : 0 ≤ c) (c1 : c < 18446744073709551616) : overfallref08_more.f c = some (incS c) := by
  unfold overfallref08_more.f incS
  by_cases d : c = 18446744073709551615
  · rw [if_pos d, if_neg (by omega)]
  · rw [if_neg d, if_pos (by omega), wu_in (by omega) (by omega)]
theorem rdue {n : Cs} (hs : n.ok) (now : Int) : (if now ≥ n.Nx then ((overfallref08_more.f n.Co).bind fun t => some (n.Ab, n.Fi, n.Dr, n.Nx, t, n.La, (1 : Int))) else some (n.Ab, n.Fi, n.Dr, n.Nx, n.Co, n.La, (0 : Int))) = some ((dueS now n).Ab, (dueS now n).Fi, (dueS now n).Dr, (dueS now n).Nx, (dueS now n).Co, (dueS now n).La, dueV now n) := by
  unfold dueS dueV
  by_cases c : now < n.Nx
  · rw [if_neg (show ¬ now ≥ n.Nx by omega), if_pos c, if_pos c]
  · rw [if_pos (show now ≥ n.Nx by omega), if_neg c, if_neg c, rincf hs.c0 hs.c1, Option.bind_some]
theorem rlook_j0 (k : Nat) (iv now d c z t : Int) (b : Bool) (ab : Bool) (fi : Int) (dr : Bool) (nx la : Int) (hc : c = if b = true then d else 1) (hl : overfallref03_Law.f k iv c = some z) (hz : overfallref02_Add.f k now z = some t) : overfallref08_Look.j0 (k + 1) iv now d b ab fi dr nx 1 la = some (ab, fi, dr, t, c, c, 2) := by
  rw [overfallref08_Look.j0]
  cases b
  · rw [if_neg Bool.false_ne_true] at hc
    subst hc
    rw [if_neg Bool.false_ne_true, hl, Option.bind_some, hz, Option.bind_some]
  · rw [if_pos (rfl : true = true)] at hc
    subst hc
    rw [if_pos (rfl : true = true), hl, Option.bind_some, hz, Option.bind_some]
theorem rlook_abs (k : Nat) (s n r : Cs) (m : Bool) (tg iv now sj bl v d x y z t c : Int) (no : n.ok) (hn : overfallref08_Note.f (k + 1) s.Ab s.Fi s.Dr s.Nx s.Co s.La tg iv now sj bl = some (n.Ab, n.Fi, n.Dr, n.Nx, n.Co, n.La, m))
    (hd : IntKind.u64.wrap (n.Co - n.La) = d) (e1 : overfallref02_Sub.f (k + 1) now n.Nx = some x) (e2 : overfallref02_Mul.f (k + 1) 16 iv = some y) (hc : c = if d > 1 ∧ d ≤ 9223372036854775808 ∧ x < y then d else 1) (hl : overfallref03_Law.f k iv c = some z) (hz : overfallref02_Add.f k now z = some t)
    (h1 : m = true → n.Dr = true → r = dueS now n ∧ v = dueV now n)
    (h2 : m = true → ¬ n.Dr = true → r = ⟨n.Ab, n.Fi, true, t, c, c⟩ ∧ v = 2)
    (h3 : ¬ m = true → r = stopS n ∧ v = 0) :
    overfallref08_Look.f (k + 1) s.Ab s.Fi s.Dr s.Nx s.Co s.La tg iv now sj bl = some (r.Ab, r.Fi, r.Dr, r.Nx, r.Co, r.La, v) := by
  rw [overfallref08_Look.f, hn, Option.bind_some]
  dsimp only
  by_cases b : n.Dr = true
  · rw [if_pos b]
    by_cases a : m = true
    · obtain ⟨f1, f2⟩ := h1 a b
      rw [if_pos a, f1, f2]
      exact rdue no now
    · obtain ⟨f1, f2⟩ := h3 a
      rw [if_neg a, f1, f2]; rfl
  · rw [if_neg b]
    by_cases a : m = true
    · obtain ⟨f1, f2⟩ := h2 a b
      rw [if_pos a, hd, f1, f2]
      by_cases g : d ≥ 2
      · rw [if_pos g]
        by_cases h : d ≤ 9223372036854775808
        · rw [if_pos h, e1, Option.bind_some, e2, Option.bind_some]
          refine rlook_j0 k iv now d c z t _ _ _ _ _ _ ?_ hl hz
          rw [hc]
          by_cases e : x < y
          · rw [decide_eq_true e, if_pos (rfl : true = true), if_pos ⟨by omega, h, e⟩]
          · rw [decide_eq_false e, if_neg Bool.false_ne_true, if_neg (fun q => e q.2.2)]
        · rw [if_neg h]
          exact rlook_j0 k iv now d c z t _ _ _ _ _ _ (by rw [hc, if_neg Bool.false_ne_true, if_neg (fun q => h q.2.1)]) hl hz
      · rw [if_neg g]
        exact rlook_j0 k iv now d c z t _ _ _ _ _ _ (by rw [hc, if_neg Bool.false_ne_true, if_neg (fun q => g (by omega))]) hl hz
    · obtain ⟨f1, f2⟩ := h3 a
      have b2 : n.Dr = false := by simpa using b
      rw [if_neg a, f1, f2, b2]; rfl
theorem rlookf {s : Cs} (hs : s.ok) (tg iv now sj bl : Int) (n0 : -9223372036854775808 ≤ now) (n1 : now < 9223372036854775808) (i0 : -9223372036854775808 ≤ iv) (i1 : iv < 9223372036854775808) : ∃ K, ∀ k, K ≤ k →
    overfallref08_Look.f k s.Ab s.Fi s.Dr s.Nx s.Co s.La tg iv now sj bl = some ((lookS iv now (high tg sj bl) s).Ab, (lookS iv now (high tg sj bl) s).Fi, (lookS iv now (high tg sj bl) s).Dr, (lookS iv now (high tg sj bl) s).Nx, (lookS iv now (high tg sj bl) s).Co, (lookS iv now (high tg sj bl) s).La, lookV iv now (high tg sj bl) s) := by
  have no := noteS_ok hs iv now (high tg sj bl)
  have dr := noteS_dr iv now (high tg sj bl) s
  have lk : lookS iv now (high tg sj bl) s = if mayS now (high tg sj bl) s = true then (if s.Dr = true then dueS now (noteS iv now (high tg sj bl) s) else enterS iv now (noteS iv now (high tg sj bl) s)) else stopS (noteS iv now (high tg sj bl) s) := rfl
  have lv : lookV iv now (high tg sj bl) s = if mayS now (high tg sj bl) s = true then (if s.Dr = true then dueV now (noteS iv now (high tg sj bl) s) else 2) else 0 := rfl
  have fb := fastC_bd iv now (noteS iv now (high tg sj bl) s)
  obtain ⟨K, e⟩ := rlawv iv (fastC iv now (noteS iv now (high tg sj bl) s)) i0 i1 (by omega) (by omega)
  have lb := lawv_bd iv (fastC iv now (noteS iv now (high tg sj bl) s)) i0 i1 (by omega) (by omega)
  refine ⟨K + 60, fun k hk => ?_⟩
  obtain ⟨j, rfl⟩ : ∃ j, k = j + 40 + 1 := ⟨k - 41, by omega⟩
  refine rlook_abs (j + 40) s _ _ _ tg iv now sj bl _ _ _ _ _ _ (fastC iv now (noteS iv now (high tg sj bl) s)) no (rnotef (j + 20) s tg iv now sj bl n0 n1 i0 i1) (wu _) (rsub2f (j + 21) _ _ n0 n1 no.n0 no.n1) (rmul2f (j + 1) 16 iv (by omega) (by omega) i0 i1) rfl (e _ (by omega)) (radd2f (j + 20) _ _ n0 n1 (by omega) (by omega)) (fun a b => ?_) (fun a b => ?_) (fun a => ?_)
  · rw [dr] at b
    rw [lk, lv, if_pos a, if_pos b, if_pos a, if_pos b]
    exact ⟨rfl, rfl⟩
  · rw [dr] at b
    rw [lk, lv, if_pos a, if_neg b, if_pos a, if_neg b]
    exact ⟨rfl, rfl⟩
  · rw [lk, lv, if_neg a, if_neg a]
    exact ⟨rfl, rfl⟩
theorem rmore_abs (k : Nat) (s n r : Cs) (m : Bool) (tg iv now sj bl v z : Int) (no : n.ok) (hn : overfallref08_Note.f k s.Ab s.Fi s.Dr s.Nx s.Co s.La tg iv now sj bl = some (n.Ab, n.Fi, n.Dr, n.Nx, n.Co, n.La, m))
    (hl : overfallref03_Law.f k iv n.Co = some (lawv iv n.Co)) (hz : overfallref02_Add.f k n.Nx (lawv iv n.Co) = some (sat (n.Nx + lawv iv n.Co)))
    (h1 : m = true → r = dueS now (laterS iv n) ∧ v = dueV now (laterS iv n))
    (h3 : ¬ m = true → r = stopS n ∧ v = 0) :
    overfallref08_More.f k s.Ab s.Fi s.Dr s.Nx s.Co s.La tg iv now sj bl = some (r.Ab, r.Fi, r.Dr, r.Nx, r.Co, r.La, v) := by
  rw [overfallref08_More.f, hn, Option.bind_some]
  dsimp only
  by_cases a : m = true
  · obtain ⟨f1, f2⟩ := h1 a
    rw [if_pos a, hl, Option.bind_some, hz, Option.bind_some, f1, f2]
    exact rdue (laterS_ok no iv) now
  · obtain ⟨f1, f2⟩ := h3 a
    rw [if_neg a, f1, f2]; rfl
theorem rmoref {s : Cs} (hs : s.ok) (tg iv now sj bl : Int) (n0 : -9223372036854775808 ≤ now) (n1 : now < 9223372036854775808) (i0 : -9223372036854775808 ≤ iv) (i1 : iv < 9223372036854775808) : ∃ K, ∀ k, K ≤ k →
    overfallref08_More.f k s.Ab s.Fi s.Dr s.Nx s.Co s.La tg iv now sj bl = some ((moreS iv now (high tg sj bl) s).Ab, (moreS iv now (high tg sj bl) s).Fi, (moreS iv now (high tg sj bl) s).Dr, (moreS iv now (high tg sj bl) s).Nx, (moreS iv now (high tg sj bl) s).Co, (moreS iv now (high tg sj bl) s).La, moreV iv now (high tg sj bl) s) := by
  have no := noteS_ok hs iv now (high tg sj bl)
  have lk : moreS iv now (high tg sj bl) s = if mayS now (high tg sj bl) s = true then dueS now (laterS iv (noteS iv now (high tg sj bl) s)) else stopS (noteS iv now (high tg sj bl) s) := rfl
  have lv : moreV iv now (high tg sj bl) s = if mayS now (high tg sj bl) s = true then dueV now (laterS iv (noteS iv now (high tg sj bl) s)) else 0 := rfl
  obtain ⟨K, e⟩ := rlawv iv (noteS iv now (high tg sj bl) s).Co i0 i1 no.c0 no.c1
  have lb := lawv_bd iv (noteS iv now (high tg sj bl) s).Co i0 i1 no.c0 no.c1
  refine ⟨K + 60, fun k hk => ?_⟩
  obtain ⟨j, rfl⟩ : ∃ j, k = j + 21 := ⟨k - 21, by omega⟩
  refine rmore_abs _ s _ _ _ tg iv now sj bl _ 0 no (rnotef j s tg iv now sj bl n0 n1 i0 i1) (e _ (by omega)) (radd2f (j + 1) _ _ no.n0 no.n1 (by omega) (by omega)) (fun a => ?_) (fun a => ?_)
  · rw [lk, lv, if_pos a, if_pos a]
    exact ⟨rfl, rfl⟩
  · rw [lk, lv, if_neg a, if_neg a]
    exact ⟨rfl, rfl⟩
end Go.Proofs.Ytiiffgmbkajkhaa.Lib

/- The program's notes and looks are the reckoned ones. -/
import Derived.Test.YtiiffgmbkajkhaaLFc
import Derived.Test.YtiiffgmbkajkhaaLRb
import Derived.Test.YtiiffgmbkajkhaaLx2
import Derived.Test.YtiiffgmbkajkhaaLx4
import Derived.Test.YtiiffgmbkajkhaaLx6
import Derived.Test.YtiiffgmbkajkhaaLx7
namespace Go.Proofs.Ytiiffgmbkajkhaa.Lib
set_option linter.unusedVariables false
set_option linter.unusedSimpArgs false
open Go.RowKit Go.Proofs.Ytiiffgmbkajkhaa.L Go.Proofs.YtiiffgmbkajkhaaW.PrintWords Go.Proofs.YtiiffgmbkajkhaaW.PrintLast Go.Proofs.YtiiffgmbkajkhaaW.PrintMore

def gv (m n : Int) : Nat → Int
  | 0 => 0
  | k + 1 => if ((k : Int) + 1) * ((k : Int) + 1) * n ≤ m then (k : Int) + 1 else gv m n k
theorem gv_is {m n r : Int} (r0 : 0 ≤ r) (hf : r * r * n ≤ m) (hn : ∀ s, r < s → m < s * s * n) : ∀ k : Nat, r ≤ k → gv m n k = r := by
  intro k
  induction k with
  | zero => intro h; show (0 : Int) = r; omega
  | succ k ih =>
    intro h
    unfold gv
    by_cases c : r = (k : Int) + 1
    · rw [← c, if_pos hf]
    · rw [if_neg (by have := hn ((k : Int) + 1) (by omega); omega), ih (by omega)]
def lawv (i n : Int) : Int := if i < 0 then 0 else gv (i * i) (n1 n) i.toNat
theorem lawv_eq {i n r : Int} (i1 : i < 9223372036854775808) (h : LawIs i n r) : lawv i n = r := by
  unfold lawv
  by_cases c : i < 0
  · rw [if_pos c, h.neg c]
  · rw [if_neg c]
    obtain ⟨hm, hl⟩ := h.most (by omega)
    refine gv_is h.l hm.fits (fun s hs => ?_) _ (by omega)
    have a := hm.next (by omega)
    have p : 0 ≤ n1 n := by unfold n1; split <;> omega
    have b := sqn_mono (n := n1 n) (show 0 ≤ r + 1 by have := h.l; omega) (show r + 1 ≤ s by omega) p
    omega
theorem plawv (i n : Int) (i0 : -9223372036854775808 ≤ i) (i1 : i < 9223372036854775808) (n0 : 0 ≤ n) (n1' : n < 18446744073709551616) : ∃ K, ∀ k, K ≤ k → root_Law.f k i n = some (lawv i n) := by
  obtain ⟨r, K, h, hl⟩ := plaw i n i0 i1 n0 n1'
  exact ⟨K, by rw [lawv_eq i1 hl]; exact h⟩
theorem rlawv (i n : Int) (i0 : -9223372036854775808 ≤ i) (i1 : i < 9223372036854775808) (n0 : 0 ≤ n) (n1' : n < 18446744073709551616) : ∃ K, ∀ k, K ≤ k → overfallref03_Law.f k i n = some (lawv i n) := by
  obtain ⟨r, K, h, hl⟩ := rlaw i n i0 i1 n0 n1'
  exact ⟨K, by rw [lawv_eq i1 hl]; exact h⟩
theorem lawv_bd (i n : Int) (i0 : -9223372036854775808 ≤ i) (i1 : i < 9223372036854775808) (n0 : 0 ≤ n) (n1' : n < 18446744073709551616) : 0 ≤ lawv i n ∧ lawv i n ≤ max i 0 := by
  obtain ⟨r, K, h, hl⟩ := plaw i n i0 i1 n0 n1'
  rw [lawv_eq i1 hl]
  refine ⟨hl.l, ?_⟩
  by_cases c : i < 0
  · rw [hl.neg c]; omega
  · have := (hl.most (by omega)).2; omega
structure Cs where
  Ab : Bool
  Fi : Int
  Dr : Bool
  Nx : Int
  Co : Int
  La : Int
structure Cs.ok (s : Cs) : Prop where
  f0 : -9223372036854775808 ≤ s.Fi
  f1 : s.Fi < 9223372036854775808
  n0 : -9223372036854775808 ≤ s.Nx
  n1 : s.Nx < 9223372036854775808
  c0 : 0 ≤ s.Co
  c1 : s.Co < 18446744073709551616
  l0 : 0 ≤ s.La
  l1 : s.La < 18446744073709551616
def high (tg sj bl : Int) : Bool := decide (sj ≥ tg) && decide (bl > 1)
def noteS (iv now : Int) (h : Bool) (s : Cs) : Cs :=
  if h = true then (if s.Ab = true then s else ⟨true, sat (now + iv), s.Dr, s.Nx, s.Co, s.La⟩) else ⟨false, 0, s.Dr, s.Nx, s.Co, s.La⟩
def mayS (now : Int) (h : Bool) (s : Cs) : Bool := h && s.Ab && decide (now ≥ s.Fi)
def incS (c : Int) : Int := if c < 18446744073709551615 then c + 1 else c
def dueS (now : Int) (s : Cs) : Cs := if now < s.Nx then s else ⟨s.Ab, s.Fi, s.Dr, s.Nx, incS s.Co, s.La⟩
def dueV (now : Int) (s : Cs) : Int := if now < s.Nx then 0 else 1
def fastC (iv now : Int) (s : Cs) : Int := if (s.Co - s.La) % 18446744073709551616 > 1 ∧ (s.Co - s.La) % 18446744073709551616 ≤ 9223372036854775808 ∧ sat (now - s.Nx) < sat (16 * iv) then (s.Co - s.La) % 18446744073709551616 else 1
def enterS (iv now : Int) (s : Cs) : Cs := ⟨s.Ab, s.Fi, true, sat (now + lawv iv (fastC iv now s)), fastC iv now s, fastC iv now s⟩
def stopS (s : Cs) : Cs := ⟨s.Ab, s.Fi, false, s.Nx, s.Co, s.La⟩
def lookS (iv now : Int) (h : Bool) (s : Cs) : Cs :=
  if mayS now h s = true then (if s.Dr = true then dueS now (noteS iv now h s) else enterS iv now (noteS iv now h s)) else stopS (noteS iv now h s)
def lookV (iv now : Int) (h : Bool) (s : Cs) : Int :=
  if mayS now h s = true then (if s.Dr = true then dueV now (noteS iv now h s) else 2) else 0
def laterS (iv : Int) (s : Cs) : Cs := ⟨s.Ab, s.Fi, s.Dr, sat (s.Nx + lawv iv s.Co), s.Co, s.La⟩
def moreS (iv now : Int) (h : Bool) (s : Cs) : Cs :=
  if mayS now h s = true then dueS now (laterS iv (noteS iv now h s)) else stopS (noteS iv now h s)
def moreV (iv now : Int) (h : Bool) (s : Cs) : Int :=
  if mayS now h s = true then dueV now (laterS iv (noteS iv now h s)) else 0
theorem noteS_ok {s : Cs} (hs : s.ok) (iv now : Int) (h : Bool) : (noteS iv now h s).ok := by
  have b := sat_bd (now + iv)
  unfold noteS
  split
  · split
    · exact hs
    · exact ⟨b.1, b.2, hs.n0, hs.n1, hs.c0, hs.c1, hs.l0, hs.l1⟩
  · exact ⟨by show _ ≤ (0 : Int); omega, by show (0 : Int) < _; omega, hs.n0, hs.n1, hs.c0, hs.c1, hs.l0, hs.l1⟩
theorem fastC_bd (iv now : Int) (s : Cs) : 1 ≤ fastC iv now s ∧ fastC iv now s ≤ 9223372036854775808 := by
  unfold fastC; split <;> omega
theorem laterS_ok {s : Cs} (hs : s.ok) (iv : Int) : (laterS iv s).ok := by
  have c := sat_bd (s.Nx + lawv iv s.Co)
  exact ⟨hs.f0, hs.f1, c.1, c.2, hs.c0, hs.c1, hs.l0, hs.l1⟩
end Go.Proofs.Ytiiffgmbkajkhaa.Lib

namespace Go.Proofs.Ytiiffgmbkajkhaa.Lib
set_option linter.unusedVariables false
set_option linter.unusedSimpArgs false
open Go.RowKit Go.Proofs.Ytiiffgmbkajkhaa.L Go.Proofs.YtiiffgmbkajkhaaW.PrintWords Go.Proofs.YtiiffgmbkajkhaaW.PrintLast Go.Proofs.YtiiffgmbkajkhaaW.PrintMore

theorem pnotef (k : Nat) (s : Cs) (tg iv now sj bl : Int) (n0 : -9223372036854775808 ≤ now) (n1 : now < 9223372036854775808) (i0 : -9223372036854775808 ≤ iv) (i1 : iv < 9223372036854775808) :
    codel_State_note.f (k + 1) s.Ab s.Fi s.Dr s.Nx s.Co s.La tg iv now sj bl = some ((noteS iv now (high tg sj bl) s).Ab, (noteS iv now (high tg sj bl) s).Fi, (noteS iv now (high tg sj bl) s).Dr, (noteS iv now (high tg sj bl) s).Nx, (noteS iv now (high tg sj bl) s).Co, (noteS iv now (high tg sj bl) s).La, mayS now (high tg sj bl) s) := by
  obtain ⟨ab, fi, dr, nx, co, la⟩ := s
  dsimp only
  have A := faddf now iv n0 n1 i0 i1
  rw [codel_State_note.f]
  unfold high
  by_cases c : sj ≥ tg
  · rw [if_pos c, codel_State_note.j0, decide_eq_true c, Bool.true_and]
    by_cases d : bl > 1
    · rw [decide_eq_true d, if_pos (rfl : true = true)]
      cases ab
      · rw [if_neg Bool.false_ne_true, A, Option.bind_some]; rfl
      · rw [if_pos (rfl : true = true)]; rfl
    · rw [decide_eq_false d, if_neg Bool.false_ne_true]; rfl
  · rw [if_neg c, decide_eq_false c, Bool.false_and, codel_State_note.j0, if_neg Bool.false_ne_true]; rfl
theorem pduef {s : Cs} (hs : s.ok) (now : Int) : codel_State_due.f s.Ab s.Fi s.Dr s.Nx s.Co s.La now = some ((dueS now s).Ab, (dueS now s).Fi, (dueS now s).Dr, (dueS now s).Nx, (dueS now s).Co, (dueS now s).La, dueV now s) := by
  have c0 := hs.c0
  have c1 := hs.c1
  unfold codel_State_due.f dueS dueV incS
  by_cases c : now < s.Nx
  · rw [if_pos c, if_pos c, if_pos c]
  · rw [if_neg c, if_neg c, if_neg c]
    by_cases d : s.Co < 18446744073709551615
    · rw [if_pos d, if_pos d, wu_in (by omega) (by omega)]
    · rw [if_neg d, if_neg d]
theorem later_abs (k : Nat) (ab : Bool) (fi : Int) (dr : Bool) (nx co la tg iv fr v w : Int) (h1 : root_Law.f k iv co = some v) (h2 : fix_Add.f fr v = some w) : codel_State_later.f k ab fi dr nx co la tg iv fr = some w := by
  rw [codel_State_later.f, h1, Option.bind_some, h2, Option.bind_some]
theorem platerf (iv co : Int) (i0 : -9223372036854775808 ≤ iv) (i1 : iv < 9223372036854775808) (c0 : 0 ≤ co) (c1 : co < 18446744073709551616) : ∃ K, ∀ k, K ≤ k → ∀ (ab : Bool) (fi : Int) (dr : Bool) (nx la tg fr : Int), -9223372036854775808 ≤ fr → fr < 9223372036854775808 → codel_State_later.f k ab fi dr nx co la tg iv fr = some (sat (fr + lawv iv co)) := by
  obtain ⟨K, h⟩ := plawv iv co i0 i1 c0 c1
  have b := lawv_bd iv co i0 i1 c0 c1
  exact ⟨K, fun k hk ab fi dr nx la tg fr f0 f1 => later_abs k ab fi dr nx co la tg iv fr _ _ (h k hk) (faddf _ _ f0 f1 (by omega) (by omega))⟩
theorem enter_abs (k : Nat) (ab : Bool) (fi : Int) (dr : Bool) (nx co la tg iv now d x y t c : Int) (hd : IntKind.u64.wrap (co - la) = d) (h1 : fix_Sub.f now nx = some x) (h2 : fix_Mul.f k 16 iv = some y) (hc : c = if d > 1 ∧ d ≤ 9223372036854775808 ∧ x < y then d else 1) (h3 : codel_State_later.f k ab fi true nx c la tg iv now = some t) :
    codel_State_enter.f k ab fi dr nx co la tg iv now = some (ab, fi, true, t, c, c) := by
  rw [codel_State_enter.f, hd]
  by_cases a : d > 1
  · rw [if_pos a]
    by_cases b : d ≤ 9223372036854775808
    · rw [if_pos b, h1, Option.bind_some, h2, Option.bind_some]
      by_cases e : x < y
      · rw [if_pos ⟨a, b, e⟩] at hc
        subst hc
        rw [if_pos e, h3, Option.bind_some]
      · rw [if_neg (fun h => e h.2.2)] at hc
        subst hc
        rw [if_neg e, h3, Option.bind_some]
    · rw [if_neg (fun h => b h.2.1)] at hc
      subst hc
      rw [if_neg b, h3, Option.bind_some]
  · rw [if_neg (fun h => a h.1)] at hc
    subst hc
    rw [if_neg a, h3, Option.bind_some]
theorem penterf {s : Cs} (hs : s.ok) (tg iv now : Int) (n0 : -9223372036854775808 ≤ now) (n1 : now < 9223372036854775808) (i0 : -9223372036854775808 ≤ iv) (i1 : iv < 9223372036854775808) : ∃ K, ∀ k, K ≤ k →
    codel_State_enter.f k s.Ab s.Fi s.Dr s.Nx s.Co s.La tg iv now = some ((enterS iv now s).Ab, (enterS iv now s).Fi, (enterS iv now s).Dr, (enterS iv now s).Nx, (enterS iv now s).Co, (enterS iv now s).La) := by
  have fb := fastC_bd iv now s
  obtain ⟨K, h⟩ := platerf iv (fastC iv now s) i0 i1 (by omega) (by omega)
  refine ⟨K + 7, fun k hk => ?_⟩
  obtain ⟨j, rfl⟩ : ∃ j, k = j + 7 := ⟨k - 7, by omega⟩
  exact enter_abs _ s.Ab s.Fi s.Dr s.Nx s.Co s.La tg iv now _ _ _ _ (fastC iv now s) (wu _) (fsubf now s.Nx n0 n1 hs.n0 hs.n1) (fmulf j 16 iv (by omega) (by omega) i0 i1) rfl (h _ (by omega) _ _ _ _ _ _ now n0 n1)
theorem look_abs (k : Nat) (s n r : Cs) (m : Bool) (tg iv now sj bl v : Int) (hn : codel_State_note.f k s.Ab s.Fi s.Dr s.Nx s.Co s.La tg iv now sj bl = some (n.Ab, n.Fi, n.Dr, n.Nx, n.Co, n.La, m))
    (h1 : m = true → n.Dr = true → codel_State_due.f n.Ab n.Fi n.Dr n.Nx n.Co n.La now = some (r.Ab, r.Fi, r.Dr, r.Nx, r.Co, r.La, v))
    (h2 : m = true → ¬ n.Dr = true → codel_State_enter.f k n.Ab n.Fi n.Dr n.Nx n.Co n.La tg iv now = some (r.Ab, r.Fi, r.Dr, r.Nx, r.Co, r.La) ∧ v = 2)
    (h3 : ¬ m = true → r = stopS n ∧ v = 0) :
    codel_State_Look.f k s.Ab s.Fi s.Dr s.Nx s.Co s.La tg iv now sj bl = some (r.Ab, r.Fi, r.Dr, r.Nx, r.Co, r.La, v) := by
  rw [codel_State_Look.f, hn, Option.bind_some]
  dsimp only
  by_cases c : m = true
  · rw [if_pos c]
    by_cases d : n.Dr = true
    · rw [if_pos d, h1 c d, Option.bind_some]
    · obtain ⟨e1, e2⟩ := h2 c d
      rw [if_neg d, e1, Option.bind_some, e2]
  · obtain ⟨e1, e2⟩ := h3 c
    rw [if_neg c, e1, e2]; rfl
theorem noteS_dr (iv now : Int) (h : Bool) (s : Cs) : (noteS iv now h s).Dr = s.Dr := by
  unfold noteS
  split
  · split <;> rfl
  · rfl
theorem plookf {s : Cs} (hs : s.ok) (tg iv now sj bl : Int) (n0 : -9223372036854775808 ≤ now) (n1 : now < 9223372036854775808) (i0 : -9223372036854775808 ≤ iv) (i1 : iv < 9223372036854775808) : ∃ K, ∀ k, K ≤ k →
    codel_State_Look.f k s.Ab s.Fi s.Dr s.Nx s.Co s.La tg iv now sj bl = some ((lookS iv now (high tg sj bl) s).Ab, (lookS iv now (high tg sj bl) s).Fi, (lookS iv now (high tg sj bl) s).Dr, (lookS iv now (high tg sj bl) s).Nx, (lookS iv now (high tg sj bl) s).Co, (lookS iv now (high tg sj bl) s).La, lookV iv now (high tg sj bl) s) := by
  have N := fun k => pnotef k s tg iv now sj bl n0 n1 i0 i1
  have no := noteS_ok hs iv now (high tg sj bl)
  have dr := noteS_dr iv now (high tg sj bl) s
  have lk : lookS iv now (high tg sj bl) s = if mayS now (high tg sj bl) s = true then (if s.Dr = true then dueS now (noteS iv now (high tg sj bl) s) else enterS iv now (noteS iv now (high tg sj bl) s)) else stopS (noteS iv now (high tg sj bl) s) := rfl
  have lv : lookV iv now (high tg sj bl) s = if mayS now (high tg sj bl) s = true then (if s.Dr = true then dueV now (noteS iv now (high tg sj bl) s) else 2) else 0 := rfl
  obtain ⟨K, e⟩ := penterf no tg iv now n0 n1 i0 i1
  refine ⟨K + 1, fun k hk => ?_⟩
  obtain ⟨k, rfl⟩ : ∃ j, k = j + 1 := ⟨k - 1, by omega⟩
  refine look_abs _ s _ _ _ tg iv now sj bl _ (N k) (fun a b => ?_) (fun a b => ?_) (fun a => ?_)
  · rw [dr] at b
    rw [lk, lv, if_pos a, if_pos b, if_pos a, if_pos b]
    exact pduef no now
  · rw [dr] at b
    rw [lk, lv, if_pos a, if_neg b, if_pos a, if_neg b]
    exact ⟨e _ (by omega), rfl⟩
  · rw [lk, lv, if_neg a, if_neg a]
    exact ⟨rfl, rfl⟩
theorem more_abs (k : Nat) (s n r : Cs) (m : Bool) (tg iv now sj bl v t : Int) (hn : codel_State_note.f k s.Ab s.Fi s.Dr s.Nx s.Co s.La tg iv now sj bl = some (n.Ab, n.Fi, n.Dr, n.Nx, n.Co, n.La, m))
    (h0 : codel_State_later.f k n.Ab n.Fi n.Dr n.Nx n.Co n.La tg iv n.Nx = some t)
    (h1 : m = true → codel_State_due.f n.Ab n.Fi n.Dr t n.Co n.La now = some (r.Ab, r.Fi, r.Dr, r.Nx, r.Co, r.La, v))
    (h3 : ¬ m = true → r = stopS n ∧ v = 0) :
    codel_State_More.f k s.Ab s.Fi s.Dr s.Nx s.Co s.La tg iv now sj bl = some (r.Ab, r.Fi, r.Dr, r.Nx, r.Co, r.La, v) := by
  rw [codel_State_More.f, hn, Option.bind_some]
  dsimp only
  by_cases c : m = true
  · rw [if_pos c, h0, Option.bind_some, h1 c, Option.bind_some]
  · obtain ⟨e1, e2⟩ := h3 c
    rw [if_neg c, e1, e2]; rfl
theorem pmoref {s : Cs} (hs : s.ok) (tg iv now sj bl : Int) (n0 : -9223372036854775808 ≤ now) (n1 : now < 9223372036854775808) (i0 : -9223372036854775808 ≤ iv) (i1 : iv < 9223372036854775808) : ∃ K, ∀ k, K ≤ k →
    codel_State_More.f k s.Ab s.Fi s.Dr s.Nx s.Co s.La tg iv now sj bl = some ((moreS iv now (high tg sj bl) s).Ab, (moreS iv now (high tg sj bl) s).Fi, (moreS iv now (high tg sj bl) s).Dr, (moreS iv now (high tg sj bl) s).Nx, (moreS iv now (high tg sj bl) s).Co, (moreS iv now (high tg sj bl) s).La, moreV iv now (high tg sj bl) s) := by
  have N := fun k => pnotef k s tg iv now sj bl n0 n1 i0 i1
  have no := noteS_ok hs iv now (high tg sj bl)
  have lk : moreS iv now (high tg sj bl) s = if mayS now (high tg sj bl) s = true then dueS now (laterS iv (noteS iv now (high tg sj bl) s)) else stopS (noteS iv now (high tg sj bl) s) := rfl
  have lv : moreV iv now (high tg sj bl) s = if mayS now (high tg sj bl) s = true then dueV now (laterS iv (noteS iv now (high tg sj bl) s)) else 0 := rfl
  obtain ⟨K, e⟩ := platerf iv (noteS iv now (high tg sj bl) s).Co i0 i1 no.c0 no.c1
  refine ⟨K + 1, fun k hk => ?_⟩
  obtain ⟨k, rfl⟩ : ∃ j, k = j + 1 := ⟨k - 1, by omega⟩
  refine more_abs _ s _ _ _ tg iv now sj bl _ _ (N k) (e _ (by omega) _ _ _ _ _ _ _ no.n0 no.n1) (fun a => ?_) (fun a => ?_)
  · rw [lk, lv, if_pos a, if_pos a]
    exact pduef (laterS_ok no iv) now
  · rw [lk, lv, if_neg a, if_neg a]
    exact ⟨rfl, rfl⟩
theorem awake_at : overfalllaw08_awake.f 400 = some true := by decide +kernel
theorem awakef : ∃ K, ∀ k, K ≤ k → overfalllaw08_awake.f k = some true := Ev.of (g := fun k => overfalllaw08_awake.f k) (fun k => overfalllaw08_awake.mono k) awake_at
end Go.Proofs.Ytiiffgmbkajkhaa.Lib

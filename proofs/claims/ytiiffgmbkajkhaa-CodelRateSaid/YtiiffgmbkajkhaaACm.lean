/- When to drop, reckoned with whole numbers: the notes, the looks, and the control law's times. -/
import Derived.Test.YtiiffgmbkajkhaaAFc
import Derived.Test.YtiiffgmbkajkhaaARb
namespace Go.Proofs.Ytiiffgmbkajkhaa.Lib
set_option linter.unusedVariables false
set_option linter.unusedSimpArgs false
open Go.RowKit Go.Proofs.Ytiiffgmbkajkhaa.A Go.Proofs.YtiiffgmbkajkhaaW.PrintWords Go.Proofs.YtiiffgmbkajkhaaW.PrintLast Go.Proofs.YtiiffgmbkajkhaaW.PrintMore

/-- The greatest number, at most k, whose square n times is at most m. -/
def gv (m n : Int) : Nat → Int
  | 0 => 0
  | k + 1 => if ((k : Int) + 1) * ((k : Int) + 1) * n ≤ m then (k : Int) + 1 else gv m n k
theorem gv_is {m n r : Int} (r0 : 0 ≤ r) (hf : r * r * n ≤ m) (hn : ∀ s, r < s → m < s * s * n) : ∀ k : Nat, r ≤ k → gv m n k = r := by
  intro k
  induction k with
  | zero => intro h; show (0 : Int) = r; omega
  | succ k ih =>
    intro h
    unfold gv
    by_cases c : r = (k : Int) + 1
    · rw [← c, if_pos hf]
    · rw [if_neg (by have := hn ((k : Int) + 1) (by omega); omega), ih (by omega)]
def lawv (i n : Int) : Int := if i < 0 then 0 else gv (i * i) (n1 n) i.toNat
theorem lawv_eq {i n r : Int} (i1 : i < 9223372036854775808) (h : LawIs i n r) : lawv i n = r := by
  unfold lawv
  by_cases c : i < 0
  · rw [if_pos c, h.neg c]
  · rw [if_neg c]
    obtain ⟨hm, hl⟩ := h.most (by omega)
    refine gv_is h.l hm.fits (fun s hs => ?_) _ (by omega)
    have a := hm.next (by omega)
    have p : 0 ≤ n1 n := by unfold n1; split <;> omega
    have b := sqn_mono (n := n1 n) (show 0 ≤ r + 1 by have := h.l; omega) (show r + 1 ≤ s by omega) p
    omega
theorem plawv (i n : Int) (i0 : -9223372036854775808 ≤ i) (i1 : i < 9223372036854775808) (n0 : 0 ≤ n) (n1' : n < 18446744073709551616) : ∃ K, ∀ k, K ≤ k → root_Law.f k i n = some (lawv i n) := by
  obtain ⟨r, K, h, hl⟩ := plaw i n i0 i1 n0 n1'
  exact ⟨K, by rw [lawv_eq i1 hl]; exact h⟩
theorem rlawv (i n : Int) (i0 : -9223372036854775808 ≤ i) (i1 : i < 9223372036854775808) (n0 : 0 ≤ n) (n1' : n < 18446744073709551616) : ∃ K, ∀ k, K ≤ k → overfallref03_Law.f k i n = some (lawv i n) := by
  obtain ⟨r, K, h, hl⟩ := rlaw i n i0 i1 n0 n1'
  exact ⟨K, by rw [lawv_eq i1 hl]; exact h⟩
theorem lawv_bd (i n : Int) (i0 : -9223372036854775808 ≤ i) (i1 : i < 9223372036854775808) (n0 : 0 ≤ n) (n1' : n < 18446744073709551616) : 0 ≤ lawv i n ∧ lawv i n ≤ max i 0 := by
  obtain ⟨r, K, h, hl⟩ := plaw i n i0 i1 n0 n1'
  rw [lawv_eq i1 hl]
  refine ⟨hl.l, ?_⟩
  by_cases c : i < 0
  · rw [hl.neg c]; omega
  · have := (hl.most (by omega)).2; omega
structure Cs where
  Ab : Bool
  Fi : Int
  Dr : Bool
  Nx : Int
  Co : Int
  La : Int
structure Cs.ok (s : Cs) : Prop where
  f0 : -9223372036854775808 ≤ s.Fi
  f1 : s.Fi < 9223372036854775808
  n0 : -9223372036854775808 ≤ s.Nx
  n1 : s.Nx < 9223372036854775808
  c0 : 0 ≤ s.Co
  c1 : s.Co < 18446744073709551616
  l0 : 0 ≤ s.La
  l1 : s.La < 18446744073709551616
/-- Is it high? -/
def high (tg sj bl : Int) : Bool := decide (sj ≥ tg) && decide (bl > 1)
def noteS (iv now : Int) (h : Bool) (s : Cs) : Cs :=
  if h = true then (if s.Ab = true then s else ⟨true, sat (now + iv), s.Dr, s.Nx, s.Co, s.La⟩) else ⟨false, 0, s.Dr, s.Nx, s.Co, s.La⟩
def mayS (now : Int) (h : Bool) (s : Cs) : Bool := h && s.Ab && decide (now ≥ s.Fi)
def incS (c : Int) : Int := if c < 18446744073709551615 then c + 1 else c
def dueS (now : Int) (s : Cs) : Cs := if now < s.Nx then s else ⟨s.Ab, s.Fi, s.Dr, s.Nx, incS s.Co, s.La⟩
def dueV (now : Int) (s : Cs) : Int := if now < s.Nx then 0 else 1
def fastC (iv now : Int) (s : Cs) : Int := if (s.Co - s.La) % 18446744073709551616 > 1 ∧ (s.Co - s.La) % 18446744073709551616 ≤ 9223372036854775808 ∧ sat (now - s.Nx) < sat (16 * iv) then (s.Co - s.La) % 18446744073709551616 else 1
def enterS (iv now : Int) (s : Cs) : Cs := ⟨s.Ab, s.Fi, true, sat (now + lawv iv (fastC iv now s)), fastC iv now s, fastC iv now s⟩
def stopS (s : Cs) : Cs := ⟨s.Ab, s.Fi, false, s.Nx, s.Co, s.La⟩
def emptyS (s : Cs) : Cs := ⟨false, 0, false, s.Nx, s.Co, s.La⟩
def lookS (iv now : Int) (h : Bool) (s : Cs) : Cs :=
  if mayS now h s = true then (if s.Dr = true then dueS now (noteS iv now h s) else enterS iv now (noteS iv now h s)) else stopS (noteS iv now h s)
def lookV (iv now : Int) (h : Bool) (s : Cs) : Int :=
  if mayS now h s = true then (if s.Dr = true then dueV now (noteS iv now h s) else 2) else 0
def laterS (iv : Int) (s : Cs) : Cs := ⟨s.Ab, s.Fi, s.Dr, sat (s.Nx + lawv iv s.Co), s.Co, s.La⟩
def moreS (iv now : Int) (h : Bool) (s : Cs) : Cs :=
  if mayS now h s = true then dueS now (laterS iv (noteS iv now h s)) else stopS (noteS iv now h s)
def moreV (iv now : Int) (h : Bool) (s : Cs) : Int :=
  if mayS now h s = true then dueV now (laterS iv (noteS iv now h s)) else 0
theorem noteS_ok {s : Cs} (hs : s.ok) (iv now : Int) (h : Bool) : (noteS iv now h s).ok := by
  have b := sat_bd (now + iv)
  unfold noteS
  split
  · split
    · exact hs
    · exact ⟨b.1, b.2, hs.n0, hs.n1, hs.c0, hs.c1, hs.l0, hs.l1⟩
  · exact ⟨by show _ ≤ (0 : Int); omega, by show (0 : Int) < _; omega, hs.n0, hs.n1, hs.c0, hs.c1, hs.l0, hs.l1⟩
theorem incS_bd {c : Int} (c0 : 0 ≤ c) (c1 : c < 18446744073709551616) : 0 ≤ incS c ∧ incS c < 18446744073709551616 := by unfold incS; split <;> omega
theorem dueS_ok {s : Cs} (hs : s.ok) (now : Int) : (dueS now s).ok := by
  unfold dueS
  split
  · exact hs
  · have b := incS_bd hs.c0 hs.c1
    exact ⟨hs.f0, hs.f1, hs.n0, hs.n1, b.1, b.2, hs.l0, hs.l1⟩
theorem fastC_bd (iv now : Int) (s : Cs) : 1 ≤ fastC iv now s ∧ fastC iv now s ≤ 9223372036854775808 := by
  unfold fastC; split <;> omega
theorem enterS_ok {s : Cs} (hs : s.ok) (iv now : Int) : (enterS iv now s).ok := by
  have b := fastC_bd iv now s
  have c := sat_bd (now + lawv iv (fastC iv now s))
  exact ⟨hs.f0, hs.f1, c.1, c.2, by show 0 ≤ fastC _ _ _; omega, by show fastC _ _ _ < _; omega, by show 0 ≤ fastC _ _ _; omega, by show fastC _ _ _ < _; omega⟩
theorem stopS_ok {s : Cs} (hs : s.ok) : (stopS s).ok := ⟨hs.f0, hs.f1, hs.n0, hs.n1, hs.c0, hs.c1, hs.l0, hs.l1⟩
theorem emptyS_ok {s : Cs} (hs : s.ok) : (emptyS s).ok := ⟨by show _ ≤ (0 : Int); omega, by show (0 : Int) < _; omega, hs.n0, hs.n1, hs.c0, hs.c1, hs.l0, hs.l1⟩
theorem laterS_ok {s : Cs} (hs : s.ok) (iv : Int) : (laterS iv s).ok := by
  have c := sat_bd (s.Nx + lawv iv s.Co)
  exact ⟨hs.f0, hs.f1, c.1, c.2, hs.c0, hs.c1, hs.l0, hs.l1⟩
theorem lookS_ok {s : Cs} (hs : s.ok) (iv now : Int) (h : Bool) : (lookS iv now h s).ok := by
  unfold lookS
  split
  · split
    · exact dueS_ok (noteS_ok hs _ _ _) _
    · exact enterS_ok (noteS_ok hs _ _ _) _ _
  · exact stopS_ok (noteS_ok hs _ _ _)
theorem moreS_ok {s : Cs} (hs : s.ok) (iv now : Int) (h : Bool) : (moreS iv now h s).ok := by
  unfold moreS
  split
  · exact dueS_ok (laterS_ok (noteS_ok hs _ _ _) _) _
  · exact stopS_ok (noteS_ok hs _ _ _)
end Go.Proofs.Ytiiffgmbkajkhaa.Lib

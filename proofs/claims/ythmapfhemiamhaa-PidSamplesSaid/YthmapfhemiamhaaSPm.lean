/- What a sample leaves, reckoned with whole numbers: the law of the pid, and what it keeps. -/
import Derived.Test.YthmapfhemiamhaaSFc
import Derived.Test.YthmapfhemiamhaaSx5
import Derived.Test.YthmapfhemiamhaaSx11
namespace Go.Proofs.Ythmapfhemiamhaa.Lib
set_option linter.unusedVariables false
set_option linter.unusedSimpArgs false
open Go.RowKit Go.Proofs.Ythmapfhemiamhaa.S Go.Proofs.YthmapfhemiamhaaW.PrintWords Go.Proofs.YthmapfhemiamhaaW.PrintLast Go.Proofs.YthmapfhemiamhaaW.PrintMore

/-- Within bounds. -/
def cl (x l h : Int) : Int := if x < l then l else if x > h then h else x
theorem clampf (x l h : Int) : fix_Clamp.f x l h = some (cl x l h) := by
  unfold fix_Clamp.f cl; split
  · rfl
  · split <;> rfl
theorem rclampf (x l h : Int) : overfallref02_Clamp.f x l h = some (cl x l h) := by
  unfold overfallref02_Clamp.f cl; split
  · rfl
  · split <;> rfl
theorem cl_bd {x l h : Int} (c : l ≤ h) : l ≤ cl x l h ∧ cl x l h ≤ h := by unfold cl; (repeat' split) <;> omega
theorem cl_mono {x y l h : Int} (c : x ≤ y) (d : l ≤ h) : cl x l h ≤ cl y l h := by unfold cl; (repeat' split) <;> omega
theorem cl_in {x l h : Int} (a : l ≤ x) (b : x ≤ h) : cl x l h = x := by unfold cl; (repeat' split) <;> omega
theorem cl_or {x l h : Int} : cl x l h = l ∨ cl x l h = h ∨ cl x l h = x := by unfold cl; (repeat' split) <;> simp
theorem cl_i64 {x l h : Int} (x0 : -9223372036854775808 ≤ x) (x1 : x < 9223372036854775808) (l0 : -9223372036854775808 ≤ l) (l1 : l < 9223372036854775808) (h0 : -9223372036854775808 ≤ h) (h1 : h < 9223372036854775808) : -9223372036854775808 ≤ cl x l h ∧ cl x l h < 9223372036854775808 := by unfold cl; (repeat' split) <;> omega
theorem ofv_bd (q n : Int) : -9223372036854775808 ≤ ofv q n ∧ ofv q n < 9223372036854775808 := sat_bd _
theorem ofv_mono {q n m : Int} (h : 0 ≤ q) (c : n ≤ m) : ofv q n ≤ ofv q m := sat_mono (Int.ediv_le_ediv (by omega) (Int.mul_le_mul_of_nonneg_left c h))
theorem ofv_zero (n : Int) : ofv 0 n = 0 := by unfold ofv; rw [Int.zero_mul]; rfl
theorem ofv_half {s : Int} (h : 0 ≤ s) (c : s < 9223372036854775808) : ofv s 2147483648 = s / 2 := by
  unfold ofv; rw [sat_in (by omega) (by omega)]; omega
theorem ofv_half0 {s : Int} (h : s < 0) : ofv s 2147483648 ≤ 0 := by
  unfold ofv sat; (repeat' split) <;> omega
structure St where
  S : Int
  La : Int
  Le : Int
structure Pp where
  Sp : Int
  Kp : Int
  Ki : Int
  Kd : Int
  Lim : Int
  Step : Int
  Most : Int
/-- Each is a whole number of 64 bits. -/
structure St.ok (s : St) : Prop where
  s0 : -9223372036854775808 ≤ s.S
  s1 : s.S < 9223372036854775808
  l0 : -9223372036854775808 ≤ s.La
  l1 : s.La < 9223372036854775808
  e0 : -9223372036854775808 ≤ s.Le
  e1 : s.Le < 9223372036854775808
structure Pp.ok (p : Pp) : Prop where
  a0 : -9223372036854775808 ≤ p.Sp
  a1 : p.Sp < 9223372036854775808
  b0 : -9223372036854775808 ≤ p.Kp
  b1 : p.Kp < 9223372036854775808
  c0 : -9223372036854775808 ≤ p.Ki
  c1 : p.Ki < 9223372036854775808
  d0 : -9223372036854775808 ≤ p.Kd
  d1 : p.Kd < 9223372036854775808
  e0 : -9223372036854775808 ≤ p.Lim
  e1 : p.Lim < 9223372036854775808
  f0 : -9223372036854775808 ≤ p.Step
  f1 : p.Step < 9223372036854775808
  g0 : -9223372036854775808 ≤ p.Most
  g1 : p.Most < 9223372036854775808
/-- The params may be. -/
structure Pp.right (p : Pp) : Prop extends p.ok where
  kp : 0 ≤ p.Kp
  ki : 0 ≤ p.Ki
  kd : 0 ≤ p.Kd
  lim : 0 ≤ p.Lim
  step : 1 ≤ p.Step
  most : 0 ≤ p.Most
def sumU (p : Pp) (s : St) (d : Int) : Int := cl (sat (s.S + ofv p.Ki d)) 0 p.Lim
def outU (p : Pp) (s : St) (d : Int) : Int := sat (sat (ofv p.Kp d + sumU p s d) + ofv p.Kd (sat (d - s.La)))
def upU (p : Pp) (s : St) (d : Int) : Int := min (max s.Le (outU p s d / 4294967296)) (sat (s.Le + p.Step))
/-- The state behind a sample. -/
def samp (p : Pp) (s : St) (u : Int) : St :=
  if u ≤ p.Sp then ⟨max (ofv s.S 2147483648) 0, sat (u - p.Sp), cl (sat (s.Le - 1)) 0 p.Most⟩
  else ⟨sumU p s (sat (u - p.Sp)), sat (u - p.Sp), cl (upU p s (sat (u - p.Sp))) 0 p.Most⟩
theorem samp_dn {p : Pp} {s : St} {u : Int} (h : u ≤ p.Sp) : samp p s u = ⟨max (ofv s.S 2147483648) 0, sat (u - p.Sp), cl (sat (s.Le - 1)) 0 p.Most⟩ := if_pos h
theorem samp_up {p : Pp} {s : St} {u : Int} (h : ¬ u ≤ p.Sp) : samp p s u = ⟨sumU p s (sat (u - p.Sp)), sat (u - p.Sp), cl (upU p s (sat (u - p.Sp))) 0 p.Most⟩ := if_neg h
theorem sumU_bd {p : Pp} (hp : p.ok) (s : St) (d : Int) : -9223372036854775808 ≤ sumU p s d ∧ sumU p s d < 9223372036854775808 :=
  cl_i64 (sat_bd _).1 (sat_bd _).2 (by omega) (by omega) hp.e0 hp.e1
theorem outU_fl (p : Pp) (s : St) (d : Int) : -2147483648 ≤ outU p s d / 4294967296 ∧ outU p s d / 4294967296 < 2147483648 := by
  have h : -9223372036854775808 ≤ outU p s d ∧ outU p s d < 9223372036854775808 := sat_bd _
  omega
theorem upU_bd {s : St} (hs : s.ok) (p : Pp) (d : Int) : -9223372036854775808 ≤ upU p s d ∧ upU p s d < 9223372036854775808 := by
  have a := outU_fl p s d
  have b := sat_bd (s.Le + p.Step)
  have c := hs.e0
  have e := hs.e1
  unfold upU; omega
theorem samp_ok {p : Pp} {s : St} (hp : p.ok) (hs : s.ok) (u : Int) : (samp p s u).ok := by
  by_cases h : u ≤ p.Sp
  · rw [samp_dn h]
    have a := ofv_bd s.S 2147483648
    have b := sat_bd (u - p.Sp)
    have c := cl_i64 (x := sat (s.Le - 1)) (sat_bd _).1 (sat_bd _).2 (l := 0) (by omega) (by omega) hp.g0 hp.g1
    exact ⟨by show _ ≤ max _ _; omega, by show max _ _ < _; omega, b.1, b.2, c.1, c.2⟩
  · rw [samp_up h]
    have a := sumU_bd hp s (sat (u - p.Sp))
    have b := sat_bd (u - p.Sp)
    have e := upU_bd hs p (sat (u - p.Sp))
    have c := cl_i64 e.1 e.2 (l := 0) (by omega) (by omega) hp.g0 hp.g1
    exact ⟨a.1, a.2, b.1, b.2, c.1, c.2⟩
/-- It stays within its bounds. -/
theorem samp_bounds {p : Pp} (hp : p.right) (s : St) (u : Int) : 0 ≤ (samp p s u).Le ∧ (samp p s u).Le ≤ p.Most ∧ 0 ≤ (samp p s u).S ∧ (¬ u ≤ p.Sp → (samp p s u).S ≤ p.Lim) := by
  by_cases h : u ≤ p.Sp
  · rw [samp_dn h]
    have c := cl_bd (x := sat (s.Le - 1)) hp.most
    exact ⟨c.1, c.2, by show _ ≤ max _ _; omega, fun g => absurd h g⟩
  · rw [samp_up h]
    have c := cl_bd (x := upU p s (sat (u - p.Sp))) hp.most
    have e := cl_bd (x := sat (s.S + ofv p.Ki (sat (u - p.Sp)))) hp.lim
    exact ⟨c.1, c.2, e.1, fun _ => e.2⟩
theorem sat_ge {x y : Int} (h : x ≤ y) (c : x < 9223372036854775808) : x ≤ sat y := by unfold sat; (repeat' split) <;> omega
theorem sat_le {x y : Int} (h : y ≤ x) (c : -9223372036854775808 ≤ x) : sat y ≤ x := by unfold sat; (repeat' split) <;> omega
/-- From a level within its bounds, it goes up by a step at most, and down by one. -/
theorem samp_steps {p : Pp} (hp : p.right) (s : St) (u : Int) (h0 : 0 ≤ s.Le) (h1 : s.Le ≤ p.Most) : (samp p s u).Le ≤ sat (s.Le + p.Step) ∧ s.Le - 1 ≤ (samp p s u).Le ∧ (¬ u ≤ p.Sp → s.Le ≤ (samp p s u).Le) := by
  have hm := hp.g1
  have hst := hp.step
  have z := sat_ge (show s.Le ≤ s.Le + p.Step by omega) (by omega)
  by_cases h : u ≤ p.Sp
  · rw [samp_dn h]
    have e : sat (s.Le - 1) = s.Le - 1 := sat_in (by omega) (by omega)
    have c : cl (sat (s.Le - 1)) 0 p.Most ≤ s.Le := by rw [e]; unfold cl; (repeat' split) <;> omega
    have d : s.Le - 1 ≤ cl (sat (s.Le - 1)) 0 p.Most := by rw [e]; unfold cl; (repeat' split) <;> omega
    exact ⟨by show cl _ _ _ ≤ _; omega, d, fun g => absurd h g⟩
  · rw [samp_up h]
    have a : s.Le ≤ upU p s (sat (u - p.Sp)) := by unfold upU; omega
    have b : upU p s (sat (u - p.Sp)) ≤ sat (s.Le + p.Step) := by unfold upU; omega
    have c : cl (upU p s (sat (u - p.Sp))) 0 p.Most ≤ upU p s (sat (u - p.Sp)) := by unfold cl; (repeat' split) <;> omega
    have d : s.Le ≤ cl (upU p s (sat (u - p.Sp))) 0 p.Most := by unfold cl; (repeat' split) <;> omega
    exact ⟨by show cl _ _ _ ≤ _; omega, by show _ ≤ cl _ _ _; omega, fun _ => d⟩
/-- A busier sample never leaves a lower level. -/
theorem samp_rises {p : Pp} (hp : p.right) (s : St) {u v : Int} (huv : u ≤ v) (he0 : -9223372036854775808 ≤ s.Le) (he1 : s.Le < 9223372036854775808) : (samp p s u).Le ≤ (samp p s v).Le := by
  have hst := hp.step
  by_cases h : u ≤ p.Sp
  · rw [samp_dn h]
    by_cases g : v ≤ p.Sp
    · rw [samp_dn g]; exact Int.le_refl _
    · rw [samp_up g]
      refine cl_mono ?_ hp.most
      have a := sat_le (show s.Le - 1 ≤ s.Le by omega) he0
      have b := sat_ge (show s.Le ≤ s.Le + p.Step by omega) he1
      unfold upU; omega
  · rw [samp_up h, samp_up (show ¬ v ≤ p.Sp by omega)]
    have d : sat (u - p.Sp) ≤ sat (v - p.Sp) := sat_mono (by omega)
    have a : sumU p s (sat (u - p.Sp)) ≤ sumU p s (sat (v - p.Sp)) := cl_mono (sat_mono (by have := ofv_mono hp.ki d; omega)) hp.lim
    have b := ofv_mono hp.kp d
    have c := ofv_mono hp.kd (sat_mono (show sat (u - p.Sp) - s.La ≤ sat (v - p.Sp) - s.La by omega))
    have e := sat_mono (show ofv p.Kp (sat (u - p.Sp)) + sumU p s (sat (u - p.Sp)) ≤ ofv p.Kp (sat (v - p.Sp)) + sumU p s (sat (v - p.Sp)) by omega)
    have o : outU p s (sat (u - p.Sp)) ≤ outU p s (sat (v - p.Sp)) := sat_mono (by omega)
    have f := Int.ediv_le_ediv (show (0 : Int) < 4294967296 by omega) o
    exact cl_mono (by unfold upU; omega) hp.most
theorem samp_half {p : Pp} (s : St) {u : Int} (h : u ≤ p.Sp) (c : 0 ≤ s.S) (d : s.S < 9223372036854775808) : (samp p s u).S = s.S / 2 := by
  rw [samp_dn h]; show max _ _ = _; rw [ofv_half c d]; omega
theorem samp_half0 {p : Pp} (s : St) {u : Int} (h : u ≤ p.Sp) (c : s.S < 0) : (samp p s u).S = 0 := by
  rw [samp_dn h]; show max _ _ = _; have := ofv_half0 c; omega
/-- With nothing to weigh the level stays. -/
theorem samp_rests {p : Pp} (hp : p.right) (s : St) (u : Int) (h : ¬ u ≤ p.Sp) (h0 : 0 ≤ s.Le) (h1 : s.Le ≤ p.Most) (hs : s.S = 0) (z1 : p.Kp = 0) (z2 : p.Ki = 0) (z3 : p.Kd = 0) : (samp p s u).Le = s.Le ∧ (samp p s u).S = 0 := by
  rw [samp_up h]
  have hm := hp.g1
  have hst := hp.step
  have hl := hp.lim
  have e : sumU p s (sat (u - p.Sp)) = 0 := by unfold sumU; rw [z2, ofv_zero, hs, show sat (0 + 0) = 0 from rfl, cl_in (by omega) hl]
  have o : outU p s (sat (u - p.Sp)) = 0 := by unfold outU; rw [e, z1, z3, ofv_zero, ofv_zero]; rfl
  have z := sat_ge (show s.Le ≤ s.Le + p.Step by omega) (by omega)
  have m : upU p s (sat (u - p.Sp)) = s.Le := by unfold upU; rw [o]; omega
  exact ⟨by show cl _ _ _ = _; rw [m, cl_in h0 h1], e⟩
/-- It lets go, one by one. -/
theorem samp_falls {p : Pp} (hp : p.right) (s : St) {u : Int} (h : u ≤ p.Sp) (h0 : 0 ≤ s.Le) (h1 : s.Le ≤ p.Most) : (samp p s u).Le = max (s.Le - 1) 0 := by
  have hm := hp.g1
  rw [samp_dn h]; show cl _ _ _ = _; rw [sat_in (by omega) (by omega)]; unfold cl; (repeat' split) <;> omega
theorem samp_falls0 {p : Pp} (hp : p.right) (s : St) {u : Int} (h : u ≤ p.Sp) (e0 : -9223372036854775808 ≤ s.Le) (e1 : s.Le < 9223372036854775808) : (samp p s u).Le ≤ min (max s.Le 0) p.Most := by
  have hm := hp.most
  rw [samp_dn h]; show cl _ _ _ ≤ _
  have a := sat_le (show s.Le - 1 ≤ s.Le by omega) e0
  unfold cl; (repeat' split) <;> omega
end Go.Proofs.Ythmapfhemiamhaa.Lib

/- A sample of the program, and of the reference, is the same reckoned one. -/
import Derived.Test.YthmapfhemiamhaaSPm
import Derived.Test.YthmapfhemiamhaaSx6
import Derived.Test.YthmapfhemiamhaaSx3
import Derived.Test.YthmapfhemiamhaaSx5
import Derived.Test.YthmapfhemiamhaaSx12
import Derived.Test.YthmapfhemiamhaaSx13
namespace Go.Proofs.Ythmapfhemiamhaa.Lib
set_option linter.unusedVariables false
set_option linter.unusedSimpArgs false
open Go.RowKit Go.Proofs.Ythmapfhemiamhaa.S Go.Proofs.YthmapfhemiamhaaW.PrintWords Go.Proofs.YthmapfhemiamhaaW.PrintLast Go.Proofs.YthmapfhemiamhaaW.PrintMore

theorem wf_u32 {a : Int} (h : (Lit.int .u32 a).wf = true) : 0 ≤ a ∧ a < 4294967296 := by
  have := bounds_u32 h
  omega
theorem mx_max (a b : Int) : mx a b = max a b := by unfold mx; omega
theorem mn_min (a b : Int) : mn a b = min a b := by unfold mn; omega
theorem rd_wf {l : List Int} {k : IntKind} (h : ∀ n ∈ l, (Lit.int k n).wf = true) {i : Int} (h0 : 0 ≤ i) (h1 : i < (l.length : Int)) : (Lit.int k (rd l i)).wf = true := by
  have hi : i.toNat < l.length := by omega
  have e : rd l i = l[i.toNat] := by unfold rd; rw [List.getD_eq_getElem?_getD, List.getElem?_eq_getElem hi]; rfl
  rw [e]; exact h _ (List.getElem_mem hi)
theorem psamp_dn (k : Nat) (S La Le Sp Kp Ki Kd Lim Step Most u d x y z : Int) (h1 : fix_Q_Less.f u Sp = some d) (h2 : ¬ u > Sp) (h3 : fix_Q_Times.f k S 2147483648 = some x) (h4 : fix_Sub.f Le 1 = some y) (h5 : fix_Clamp.f y 0 Most = some z) :
    pid_State_Sample.f k S La Le Sp Kp Ki Kd Lim Step Most u = some (mx x 0, d, z) := by
  rw [pid_State_Sample.f, h1, Option.bind_some, pid_State_Open.f, Option.bind_some, decide_eq_false h2, if_neg Bool.false_ne_true, h3, Option.bind_some, h4, Option.bind_some, h5, Option.bind_some]
theorem psamp_up (k : Nat) (S La Le Sp Kp Ki Kd Lim Step Most u d a b c e f g h i j m z : Int) (h1 : fix_Q_Less.f u Sp = some d) (h2 : u > Sp) (h3 : fix_Q_Times.f k Ki d = some a) (h4 : fix_Q_Plus.f S a = some b) (h5 : fix_Clamp.f b 0 Lim = some c) (h6 : fix_Q_Times.f k Kp d = some e) (h7 : fix_Q_Plus.f e c = some f) (h8 : fix_Q_Less.f d La = some g) (h9 : fix_Q_Times.f k Kd g = some h) (h10 : fix_Q_Plus.f f h = some i) (h11 : fix_Q_Floor.f i = some j) (h12 : fix_Add.f Le Step = some m) (h13 : fix_Clamp.f (mn (mx Le j) m) 0 Most = some z) :
    pid_State_Sample.f k S La Le Sp Kp Ki Kd Lim Step Most u = some (c, d, z) := by
  rw [pid_State_Sample.f, h1, Option.bind_some, pid_State_Open.f, Option.bind_some, decide_eq_true h2, if_pos (rfl : true = true), h3, Option.bind_some, h4, Option.bind_some, h5, Option.bind_some, h6, Option.bind_some, h7, Option.bind_some, h8, Option.bind_some, h9, Option.bind_some, h10, Option.bind_some, h11, Option.bind_some, h12, Option.bind_some, h13, Option.bind_some]
theorem lessqf (a b : Int) (a0 : -9223372036854775808 ≤ a) (a1 : a < 9223372036854775808) (b0 : -9223372036854775808 ≤ b) (b1 : b < 9223372036854775808) : fix_Q_Less.f a b = some (sat (a - b)) := by
  rw [fix_Q_Less.f, fsubf a b a0 a1 b0 b1, Option.bind_some]
theorem plusqf (a b : Int) (a0 : -9223372036854775808 ≤ a) (a1 : a < 9223372036854775808) (b0 : -9223372036854775808 ≤ b) (b1 : b < 9223372036854775808) : fix_Q_Plus.f a b = some (sat (a + b)) := by
  rw [fix_Q_Plus.f, faddf a b a0 a1 b0 b1, Option.bind_some]
theorem timesqf (k : Nat) (a b : Int) (a0 : -9223372036854775808 ≤ a) (a1 : a < 9223372036854775808) (b0 : -9223372036854775808 ≤ b) (b1 : b < 9223372036854775808) : fix_Q_Times.f (k + 7) a b = some (ofv a b) := by
  rw [fix_Q_Times.f, qoff k a b a0 a1 b0 b1, Option.bind_some]
theorem psampf (k : Nat) {p : Pp} {s : St} (hp : p.ok) (hs : s.ok) (u : Int) (u0 : -9223372036854775808 ≤ u) (u1 : u < 9223372036854775808) :
    pid_State_Sample.f (k + 7) s.S s.La s.Le p.Sp p.Kp p.Ki p.Kd p.Lim p.Step p.Most u = some ((samp p s u).S, (samp p s u).La, (samp p s u).Le) := by
  have D := lessqf u p.Sp u0 u1 hp.a0 hp.a1
  by_cases c : u ≤ p.Sp
  · rw [Lib.samp_dn c, ← mx_max]
    exact psamp_dn _ _ _ _ _ _ _ _ _ _ _ _ _ _ _ _ D (by omega) (timesqf k _ _ hs.s0 hs.s1 (by omega) (by omega)) (fsubf _ _ hs.e0 hs.e1 (by omega) (by omega)) (clampf _ _ _)
  · rw [Lib.samp_up c]
    have db := sat_bd (u - p.Sp)
    obtain ⟨d, hd⟩ : ∃ d, d = sat (u - p.Sp) := ⟨_, rfl⟩
    rw [← hd] at D db ⊢
    have ki := ofv_bd p.Ki d
    have kp := ofv_bd p.Kp d
    have sb := sat_bd (s.S + ofv p.Ki d)
    have su := sumU_bd hp s d
    have fb := sat_bd (ofv p.Kp d + sumU p s d)
    have gb := sat_bd (d - s.La)
    have hb := ofv_bd p.Kd (sat (d - s.La))
    have e := psamp_up (k + 7) s.S s.La s.Le p.Sp p.Kp p.Ki p.Kd p.Lim p.Step p.Most u d _ _ _ _ _ _ _ _ _ _ _ D (by omega) (timesqf k _ _ hp.c0 hp.c1 db.1 db.2) (plusqf _ _ hs.s0 hs.s1 ki.1 ki.2) (clampf _ _ _) (timesqf k _ _ hp.b0 hp.b1 db.1 db.2) (plusqf _ _ kp.1 kp.2 su.1 su.2) (lessqf _ _ db.1 db.2 hs.l0 hs.l1) (timesqf k _ _ hp.d0 hp.d1 gb.1 gb.2) (plusqf _ _ fb.1 fb.2 hb.1 hb.2) rfl (faddf _ _ hs.e0 hs.e1 hp.f0 hp.f1) (clampf _ _ _)
    rw [e, mn_min, mx_max]; rfl
theorem popenf (s : St) (p : Pp) (u : Int) : pid_State_Open.f s.S s.La s.Le p.Sp p.Kp p.Ki p.Kd p.Lim p.Step p.Most u = some (decide (u > p.Sp)) := rfl
theorem rsamp_dn (k : Nat) (S La Le Sp Kp Ki Kd Lim Step Most u d x y z : Int) (h1 : overfallref02_Sub.f k u Sp = some d) (h2 : u ≤ Sp) (h3 : overfallref02_Of.f k S 2147483648 = some x) (h4 : overfallref02_Sub.f k Le 1 = some y) (h5 : overfallref02_Clamp.f y 0 Most = some z) :
    overfallref11_Sample.f k S La Le Sp Kp Ki Kd Lim Step Most u = some (max x 0, d, z) := by
  rw [overfallref11_Sample.f, h1, Option.bind_some, if_pos h2, h3, Option.bind_some]
  by_cases c : x < 0
  · rw [if_pos c, h4, Option.bind_some, h5, Option.bind_some, show max x 0 = 0 by omega]
  · rw [if_neg c, h4, Option.bind_some, h5, Option.bind_some, show max x 0 = x by omega]
theorem rsamp_up (k : Nat) (S La Le Sp Kp Ki Kd Lim Step Most u d a b c e f g h i j m z : Int) (h1 : overfallref02_Sub.f (k + 1) u Sp = some d) (h2 : ¬ u ≤ Sp) (h3 : overfallref02_Of.f (k + 1) Ki d = some a) (h4 : overfallref02_Add.f (k + 1) S a = some b) (h5 : overfallref02_Clamp.f b 0 Lim = some c) (h6 : overfallref02_Of.f (k + 1) Kp d = some e) (h7 : overfallref02_Add.f (k + 1) e c = some f) (h8 : overfallref02_Sub.f (k + 1) d La = some g) (h9 : overfallref02_Of.f (k + 1) Kd g = some h) (h10 : overfallref02_Add.f (k + 1) f h = some i) (h11 : overfallref02_Floor.f (k + 1) i = some j) (h12 : overfallref02_Add.f k Le Step = some m) (h13 : overfallref02_Clamp.f (min (max Le j) m) 0 Most = some z) :
    overfallref11_Sample.f (k + 1) S La Le Sp Kp Ki Kd Lim Step Most u = some (c, d, z) := by
  rw [overfallref11_Sample.f, h1, Option.bind_some, if_neg h2, h3, Option.bind_some, h4, Option.bind_some, h5, Option.bind_some, h6, Option.bind_some, h7, Option.bind_some, h8, Option.bind_some, h9, Option.bind_some, h10, Option.bind_some, h11, Option.bind_some]
  by_cases g1 : j > Le
  · rw [if_pos g1, overfallref11_Sample.j0, h12, Option.bind_some]
    by_cases g2 : j > m
    · rw [if_pos g2]; rw [show min (max Le j) m = m by omega] at h13; rw [h13, Option.bind_some]
    · rw [if_neg g2]; rw [show min (max Le j) m = j by omega] at h13; rw [h13, Option.bind_some]
  · rw [if_neg g1, overfallref11_Sample.j0, h12, Option.bind_some]
    by_cases g2 : Le > m
    · rw [if_pos g2]; rw [show min (max Le j) m = m by omega] at h13; rw [h13, Option.bind_some]
    · rw [if_neg g2]; rw [show min (max Le j) m = Le by omega] at h13; rw [h13, Option.bind_some]
theorem rsampf (k : Nat) {p : Pp} {s : St} (hp : p.ok) (hs : s.ok) (u : Int) (u0 : -9223372036854775808 ≤ u) (u1 : u < 9223372036854775808) :
    overfallref11_Sample.f (k + 291) s.S s.La s.Le p.Sp p.Kp p.Ki p.Kd p.Lim p.Step p.Most u = some ((samp p s u).S, (samp p s u).La, (samp p s u).Le) := by
  have D := rsub2f (k + 271) u p.Sp u0 u1 hp.a0 hp.a1
  by_cases c : u ≤ p.Sp
  · rw [Lib.samp_dn c]
    exact rsamp_dn _ _ _ _ _ _ _ _ _ _ _ _ _ _ _ _ D c (rofqf (k + 1) _ _ hs.s0 hs.s1 (by omega) (by omega)) (rsub2f (k + 271) _ _ hs.e0 hs.e1 (by omega) (by omega)) (rclampf _ _ _)
  · rw [Lib.samp_up c]
    have db := sat_bd (u - p.Sp)
    obtain ⟨d, hd⟩ : ∃ d, d = sat (u - p.Sp) := ⟨_, rfl⟩
    rw [← hd] at D db ⊢
    have ki := ofv_bd p.Ki d
    have kp := ofv_bd p.Kp d
    have su := sumU_bd hp s d
    have fb := sat_bd (ofv p.Kp d + sumU p s d)
    have gb := sat_bd (d - s.La)
    have hb := ofv_bd p.Kd (sat (d - s.La))
    have ob := sat_bd (sat (ofv p.Kp d + sumU p s d) + ofv p.Kd (sat (d - s.La)))
    exact rsamp_up (k + 290) s.S s.La s.Le p.Sp p.Kp p.Ki p.Kd p.Lim p.Step p.Most u d _ _ _ _ _ _ _ _ _ _ _ D c (rofqf (k + 1) _ _ hp.c0 hp.c1 db.1 db.2) (radd2f (k + 271) _ _ hs.s0 hs.s1 ki.1 ki.2) (rclampf _ _ _) (rofqf (k + 1) _ _ hp.b0 hp.b1 db.1 db.2) (radd2f (k + 271) _ _ kp.1 kp.2 su.1 su.2) (rsub2f (k + 271) _ _ db.1 db.2 hs.l0 hs.l1) (rofqf (k + 1) _ _ hp.d0 hp.d1 gb.1 gb.2) (radd2f (k + 271) _ _ fb.1 fb.2 hb.1 hb.2) (rfloorf (k + 1) _ ob.1 ob.2) (radd2f (k + 270) _ _ hs.e0 hs.e1 hp.f0 hp.f1) (rclampf _ _ _)
/-- Params that may be, of any. -/
def rightP (p : Pp) : Pp := ⟨p.Sp, max p.Kp 0, max p.Ki 0, max p.Kd 0, max p.Lim 0, max p.Step 1, max p.Most 0⟩
theorem rightP_right {p : Pp} (h : p.ok) : (rightP p).right := by
  obtain ⟨a0, a1, b0, b1, c0, c1, d0, d1, e0, e1, f0, f1, g0, g1⟩ := h
  refine ⟨⟨a0, a1, ?_, ?_, ?_, ?_, ?_, ?_, ?_, ?_, ?_, ?_, ?_, ?_⟩, ?_, ?_, ?_, ?_, ?_, ?_⟩ <;> (simp only [rightP]; omega)
theorem awake_at : overfalllaw11_awake.f 200 = some true := by decide +kernel
theorem awakef : ∃ K, ∀ k, K ≤ k → overfalllaw11_awake.f k = some true := Ev.of (g := fun k => overfalllaw11_awake.f k) (fun k => overfalllaw11_awake.mono k) awake_at
end Go.Proofs.Ythmapfhemiamhaa.Lib

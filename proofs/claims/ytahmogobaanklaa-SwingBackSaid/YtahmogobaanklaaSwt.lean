/- Turns about a point. -/
import Derived.Test.YtahmogobaanklaaSww
namespace Go.Proofs.Ytahmogobaanklaa.Z
open Go.RowKit Go.Proofs.YtahmogobaanklaaW.PrintWords Go.Proofs.YtahmogobaanklaaW.PrintLast Go.Proofs.YtahmogobaanklaaW.PrintMore
attribute [local go_sem] max2_int min2_int max_two min_two max_three min_three max_four min_four unary_neg_float
set_option linter.unusedVariables false
set_option linter.unusedSimpArgs false
theorem order_le {a : Nat} {v : Int} (h : FI a v) : (FloatKind.f64.format.order a 0 == some .lt || FloatKind.f64.format.order a 0 == some .eq) = decide (v ≤ 0) := by
  rw [h.order FI.zero, cmp_int]
  by_cases h1 : v < 0
  · rw [if_pos h1, decide_eq_true (by omega)]; rfl
  · rw [if_neg h1]
    by_cases h2 : v = 0
    · rw [if_pos h2, decide_eq_true (by omega)]; rfl
    · rw [if_neg h2, decide_eq_false (by omega)]; rfl
theorem order_gt {a : Nat} {v : Int} (h : FI a v) : (FloatKind.f64.format.order a 0 == some .gt) = decide (0 < v) := by
  rw [h.order FI.zero, cmp_int]
  by_cases h1 : v < 0
  · rw [if_pos h1, decide_eq_false (by omega)]; rfl
  · rw [if_neg h1]
    by_cases h2 : v = 0
    · rw [if_pos h2, decide_eq_false (by omega)]; rfl
    · rw [if_neg h2, decide_eq_true (by omega)]; rfl
set_option maxHeartbeats 8000000 in
theorem turns1_ok (x y z : CB) (p q r : Pt) (s : Int) (b b2 : Nat) (W : World) (hB : Blk W b 24 [.complex .f64 z.re z.im]) (hB2 : Blk W b2 3 [.int .i64 s]) (hx : x.Is p) (hy : y.Is q) (hz : z.Is r) (hp : p.le 4194304) (hq : q.le 4194304) (hr : r.le 4194304) (hs : s.natAbs ≤ 1000000) :
    Calls Try.prog 27 #[.complex .f64 x.re x.im, .complex .f64 y.re y.im, .pointer (some ⟨b, 0, none⟩), .pointer (some ⟨b2, 0, none⟩)] W fun e W' => e = .returned (.tuple #[]) ∧ Blk W' b2 3 [.int .i64 (s + trn r p q)] ∧ Kp [b2] W W' := by
  have c0 := hB.cell 0 rfl
  have c2 := hB2.cell 0 rfl
  have f2 := hB2.frozen 0
  obtain ⟨x1, s1, hx1⟩ := sub_run (P := Try.prog) (T := 24) hx hz (hp.mono (by omega)) (hr.mono (by omega))
  obtain ⟨y1, s2, hy1⟩ := sub_run (P := Try.prog) (T := 24) hy hz (hq.mono (by omega)) (hr.mono (by omega))
  have hp1 : (p.sub r).le 16777216 := (Pt.sub_le hp hr).mono (by omega)
  have hq1 : (q.sub r).le 16777216 := (Pt.sub_le hq hr).mono (by omega)
  have hcr := fun V => cross_ok x1 y1 _ _ V hx1 hy1 hp1 hq1
  have o1 := order_le hx1.im
  have o2 := order_gt hx1.im
  have o3 := order_le hy1.im
  have o4 := order_gt hy1.im
  have ht : trn r p q = trn0 (p.sub r) (q.sub r) := rfl
  rw [ht]
  generalize p.sub r = P at *
  generalize q.sub r = Q at *
  clear ht hx hy hz hp hq hr hp1 hq1 hx1 hy1
  obtain ⟨D, hD⟩ : ∃ D, D = crs P Q := ⟨_, rfl⟩
  rw [← hD] at hcr
  have HB2 := Aside0.mk hB2
  have HCR := Aside0.mk hcr
  obtain ⟨t, ht⟩ : ∃ t, t = trn0 P Q := ⟨_, rfl⟩
  rw [← ht]
  unfold trn0 at ht
  rw [← hD] at ht
  clear hD hcr hB hB2
  generalize P.v = a at *
  generalize Q.v = c at *
  have HT := Aside0.mk ht
  clear ht
  by_cases ca : a ≤ 0
  · have d1 : decide (a ≤ 0) = true := decide_eq_true ca
    have d2 : decide (0 < a) = false := decide_eq_false (by omega)
    rw [d1] at o1
    rw [d2] at o2
    have na : ¬ (0 < a ∧ c ≤ 0 ∧ D < 0) := fun h => by omega
    by_cases cc : 0 < c
    · have d3 : decide (0 < c) = true := decide_eq_true cc
      rw [d3] at o4
      by_cases cD : 0 < D
      · obtain rfl : t = 1 := by rw [HT.out]; rw [if_pos ⟨ca, cc, cD⟩]
        clear HT
        go_enter Try.func27, Try.ntmps27
        go_wp2_with (fail)
        go_quiet (fail)
        go_wp2_with (fail)
        refine (HCR.out _).mono ?_
        rintro e w' ⟨rfl, rfl⟩
        go_wp2_with (fail)
        go_end0
        exact ⟨rfl, HB2.out.drewN_.put 0 _ rfl, ((Kp.refl _ _).drewN _).set (.inl (by simp)) _⟩
      · have nD : decide (0 < D) = false := decide_eq_false cD
        obtain rfl : t = 0 := by rw [HT.out]; rw [if_neg (fun h => cD h.2.2), if_neg na]
        clear HT
        go_enter Try.func27, Try.ntmps27
        go_wp2_with (fail)
        go_quiet (fail)
        go_wp2_with (fail)
        refine (HCR.out _).mono ?_
        rintro e w' ⟨rfl, rfl⟩
        go_wp2_with (fail)
        go_end0
        exact ⟨rfl, by rw [Int.add_zero]; exact HB2.out.drewN_, (Kp.refl _ _).drewN _⟩
    · have d3 : decide (0 < c) = false := decide_eq_false cc
      rw [d3] at o4
      obtain rfl : t = 0 := by rw [HT.out]; rw [if_neg (fun h => cc h.2.1), if_neg na]
      clear HT
      go_enter Try.func27, Try.ntmps27
      go_wp2_with (fail)
      go_quiet (fail)
      go_wp2_with (fail)
      refine (HCR.out _).mono ?_
      rintro e w' ⟨rfl, rfl⟩
      go_wp2_with (fail)
      go_end0
      exact ⟨rfl, by rw [Int.add_zero]; exact HB2.out.drewN_, (Kp.refl _ _).drewN _⟩
  · have d1 : decide (a ≤ 0) = false := decide_eq_false ca
    have d2 : decide (0 < a) = true := decide_eq_true (by omega)
    rw [d1] at o1
    rw [d2] at o2
    have pa : 0 < a := by omega
    by_cases cc : c ≤ 0
    · have d3 : decide (c ≤ 0) = true := decide_eq_true cc
      rw [d3] at o3
      by_cases cD : D < 0
      · obtain rfl : t = -1 := by rw [HT.out]; rw [if_neg (fun h => ca h.1), if_pos ⟨pa, cc, cD⟩]
        clear HT
        go_enter Try.func27, Try.ntmps27
        go_wp2_with (fail)
        go_quiet (fail)
        go_wp2_with (fail)
        refine (HCR.out _).mono ?_
        rintro e w' ⟨rfl, rfl⟩
        go_wp2_with (fail)
        go_end0
        exact ⟨rfl, by rw [show s + -1 = s - 1 from by omega]; exact HB2.out.drewN_.put 0 _ rfl, ((Kp.refl _ _).drewN _).set (.inl (by simp)) _⟩
      · have nD : decide (D < 0) = false := decide_eq_false cD
        obtain rfl : t = 0 := by rw [HT.out]; rw [if_neg (fun h => ca h.1), if_neg (fun h => cD h.2.2)]
        clear HT
        go_enter Try.func27, Try.ntmps27
        go_wp2_with (fail)
        go_quiet (fail)
        go_wp2_with (fail)
        refine (HCR.out _).mono ?_
        rintro e w' ⟨rfl, rfl⟩
        go_wp2_with (fail)
        go_end0
        exact ⟨rfl, by rw [Int.add_zero]; exact HB2.out.drewN_, (Kp.refl _ _).drewN _⟩
    · have d3 : decide (c ≤ 0) = false := decide_eq_false cc
      rw [d3] at o3
      obtain rfl : t = 0 := by rw [HT.out]; rw [if_neg (fun h => ca h.1), if_neg (fun h => cc h.2.1)]
      clear HT
      go_enter Try.func27, Try.ntmps27
      go_wp2_with (fail)
      go_quiet (fail)
      go_wp2_with (fail)
      refine (HCR.out _).mono ?_
      rintro e w' ⟨rfl, rfl⟩
      go_wp2_with (fail)
      go_end0
      exact ⟨rfl, by rw [Int.add_zero]; exact HB2.out.drewN_, (Kp.refl _ _).drewN _⟩
theorem turns_ok (A : Option Addr) (c : Nat) (l : List CB) (z : CB) (w : World) (hC : CB.kd.C w A l.length l) (h : Way l) (hz : z.fits 4194304) :
    Calls Try.prog 11 #[.slice A l.length c, .complex .f64 z.re z.im] w fun e w' => e = .returned (.int .i64 (turns z.pt (l.map CB.pt))) ∧ Below w.heap.size w w' := by
  have hsum : ∀ k, k ≤ l.length → (sumE (trn z.pt) (l.map CB.pt) k).natAbs ≤ 200 := fun k hk => by
    have h0 := sumE_le (f := trn z.pt) (l := l.map CB.pt) (B := 1) (fun a ha b hb => trn0_le _ _) k (by rw [List.length_map]; exact hk)
    have := h.1
    omega
  have HC := Aside0.mk hC
  have HH := Aside0.mk h
  have HS := Aside0.mk hsum
  have HZ := Aside0.mk hz
  clear hC h hsum hz
  go_enter Try.func11, Try.ntmps11
  go_wp2_with (fail)
  have hA0 := Blk.new w 24 [.complex .f64 z.re z.im]
  have hB0 := Blk.new (w.alloc (.cells #[.complex .f64 z.re z.im] 24)) 3 [.int .i64 0]
  rw [World.size_alloc] at hB0
  have hb0 := below_alloc (below_alloc (Below.refl _ w) (.cells #[.complex .f64 z.re z.im] 24)) (.cells #[.int .i64 0] 3)
  have hA0 : Blk ((w.alloc (.cells #[.complex .f64 z.re z.im] 24)).alloc (.cells #[.int .i64 0] 3)) w.heap.size 24 [.complex .f64 z.re z.im] := hA0.alloc _
  have hB0 : Blk ((w.alloc (.cells #[.complex .f64 z.re z.im] 24)).alloc (.cells #[.int .i64 0] 3)) (w.heap.size + 1) 3 [.int .i64 0] := hB0
  generalize hW : (w.alloc (.cells #[.complex .f64 z.re z.im] 24)).alloc (.cells #[.int .i64 0] 3) = W at *
  obtain ⟨b2, hb2⟩ : ∃ b, b = w.heap.size + 1 := ⟨_, rfl⟩
  obtain ⟨b, hb⟩ : ∃ b, b = w.heap.size := ⟨_, rfl⟩
  rw [← hb2] at hB0 ⊢
  rw [← hb] at hA0 ⊢
  have hle : w.heap.size ≤ b2 := by omega
  have hne : b ≠ b2 := by omega
  clear hW hb hb2
  refine (steps_27 A c l b b2 (fun k W => Blk W b2 3 [.int .i64 (sumE (trn z.pt) (l.map CB.pt) k)] ∧ Blk W b 24 [.complex .f64 z.re z.im] ∧ Below w.heap.size w W) W (by have := HH.out.1; omega) (fun k V hV => Kd.C_below HC.out hV.2.2) (fun k x y V hx hy hV => ?_) ⟨hB0, hA0, hb0⟩).mono ?_
  · obtain ⟨f1, f2, hst⟩ := HH.out.step hx hy
    have hk : k < l.length := (List.getElem?_eq_some_iff.1 hx).1
    have hs := HS.out k (by omega)
    refine (turns1_ok x y z x.pt y.pt z.pt _ b b2 V hV.2.1 hV.1 f1.1 f2.1 HZ.out.1 f1.2 f2.2 HZ.out.2 (by omega)).mono fun e V' ⟨he, hB, hk2⟩ => ⟨he, ?_, hk2.blk hV.2.1 (by simpa using hne), Kp.to_below hV.2.2 hV.2.2.size hk2 (by simpa using hle)⟩
    rw [sumE, hst]; exact hB
  rintro e w' ⟨rfl, hB, _, hb'⟩
  have c0 := hB.cell 0 rfl
  have e1 : sumE (trn z.pt) (l.map CB.pt) l.length = turns z.pt (l.map CB.pt) := by unfold turns; rw [List.length_map]
  rw [e1] at c0
  have HB := Aside0.mk hb'
  clear hB hb0 hb' hB0 hA0 e1
  go_wp2
  go_ret
  exact ⟨rfl, HB.out⟩
end Go.Proofs.Ytahmogobaanklaa.Z

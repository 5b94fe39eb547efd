/- SwingTells. -/
import Derived.Test.YtahmogobaanklaaSwlaws
namespace Go.Proofs.Ytahmogobaanklaa.Z
open Go.RowKit Go.Proofs.YtahmogobaanklaaW.PrintWords Go.Proofs.YtahmogobaanklaaW.PrintLast Go.Proofs.YtahmogobaanklaaW.PrintMore
attribute [local go_sem] max2_int min2_int max_two min_two max_three min_three max_four min_four unary_neg_float
set_option linter.unusedVariables false
set_option linter.unusedSimpArgs false
theorem of_pts {X : List Pt} (h : ∀ p ∈ X, p.le 1048576) : (X.map CB.of).map CB.pt = X := by
  rw [List.map_map]
  conv => rhs; rw [← List.map_id X]
  apply List.map_congr_left
  intro p hp
  exact (CB.of_is ((h p hp).mono (by omega))).pt
theorem of_way {X : List Pt} (h : ∀ p ∈ X, p.le 1048576) (hl : X.length ≤ 200) : Way (X.map CB.of) :=
  ⟨by rw [List.length_map]; exact hl, fun c hc => by
    obtain ⟨p, hp, rfl⟩ := List.mem_map.1 hc
    exact (CB.of_is ((h p hp).mono (by omega))).fits ((h p hp).mono (by omega))⟩
theorem order_self {a : Nat} {x : Int} (h : FI a x) : FloatKind.f64.format.order a a = some .eq := by
  rw [h.order h, cmp_int, if_neg (by omega), if_pos rfl]
set_option maxHeartbeats 8000000 in
set_option maxRecDepth 100000 in
theorem tells_ok (A B : Option Addr) (c c' : Nat) (us ls : List Int) (u v : Int) (w : World) (hA : (Kd.int .i64).C w A us.length us) (hB : (Kd.int .i64).C w B ls.length ls) (hu : us.length ≤ 1000000000000000000) (hv : ls.length ≤ 1000000000000000000) :
    Calls Try.prog 5 #[.slice A us.length c, .slice B ls.length c', .int .i64 u, .int .i64 v] w fun e w' => e = .returned (.bool true) ∧ Below w.heap.size w w' := by
  have HA := Aside0.mk hA
  have HB := Aside0.mk hB
  have HU := Aside0.mk hu
  have HV := Aside0.mk hv
  clear hA hB hu hv
  go_enter Try.func5, Try.ntmps5
  go_wp2_with (fail)
  refine (sawake_ok _).mono ?_
  rintro e w2 ⟨rfl, hb2⟩
  have HB2 := Aside0.mk hb2
  clear hb2
  go_wp2_with (fail)
  refine (way_ok A B c c' us ls _ (Kd.C_below HA.out HB2.out) (Kd.C_below HB.out HB2.out) HU.out HV.out).mono ?_
  rintro e w3 ⟨v1, x1, rfl, hR1, hR2, hb3⟩
  have hX := wayP_le us ls
  have hXl := wayP_len us ls
  obtain ⟨X, hXX⟩ : ∃ X, X = wayP us ls := ⟨_, rfl⟩
  rw [← hXX] at hR1 hR2 hX hXl
  have hway := of_way hX (by omega)
  have hpts := of_pts hX
  obtain ⟨L, hL⟩ : ∃ L, L = X.map CB.of := ⟨_, rfl⟩
  rw [← hL] at hR1 hway hpts
  have hLX : L.length = X.length := by rw [hL, List.length_map]
  have HPW := Aside0.mk (show PWay X from ⟨by omega, fun p hp => (hX p hp).mono (by omega)⟩)
  have HWAY := Aside0.mk hway
  have HPTS := Aside0.mk hpts
  have HLX := Aside0.mk hLX
  obtain ⟨A1, c1, rfl⟩ := Kd.R_slice hR1
  obtain ⟨A2, c2, rfl⟩ := Kd.R_slice hR2
  have HC1 := Aside0.mk (Kd.R_reads' hR1).2.2
  have HC2 := Aside0.mk (Kd.R_reads' hR2).2.2
  have HB3 := Aside0.mk (below_step HB2.out hb3)
  clear hR1 hR2 hb3 hX hXX hway hpts hL hLX HB2 HA HB
  go_wp2_with (fail)
  refine (at_ok u v _).mono ?_
  rintro e w' ⟨rfl, rfl⟩
  go_wp2_with (fail)
  refine (rClamp_ok u v _).mono ?_
  rintro e w4 ⟨rfl, hb4⟩
  have hPle := atP_le u v
  obtain ⟨P, hP⟩ : ∃ P, P = atP u v := ⟨_, rfl⟩
  rw [← hP] at hPle ⊢
  have hof := CB.of_is (hPle.mono (by omega : 1048576 ≤ 16777216))
  have hfit := hof.fits (hPle.mono (by omega : 1048576 ≤ 4194304))
  have hpt := hof.pt
  have o1 := order_self hof.re
  have o2 := order_self hof.im
  have o1 : FloatKind.f64.format.order (CB.of P).re (floatOfInt .f64 P.u) = some .eq := o1
  have o2 : FloatKind.f64.format.order (CB.of P).im (floatOfInt .f64 P.v) = some .eq := o2
  have HFIT := Aside0.mk hfit
  have HPT := Aside0.mk hpt
  have HPLE := Aside0.mk (hPle.mono (by omega : 1048576 ≤ 4194304))
  have HC1 := Aside0.mk (Kd.C_below HC1.out hb4)
  have HC2 := Aside0.mk (Kd.C_below HC2.out hb4)
  have HB4 := Aside0.mk (below_step HB3.out hb4)
  clear hb4 hP hPle hof hfit hpt HB3
  go_upto_region 5 with (fail)
  obtain ⟨q, hq⟩ : ∃ q, q = w4.heap.size := ⟨_, rfl⟩
  have hy := Blk.new w4 40 [.int .i64 P.u, .int .i64 P.v]
  have hy : Blk (w4.alloc (.cells #[.int .i64 P.u, .int .i64 P.v] 40)) w4.heap.size 40 [.int .i64 P.u, .int .i64 P.v] := hy
  have hal := below_alloc (Below.refl _ w4) (.cells #[.int .i64 P.u, .int .i64 P.v] 40)
  have HC1 := Aside0.mk (Kd.C_below HC1.out hal)
  have HC2 := Aside0.mk (Kd.C_below HC2.out hal)
  have HB5 := Aside0.mk (below_step HB4.out hal)
  generalize (w4.alloc (.cells #[.int .i64 P.u, .int .i64 P.v] 40)) = w5 at *
  rw [← hq] at hy ⊢
  have HY := Aside0.mk hy
  have HBK := Aside0.mk (below_drew (Below.refl w5.heap.size w5))
  have s0 := hy.cell 0 rfl
  have s1 := hy.cell 1 rfl
  clear hy hq hal HB4
  go_region_held3 (fun V => V.cell? ⟨q, 0, none⟩ = some (.int .i64 P.u) ∧ V.cell? ⟨q, 1, none⟩ = some (.int .i64 P.v)) (first | exact ⟨by assumption, by assumption⟩ | go_keep) (first
    | (go_at_call 10; have hcon := area_ok A1 c1 L _ (Kd.C_below HC1.out HBK.out) HWAY.out; rw [HPTS.out] at hcon; refine hcon.mono ?_; clear hcon; rintro e wa1 ⟨rfl, hba⟩; have HBK := Aside0.mk (below_step HBK.out hba); have sa1 := (HY.out.below HBK.out).cell 0 rfl; have sb1 := (HY.out.below HBK.out).cell 1 rfl; clear hba)
    | (go_at_call 16; have hcon := rarea_ok A2 c2 X _ (Kd.C_below HC2.out HBK.out) HPW.out; refine hcon.mono ?_; clear hcon; rintro e wa2 ⟨rfl, hba⟩; have HBK := Aside0.mk (below_step HBK.out hba); have sa2 := (HY.out.below HBK.out).cell 0 rfl; have sb2 := (HY.out.below HBK.out).cell 1 rfl; clear hba)
    | (go_at_call 12; have hcon := far_ok A1 c1 L (CB.of P) _ (Kd.C_below HC1.out HBK.out) HWAY.out HFIT.out; rw [HPTS.out, HPT.out] at hcon; refine hcon.mono ?_; clear hcon; rintro e wa3 ⟨rfl, rfl⟩; skip)
    | (go_at_call 17; have hcon := rfar_ok A2 c2 X P _ (Kd.C_below HC2.out HBK.out) HPW.out HPLE.out; refine hcon.mono ?_; clear hcon; rintro e wa4 ⟨rfl, hba⟩; have HBK := Aside0.mk (below_step HBK.out hba); have sa4 := (HY.out.below HBK.out).cell 0 rfl; have sb4 := (HY.out.below HBK.out).cell 1 rfl; clear hba)
    | (go_at_call 11; have hcon := turns_ok A1 c1 L (CB.of P) _ (Kd.C_below HC1.out HBK.out) HWAY.out HFIT.out; rw [HPTS.out, HPT.out] at hcon; refine hcon.mono ?_; clear hcon; rintro e wa5 ⟨rfl, hba⟩; have HBK := Aside0.mk (below_step HBK.out hba); have sa5 := (HY.out.below HBK.out).cell 0 rfl; have sb5 := (HY.out.below HBK.out).cell 1 rfl; clear hba)
    | (go_at_call 18; have hcon := rturns_ok A2 c2 X P _ (Kd.C_below HC2.out HBK.out) HPW.out HPLE.out; refine hcon.mono ?_; clear hcon; rintro e wa6 ⟨rfl, hba⟩; have HBK := Aside0.mk (below_step HBK.out hba); have sa6 := (HY.out.below HBK.out).cell 0 rfl; have sb6 := (HY.out.below HBK.out).cell 1 rfl; clear hba))
  have HB6 := Aside0.mk (below_step HB5.out HBK.out)
  have HC1 := Aside0.mk (Kd.C_below HC1.out HBK.out)
  have HC2 := Aside0.mk (Kd.C_below HC2.out HBK.out)
  clear s0 s1 sa1 sb1 sa2 sb2 sa4 sb4 sa5 sb5 sa6 sb6 o1 o2 HB5 HBK HY
  by_cases hX0 : X.length = 0
  · have hL0 : L.length = 0 := HLX.out.trans hX0
    have oz : FloatKind.f64.format.order 0 0 = some .eq := order_self FI.zero
    have ho : CB.kd.C wa6 A1 0 L := by have := HC1.out; rw [hL0] at this; exact this
    rw [hL0, hX0]
    clear hL0 hX0 ho
    go_wp2_with (fail)
    refine (corners_nil A1 c1 _).mono ?_
    rintro e w' ⟨rfl, rfl⟩
    go_wp2_with (fail)
    go_loop [77] (fun i => i = .int .i64 0) (fun _ => 0)
    case atStart => exact rfl
    case round =>
      obtain rfl := hrel
      go_wp2_with (fail)
      go_ret
      exact ⟨rfl, HB6.out⟩
  · have hLp : 0 < L.length := by have := HLX.out; omega
    have hLp' : (0 : Int) < (L.length : Int) := by omega
    have HLP := Aside0.mk hLp
    have hLd : decide (0 < L.length) = true := decide_eq_true hLp
    clear hX0
    go_wp2_with (fail)
    refine (corners_ok A1 c1 L _ HC1.out HWAY.out HLP.out).mono ?_
    rintro e w7 ⟨a, b, p, r, rfl, ha, hb, hco, hb7⟩
    rw [HPTS.out] at hco
    have m1 := int_run ha.re (by have := hco.bp.1; omega)
    have m2 := int_run ha.im (by have := hco.bp.2; omega)
    have m3 := int_run hb.re (by have := hco.bq.1; omega)
    have m4 := int_run hb.im (by have := hco.bq.2; omega)
    have HC2 := Aside0.mk (Kd.C_below HC2.out hb7)
    have HB7 := Aside0.mk (below_step HB6.out hb7)
    have HCO := Aside0.mk hco
    have hX60 := HPW.out.1
    clear hb7 hco ha hb HB6 HC1
    go_wp2_with (fail)
    go_loopw [77] (fun i wr => ∃ k : Nat, k ≤ X.length ∧ i = .int .i64 k ∧ Below w7.heap.size w7 wr) (fun i _ => X.length - (intOf i).toNat)
    case atStart => exact ⟨0, Nat.zero_le _, rfl, Below.refl _ _⟩
    case round =>
      obtain ⟨k, hk, rfl, hbw⟩ := hrel
      have HBW := Aside0.mk hbw
      clear hbw
      by_cases hlt : k < X.length
      · have hlt' : (k : Int) < (X.length : Int) := by omega
        obtain ⟨ad, rfl⟩ : ∃ ad, A2 = some ad := by
          obtain ⟨ad, h, _⟩ := HC2.out.2.2 (by omega)
          exact ⟨ad, h⟩
        obtain ⟨z, hz⟩ : ∃ z, X[k]? = some z := ⟨_, List.getElem?_eq_getElem hlt⟩
        obtain ⟨c3, c4⟩ := Pt.came (Kd.C_below HC2.out HBW.out) hz
        have l1 := HCO.out.lo z (List.mem_of_getElem? hz)
        have l2 := HCO.out.hi z (List.mem_of_getElem? hz)
        have d1 : decide (z.u < p.u) = false := decide_eq_false (by omega)
        have d2 : decide (z.v < p.v) = false := decide_eq_false (by omega)
        have d3 : decide (r.u < z.u) = false := decide_eq_false (by omega)
        have d4 : decide (r.v < z.v) = false := decide_eq_false (by omega)
        clear l1 l2 hz
        go_wp2_with (fail)
        exact ⟨⟨k + 1, by omega, by go_num, below_alloc HBW.out _⟩, by simp [intOf]; omega⟩
      · obtain rfl : k = X.length := by omega
        go_wp2_with (fail)
        go_ret
        exact ⟨rfl, below_step HB7.out HBW.out⟩
theorem tells_law (A0 : Option Addr) (cap0 : Nat) (l0 : List Int) (A1 : Option Addr) (cap1 : Nat) (l1 : List Int) (a2 a3 : Int) (W : World)
    (hC0 : (Kd.int .i64).C W A0 l0.length l0) (hc0 : l0.length ≤ cap0) (hm0 : cap0 ≤ maxLen) (hb0 : l0.length * 8 ≤ 140737488351232) (hw0 : ∀ n ∈ l0, (Lit.int .i64 n).wf = true)
    (hC1 : (Kd.int .i64).C W A1 l1.length l1) (hc1 : l1.length ≤ cap1) (hm1 : cap1 ≤ maxLen) (hb1 : l1.length * 8 ≤ 140737488351232) (hw1 : ∀ n ∈ l1, (Lit.int .i64 n).wf = true)
    (w2 : (Lit.int .i64 a2).wf = true) (w3 : (Lit.int .i64 a3).wf = true) :
    Calls Try.prog 5 #[.slice A0 l0.length cap0, .slice A1 l1.length cap1, .int .i64 a2, .int .i64 a3] W fun e w' => e = .returned (.bool true) ∧ Below W.heap.size W w' :=
  tells_ok A0 A1 cap0 cap1 l0 l1 a2 a3 W hC0 hC1 (by omega) (by omega)
end Go.Proofs.Ytahmogobaanklaa.Z

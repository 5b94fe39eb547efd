/- SwingBack. -/
import Derived.Test.YtahmogobaanklaaSwbk
import Derived.Deep.RegionHeld3
namespace Go.Proofs.Ytahmogobaanklaa.Z
open Go.RowKit Go.Proofs.YtahmogobaanklaaW.PrintWords Go.Proofs.YtahmogobaanklaaW.PrintLast Go.Proofs.YtahmogobaanklaaW.PrintMore
attribute [local go_sem] max2_int min2_int max_two min_two max_three min_three max_four min_four unary_neg_float run_store_complex
set_option linter.unusedVariables false
set_option linter.unusedSimpArgs false
theorem turnB_fits {c : CB} (h : c.fits 4194304) : (turnB c).fits 4194304 := (turnB_is h.1 (h.2.mono (by omega))).fits ⟨by show (-c.pt.v).natAbs ≤ _; have := h.2.2; omega, h.2.1⟩
theorem Way.turned {l : List CB} (h : Way l) : Way (l.map turnB) := ⟨by rw [List.length_map]; exact h.1, fun c hc => by obtain ⟨d, hd, rfl⟩ := List.mem_map.1 hc; exact turnB_fits (h.2 d hd)⟩
theorem turned_pts {l : List CB} (h : Way l) : (l.map turnB).map CB.pt = (l.map CB.pt).map Pt.turned := by
  rw [List.map_map, List.map_map]
  exact List.map_congr_left fun c hc => (turnB_is (h.2 c hc).1 ((h.2 c hc).2.mono (by omega))).pt
theorem turn4_is {c : CB} (h : c.fits 4194304) : (turnB (turnB (turnB (turnB c)))).Is c.pt := by
  have h1 := turnB_fits h
  have h2 := turnB_fits h1
  have h3 := turnB_fits h2
  have h4 := turnB_fits h3
  have e1 : (turnB c).pt = c.pt.turned := (turnB_is h.1 (h.2.mono (by omega))).pt
  have e2 : (turnB (turnB c)).pt = (turnB c).pt.turned := (turnB_is h1.1 (h1.2.mono (by omega))).pt
  have e3 : (turnB (turnB (turnB c))).pt = (turnB (turnB c)).pt.turned := (turnB_is h2.1 (h2.2.mono (by omega))).pt
  have e4 : (turnB (turnB (turnB (turnB c)))).pt = (turnB (turnB (turnB c))).pt.turned := (turnB_is h3.1 (h3.2.mono (by omega))).pt
  have e := h4.1
  rw [e4, e3, e2, e1, turned4] at e
  exact e
theorem equal4 (A B : Option Addr) (c c' : Nat) (T L : List CB) (w : World) (hT : T = (((L.map turnB).map turnB).map turnB).map turnB) (hA : CB.kd.C w A T.length T) (hB : CB.kd.C w B L.length L) (hW : Way L) :
    Calls Try.prog 22 #[.slice A T.length c, .slice B L.length c'] w fun e w' => e = .returned (.bool true) ∧ Below w.heap.size w w' := by
  have hl : T.length = L.length := by rw [hT]; simp
  have h1 := hW.1
  refine equal_cb A B c c' T L w hA hB hl (by omega) ?_
  intro i x y hx hy
  have hf := hW.2 y (List.mem_of_getElem? hy)
  have hx' : T[i]? = some (turnB (turnB (turnB (turnB y)))) := by
    rw [hT, List.getElem?_map, List.getElem?_map, List.getElem?_map, List.getElem?_map, hy]
    rfl
  have e : turnB (turnB (turnB (turnB y))) = x := Option.some.inj (hx'.symm.trans hx)
  rw [← e]
  exact ⟨y.pt, turn4_is hf, hf.1⟩
set_option maxHeartbeats 8000000 in
set_option maxRecDepth 100000 in
theorem back_ok (A B : Option Addr) (c c' : Nat) (us ls : List Int) (fr u v : Int) (w : World) (hA : (Kd.int .i64).C w A us.length us) (hB : (Kd.int .i64).C w B ls.length ls)
    (h1 : us.length * 8 ≤ 140737488351232) (h2 : ls.length * 8 ≤ 140737488351232) (hf0 : 0 ≤ fr) (hf1 : fr ≤ 255) (hu : u.natAbs ≤ 2147483648) (hv : v.natAbs ≤ 2147483648) :
    Calls Try.prog 6 #[.slice A us.length c, .slice B ls.length c', .int .u8 fr, .int .i32 u, .int .i32 v] w fun e w' => e = .returned (.bool true) ∧ Below w.heap.size w w' := by
  have iw : ∀ x : Int, x.natAbs ≤ 9000000000000000000 → IntKind.i64.wrap x = x := fun x hx => IntWalk.i64_in _ (by omega)
  have eu := iw u (by omega)
  have ev := iw v (by omega)
  have ru : (u.tmod 524288).natAbs ≤ 2147483648 := by rw [Int.natAbs_tmod]; exact Nat.le_trans (Nat.mod_le _ _) hu
  have rv_ : (v.tmod 524288).natAbs ≤ 2147483648 := by rw [Int.natAbs_tmod]; exact Nat.le_trans (Nat.mod_le _ _) hv
  have eu2 := iw (u.tmod 524288) (by omega)
  have ev2 := iw (v.tmod 524288) (by omega)
  have HA := Aside0.mk hA
  have HB := Aside0.mk hB
  clear hA hB
  go_enter Try.func6, Try.ntmps6
  go_wp2_with (fail)
  refine (sawake_ok _).mono ?_
  rintro e w1 ⟨rfl, hb1⟩
  have HB1 := Aside0.mk hb1
  have HB := Aside0.mk (Kd.C_below HB.out hb1)
  have HA := Aside0.mk (Kd.C_below HA.out hb1)
  clear hb1
  go_wp2_with (fail)
  refine (clone_i A c us _ HA.out h1).mono ?_
  rintro e w2 ⟨v1, rfl, hR1, hb2⟩
  obtain ⟨A1, c1, rfl⟩ := Kd.R_slice hR1
  have hR1 := Kd.R_mono (Kd.R_bound hR1) (ok' := fun k => k < w2.heap.size) (fun k hk => hk.2.2.1)
  have HR1 := Aside0.mk hR1
  have HB2 := Aside0.mk (below_step HB1.out hb2)
  have HB := Aside0.mk (Kd.C_below HB.out hb2)
  have s12 := hb2.size
  have s01 := HB1.out.size
  clear hR1 hb2 HB1 HA
  go_wp2_with (fail)
  refine (clone_i B c' ls _ HB.out h2).mono ?_
  rintro e w3 ⟨v2, rfl, hR2, hb3⟩
  obtain ⟨B1, d1, rfl⟩ := Kd.R_slice hR2
  have hR2 := Kd.R_mono (Kd.R_bound hR2) (ok' := fun k => w2.heap.size ≤ k) (fun k hk => hk.2.1)
  have HR2 := Aside0.mk hR2
  have HR1 := Aside0.mk (Kd.R_below HR1.out hb3)
  have HB3 := Aside0.mk (below_step HB2.out hb3)
  obtain ⟨N1, hN1⟩ : ∃ N, N = w1.heap.size := ⟨_, rfl⟩
  obtain ⟨N2, hN2⟩ : ∃ N, N = w2.heap.size := ⟨_, rfl⟩
  rw [← hN1, ← hN2] at HR1
  rw [← hN2] at HR2
  rw [← hN1] at s12 s01
  rw [← hN2] at s12
  clear hR2 hb3 HB HB2 hN1 hN2
  go_wp2_with (fail)
  go_loopw [32] (fun i wr => ∃ (k : Nat) (us' : List Int), k ≤ us.length ∧ i = .int .i64 k ∧ us'.length = us.length ∧ (Kd.int .i64).R 2 wr N1 (fun k => k < N2) (.slice A1 us.length c1) us' ∧ (Kd.int .i64).R 2 wr N2 (fun k => N2 ≤ k) (.slice B1 ls.length d1) ls ∧ Below w.heap.size w wr) (fun i _ => us.length - (intOf i).toNat)
  case atStart => exact ⟨0, us, by omega, rfl, rfl, HR1.out, HR2.out, HB3.out⟩
  case round =>
    clear HR1 HR2 HB3
    obtain ⟨k, us', hk, rfl, hlen, hR1, hR2, hbw⟩ := hrel
    by_cases hlt : k < us.length
    · have hlt' : (k : Int) < (us.length : Int) := by omega
      obtain ⟨g, cap, hv, hg, _⟩ := Kd.R_form hR1 (by omega)
      injection hv with hv1 hv2 hv3
      subst hv1
      have HLN := Aside0.mk hlen
      clear hv2 hv3
      obtain ⟨e1, f1⟩ := Kd.R_celln (0 : Int) hR1 k (by omega) (by omega)
      rw [Int.toNat_natCast] at e1 f1
      generalize rdOf (0 : Int) us' k = x at *
      have hg2 : g < N2 := hR1.1 g rfl
      have s1 := Kd.R_putn hR1 k (x.tmod 524288)
      have s2 := Kd.R_far hR2 (p := ⟨g, k, none⟩) (fun k hk he => by have : k = g := he; omega) (.int .i64 (x.tmod 524288))
      have s3 := Below.setCell hbw (p := ⟨g, k, none⟩) (by show w.heap.size ≤ g; omega) (.int .i64 (x.tmod 524288))
      rw [Int.toNat_natCast] at s1
      have S1 := Aside0.mk s1
      have S2 := Aside0.mk s2
      have S3 := Aside0.mk s3
      clear s1 s2 s3 hR1 hR2 hbw hlen
      change wr.cell? ⟨g, k, none⟩ = some (.int .i64 x) at e1
      go_wp2_with (fail)
      exact ⟨⟨k + 1, us'.set k (x.tmod 524288), by omega, by go_num, by rw [List.length_set]; exact HLN.out, S1.out, S2.out, S3.out⟩, by simp [intOf]; omega⟩
    · obtain rfl : k = us.length := by omega
      have HR1 := Aside0.mk hR1
      have HR2 := Aside0.mk hR2
      have HB3 := Aside0.mk hbw
      clear hR1 hR2 hbw
      go_wp2_with (fail)
      have HLU := Aside0.mk hlen
      clear hlen
      go_loopw [44] (fun i wr => ∃ (k : Nat) (ls' : List Int), k ≤ ls.length ∧ i = .int .i64 k ∧ ls'.length = ls.length ∧ (Kd.int .i64).R 2 wr N1 (fun k => k < N2) (.slice A1 us.length c1) us' ∧ (Kd.int .i64).R 2 wr N2 (fun k => N2 ≤ k) (.slice B1 ls.length d1) ls' ∧ Below w.heap.size w wr) (fun i _ => ls.length - (intOf i).toNat)
      case atStart => exact ⟨0, ls, by omega, rfl, rfl, HR1.out, HR2.out, HB3.out⟩
      case round =>
        clear HR1 HR2 HB3
        obtain ⟨k, ls', hk, rfl, hlen, hR1, hR2, hbw⟩ := hrel
        by_cases hlt : k < ls.length
        · have hlt' : (k : Int) < (ls.length : Int) := by omega
          obtain ⟨g, cap, hv, hg, _⟩ := Kd.R_form hR2 (by omega)
          injection hv with hv1 hv2 hv3
          subst hv1
          have HLN := Aside0.mk hlen
          clear hv2 hv3
          obtain ⟨e1, f1⟩ := Kd.R_celln (0 : Int) hR2 k (by omega) (by omega)
          rw [Int.toNat_natCast] at e1 f1
          generalize rdOf (0 : Int) ls' k = x at *
          have s1 := Kd.R_putn hR2 k (x.tmod 524288)
          have s2 := Kd.R_far hR1 (p := ⟨g, k, none⟩) (fun k hk he => by have : k = g := he; omega) (.int .i64 (x.tmod 524288))
          have s3 := Below.setCell hbw (p := ⟨g, k, none⟩) (by show w.heap.size ≤ g; omega) (.int .i64 (x.tmod 524288))
          rw [Int.toNat_natCast] at s1
          have S1 := Aside0.mk s1
          have S2 := Aside0.mk s2
          have S3 := Aside0.mk s3
          clear s1 s2 s3 hR1 hR2 hbw hlen
          change wr.cell? ⟨g, k, none⟩ = some (.int .i64 x) at e1
          go_wp2_with (fail)
          exact ⟨⟨k + 1, ls'.set k (x.tmod 524288), by omega, by go_num, by rw [List.length_set]; exact HLN.out, S2.out, S1.out, S3.out⟩, by simp [intOf]; omega⟩
        · obtain rfl : k = ls.length := by omega
          have HLL := Aside0.mk hlen
          have HC1 := Aside0.mk (Kd.R_reads' hR1).2.2
          have HC2 := Aside0.mk (Kd.R_reads' hR2).2.2
          have HB3 := Aside0.mk hbw
          clear hR1 hR2 hbw hlen hk hlt
          go_wp2_with (fail)
          have hway := way_ok A1 B1 c1 d1 us' ls' _ HC1.out HC2.out (by rw [HLU.out]; omega) (by rw [HLL.out]; omega)
          rw [HLU.out, HLL.out] at hway
          refine hway.mono ?_
          clear hway
          rintro e w4 ⟨v3, x1, rfl, hR1, _, hb4⟩
          have hX := wayP_le us' ls'
          have hXl := wayP_len us' ls'
          generalize wayP us' ls' = X at *
          obtain ⟨L, hL⟩ : ∃ L, L = X.map CB.of := ⟨_, rfl⟩
          rw [← hL] at hR1
          have hLl : L.length ≤ 60 := by rw [hL, List.length_map]; exact hXl
          have hfit : ∀ c ∈ L, c.fits 1048576 := by
            rw [hL]
            intro c hc
            obtain ⟨p, hp, rfl⟩ := List.mem_map.1 hc
            exact (CB.of_is ((hX p hp).mono (by omega))).fits (hX p hp)
          obtain ⟨A3, c3, rfl⟩ := Kd.R_slice hR1
          obtain ⟨_, hlc, hcl⟩ := Kd.R_reads' hR1
          have HC4 := Aside0.mk hcl
          have HB4 := Aside0.mk (below_step HB3.out hb4)
          have HFIT := Aside0.mk hfit
          have HWAY := Aside0.mk (show Way L from ⟨by omega, fun c hc => (hfit c hc).mono (by omega)⟩)
          clear hR1 hb4 hX hXl hL hcl hfit HB3 HC1 HC2 HLU HLL
          by_cases h0 : L = []
          · subst h0
            go_wp2_with (fail)
            refine (area_ok A3 c3 [] _ HC4.out HWAY.out).mono ?_
            rintro e w5 ⟨rfl, hb5⟩
            have HC5 := Aside0.mk (Kd.C_below HC4.out hb5)
            have HB5 := Aside0.mk (below_step HB4.out hb5)
            have z1 : area (List.map CB.pt ([] : List CB)) = 0 := rfl
            rw [z1]
            clear hb5 z1
            go_wp2_with (fail)
            refine (turns_ok A3 c3 [] ⟨0, 0⟩ _ HC5.out HWAY.out ((⟨FI.zero, FI.zero⟩ : (⟨0, 0⟩ : CB).Is ⟨0, 0⟩).fits ⟨by decide, by decide⟩)).mono ?_
            rintro e w6 ⟨rfl, hb6⟩
            have HC6 := Aside0.mk (Kd.C_below HC5.out hb6)
            have HB6 := Aside0.mk (below_step HB5.out hb6)
            have z1 : turns (CB.pt ⟨0, 0⟩) (List.map CB.pt ([] : List CB)) = 0 := rfl
            rw [z1]
            clear hb6 z1
            go_wp2_with (fail)
            refine (turned_ok A3 c3 [] _ HC6.out HWAY.out).mono ?_
            rintro e w7 ⟨v7, rfl, hR7, hb7⟩
            obtain ⟨A7, c7, rfl⟩ := Kd.R_slice hR7
            have HB7 := Aside0.mk (below_step HB6.out hb7)
            clear hR7 hb7
            go_wp2_with (fail)
            go_ret
            exact ⟨rfl, HB7.out⟩
          · have hpos : 0 < L.length := List.length_pos_iff.2 h0
            have hpos' : ¬ ((L.length : Int) = 0) := by omega
            have hne : ¬ (L.length = 0) := by omega
            have t0 : 0 ≤ fr % (L.length : Int) := Int.emod_nonneg _ hpos'
            have t1 : fr % (L.length : Int) < L.length := Int.emod_lt_of_pos _ (by omega)
            have t2 : fr.tmod (L.length : Int) = fr % (L.length : Int) := Int.tmod_eq_emod_of_nonneg hf0
            have t3 : IntKind.i64.wrap fr = fr := IntWalk.i64_in _ (by omega)
            have t4 : IntKind.i64.wrap (fr % (L.length : Int)) = fr % (L.length : Int) := IntWalk.i64_in _ (by omega)
            go_wp2_with (fail)
            generalize fr % (L.length : Int) = kk at *
            obtain ⟨k, rfl⟩ : ∃ k : Nat, kk = k := ⟨kk.toNat, by omega⟩
            have hkl : k < L.length := by omega
            obtain ⟨i0, hi, hzz⟩ := Option.map_eq_some_iff.1 (show (Try.prog.info? 24).map (fun i => i.size) = some 1 by kernel_rfl)
            obtain ⟨D, hD⟩ : ∃ D, D = L.drop k := ⟨_, rfl⟩
            obtain ⟨T, hT⟩ : ∃ T, T = L.take k := ⟨_, rfl⟩
            have hDl : D.length = L.length - k := by rw [hD, List.length_drop]
            have hTl : T.length = k := by rw [hT, List.length_take]; omega
            have hcd := Kd.C_drop HC4.out (m := k) (c := c3) (by omega) hlc
            have hct := Kd.C_take HC4.out (m := k) (by omega)
            have hs1 := cut_from (P := Try.prog) 27 24 .i64 Try.underlying27 hi 1 hzz A3 L.length c3 (k : Int) (by omega) (by omega)
            have hs2 := cut_to (P := Try.prog) 27 24 .i64 Try.underlying27 hi A3 L.length c3 (k : Int) (by omega) (by omega) hlc
            rw [Int.toNat_natCast] at hs1 hs2
            rw [show CB.kd.sz = 1 from rfl] at hcd
            obtain ⟨AD, hAD⟩ : ∃ AD, AD = if c3 = k then A3 else A3.map (·.add (k * 1)) := ⟨_, rfl⟩
            rw [← hAD] at hcd hs1
            rw [← hD] at hcd
            rw [← hT] at hct
            rw [← hDl] at hs1
            have HCD := Aside0.mk (Kd.C_drew hcd)
            rw [hTl] at hct
            have HCT := Aside0.mk (Kd.C_drew hct)
            have HDT := Aside0.mk (show D ++ T = L.drop k ++ L.take k by rw [hD, hT])
            have hDT : D.length + k ≤ 60 := by omega
            have HLK := Aside0.mk hLl
            clear hcd hct hAD hD hT hDl hTl
            go_region_held3 (fun _ => True) (trivial) (first
              | (go_at_call 14; refine (clone_cb AD (c3 - k) D _ HCD.out (by omega)).mono ?_; rintro e w5 ⟨v5, rfl, hR5, hb5⟩; obtain ⟨A5, c5, rfl⟩ := Kd.R_slice hR5; have HR5 := Aside0.mk hR5; have HCT5 := Aside0.mk (Kd.C_below HCT.out hb5); have HB5 := Aside0.mk hb5; clear hR5 hb5)
              | (refine Kd.R_append_rows_step CB.kd (Rr := CB.kd.K w5) (w0 := w4.drew) w4.drew.heap.size rfl (.tmp 85) (.tmp 88) 27 24 (.complex .f64 0 0) 16 rfl Try.underlying27 (by kernel_rfl) rfl (by decide) (by omega) _ D T A3 k c3 (fun _ => True) (fun _ => False) rfl rfl HR5.out HCT5.out (fun _ _ h => h) (fun _ hk => hk.elim) (fun _ _ => trivial) HB5.out HB5.out.size (by omega) ?_; intro v6 w6 hR6 hB6 hg6 _; have HR6 := Aside0.mk hR6; have HB6 := Aside0.mk hB6; clear hR6 hB6 hg6))
            have hb6 : Below w4.heap.size w4 w6 := below_step (below_drew (Below.refl _ _)) HB6.out
            obtain ⟨A6, c6, rfl⟩ := Kd.R_slice HR6.out
            have HCO := Aside0.mk (Kd.R_reads' HR6.out).2.2
            have HCL := Aside0.mk (Kd.C_below HC4.out hb6)
            have HB6' := Aside0.mk (below_step HB4.out hb6)
            have hOl : (D ++ T).length ≤ 60 := by rw [HDT.out, List.length_append, List.length_drop, List.length_take]; omega
            have hO := HDT.out
            generalize D ++ T = O at *
            have HO := Aside0.mk hO
            clear hO hb6 hs1 hs2 hi hzz HDT HCD HCT HR5 HCT5 HB5 HR6 HB6 HC4 HB4
            go_wp2_with (fail)
            refine (clone_cb A3 c3 L _ HCL.out (by omega)).mono ?_
            rintro e w7 ⟨v7, rfl, hR7, hb7⟩
            obtain ⟨g, cg, rfl, hg, _⟩ := Kd.R_form hR7 hpos
            have HR7 := Aside0.mk hR7
            have HB7 := Aside0.mk hb7
            clear hR7 hb7
            go_wp2_with (fail)
            refine (reverse_r g cg _ _ L _ HR7.out (by omega)).mono ?_
            rintro e w8 ⟨rfl, hR8, hk8⟩
            have hb8 : Below w6.heap.size w6 w8 := Kp.to_below HB7.out HB7.out.size hk8 (fun b hb => by rw [List.mem_singleton] at hb; omega)
            have HCB := Aside0.mk (Kd.R_reads' hR8).2.2
            have HCO := Aside0.mk (Kd.C_below HCO.out hb8)
            have HCL := Aside0.mk (Kd.C_below HCL.out hb8)
            have HB8 := Aside0.mk (below_step HB6'.out hb8)
            have hBl : L.reverse.length = L.length := List.length_reverse
            have HBK := Aside0.mk (show (L.reverse).map CB.pt = (L.map CB.pt).reverse from List.map_reverse)
            have HWB := Aside0.mk (show Way L.reverse from ⟨by omega, fun c hc => HWAY.out.2 c (List.mem_reverse.1 hc)⟩)
            generalize L.reverse = K at *
            have HBL := Aside0.mk hBl
            clear hBl hb8 hk8 hR8 HR7 HB7 HB6'
            go_wp2_with (fail)
            refine (at_ok (u.tmod 524288) (v.tmod 524288) _).mono ?_
            rintro e w' ⟨rfl, rfl⟩
            have hP := atP_le (u.tmod 524288) (v.tmod 524288)
            generalize atP (u.tmod 524288) (v.tmod 524288) = P at *
            have hof := CB.of_is (hP.mono (by omega : 1048576 ≤ 16777216))
            generalize CB.of P = zb at *
            have HP := Aside0.mk hP
            have HOF := Aside0.mk hof
            clear hP hof
            go_wp2_with (fail)
            go_loopw [19, 103] (fun v i wr => ∃ k : Nat, k ≤ L.length ∧ i = .int .i64 k ∧ CB.kd.R 24 wr w8.heap.size (fun _ => True) v ((L.take k).map fun z => addB z zb) ∧ Below w8.heap.size w8 wr) (fun _ i _ => L.length - (intOf i).toNat)
            case atStart => exact ⟨0, Nat.zero_le _, rfl, Kd.R_nil _ _ _ _ _, Below.refl _ _⟩
            case round =>
              obtain ⟨q, hq, rfl, hR, hb⟩ := hrel
              have HR := Aside0.mk hR
              have HB := Aside0.mk hb
              obtain ⟨A', c', hv'⟩ := Kd.R_slice hR
              rw [List.length_map, List.length_take, Nat.min_eq_left hq] at hv'
              subst hv'
              clear hR hb
              by_cases hlt : q < L.length
              · have hlt' : (q : Int) < (L.length : Int) := by omega
                obtain ⟨ad, rfl⟩ : ∃ ad, A3 = some ad := by
                  obtain ⟨ad, h, _⟩ := HCL.out.2.2 (by omega)
                  exact ⟨ad, h⟩
                obtain ⟨x, hx⟩ : ∃ x, L[q]? = some x := ⟨_, List.getElem?_eq_getElem hlt⟩
                have c0 := cb_came (Kd.C_below HCL.out HB.out) hx
                have hxf := HFIT.out x (List.mem_of_getElem? hx)
                have hm := (addB_run (P := Try.prog) (T := 24) hxf.1 HOF.out (hxf.2.mono (by omega)) (HP.out.mono (by omega))).1
                have htk : (L.take (q + 1)).map (fun z => addB z zb) = (L.take q).map (fun z => addB z zb) ++ [addB x zb] := by rw [List.take_add_one, hx, List.map_append]; rfl
                have HTK := Aside0.mk htk
                clear hx hxf htk
                go_wp2_with (at_builtin; refine Kd.R_append CB.kd (w0 := w8) w8.heap.size rfl (.tmp 107) (.tmp 111) 27 24 (.complex .f64 0 0) 16 rfl Try.underlying27 (by kernel_rfl) rfl (by decide) (by omega) _ ((L.take q).map fun z => addB z zb) (addB x zb) [.complex .f64 (addB x zb).re (addB x zb).im] (fun _ => True) (fun _ => False) rfl rfl rfl (fun _ hk => hk.elim) (fun _ _ => trivial) HR.out HB.out HB.out.size (by rw [List.length_map, List.length_take]; omega) ?_; intro v9 w9 hR9 hB9 hg9 _; have HR9 := Aside0.mk hR9; have HB9 := Aside0.mk hB9; clear hR9 hB9 hg9)
                go_roundw
                case rel => exact ⟨q + 1, by omega, by go_num, by rw [HTK.out]; exact HR9.out, HB9.out⟩
                case measure => simp [intOf]; omega
              · obtain rfl : q = L.length := by omega
                have hR9 := HR.out
                rw [List.take_length] at hR9
                have HCM := Aside0.mk (Kd.R_reads' hR9).2.2
                have HB9 := Aside0.mk (below_step HB8.out HB.out)
                have HCO := Aside0.mk (Kd.C_below HCO.out HB.out)
                have HCL := Aside0.mk (Kd.C_below HCL.out HB.out)
                have HCB := Aside0.mk (Kd.C_below HCB.out HB.out)
                have hMl : (L.map fun z => addB z zb).length = L.length := List.length_map _
                have hM : (L.map fun z => addB z zb).map CB.pt = (L.map CB.pt).map (·.add P) := by
                  rw [List.map_map, List.map_map]
                  exact List.map_congr_left fun c hc => by
                    have hc1 := HFIT.out c hc
                    exact ((addB_run (P := Try.prog) (T := 24) hc1.1 HOF.out (hc1.2.mono (by omega)) (HP.out.mono (by omega))).2.pt)
                have hWM : Way (L.map fun z => addB z zb) := ⟨by omega, fun c hc => by
                  obtain ⟨d, hd, rfl⟩ := List.mem_map.1 hc
                  have hc1 := HFIT.out d hd
                  exact (addB_run (P := Try.prog) (T := 24) hc1.1 HOF.out (hc1.2.mono (by omega)) (HP.out.mono (by omega))).2.fits ((Pt.add_le hc1.2 HP.out).mono (by omega))⟩
                generalize (L.map fun z => addB z zb) = M at *
                have HM := Aside0.mk hM
                have HML := Aside0.mk hMl
                have HWM := Aside0.mk hWM
                clear hM hMl hWM hR9 HR HB HB8 hq hlt
                go_wp2_with (fail)
                refine (turned_ok A3 c3 L _ HCL.out HWAY.out).mono ?_
                rintro e w10 ⟨v10, rfl, hR10, hb10⟩
                have hTl : (L.map turnB).length = L.length := List.length_map _
                have hT := turned_pts HWAY.out
                have hWT := HWAY.out.turned
                have hTe : ∃ T1, T1 = L.map turnB := ⟨_, rfl⟩
                obtain ⟨T1, hT1⟩ := hTe
                rw [← hT1] at hTl hT hWT hR10
                obtain ⟨A10, c10, rfl⟩ := Kd.R_slice hR10
                have HCT := Aside0.mk (Kd.R_reads' hR10).2.2
                have HCO := Aside0.mk (Kd.C_below HCO.out hb10)
                have HCL := Aside0.mk (Kd.C_below HCL.out hb10)
                have HCB := Aside0.mk (Kd.C_below HCB.out hb10)
                have HCM := Aside0.mk (Kd.C_below HCM.out hb10)
                have HB10 := Aside0.mk (below_step HB9.out hb10)
                have HT := Aside0.mk hT
                have HTL := Aside0.mk hTl
                have HWT := Aside0.mk hWT
                have HT1 := Aside0.mk hT1
                clear hR10 hb10 hT hTl hWT hT1 HB9
                have hOp : O.map CB.pt = (L.map CB.pt).drop k ++ (L.map CB.pt).take k := by rw [HO.out, List.map_append, List.map_drop, List.map_take]
                have hWO : Way O := ⟨by omega, fun c hc => by
                  rw [HO.out] at hc
                  rcases List.mem_append.1 hc with h | h
                  · exact HWAY.out.2 c (List.mem_of_mem_drop h)
                  · exact HWAY.out.2 c (List.mem_of_mem_take h)⟩
                have hzp : zb.pt = P := HOF.out.pt
                have hzf : zb.fits 4194304 := HOF.out.fits (HP.out.mono (by omega))
                have m2 := mulB_run (P := Try.prog) (T := 24) (a := ⟨4611686018427387904, 0⟩) (b := zb) (p := ⟨2, 0⟩) (q := P) ⟨FI.two, FI.zero⟩ HOF.out ⟨by decide, by decide⟩ (HP.out.mono (by omega))
                have m2e : (⟨2 * P.u - 0 * P.v, 2 * P.v + 0 * P.u⟩ : Pt) = P.add P := by unfold Pt.add; congr 1 <;> omega
                have m2a := m2.1
                have m2b := m2.2
                rw [show (⟨(⟨2, 0⟩ : Pt).u * P.u - (⟨2, 0⟩ : Pt).v * P.v, (⟨2, 0⟩ : Pt).u * P.v + (⟨2, 0⟩ : Pt).v * P.u⟩ : Pt) = P.add P from m2e] at m2b
                generalize mulB ⟨4611686018427387904, 0⟩ zb = z2 at *
                have m3a := (mulB_run (P := Try.prog) (T := 24) HOF.out CB.i_is (HP.out.mono (by omega)) ⟨by decide, by decide⟩).1
                have m3b : (turnB zb).Is P.turned := turnB_is HOF.out (HP.out.mono (by omega))
                have m3f : (turnB zb).fits 4194304 := turnB_fits hzf
                rw [show mulB zb CB.i = turnB zb from rfl] at m3a
                generalize turnB zb = z3 at *
                have hz2f : z2.fits 4194304 := m2b.fits ((Pt.add_le HP.out HP.out).mono (by omega))
                have hz2p : z2.pt = P.add P := m2b.pt
                have hz3p : z3.pt = P.turned := m3b.pt
                have a1 : area (O.map CB.pt) = area (L.map CB.pt) := by rw [hOp, area_rot]
                have a2 : area (K.map CB.pt) = -area (L.map CB.pt) := by rw [HBK.out, area_rev]
                have a3 : area (M.map CB.pt) = area (L.map CB.pt) := by rw [HM.out, area_moved]
                have a4 : area (T1.map CB.pt) = area (L.map CB.pt) := by rw [HT.out, area_turned]
                have a5 : turns zb.pt (O.map CB.pt) = turns zb.pt (L.map CB.pt) := by rw [hOp, turns_rot]
                have a6 : turns z2.pt (M.map CB.pt) = turns zb.pt (L.map CB.pt) := by rw [HM.out, hzp]; exact turns_moved P z2.pt hz2p _
                have a7 : farL z3.pt (T1.map CB.pt) = farL zb.pt (L.map CB.pt) := by rw [HT.out, hzp, hz3p]; exact far_turned P _
                have b1 := HWAY.out.area_le
                have HA1 := Aside0.mk a1
                have HA2 := Aside0.mk a2
                have HA3 := Aside0.mk a3
                have HA4 := Aside0.mk a4
                have HA5 := Aside0.mk a5
                have HA6 := Aside0.mk a6
                have HA7 := Aside0.mk a7
                have HWO := Aside0.mk hWO
                have HZF := Aside0.mk hzf
                have HZ2 := Aside0.mk hz2f
                have HZ3 := Aside0.mk m3f
                clear a1 a2 a3 a4 a5 a6 a7 hWO hzf hz2f m3f hz2p hz3p hzp m2 m2b m2e m3b hOp
                have m3a : ∀ W, (binOp .mul 24 (.complex .f64 zb.re zb.im) (.complex .f64 0 4607182418800017408)).run Try.prog W = .ok (.complex .f64 z3.re z3.im) W := m3a
                have m2a : ∀ W, (binOp .mul 24 (.complex .f64 4611686018427387904 0) (.complex .f64 zb.re zb.im)).run Try.prog W = .ok (.complex .f64 z2.re z2.im) W := m2a
                go_wp2_with (fail)
                refine (area_ok A3 c3 L _ HCL.out HWAY.out).mono ?_
                rintro e w11 ⟨rfl, hb11⟩
                have HCO := Aside0.mk (Kd.C_below HCO.out hb11)
                have HCL := Aside0.mk (Kd.C_below HCL.out hb11)
                have HCB := Aside0.mk (Kd.C_below HCB.out hb11)
                have HCM := Aside0.mk (Kd.C_below HCM.out hb11)
                have HCT := Aside0.mk (Kd.C_below HCT.out hb11)
                have HB10 := Aside0.mk (below_step HB10.out hb11)
                clear hb11
                have ng := iw (-area (L.map CB.pt)) (by omega)
                go_wp2_with (fail)
                have hc := area_ok A6 c6 O _ HCO.out HWO.out
                refine hc.mono ?_
                clear hc
                rintro e w12 ⟨rfl, hb12⟩
                have HCO := Aside0.mk (Kd.C_below HCO.out hb12)
                have HCL := Aside0.mk (Kd.C_below HCL.out hb12)
                have HCB := Aside0.mk (Kd.C_below HCB.out hb12)
                have HCM := Aside0.mk (Kd.C_below HCM.out hb12)
                have HCT := Aside0.mk (Kd.C_below HCT.out hb12)
                have HB10 := Aside0.mk (below_step HB10.out hb12)
                clear hb12
                rw [HA1.out]
                go_wp2_with (fail)
                have hc := area_ok (some ⟨g, 0, none⟩) cg K _ HCB.out HWB.out
                rw [HBL.out] at hc
                refine hc.mono ?_
                clear hc
                rintro e w13 ⟨rfl, hb13⟩
                have HCO := Aside0.mk (Kd.C_below HCO.out hb13)
                have HCL := Aside0.mk (Kd.C_below HCL.out hb13)
                have HCB := Aside0.mk (Kd.C_below HCB.out hb13)
                have HCM := Aside0.mk (Kd.C_below HCM.out hb13)
                have HCT := Aside0.mk (Kd.C_below HCT.out hb13)
                have HB10 := Aside0.mk (below_step HB10.out hb13)
                clear hb13
                rw [HA2.out]
                go_wp2_with (fail)
                have hc := area_ok A' c' M _ HCM.out HWM.out
                rw [HML.out] at hc
                refine hc.mono ?_
                clear hc
                rintro e w14 ⟨rfl, hb14⟩
                have HCO := Aside0.mk (Kd.C_below HCO.out hb14)
                have HCL := Aside0.mk (Kd.C_below HCL.out hb14)
                have HCB := Aside0.mk (Kd.C_below HCB.out hb14)
                have HCM := Aside0.mk (Kd.C_below HCM.out hb14)
                have HCT := Aside0.mk (Kd.C_below HCT.out hb14)
                have HB10 := Aside0.mk (below_step HB10.out hb14)
                clear hb14
                rw [HA3.out]
                go_wp2_with (fail)
                have hc := area_ok A10 c10 T1 _ HCT.out HWT.out
                refine hc.mono ?_
                clear hc
                rintro e w15 ⟨rfl, hb15⟩
                have HCO := Aside0.mk (Kd.C_below HCO.out hb15)
                have HCL := Aside0.mk (Kd.C_below HCL.out hb15)
                have HCB := Aside0.mk (Kd.C_below HCB.out hb15)
                have HCM := Aside0.mk (Kd.C_below HCM.out hb15)
                have HCT := Aside0.mk (Kd.C_below HCT.out hb15)
                have HB10 := Aside0.mk (below_step HB10.out hb15)
                clear hb15
                rw [HA4.out]
                go_wp2_with (fail)
                have hc := turns_ok A6 c6 O zb _ HCO.out HWO.out HZF.out
                refine hc.mono ?_
                clear hc
                rintro e w16 ⟨rfl, hb16⟩
                have HCO := Aside0.mk (Kd.C_below HCO.out hb16)
                have HCL := Aside0.mk (Kd.C_below HCL.out hb16)
                have HCB := Aside0.mk (Kd.C_below HCB.out hb16)
                have HCM := Aside0.mk (Kd.C_below HCM.out hb16)
                have HCT := Aside0.mk (Kd.C_below HCT.out hb16)
                have HB10 := Aside0.mk (below_step HB10.out hb16)
                clear hb16
                rw [HA5.out]
                go_wp2_with (fail)
                have hc := turns_ok A3 c3 L zb _ HCL.out HWAY.out HZF.out
                refine hc.mono ?_
                clear hc
                rintro e w17 ⟨rfl, hb17⟩
                have HCO := Aside0.mk (Kd.C_below HCO.out hb17)
                have HCL := Aside0.mk (Kd.C_below HCL.out hb17)
                have HCB := Aside0.mk (Kd.C_below HCB.out hb17)
                have HCM := Aside0.mk (Kd.C_below HCM.out hb17)
                have HCT := Aside0.mk (Kd.C_below HCT.out hb17)
                have HB10 := Aside0.mk (below_step HB10.out hb17)
                clear hb17
                go_wp2_with (fail)
                have hc := turns_ok A' c' M z2 _ HCM.out HWM.out HZ2.out
                rw [HML.out] at hc
                refine hc.mono ?_
                clear hc
                rintro e w18 ⟨rfl, hb18⟩
                have HCO := Aside0.mk (Kd.C_below HCO.out hb18)
                have HCL := Aside0.mk (Kd.C_below HCL.out hb18)
                have HCB := Aside0.mk (Kd.C_below HCB.out hb18)
                have HCM := Aside0.mk (Kd.C_below HCM.out hb18)
                have HCT := Aside0.mk (Kd.C_below HCT.out hb18)
                have HB10 := Aside0.mk (below_step HB10.out hb18)
                clear hb18
                rw [HA6.out]
                go_wp2_with (fail)
                have hc := turns_ok A3 c3 L zb _ HCL.out HWAY.out HZF.out
                refine hc.mono ?_
                clear hc
                rintro e w19 ⟨rfl, hb19⟩
                have HCO := Aside0.mk (Kd.C_below HCO.out hb19)
                have HCL := Aside0.mk (Kd.C_below HCL.out hb19)
                have HCB := Aside0.mk (Kd.C_below HCB.out hb19)
                have HCM := Aside0.mk (Kd.C_below HCM.out hb19)
                have HCT := Aside0.mk (Kd.C_below HCT.out hb19)
                have HB10 := Aside0.mk (below_step HB10.out hb19)
                clear hb19
                go_wp2_with (fail)
                have hc := far_ok A10 c10 T1 z3 _ HCT.out HWT.out HZ3.out
                refine hc.mono ?_
                clear hc
                rintro e w' ⟨rfl, rfl⟩
                rw [HA7.out]
                go_wp2_with (fail)
                have hc := far_ok A3 c3 L zb _ HCL.out HWAY.out HZF.out
                refine hc.mono ?_
                clear hc
                rintro e w' ⟨rfl, rfl⟩
                go_wp2_with (fail)
                refine (turned_ok A10 c10 T1 _ HCT.out HWT.out).mono ?_
                rintro e wa ⟨va, rfl, hRa, hba⟩
                have hWa := HWT.out.turned
                obtain ⟨T2, hT2⟩ : ∃ T2, T2 = T1.map turnB := ⟨_, rfl⟩
                rw [← hT2] at hWa hRa
                obtain ⟨Aa, ca, rfl⟩ := Kd.R_slice hRa
                have HCT := Aside0.mk (Kd.R_reads' hRa).2.2
                have HCL := Aside0.mk (Kd.C_below HCL.out hba)
                have HB10 := Aside0.mk (below_step HB10.out hba)
                have HT2 := Aside0.mk hT2
                have HWA := Aside0.mk hWa
                clear hRa hba hT2 hWa
                go_wp2_with (fail)
                refine (turned_ok Aa ca T2 _ HCT.out HWA.out).mono ?_
                rintro e wb ⟨vb, rfl, hRb, hbb⟩
                have hWb := HWA.out.turned
                obtain ⟨T3, hT3⟩ : ∃ T3, T3 = T2.map turnB := ⟨_, rfl⟩
                rw [← hT3] at hWb hRb
                obtain ⟨Ab, cb, rfl⟩ := Kd.R_slice hRb
                have HCT := Aside0.mk (Kd.R_reads' hRb).2.2
                have HCL := Aside0.mk (Kd.C_below HCL.out hbb)
                have HB10 := Aside0.mk (below_step HB10.out hbb)
                have HT3 := Aside0.mk hT3
                have HWBB := Aside0.mk hWb
                clear hRb hbb hT3 hWb
                go_wp2_with (fail)
                refine (turned_ok Ab cb T3 _ HCT.out HWBB.out).mono ?_
                rintro e wd ⟨vd, rfl, hRd, hbd⟩
                obtain ⟨T4, hT4a⟩ : ∃ T4, T4 = T3.map turnB := ⟨_, rfl⟩
                rw [← hT4a] at hRd
                obtain ⟨Ad, cd, rfl⟩ := Kd.R_slice hRd
                have HCT := Aside0.mk (Kd.R_reads' hRd).2.2
                have HCL := Aside0.mk (Kd.C_below HCL.out hbd)
                have HB10 := Aside0.mk (below_step HB10.out hbd)
                have hT4 : T4 = (((L.map turnB).map turnB).map turnB).map turnB := by rw [hT4a, HT3.out, HT2.out, HT1.out]
                have HT4 := Aside0.mk hT4
                clear hRd hbd hT4 hT4a
                go_wp2_with (fail)
                refine (equal4 Ad A3 cd c3 T4 L _ HT4.out HCT.out HCL.out HWAY.out).mono ?_
                rintro e wz ⟨rfl, hbz⟩
                have HB10 := Aside0.mk (below_step HB10.out hbz)
                clear hbz
                go_wp2_with (fail)
                go_ret
                exact ⟨rfl, HB10.out⟩
theorem back_law (A0 : Option Addr) (cap0 : Nat) (l0 : List Int) (A1 : Option Addr) (cap1 : Nat) (l1 : List Int) (a2 a3 a4 : Int) (W : World)
    (hC0 : (Kd.int .i64).C W A0 l0.length l0) (hc0 : l0.length ≤ cap0) (hm0 : cap0 ≤ maxLen) (hb0 : l0.length * 8 ≤ 140737488351232) (hw0 : ∀ n ∈ l0, (Lit.int .i64 n).wf = true)
    (hC1 : (Kd.int .i64).C W A1 l1.length l1) (hc1 : l1.length ≤ cap1) (hm1 : cap1 ≤ maxLen) (hb1 : l1.length * 8 ≤ 140737488351232) (hw1 : ∀ n ∈ l1, (Lit.int .i64 n).wf = true)
    (w2 : (Lit.int .u8 a2).wf = true) (w3 : (Lit.int .i32 a3).wf = true) (w4 : (Lit.int .i32 a4).wf = true) :
    Calls Try.prog 6 #[.slice A0 l0.length cap0, .slice A1 l1.length cap1, .int .u8 a2, .int .i32 a3, .int .i32 a4] W fun e w' => e = .returned (.bool true) ∧ Below W.heap.size W w' := by
  have i0 : decide (-2147483648 ≤ a3) = true ∧ decide (a3 ≤ 2147483647) = true := by simpa [Lit.wf, IntKind.min, IntKind.max, IntKind.signed, IntKind.bits] using w3
  have i1 : decide (-2147483648 ≤ a4) = true ∧ decide (a4 ≤ 2147483647) = true := by simpa [Lit.wf, IntKind.min, IntKind.max, IntKind.signed, IntKind.bits] using w4
  have j0 := of_decide_eq_true i0.1
  have j1 := of_decide_eq_true i0.2
  have j2 := of_decide_eq_true i1.1
  have j3 := of_decide_eq_true i1.2
  have x2 := wf_u8 w2
  exact back_ok A0 A1 cap0 cap1 l0 l1 a2 a3 a4 W hC0 hC1 hb0 hb1 (by omega) (by omega) (by omega) (by omega)
end Go.Proofs.Ytahmogobaanklaa.Z

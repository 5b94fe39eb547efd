/- SwingBoxes. -/
import Derived.Test.YtahmogobaanklaaSwrv
import Derived.Deep.QuietTactic
import Derived.BigQuiet
import Derived.Deep.CutBlock
namespace Go.Proofs.Ytahmogobaanklaa.Z
open Go.RowKit Go.Proofs.YtahmogobaanklaaW.PrintWords Go.Proofs.YtahmogobaanklaaW.PrintLast Go.Proofs.YtahmogobaanklaaW.PrintMore
attribute [local go_sem] max2_int min2_int max_two min_two max_three min_three max_four min_four unary_neg_float run_store_complex
set_option linter.unusedVariables false
set_option linter.unusedSimpArgs false
theorem cb_fits_add {z c d : CB} {p q : Pt} {B : Nat} (h : (addB z c).Is (p.add q)) (hb : (p.add q).le B) : (addB z c).fits B := h.fits hb
set_option maxHeartbeats 8000000 in
set_option maxRecDepth 100000 in
theorem boxes_ok (u v wd hg i1 u1 tm : Int) (rt : Bool) (w : World) (hu : u.natAbs ≤ 2147483648) (hv : v.natAbs ≤ 2147483648) (hw0 : 0 ≤ wd) (hw1 : wd ≤ 65535) (hh0 : 0 ≤ hg) (hh1 : hg ≤ 65535) (hi0 : 0 ≤ i1) (hi1 : i1 ≤ 65535) (hu0 : 0 ≤ u1) (hu1 : u1 ≤ 65535) (ht0 : 0 ≤ tm) (ht1 : tm ≤ 255) :
    Calls Try.prog 3 #[.int .i32 u, .int .i32 v, .int .u16 wd, .int .u16 hg, .int .u16 i1, .int .u16 u1, .int .u8 tm, .bool rt] w fun e w' => e = .returned (.bool true) ∧ Below w.heap.size w w' := by
  have iw : ∀ x : Int, x.natAbs ≤ 9000000000000000000 → IntKind.i64.wrap x = x := fun x hx => IntWalk.i64_in _ (by omega)
  have e1 := iw u (by omega)
  have e2 := iw v (by omega)
  have e3 := iw wd (by omega)
  have e4 := iw hg (by omega)
  have e5 := iw i1 (by omega)
  have e6 := iw u1 (by omega)
  have r1 : (u.tmod 524288).natAbs ≤ 2147483648 := by rw [Int.natAbs_tmod]; exact Nat.le_trans (Nat.mod_le _ _) hu
  have r2 : (v.tmod 524288).natAbs ≤ 2147483648 := by rw [Int.natAbs_tmod]; exact Nat.le_trans (Nat.mod_le _ _) hv
  have e7 := iw (u.tmod 524288) (by omega)
  have e8 := iw (v.tmod 524288) (by omega)
  have e9 := iw (2 + wd) (by omega)
  have e10 := iw (2 + hg) (by omega)
  have t0 : 0 ≤ tm.tmod 5 := Int.tmod_nonneg _ ht0
  have t1 : tm.tmod 5 < 5 := Int.tmod_lt_of_pos _ (by omega)
  have e11 : IntKind.u8.wrap (tm.tmod 5) = tm.tmod 5 := IntWalk.u8_in _ (by omega)
  have e12 := iw (tm.tmod 5) (by omega)
  have e13 := iw (1 + tm.tmod 5) (by omega)
  have hq5 : tm.tmod 5 = tm % 5 := Int.tmod_eq_emod_of_nonneg ht0
  obtain ⟨n, hn⟩ : ∃ n : Nat, 1 + tm.tmod 5 = n := ⟨(1 + tm.tmod 5).toNat, by omega⟩
  go_enter Try.func3, Try.ntmps3
  go_wp2_with (fail)
  refine (sawake_ok _).mono ?_
  rintro e w2 ⟨rfl, hb2⟩
  have HB2 := Aside0.mk hb2
  clear hb2
  go_wp2_with (fail)
  refine (at_ok (u.tmod 524288) (v.tmod 524288) _).mono ?_
  rintro e w' ⟨rfl, rfl⟩
  have hP := atP_le (u.tmod 524288) (v.tmod 524288)
  generalize atP (u.tmod 524288) (v.tmod 524288) = P at *
  have hof := CB.of_is (hP.mono (by omega : 1048576 ≤ 16777216))
  generalize CB.of P = zp at *
  obtain ⟨W0, hW0⟩ : ∃ W0, W0 = 2 + wd := ⟨_, rfl⟩
  obtain ⟨H0, hH0⟩ : ∃ H0, H0 = 2 + hg := ⟨_, rfl⟩
  have e9 : IntKind.i64.wrap (2 + wd) = W0 := by rw [hW0]; exact e9
  have e10 : IntKind.i64.wrap (2 + hg) = H0 := by rw [hH0]; exact e10
  have a1 : (⟨floatOfInt .f64 W0, 0⟩ : CB).Is ⟨W0, 0⟩ := ⟨FI.ofInt (by omega), FI.zero⟩
  have a2 : (⟨floatOfInt .f64 W0, floatOfInt .f64 H0⟩ : CB).Is ⟨W0, H0⟩ := ⟨FI.ofInt (by omega), FI.ofInt (by omega)⟩
  have a3 : (⟨0, floatOfInt .f64 H0⟩ : CB).Is ⟨0, H0⟩ := ⟨FI.zero, FI.ofInt (by omega)⟩
  have hPb : P.le 16777216 := hP.mono (by omega)
  obtain ⟨z1, m1, y1⟩ := add_run (P := Try.prog) (T := 24) hof a1 hPb ⟨by show W0.natAbs ≤ _; omega, by show (0 : Int).natAbs ≤ _; omega⟩
  obtain ⟨z2, m2, y2⟩ := add_run (P := Try.prog) (T := 24) hof a2 hPb ⟨by show W0.natAbs ≤ _; omega, by show H0.natAbs ≤ _; omega⟩
  obtain ⟨z3, m3, y3⟩ := add_run (P := Try.prog) (T := 24) hof a3 hPb ⟨by show (0 : Int).natAbs ≤ _; omega, by show H0.natAbs ≤ _; omega⟩
  have hbox : [zp, z1, z2, z3].map CB.pt = boxP P W0 H0 := by
    simp only [List.map_cons, List.map_nil, hof.pt, y1.pt, y2.pt, y3.pt]; rfl
  have hP2 := hP
  obtain ⟨pb1, pb2⟩ := hP2
  have hfit : ∀ c ∈ [zp, z1, z2, z3], c.fits 4194304 := by
    intro c hc
    simp only [List.mem_cons, List.not_mem_nil, or_false] at hc
    rcases hc with rfl | rfl | rfl | rfl
    · exact hof.fits (hP.mono (by omega))
    · exact y1.fits (Pt.le.mono (Pt.add_le hP (B := 65537) ⟨by show W0.natAbs ≤ _; omega, by show (0 : Int).natAbs ≤ _; omega⟩) (by omega))
    · exact y2.fits (Pt.le.mono (Pt.add_le hP (B := 65537) ⟨by show W0.natAbs ≤ _; omega, by show H0.natAbs ≤ _; omega⟩) (by omega))
    · exact y3.fits (Pt.le.mono (Pt.add_le hP (B := 65537) ⟨by show (0 : Int).natAbs ≤ _; omega, by show H0.natAbs ≤ _; omega⟩) (by omega))
  have HFIT := Aside0.mk hfit
  have HBOX := Aside0.mk hbox
  clear hfit hbox y1 y2 y3 a1 a2 a3
  subst hW0
  subst hH0
  go_upto_if 60 with (fail)
  have hblk := Blk.new w2 24 ([zp, z1, z2, z3].map CB.val)
  have hbl : Below w.heap.size w (w2.alloc (.cells ([zp, z1, z2, z3].map CB.val).toArray 24)) := below_alloc HB2.out _
  have hbl : Below w.heap.size w (w2.alloc (.cells #[.complex .f64 zp.re zp.im, .complex .f64 z1.re z1.im, .complex .f64 z2.re z2.im, .complex .f64 z3.re z3.im] 24)) := hbl
  have hblk : Blk (w2.alloc (.cells #[.complex .f64 zp.re zp.im, .complex .f64 z1.re z1.im, .complex .f64 z2.re z2.im, .complex .f64 z3.re z3.im] 24)) w2.heap.size 24 ([zp, z1, z2, z3].map CB.val) := hblk
  have hsz := HB2.out.size
  obtain ⟨g, hg⟩ : ∃ g, g = w2.heap.size := ⟨_, rfl⟩
  rw [← hg] at hblk hsz ⊢
  generalize (w2.alloc (.cells #[.complex .f64 zp.re zp.im, .complex .f64 z1.re z1.im, .complex .f64 z2.re z2.im, .complex .f64 z3.re z3.im] 24)) = w3 at *
  have HBLK := Aside0.mk hblk
  have HBL := Aside0.mk hbl
  clear hblk hbl hg HB2 m1 m2 m3
  go_cut [21] from 61 (fun s wx => ∃ (sg : Int) (CN : List CB), s = .int .i64 sg ∧ (CN.map CB.pt = boxP P (2 + wd) (2 + hg) ∧ sg = 1 ∨ CN.map CB.pt = (boxP P (2 + wd) (2 + hg)).reverse ∧ sg = -1) ∧ (∀ c ∈ CN, c.fits 4194304) ∧ CN.length = 4 ∧ Blk wx g 24 (CN.map CB.val) ∧ Below w.heap.size w wx)
  case first =>
    cases rt
    · go_wp2_with (fail)
      go_meet
      case rel => exact ⟨1, _, rfl, .inl ⟨HBOX.out, rfl⟩, HFIT.out, rfl, HBLK.out, HBL.out⟩
    · go_wp2_with (fail)
      refine (reverse_cb g 4 [zp, z1, z2, z3] [] w3 (by rw [List.append_nil]; exact HBLK.out) (by simp)).mono ?_
      rintro e w4 ⟨rfl, hb4, hk4⟩
      rw [List.append_nil] at hb4
      have HB4 := Aside0.mk hb4
      have HK4 := Aside0.mk (Kp.to_below HBL.out HBL.out.size hk4 (fun b hb => by rw [List.mem_singleton] at hb; omega))
      clear hb4 hk4
      go_wp2_with (fail)
      go_meet
      case rel => exact ⟨-1, _, rfl, .inr ⟨by rw [List.map_reverse, HBOX.out], rfl⟩, fun c hc => HFIT.out c (List.mem_reverse.1 hc), rfl, HB4.out, HK4.out⟩
  case rest =>
    clear HFIT HBOX HBLK HBL
    obtain ⟨sg, CN, rfl, hCN, hfit, hlen, hblk, hbl⟩ := hcut
    have hC := (Kd.R_reads' (cb_own (n := 0) (c := 0) hblk (by omega) (Nat.le_refl g))).2.2
    rw [hlen] at hC
    have HC := Aside0.mk hC
    have HBL := Aside0.mk hbl
    have HFIT := Aside0.mk hfit
    have HCN := Aside0.mk hCN
    have HLN := Aside0.mk hlen
    clear hC hbl hfit hCN hlen hblk
    have hn5 : n ≤ 5 := by omega
    go_wp2_with (fail)
    go_loopw [23, 68] (fun v i wr => ∃ k : Nat, k ≤ n ∧ i = .int .i64 k ∧ CB.kd.R 24 wr wc.heap.size (fun _ => True) v (again CN k) ∧ Below wc.heap.size wc wr) (fun _ i _ => n - (intOf i).toNat)
    case atStart => exact ⟨0, by omega, rfl, Kd.R_nil _ _ _ _ _, Below.refl _ _⟩
    case round =>
      obtain ⟨k, hk, rfl, hR, hbw⟩ := hrel
      have hl : (again CN k).length = k * 4 := by rw [again_len, HLN.out]
      have HR := Aside0.mk hR
      have HBW := Aside0.mk hbw
      have HC2 := Aside0.mk (Kd.C_below HC.out hbw)
      obtain ⟨A, c, rfl⟩ := Kd.R_slice hR
      clear hR hbw
      by_cases hlt : k < n
      · have hlt' : (k : Int) < 1 + tm % 5 := by omega
        go_wp2_with (at_builtin; refine Kd.R_append_row CB.val ⟨0, 0⟩ (h1 := fun _ => rfl) (w0 := wc) wc.heap.size rfl (.tmp 70) (.tmp 71) 27 24 (.complex .f64 0 0) 16 rfl Try.underlying27 (by kernel_rfl) rfl (by decide) _ (again CN k) CN (some ⟨g, 0, none⟩) 4 4 (fun _ => True) rfl rfl (fun _ _ => trivial) HR.out HC2.out HBW.out HBW.out.size (by rw [hl]; omega) ?_; intro v8 w8 hR8 hB8 hg8 _; have HR8 := Aside0.mk hR8; have HB8 := Aside0.mk hB8; clear hR8 hB8 hg8)
        exact ⟨⟨k + 1, by omega, by go_num, HR8.out, HB8.out⟩, by simp [intOf]; omega⟩
      · obtain rfl : k = n := by omega
        have hlt' : ¬ (k : Int) < 1 + tm % 5 := by omega
        have f1 := iw (2 + wd - 1) (by omega)
        have f2 := iw (2 + hg - 1) (by omega)
        have f3 : 0 ≤ i1.tmod (2 + wd - 1) := Int.tmod_nonneg _ hi0
        have f4 : i1.tmod (2 + wd - 1) < 2 + wd - 1 := Int.tmod_lt_of_pos _ (by omega)
        have f5 : 0 ≤ u1.tmod (2 + hg - 1) := Int.tmod_nonneg _ hu0
        have f6 : u1.tmod (2 + hg - 1) < 2 + hg - 1 := Int.tmod_lt_of_pos _ (by omega)
        have f7 : 0 ≤ u1 % (2 + hg) := Int.emod_nonneg _ (by omega)
        have f8 : u1 % (2 + hg) < 2 + hg := Int.emod_lt_of_pos _ (by omega)
        have n1 : ¬ (2 + wd - 1 = 0) := by omega
        have n2 : ¬ (2 + hg - 1 = 0) := by omega
        have n3 : ¬ (2 + hg = 0) := by omega
        have w1 := iw (i1.tmod (2 + wd - 1)) (by omega)
        have w2' := iw (1 + i1.tmod (2 + wd - 1)) (by omega)
        have w3' := iw (u1.tmod (2 + hg - 1)) (by omega)
        have w4 := iw (1 + u1.tmod (2 + hg - 1)) (by omega)
        have w5 := iw (u1 % (2 + hg)) (by omega)
        have w6 := iw (2 + wd + 1) (by omega)
        have w7 := iw (2 + wd + 1 + i1) (by omega)
        have a1 : (⟨floatOfInt .f64 (1 + i1.tmod (2 + wd - 1)), floatOfInt .f64 (1 + u1.tmod (2 + hg - 1))⟩ : CB).Is ⟨1 + i1.tmod (2 + wd - 1), 1 + u1.tmod (2 + hg - 1)⟩ := ⟨FI.ofInt (by omega), FI.ofInt (by omega)⟩
        have a2 : (⟨floatOfInt .f64 (2 + wd + 1 + i1), floatOfInt .f64 (u1 % (2 + hg))⟩ : CB).Is ⟨2 + wd + 1 + i1, u1 % (2 + hg)⟩ := ⟨FI.ofInt (by omega), FI.ofInt (by omega)⟩
        obtain ⟨z4, m4, y4⟩ := add_run (P := Try.prog) (T := 24) hof a1 hPb ⟨by show (1 + i1.tmod (2 + wd - 1)).natAbs ≤ _; omega, by show (1 + u1.tmod (2 + hg - 1)).natAbs ≤ _; omega⟩
        obtain ⟨z5, m5, y5⟩ := add_run (P := Try.prog) (T := 24) hof a2 hPb ⟨by show (2 + wd + 1 + i1).natAbs ≤ _; omega, by show (u1 % (2 + hg)).natAbs ≤ _; omega⟩
        have HY4 := Aside0.mk y4
        have HY5 := Aside0.mk y5
        clear y4 y5 a1 a2
        go_wp2_with (fail)
        go_quiet (fail)
        go_wp2_with (fail)
        have hk0 : 0 < k := by omega
        have hsg : sg.natAbs = 1 := by rcases HCN.out with ⟨_, h⟩ | ⟨_, h⟩ <;> rw [h] <;> rfl
        have hkk : (k : Int) = 1 + tm % 5 := by omega
        have hpts : (again CN k).map CB.pt = again (CN.map CB.pt) k := again_map _ _ _
        have hz4 : z4.pt = P.add ⟨1 + i1.tmod (2 + wd - 1), 1 + u1.tmod (2 + hg - 1)⟩ := HY4.out.pt
        have hz5 : z5.pt = P.add ⟨2 + wd + 1 + i1, u1 % (2 + hg)⟩ := HY5.out.pt
        have hzp : zp.pt = P := hof.pt
        have hA : area ((again CN k).map CB.pt) = 2 * (sg * (1 + tm % 5)) * (2 + wd) * (2 + hg) := by
          rw [hpts]
          rcases HCN.out with ⟨h1, h2⟩ | ⟨h1, h2⟩
          · have e1 := (again_sum (f := crs) (l := CN.map CB.pt) (s := P) (by rw [h1]; rfl) k).1
            have e2 := (box_area P (2 + wd) (2 + hg)).1
            rw [h1] at e1 ⊢
            show sumE crs _ _ = _
            rw [e1, show sumE crs (boxP P (2 + wd) (2 + hg)) (boxP P (2 + wd) (2 + hg)).length = _ from e2, h2, hkk]
            grind
          · have e1 := (again_sum (f := crs) (l := CN.map CB.pt) (s := P.add ⟨0, 2 + hg⟩) (by rw [h1]; rfl) k).1
            have e2 := (box_area P (2 + wd) (2 + hg)).2
            rw [h1] at e1 ⊢
            show sumE crs _ _ = _
            rw [e1, show sumE crs (boxP P (2 + wd) (2 + hg)).reverse (boxP P (2 + wd) (2 + hg)).reverse.length = _ from e2, h2, hkk]
            grind
        have hT : turns z4.pt ((again CN k).map CB.pt) = sg * (1 + tm % 5) := by
          rw [hpts]
          have e2 := box_inside P z4.pt (2 + wd) (2 + hg) _ _ hz4 (by omega) (by omega) (by omega) (by omega)
          rcases HCN.out with ⟨h1, h2⟩ | ⟨h1, h2⟩
          · have e1 := (again_sum (f := trn z4.pt) (l := CN.map CB.pt) (s := P) (by rw [h1]; rfl) k).1
            rw [h1] at e1 ⊢
            show sumE (trn z4.pt) _ _ = _
            rw [e1, show sumE (trn z4.pt) (boxP P (2 + wd) (2 + hg)) (boxP P (2 + wd) (2 + hg)).length = _ from e2.1, h2, hkk]
            omega
          · have e1 := (again_sum (f := trn z4.pt) (l := CN.map CB.pt) (s := P.add ⟨0, 2 + hg⟩) (by rw [h1]; rfl) k).1
            rw [h1] at e1 ⊢
            show sumE (trn z4.pt) _ _ = _
            rw [e1, show sumE (trn z4.pt) (boxP P (2 + wd) (2 + hg)).reverse (boxP P (2 + wd) (2 + hg)).reverse.length = _ from e2.2, h2, hkk]
            omega
        have hO : turns z5.pt ((again CN k).map CB.pt) = 0 := by
          rw [hpts]
          have e2 := box_outside P z5.pt (2 + wd) (2 + hg) _ _ hz5 (by omega) (by omega) (by omega) (by omega)
          rcases HCN.out with ⟨h1, h2⟩ | ⟨h1, h2⟩
          · have e1 := (again_sum (f := trn z5.pt) (l := CN.map CB.pt) (s := P) (by rw [h1]; rfl) k).1
            rw [h1] at e1 ⊢
            show sumE (trn z5.pt) _ _ = _
            rw [e1, show sumE (trn z5.pt) (boxP P (2 + wd) (2 + hg)) (boxP P (2 + wd) (2 + hg)).length = _ from e2.1, Int.mul_zero]
          · have e1 := (again_sum (f := trn z5.pt) (l := CN.map CB.pt) (s := P.add ⟨0, 2 + hg⟩) (by rw [h1]; rfl) k).1
            rw [h1] at e1 ⊢
            show sumE (trn z5.pt) _ _ = _
            rw [e1, show sumE (trn z5.pt) (boxP P (2 + wd) (2 + hg)).reverse (boxP P (2 + wd) (2 + hg)).reverse.length = _ from e2.2, Int.mul_zero]
        have hF : farL zp.pt ((again CN k).map CB.pt) = (2 + wd) * (2 + wd) + (2 + hg) * (2 + hg) := by
          rw [hpts, hzp]
          apply box_far
          intro q
          rw [again_mem hk0]
          rcases HCN.out with ⟨h1, h2⟩ | ⟨h1, h2⟩
          · rw [h1]
          · rw [h1, List.mem_reverse]
        have hway : Way (again CN k) := ⟨by rw [hl]; omega, fun c hc => HFIT.out c ((again_mem hk0 c).1 hc)⟩
        have hf4 : z4.fits 4194304 := HY4.out.fits (Pt.le.mono (Pt.add_le hP (B := 65537) ⟨by show (1 + i1.tmod (2 + wd - 1)).natAbs ≤ _; omega, by show (1 + u1.tmod (2 + hg - 1)).natAbs ≤ _; omega⟩) (by omega))
        have hf5 : z5.fits 4194304 := HY5.out.fits (Pt.le.mono (Pt.add_le hP (B := 131073) ⟨by show (2 + wd + 1 + i1).natAbs ≤ _; omega, by show (u1 % (2 + hg)).natAbs ≤ _; omega⟩) (by omega))
        have hfp : zp.fits 4194304 := hof.fits (hP.mono (by omega))
        have b0 : (sg * (1 + tm % 5)).natAbs ≤ 5 := by rw [Int.natAbs_mul, hsg]; omega
        have b1 : (2 * (sg * (1 + tm % 5))).natAbs ≤ 10 := by omega
        have b2 : (2 * (sg * (1 + tm % 5)) * (2 + wd)).natAbs ≤ 10 * 65537 := mul_le b1 (by omega)
        have b3 : (2 * (sg * (1 + tm % 5)) * (2 + wd) * (2 + hg)).natAbs ≤ 10 * 65537 * 65537 := mul_le b2 (by omega)
        have b4 : ((2 + wd) * (2 + wd)).natAbs ≤ 65537 * 65537 := mul_le (by omega) (by omega)
        have b5 : ((2 + hg) * (2 + hg)).natAbs ≤ 65537 * 65537 := mul_le (by omega) (by omega)
        have p0 := iw (sg * (1 + tm % 5)) (by omega)
        have p1 := iw (2 * (sg * (1 + tm % 5))) (by omega)
        have p2 := iw (2 * (sg * (1 + tm % 5)) * (2 + wd)) (by omega)
        have p3 := iw (2 * (sg * (1 + tm % 5)) * (2 + wd) * (2 + hg)) (by omega)
        have p4 := iw ((2 + wd) * (2 + wd)) (by omega)
        have p5 := iw ((2 + hg) * (2 + hg)) (by omega)
        have p6 := iw ((2 + wd) * (2 + wd) + (2 + hg) * (2 + hg)) (by omega)
        have HA := Aside0.mk hA
        have HT := Aside0.mk hT
        have HO := Aside0.mk hO
        have HF := Aside0.mk hF
        have HWY := Aside0.mk hway
        have HF4 := Aside0.mk hf4
        have HF5 := Aside0.mk hf5
        have HFP := Aside0.mk hfp
        have HCX := Aside0.mk (Kd.R_reads' HR.out).2.2
        have HBX := Aside0.mk (below_step HBL.out HBW.out)
        clear hA hT hO hF hway hf4 hf5 hfp hpts hz4 hz5 HCN HY4 HY5
        have hcx : CB.kd.C (wr.drewN nq) A (again CN k).length (again CN k) := Kd.C_below HCX.out (below_drewN (Below.refl _ _) nq)
        have HCX := Aside0.mk hcx
        have HBX := Aside0.mk (below_drewN HBX.out nq)
        clear hcx
        have hc := area_ok A c (again CN k) _ HCX.out HWY.out
        rw [hl] at hc
        refine hc.mono ?_
        clear hc
        rintro e w9 ⟨rfl, hb9⟩
        have HCX := Aside0.mk (Kd.C_below HCX.out hb9)
        have HBX := Aside0.mk (below_step HBX.out hb9)
        rw [HA.out]
        clear hb9
        go_wp2_with (fail)
        have hc := turns_ok A c (again CN k) z4 _ HCX.out HWY.out HF4.out
        rw [hl] at hc
        refine hc.mono ?_
        clear hc
        rintro e w10 ⟨rfl, hb10⟩
        have HCX := Aside0.mk (Kd.C_below HCX.out hb10)
        have HBX := Aside0.mk (below_step HBX.out hb10)
        rw [HT.out]
        clear hb10
        go_wp2_with (fail)
        have hc := turns_ok A c (again CN k) z5 _ HCX.out HWY.out HF5.out
        rw [hl] at hc
        refine hc.mono ?_
        clear hc
        rintro e w11 ⟨rfl, hb11⟩
        have HCX := Aside0.mk (Kd.C_below HCX.out hb11)
        have HBX := Aside0.mk (below_step HBX.out hb11)
        rw [HO.out]
        clear hb11
        go_wp2_with (fail)
        have hc := far_ok A c (again CN k) zp _ HCX.out HWY.out HFP.out
        rw [hl] at hc
        refine hc.mono ?_
        clear hc
        rintro e w12 ⟨rfl, rfl⟩
        rw [HF.out]
        go_wp2_with (fail)
        go_ret
        exact ⟨rfl, HBX.out⟩
theorem boxes_law (a0 a1 a2 a3 a4 a5 a6 : Int) (a7 : Bool) (W : World) (w0 : (Lit.int .i32 a0).wf = true) (w1 : (Lit.int .i32 a1).wf = true) (w2 : (Lit.int .u16 a2).wf = true) (w3 : (Lit.int .u16 a3).wf = true) (w4 : (Lit.int .u16 a4).wf = true) (w5 : (Lit.int .u16 a5).wf = true) (w6 : (Lit.int .u8 a6).wf = true) :
    Calls Try.prog 3 #[.int .i32 a0, .int .i32 a1, .int .u16 a2, .int .u16 a3, .int .u16 a4, .int .u16 a5, .int .u8 a6, .bool a7] W fun e w' => e = .returned (.bool true) ∧ Below W.heap.size W w' := by
  have i0 : decide (-2147483648 ≤ a0) = true ∧ decide (a0 ≤ 2147483647) = true := by simpa [Lit.wf, IntKind.min, IntKind.max, IntKind.signed, IntKind.bits] using w0
  have i1 : decide (-2147483648 ≤ a1) = true ∧ decide (a1 ≤ 2147483647) = true := by simpa [Lit.wf, IntKind.min, IntKind.max, IntKind.signed, IntKind.bits] using w1
  have j0 := of_decide_eq_true i0.1
  have j1 := of_decide_eq_true i0.2
  have j2 := of_decide_eq_true i1.1
  have j3 := of_decide_eq_true i1.2
  have x2 := wf_u16 w2
  have x3 := wf_u16 w3
  have x4 := wf_u16 w4
  have x5 := wf_u16 w5
  have x6 := wf_u8 w6
  exact boxes_ok a0 a1 a2 a3 a4 a5 a6 a7 W (by omega) (by omega) (by omega) (by omega) (by omega) (by omega) (by omega) (by omega) (by omega) (by omega) (by omega) (by omega)
end Go.Proofs.Ytahmogobaanklaa.Z

/- HeapAgain. -/
import Derived.Test.YtphkahphpgipkaaHpgp
import Derived.BigRegion
namespace Go.Proofs.Ytphkahphpgipkaa.Z
open Go.RowKit Go.Proofs.YtphkahphpgipkaaW.PrintWords Go.Proofs.YtphkahphpgipkaaW.PrintLast Go.Proofs.YtphkahphpgipkaaW.PrintMore
attribute [local go_sem] max2_int min2_int max_two min_two max_three min_three max_four min_four
set_option linter.unusedVariables false
set_option linter.unusedSimpArgs false
set_option maxHeartbeats 8000000 in
set_option maxRecDepth 100000 in
theorem heapAgain_body (A : Option Addr) (cap : Nat) (l : List Int) (B : Option Addr) (cb : Nat) (O : List Int) (C : Option Addr) (cc : Nat) (G : List Int) (w : World) (hC : (Kd.int .i64).C w A l.length l) (hlc : l.length ≤ cap) (hcap : cap ≤ maxLen) (hy : l.length * 8 ≤ 140737488351232) (hok : ∀ x ∈ l, (Lit.int .i64 x).wf = true)
    (hD : (Kd.int .u8).C w B O.length O) (hld : O.length ≤ cb) (hcb : cb ≤ maxLen) (hyd : O.length * 1 ≤ 140737488351232) (hokd : ∀ x ∈ O, (Lit.int .u8 x).wf = true)
    (hE : (Kd.int .u8).C w C G.length G) (hle : G.length ≤ cc) (hcc : cc ≤ maxLen) (hye : G.length * 1 ≤ 140737488351232) (hoke : ∀ x ∈ G, (Lit.int .u8 x).wf = true) :
    Calls Try.prog 5 #[.slice A l.length cap, .slice B O.length cb, .slice C G.length cc] w fun e w' => e = .returned (.bool true) ∧ Below w.heap.size w w' := by
  unfold maxLen at hcap hcb hcc
  obtain ⟨m, hm, hm1, hm2⟩ : ∃ m : Nat, (if 40 < (l.length : Int) then (40 : Int) else (l.length : Int)) = m ∧ m ≤ l.length ∧ m ≤ 40 := by
    by_cases h : 40 < l.length
    · exact ⟨40, by rw [if_pos (by omega)]; rfl, by omega, by omega⟩
    · exact ⟨l.length, by rw [if_neg (by omega)], by omega, by omega⟩
  obtain ⟨K, hK⟩ : ∃ K, K = l.take m := ⟨_, rfl⟩
  have hKl : K.length = m := by rw [hK, List.length_take]; omega
  have hC2 := Kd.C_take hC hm1
  rw [← hK, hKl] at hC2
  have hKok : ∀ x ∈ K, x ≤ 9223372036854775807 := fun x hx => by
    have := hok x (List.mem_of_mem_take (hK ▸ hx))
    simp [Lit.wf] at this
    omega
  have hOok : ∀ x ∈ O, 0 ≤ x ∧ x ≤ 255 := fun x hx => by
    have := hokd x hx
    exact u8_in this
  have hGok : ∀ x ∈ G, 0 ≤ x ∧ x ≤ 255 := fun x hx => by
    have := hoke x hx
    exact u8_in this
  obtain ⟨nO, hnO⟩ : ∃ nO, nO = O.length := ⟨_, rfl⟩
  obtain ⟨nG, hnG⟩ : ∃ nG, nG = G.length := ⟨_, rfl⟩
  rw [← hnO] at hD hld
  rw [← hnG] at hE hle
  rw [← hnO, ← hnG]
  have HC := Aside0.mk (And.intro hC2 (And.intro hD hE))
  have HK := Aside0.mk (And.intro hKl (And.intro hnO hnG))
  have HOK := Aside0.mk (And.intro hKok (And.intro hOok hGok))
  clear hC hC2 hK hKl hok hokd hoke hy hyd hye hD hE hnO hnG hKok hOok hGok
  go_enter Try.func5, Try.ntmps5
  go_wp2_with (fail)
  refine (awake_ok _).mono ?_
  rintro e w1 ⟨rfl, hb⟩
  have HB := Aside0.mk hb
  have HC1 := Aside0.mk (And.intro (Kd.C_below HC.out.1 hb) (And.intro (Kd.C_below HC.out.2.1 hb) (Kd.C_below HC.out.2.2 hb)))
  clear hb HC
  by_cases hm0 : m = 0
  · subst hm0
    go_wp2_with (fail)
    go_ret
    exact ⟨rfl, HB.out⟩
  · have hm0' : ((m : Int) == 0) = false := by rw [beq_eq_false_iff_ne]; omega
    have HN := Aside0.mk (m_new m (by omega) (by omega))
    have hmi : (m : Int) ≤ 40 := by omega
    go_wp2_with (fail)
    refine (HN.out w1).mono ?_
    rintro e w2 ⟨ga, baa, rfl, hMa⟩
    have HA2 := Aside0.mk hMa
    clear hMa
    go_wp2_with (fail)
    refine (HN.out w2).mono ?_
    rintro e w3 ⟨gb, bab, rfl, hMb⟩
    have HA := Aside0.mk (HA2.out.below hMb.bel)
    have HBB := Aside0.mk (hMb.later HA2.out.bel)
    have HAP : Aside0 (∀ x ∈ hown ga baa (.slice none 0 0), x ∉ hown gb bab (.slice none 0 0)) := ⟨fun x h1 h2 => by
      have := HA2.out.hs.lts x h1
      have := hMb.own x h2
      omega⟩
    clear hMb HA2 HN
    go_wp2_with (fail)
    go_loopw [11, 44] (fun s i wr => ∃ k : Nat, k ≤ m ∧ i = .int .i64 k ∧ (Kd.int .i64).R 3 wr w3.heap.size (fun _ => True) s (ints k) ∧ Below w3.heap.size w3 wr) (fun s i _ => m - (intOf i).toNat)
    case atStart => exact ⟨0, Nat.zero_le _, rfl, Kd.R_nil _ _ _ _ _, Below.refl _ _⟩
    case round =>
      obtain ⟨k, hk, rfl, hR, hBt⟩ := hrel
      by_cases hlt : k < m
      · have hlt' : (k : Int) < (m : Int) := by omega
        have k0 : (0 : Int) ≤ (k : Int) := by omega
        have hkb : (k : Int) + 1 ≤ 1024 := by omega
        have h8 : ((ints k).length + 1) * 8 ≤ 140737488355328 := by rw [ints_len]; omega
        have hbs := hBt.size
        have HR := Aside0.mk (And.intro hR hBt)
        clear hR hBt
        go_wp2_with (at_builtin; refine Kd.R_append (Kd.int .i64) (w0 := w3) w3.heap.size rfl (.tmp 47) (.tmp 49) 30 3 (.int .i64 0) 8 rfl Try.underlying30 (by kernel_rfl) rfl (by decide) (by omega) _ (ints k) (k : Int) [.int .i64 (k : Int)] (fun _ => True) (fun _ => False) rfl rfl rfl (fun _ hk => hk.elim) (fun _ _ => trivial) HR.out.1 HR.out.2 hbs h8 ?_; intro v1 w4 hR1 hB1 hg1 ho1; have HR1 := Aside0.mk (And.intro hR1 hB1); clear hR1 hB1 hg1 ho1)
        refine ⟨⟨k + 1, by omega, by go_num, by rw [ints_succ]; exact HR1.out.1, HR1.out.2⟩, by simp [intOf]; omega⟩
      · obtain rfl : k = m := by omega
        obtain ⟨gt, ct, hv, hgt, -⟩ := Kd.R_form hR (by rw [ints_len]; omega)
        rw [ints_len] at hv
        subst hv
        have HTR := Aside0.mk (And.intro hR hBt)
        clear hR hBt
        go_wp2_with (fail)
        clear hlt
        go_loopw [54] (fun i wr => ∃ (q : Nat) (τ : List Int), q ≤ k ∧ i = .int .i64 q ∧ (Kd.int .i64).R 3 wr w3.heap.size (fun _ => True) (.slice (some ⟨gt, 0, none⟩) k ct) τ ∧ τ.Perm (ints k) ∧ Below w3.heap.size w3 wr) (fun i _ => k - (intOf i).toNat)
        case atStart => exact ⟨0, _, Nat.zero_le _, rfl, HTR.out.1, List.Perm.refl _, HTR.out.2⟩
        case round =>
          clear HTR
          obtain ⟨q, τ, hq, rfl, hR, hτ, hBt⟩ := hrel
          have hτl : τ.length = k := by rw [hτ.length_eq, ints_len]
          by_cases hlq : q < k
          · have hlq' : (q : Int) < (k : Int) := by omega
            have q0 : (0 : Int) ≤ (q : Int) := by omega
            have hqb : (q : Int) + 1 ≤ 1024 := by omega
            by_cases hqo : q < nO
            · have hqo' : (q : Int) < (nO : Int) := by omega
              obtain ⟨ao, rfl⟩ := C_someK HC1.out.2.1 (by omega)
              obtain ⟨o, hOo⟩ : ∃ o, O[q]? = some o := ⟨_, List.getElem?_eq_getElem (by rw [← HK.out.2.1]; exact hqo)⟩
              have ho := HOK.out.2.1 o (List.mem_of_getElem? hOo)
              have c1 := i_came (Kd.C_below HC1.out.2.1 (HA.out.bel.trans (hBt.mono HA.out.bel.size))) hOo
              obtain ⟨r, hr1, hr2⟩ : ∃ r : Nat, o % ((k : Int) - q) = (r : Int) ∧ r < k - q := by
                have h1 := Int.emod_nonneg o (show (k : Int) - q ≠ 0 by omega)
                have h2 := Int.emod_lt_of_pos o (show (0 : Int) < (k : Int) - q by omega)
                exact ⟨(o % ((k : Int) - q)).toNat, by omega, by omega⟩
              have hr3 : o.tmod ((k : Int) - q) = (r : Int) := by rw [Int.tmod_eq_emod_of_nonneg ho.1]; exact hr1
              obtain ⟨ho1, ho2⟩ := ho
              obtain ⟨j, hj⟩ : ∃ j, j = q + r := ⟨_, rfl⟩
              have hj1 : (q : Int) + r = (j : Int) := by omega
              have hj2 : (j : Int) < (k : Int) := by omega
              obtain ⟨x, hx⟩ : ∃ x, τ[q]? = some x := ⟨_, List.getElem?_eq_getElem (by rw [hτl]; exact hlq)⟩
              obtain ⟨y, hy⟩ : ∃ y, τ[j]? = some y := ⟨_, List.getElem?_eq_getElem (by rw [hτl]; omega)⟩
              have HS := Aside0.mk (And.intro hR (And.intro hτ (And.intro hBt (And.intro hx (And.intro hy (And.intro hτl hj))))))
              clear hR hτ hBt hx hy hτl hOo hj
              go_upto_region 19 with (fail)
              have hCτ := (Kd.R_reads' HS.out.1).2.2
              have d1 := i_came hCτ HS.out.2.2.2.1
              have d2 := i_came hCτ HS.out.2.2.2.2.1
              rw [add_plain] at d1 d2
              have f1 : wr.frozen? ⟨gt, q, none⟩ = false := (Kd.R_celln 0 HS.out.1 (q : Int) q0 hlq').2
              have f2 : wr.frozen? ⟨gt, j, none⟩ = false := (Kd.R_celln 0 HS.out.1 (j : Int) (by omega) hj2).2
              have g1 : wr.drew.frozen? ⟨gt, q, none⟩ = false := f1
              have g2 : wr.drew.frozen? ⟨gt, j, none⟩ = false := f2
              have j0 : (0 : Int) ≤ (j : Int) := by omega
              obtain ⟨v1, e1⟩ := cell?_setCell_some (w := wr) (p := ⟨gt, q, none⟩) (x := .int .i64 y) (q := ⟨gt, j, none⟩) (v := .int .i64 y) d2
              obtain ⟨v2, e2⟩ := cell?_setCell_some (w := wr) (p := ⟨gt, j, none⟩) (x := .int .i64 x) (q := ⟨gt, q, none⟩) (v := .int .i64 x) d1
              clear hCτ hr1 hr3
              go_region
              generalize hw : World.drew _ = w5
              have hR5 : (Kd.int .i64).R 3 w5 w3.heap.size (fun _ => True) (.slice (some ⟨gt, 0, none⟩) k ct) ((τ.set q y).set j x) := by
                rw [← hw]
                exact Kd.R_drew (Kd.R_putn (Kd.R_putn HS.out.1 (q : Int) y) (j : Int) x)
              have hB5 : Below w3.heap.size w3 w5 := by
                rw [← hw]
                exact below_drew ((HS.out.2.2.1.setCell (p := ⟨gt, q, none⟩) hgt _).setCell (p := ⟨gt, j, none⟩) hgt _)
              have HS5 := Aside0.mk (And.intro hR5 (And.intro ((swap_perm HS.out.2.2.2.1 HS.out.2.2.2.2.1).trans HS.out.2.1) hB5))
              clear hR5 hB5 hw d1 d2 f1 f2 g1 g2 e1 e2
              go_wp2_with (fail)
              exact ⟨⟨q + 1, _, by omega, by go_num, HS5.out.1, HS5.out.2.1, HS5.out.2.2⟩, by simp [intOf]; omega⟩
            · have hqo' : decide ((q : Int) < (nO : Int)) = false := decide_eq_false (by omega)
              have HS := Aside0.mk (And.intro hR (And.intro hτ hBt))
              clear hR hτ hBt hτl
              go_wp2_with (fail)
              exact ⟨⟨q + 1, τ, by omega, by go_num, HS.out.1, HS.out.2.1, HS.out.2.2⟩, by simp [intOf]; omega⟩
          · have hAB : AB w1 wr ga baa gb bab gt ct k (.slice none 0 0) (.slice none 0 0) [] [] τ :=
              ⟨HA.out.below hBt, HBB.out.below hBt, HAP.out, fun h => by have := HA.out.hs.lts gt h; omega, fun h => by have := HBB.out.hs.lts gt h; omega, Kd.R_lower (Kd.R_mono (Kd.R_tight rfl hR) (fun b hb => by have : some b = some gt := hb; injection this)) (Nat.zero_le _)⟩
            have HX := Aside0.mk hAB
            have HTAU := Aside0.mk (And.intro hτ hτl)
            clear hAB hR hτ hBt hτl HA HBB HAP
            go_wp2_with (fail)
            go_loopw [90] (fun i wr => ∃ (p : Nat) (va vb : Value) (Sa Sb : List En), p ≤ k ∧ i = .int .i64 p ∧ AB w1 wr ga baa gb bab gt ct k va vb Sa Sb τ ∧ PutI (pa K) p Sa ∧ PutI (pb K τ) p Sb) (fun i _ => k - (intOf i).toNat)
            case atStart => exact ⟨0, _, _, [], [], Nat.zero_le _, rfl, HX.out, PutI.zero _, PutI.zero _⟩
            case round =>
              clear HX
              obtain ⟨p, va, vb, Sa, Sb, hp, rfl, hAB, hPa, hPb⟩ := hrel
              by_cases hlp : p < k
              · have hlp' : (p : Int) < (k : Int) := by omega
                have p0 : (0 : Int) ≤ (p : Int) := by omega
                have hpb : (p : Int) + 1 ≤ 1024 := by omega
                obtain ⟨ad, rfl⟩ := C_some HC1.out.1 (by omega)
                obtain ⟨x, hKx⟩ : ∃ x, K[p]? = some x := ⟨_, List.getElem?_eq_getElem (by rw [HK.out.1]; exact hlp)⟩
                have c1 := i_came (Kd.C_below HC1.out.1 hAB.a.bel) hKx
                have hda : pa K p = ⟨x, 7, p⟩ := by simp [pa, hKx]
                obtain ⟨jt, hjt, hτp, hdb⟩ := pb_at (K := K) HTAU.out.1 hlp
                obtain ⟨y, hKy⟩ : ∃ y, K[jt]? = some y := ⟨_, List.getElem?_eq_getElem (by rw [HK.out.1]; exact hjt)⟩
                have hda2 : pa K jt = ⟨y, 7, jt⟩ := by simp [pa, hKy]
                rw [hda2] at hdb
                have hput := m_put w1 ga baa k va Sa ⟨x, 7, p⟩ wr hAB.a (by simp; omega) (by rw [← hda]; exact hPa.new (fun j hj => by simp [pa]; omega))
                have HPU := Aside0.mk hput
                have HAB := Aside0.mk hAB
                have HQ := Aside0.mk (And.intro hda (And.intro hdb (And.intro hPa (And.intro hPb (And.intro hτp hKy)))))
                clear hput hAB hda hdb hda2 hPa hPb hτp hKy hKx
                go_wp2_with (fail)
                refine HPU.out.mono ?_
                rintro e w5 ⟨rfl, va', hn⟩
                have hAB5 := HAB.out.stepA hn
                have hput := m_put w1 gb bab k vb Sb ⟨y, 7, jt⟩ w5.drew (hAB5.b.below (below_drew (Below.refl _ _))) (by simp; omega) (by rw [← HQ.out.2.1]; exact HQ.out.2.2.2.1.new (fun j hj => pb_ne HTAU.out.1 hlp hj))
                have y1 := i_came (Kd.R_reads' hAB5.tr).2.2 HQ.out.2.2.2.2.1
                rw [add_plain] at y1
                have y2 := i_came (Kd.C_below HC1.out.1 hAB5.a.bel) HQ.out.2.2.2.2.2
                have jt0 : (0 : Int) ≤ (jt : Int) := by omega
                have jt1 : (jt : Int) < (k : Int) := by omega
                have HPB := Aside0.mk hput
                have HAB5 := Aside0.mk (hAB5.below (below_drew (Below.refl _ _)))
                clear hn hAB5 hput HPU HAB c1
                go_upto_region 25 with (fail)
                go_still_tail 12, (by kernel_rfl)
                change wpList _ _ _ _ _ w5.drew
                clear y1 y2
                go_wp2_with (fail)
                refine HPB.out.mono ?_
                rintro e w6 ⟨rfl, vb', hn⟩
                have HAB6 := Aside0.mk (HAB5.out.stepB hn)
                clear hn HPB HAB5
                go_wp2_with (fail)
                refine ⟨⟨p + 1, va', vb', _, _, by omega, by go_num, HAB6.out, ?_, ?_⟩, by simp [intOf]; omega⟩
                · have := HQ.out.2.2.1.succ
                  rw [HQ.out.1] at this
                  exact this
                · have := HQ.out.2.2.2.1.succ
                  rw [HQ.out.2.1] at this
                  exact this
              · obtain rfl : p = k := by omega
                have hss := same_set HTAU.out.1 hPa hPb hAB.a.srt hAB.b.srt
                subst hss
                have HPA := Aside0.mk hPa
                have HAB := Aside0.mk hAB
                clear hPa hPb hAB
                go_wp2_with (fail)
                go_loopw [115] (fun i wr => ∃ (q : Nat) (vb : Value), q ≤ nG ∧ i = .int .i64 q ∧ AB w1 wr ga baa gb bab gt ct p va vb Sa Sa τ) (fun i _ => nG - (intOf i).toNat)
                case atStart => exact ⟨0, vb, Nat.zero_le _, rfl, HAB.out⟩
                case round =>
                  clear HAB
                  obtain ⟨q, vb, hq, rfl, hAB⟩ := hrel
                  by_cases hlg : q < nG
                  · have hlg' : (q : Int) < (nG : Int) := by omega
                    have q0 : (0 : Int) ≤ (q : Int) := by omega
                    have hqb : (q : Int) + 1 ≤ 9223372036854775807 := by omega
                    obtain ⟨ag, rfl⟩ := C_someK HC1.out.2.2 (by omega)
                    obtain ⟨o, hGo⟩ : ∃ o, G[q]? = some o := ⟨_, List.getElem?_eq_getElem (by rw [← HK.out.2.2]; exact hlg)⟩
                    have ho := HOK.out.2.2 o (List.mem_of_getElem? hGo)
                    have c1 := i_came (Kd.C_below HC1.out.2.2 hAB.a.bel) hGo
                    obtain ⟨jt, hr1, hr2⟩ : ∃ r : Nat, o % (p : Int) = (r : Int) ∧ r < p := by
                      have h1 := Int.emod_nonneg o (show (p : Int) ≠ 0 by omega)
                      have h2 := Int.emod_lt_of_pos o (show (0 : Int) < (p : Int) by omega)
                      exact ⟨(o % (p : Int)).toNat, by omega, by omega⟩
                    have hr3 : o.tmod (p : Int) = (jt : Int) := by rw [Int.tmod_eq_emod_of_nonneg ho.1]; exact hr1
                    obtain ⟨ho1, ho2⟩ := ho
                    obtain ⟨ad, rfl⟩ := C_some HC1.out.1 (by omega)
                    obtain ⟨y, hKy⟩ : ∃ y, K[jt]? = some y := ⟨_, List.getElem?_eq_getElem (by rw [HK.out.1]; exact hr2)⟩
                    have hda2 : pa K jt = ⟨y, 7, jt⟩ := by simp [pa, hKy]
                    have hmem : (⟨y, 7, jt⟩ : En) ∈ Sa := (HPA.out.mem _).2 ⟨jt, hr2, hda2.symm⟩
                    have jt0 : (0 : Int) ≤ (jt : Int) := by omega
                    have jt1 : (jt : Int) < (p : Int) := by omega
                    have hrem := m_rem w1 gb bab p vb Sa jt wr hAB.b ⟨by omega, by omega⟩ ⟨_, hmem, rfl⟩
                    have hag := again hAB.b.srt hmem hAB.b.hs.inj
                    have HREM := Aside0.mk hrem
                    have HAB := Aside0.mk (And.intro hAB (And.intro hag hKy))
                    clear hrem hag hAB hmem hda2 hKy hGo
                    go_wp2_with (fail)
                    refine HREM.out.mono ?_
                    rintro e w5 ⟨rfl, vb', hn⟩
                    have hAB5 := HAB.out.1.stepB hn
                    have y2 := i_came (Kd.C_below HC1.out.1 hAB5.a.bel) HAB.out.2.2
                    have hput := m_put w1 gb bab p vb' (Sa.filter fun x => x.i ≠ (jt : Int)) ⟨y, 7, jt⟩ w5 hAB5.b (by simp; omega) (fun x hx => by simpa using (List.mem_filter.1 hx).2)
                    rw [show ins ⟨y, 7, jt⟩ (Sa.filter fun x => x.i ≠ (jt : Int)) = Sa from HAB.out.2.1] at hput
                    have HPB := Aside0.mk hput
                    have HAB5 := Aside0.mk hAB5
                    clear hn hAB5 hput HREM HAB
                    go_wp2_with (fail)
                    refine HPB.out.mono ?_
                    rintro e w6 ⟨rfl, vb2, hn⟩
                    have HAB6 := Aside0.mk (HAB5.out.stepB hn)
                    clear hn HPB HAB5
                    go_wp2_with (fail)
                    exact ⟨⟨q + 1, vb2, by omega, by go_num, HAB6.out⟩, by simp [intOf]; omega⟩
                  · obtain rfl : q = nG := by omega
                    have hD1 := due_ok ga baa p va Sa 9223372036854775807 wr hAB.a.hs hAB.a.srt
                    obtain ⟨L, hL⟩ : ∃ L, L = (dueL Sa 9223372036854775807).map (·.i) := ⟨_, rfl⟩
                    have hLl : L.length ≤ 1000 := by
                      rw [hL, List.length_map]
                      have := due_len Sa 9223372036854775807
                      have := HPA.out.len
                      omega
                    obtain ⟨n, hn⟩ : ∃ n, n = L.length := ⟨_, rfl⟩
                    rw [← hL] at hD1
                    have HL := Aside0.mk (And.intro hL (And.intro hLl hn))
                    have HAB := Aside0.mk hAB
                    have HD1 := Aside0.mk hD1
                    clear hL hLl hn hAB hD1
                    go_wp2_with (fail)
                    refine HD1.out.mono ?_
                    rintro e w5 ⟨v5, rfl, hR5, hb5⟩
                    have hAB5 := HAB.out.below hb5
                    have hD2 := due_ok gb bab p vb Sa 9223372036854775807 w5 hAB5.b.hs hAB5.b.srt
                    rw [← HL.out.1] at hD2
                    have HD2 := Aside0.mk hD2
                    have HR5 := Aside0.mk hR5
                    have HAB5 := Aside0.mk hAB5
                    clear hD2 hR5 hb5 hAB5 HD1 HAB
                    go_wp2_with (fail)
                    refine HD2.out.mono ?_
                    rintro e w6 ⟨v6, rfl, hR6, hb6⟩
                    have hR5 := Kd.R_below HR5.out hb6
                    obtain ⟨A5, c5, hv5⟩ := Kd.R_slice hR5
                    obtain ⟨A6, c6, hv6⟩ := Kd.R_slice hR6
                    rw [← HL.out.2.2] at hv5 hv6
                    subst hv5 hv6
                    have hC5 := (Kd.R_reads' hR5).2.2
                    have hC6 := (Kd.R_reads' hR6).2.2
                    rw [← HL.out.2.2] at hC5 hC6
                    have HCC := Aside0.mk (And.intro hC5 hC6)
                    have HAB6 := Aside0.mk (HAB5.out.below hb6)
                    clear hR5 hR6 hC5 hC6 hb6 HR5 HD2 HAB5
                    go_wp2_with (fail)
                    refine (equal_n A5 A6 c5 c6 n L w6 HCC.out.1 HCC.out.2 (by have := HL.out.2.1; have := HL.out.2.2; omega)).mono ?_
                    rintro e w7 ⟨rfl, hb7⟩
                    have HAB7 := Aside0.mk (HAB6.out.below hb7)
                    clear hb7 HCC HAB6
                    have hl1 := len_set ga baa p va Sa w7 HAB7.out.a.hs
                    have hl2 := len_set gb bab p vb Sa w7 HAB7.out.b.hs
                    rw [HPA.out.len] at hl1 hl2
                    have HL1 := Aside0.mk hl1
                    have HL2 := Aside0.mk hl2
                    clear hl1 hl2
                    go_wp2_with (fail)
                    refine HL1.out.mono ?_
                    rintro e w8 ⟨rfl, rfl⟩
                    go_wp2_with (fail)
                    refine HL2.out.mono ?_
                    rintro e w8 ⟨rfl, rfl⟩
                    go_wp2_with (fail)
                    go_ret
                    exact ⟨rfl, HB.out.trans (HAB7.out.a.bel.mono HB.out.size)⟩
end Go.Proofs.Ytphkahphpgipkaa.Z

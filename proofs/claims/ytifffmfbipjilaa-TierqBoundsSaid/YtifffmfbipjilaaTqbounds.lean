/- TierqBounds. -/
import Derived.Test.YtifffmfbipjilaaTqb
namespace Go.Proofs.Ytifffmfbipjilaa.Z
open Go.RowKit Go.Proofs.YtifffmfbipjilaaW.PrintWords Go.Proofs.YtifffmfbipjilaaW.PrintLast Go.Proofs.YtifffmfbipjilaaW.PrintMore
attribute [local go_sem] max2_int min2_int max_two min_two max_three min_three max_four min_four
set_option linter.unusedVariables false
set_option maxRecDepth 100000
set_option linter.unusedSimpArgs false
/-- The told handles are just those of the rows. -/
def Tl (R : List (List It)) (T : List Int) : Prop := (R.flatten.map (·.1)).Perm T
theorem Tl.len {R : List (List It)} {T : List Int} (h : Tl R T) : R.flatten.length = T.length := by have := h.length_eq; rwa [List.length_map] at this
theorem Tl.put {R : List (List It)} {T : List Int} (h : Tl R T) {r : Nat} {l : List It} (hl : R[r]? = some l) (x : It) : Tl (R.set r (l ++ [x])) (T ++ [x.1]) := by
  have := (perm_put (y := x) hl).map (·.1)
  rw [List.map_append] at this
  exact this.trans (List.Perm.append_right _ h)
theorem Tl.take {R : List (List It)} {x : Int} {T : List Int} (h : Tl R (x :: T)) : ∃ (r k : Nat) (l : List It) (y : It), R[r]? = some l ∧ l[k]? = some y ∧ y.1 = x ∧ Tl (R.set r (l.eraseIdx k)) T := by
  obtain ⟨y, hy, e⟩ := List.mem_map.1 (h.mem_iff.2 List.mem_cons_self)
  obtain ⟨r, k, l, h1, h2⟩ := rows_at hy
  refine ⟨r, k, l, y, h1, h2, e, ?_⟩
  have h0 : (R.flatten.map (·.1)).Perm (x :: T) := h
  have := ((perm_take h1 h2).map (·.1)).symm.trans h0
  rw [List.map_cons, e] at this
  exact List.Perm.cons_inv this
set_option maxHeartbeats 8000000 in
set_option maxRecDepth 100000 in
theorem tierqBounds_body (t : Int) (A : Option Addr) (cap : Nat) (l : List Rq) (w : World) (ht : (Lit.int .u8 t).wf = true) (hC : Rq.kd.C w A l.length l) (hlc : l.length ≤ cap) (hcap : cap ≤ maxLen) (hok : ∀ x ∈ l, x.ok) :
    Calls Try.prog 4 #[.int .u8 t, .slice A l.length cap] w fun e w' => e = .returned (.bool true) ∧ Below w.heap.size w w' := by
  unfold maxLen at hcap
  obtain ⟨m, hm, hm1, hm2⟩ : ∃ m : Nat, (if 40 < (l.length : Int) then (40 : Int) else (l.length : Int)) = m ∧ m ≤ l.length ∧ m ≤ 40 := by
    by_cases h : 40 < l.length
    · exact ⟨40, by rw [if_pos (by omega)]; rfl, by omega, by omega⟩
    · exact ⟨l.length, by rw [if_neg (by omega)], by omega, by omega⟩
  obtain ⟨K, hK⟩ : ∃ K, K = l.take m := ⟨_, rfl⟩
  have hKl : K.length = m := by rw [hK, List.length_take]; omega
  have hC2 := Kd.C_take hC hm1
  rw [← hK, hKl] at hC2
  obtain ⟨t0, t1⟩ := wf_u8 ht
  obtain ⟨n, hn, hn8⟩ : ∃ n : Nat, t % 8 = n ∧ n < 8 := ⟨(t % 8).toNat, by omega, by omega⟩
  have HC := Aside0.mk hC2
  have HK := Aside0.mk hKl
  clear hC hC2 hK hKl hok
  go_enter Try.func4, Try.ntmps4
  go_wp2_with (fail)
  refine (awake_ok _).mono ?_
  rintro e w1 ⟨rfl, hb⟩
  have HB := Aside0.mk hb
  have HC1 := Aside0.mk (Kd.C_below HC.out hb)
  clear hb HC
  by_cases hm0 : m = 0
  · subst hm0
    go_wp2_with (fail)
    go_ret
    exact ⟨rfl, HB.out⟩
  have hm0' : ((m : Int) == 0) = false := by rw [beq_eq_false_iff_ne]; omega
  go_wp2_with (fail)
  obtain ⟨n', hn', hn1, hn8'⟩ : ∃ n' : Nat, (1 + (n : Int)) = n' ∧ 1 ≤ n' ∧ n' ≤ 8 := ⟨n + 1, by omega, by omega, by omega⟩
  rw [hn']
  clear hn' hn hn8 t0 t1 ht
  refine (a_new n' m hn1 hn8' (by omega) (by omega) w1).mono ?_
  rintro e w2 ⟨a, rfl, hA⟩
  have HA := Aside0.mk hA
  clear hA
  go_wp2_with (fail)
  go_loopw [8, 47] (fun vl i wr => ∃ (k : Nat) (R : List (List It)) (T : List Int), k ≤ m ∧ T.length ≤ k ∧ i = .int .i64 k ∧ TQA w1 wr a n' m k R ∧ Tl R T ∧ (Kd.int .u64).R 29 wr w1.heap.size (fun b => b ≠ a.ba ∧ b ≠ a.bh) vl T) (fun _ i _ => m - (intOf i).toNat)
  case atStart => exact ⟨0, _, [], Nat.zero_le _, Nat.zero_le _, rfl, HA.out, by simp [Tl], Kd.R_nil _ _ _ _ _⟩
  case round =>
    obtain ⟨k, R, T, hk, hT, rfl, hR, hP, hH⟩ := hrel
    by_cases hlt : k < m
    · have hlt' : (k : Int) < (m : Int) := by omega
      have hkb : (k : Int) + 1 ≤ 1024 := by omega
      obtain ⟨ad, rfl⟩ := C_ad HC1.out (by omega)
      obtain ⟨x, hKx⟩ : ∃ x, K[k]? = some x := ⟨_, List.getElem?_eq_getElem (by rw [HK.out]; exact hlt)⟩
      obtain ⟨e0, e1, e2, e3, e4⟩ := Rq.came (Kd.C_below HC1.out hR.bel) hKx
      have HR := Aside0.mk (And.intro hR (And.intro hP hH))
      clear hR hP hH hKx
      go_upto_region 12 with (fail)
      have hbx : Blk (wr.alloc (.cells #[.int .u64 x.t, .int .i64 x.tier, .int .i64 x.coh, .int .i64 x.dl, .int .i64 x.ar] 33)) wr.heap.size 33 x.enc := Blk.new wr _ x.enc
      have hal := below_alloc (Below.refl _ wr) (.cells #[.int .u64 x.t, .int .i64 x.tier, .int .i64 x.coh, .int .i64 x.dl, .int .i64 x.ar] 33)
      have hR3 := HR.out.1.below hal
      have hH3 := Kd.R_alloc HR.out.2.2 (.cells #[.int .u64 x.t, .int .i64 x.tier, .int .i64 x.coh, .int .i64 x.dl, .int .i64 x.ar] 33)
      have HP := Aside0.mk HR.out.2.1
      generalize (wr.alloc (.cells #[.int .u64 x.t, .int .i64 x.tier, .int .i64 x.coh, .int .i64 x.dl, .int .i64 x.ar] 33)) = W3 at *
      generalize wr.heap.size = gb at *
      have b0 := hbx.cell 0 rfl
      have b1 := hbx.cell 1 rfl
      have b2 := hbx.cell 2 rfl
      have b3 := hbx.cell 3 rfl
      have b4 := hbx.cell 4 rfl
      have H3 := Aside0.mk (And.intro hR3 (And.intro hH3 hbx))
      clear hR3 hH3 hbx hal HR e0 e1 e2 e3 e4
      by_cases hr : 0 ≤ x.tier ∧ x.tier < n'
      · obtain ⟨r, hxr⟩ : ∃ r : Nat, x.tier = r := ⟨x.tier.toNat, by omega⟩
        have hrl : r < R.length := by have := H3.out.1.rows; omega
        obtain ⟨lr, hlr⟩ : ∃ lr, R[r]? = some lr := ⟨_, List.getElem?_eq_getElem hrl⟩
        have HL := Aside0.mk (And.intro hxr hlr)
        have q1 : decide (0 ≤ x.tier) = true := decide_eq_true hr.1
        have q2 : decide (x.tier < n') = true := decide_eq_true hr.2
        clear hxr hlr hrl hr
        go_wp2_with (fail)
        refine (a_put x H3.out.1 (by omega) HL.out.1 HL.out.2 (by rw [HP.out.len]; omega)).mono ?_
        rintro e w4 ⟨hh, rfl, hA4, k4⟩
        clear b0 b1 b2 b3 b4
        have hbx4 := H3.out.1.kr k4 _ _ H3.out.2.2
        have b1 := hbx4.cell 1 rfl
        have hH4 := KQ.row H3.out.2.1 k4 (by decide) (fun b hb => hb)
        have hP4 := HP.out.put HL.out.2 (hh, x)
        have hlt4 := hA4.lts
        have hbs := hA4.bel.size
        have H4 := Aside0.mk (And.intro hA4 (And.intro hH4 (And.intro hP4 hlt4)))
        have hTl : (T.length + 1) * 8 ≤ 140737488355328 := by omega
        clear hA4 k4 hH4 hP4 hlt4 hbx4
        go_wp2_with (at_builtin; refine Kd.R_append (Kd.int .u64) (w0 := w1) w1.heap.size rfl (.tmp 79) (.tmp 81) 43 29 (.int .u64 0) 8 rfl Try.underlying43 (by kernel_rfl) rfl (by decide) (by omega) u8 T hh [.int .u64 hh] (fun b => b ≠ a.ba ∧ b ≠ a.bh) (fun _ => False) rfl rfl rfl (fun _ hk => hk.elim) (fun b hb => ⟨fun e => by have := H4.out.2.2.2.1; omega, fun e => by have := H4.out.2.2.2.2; omega⟩) H4.out.2.1 H4.out.1.bel hbs hTl ?_; intro v1 w5 hR1 hB1 hg1 ho1; have HR1 := Aside0.mk (And.intro hR1 (H4.out.1.grown H4.out.2.1 (fun b hb => hb.2) (Nat.le_refl _) hg1)); clear hR1 hB1 hg1 ho1)
        clear hTl
        exact ⟨⟨k + 1, _, T ++ [hh], by omega, by rw [List.length_append, List.length_singleton]; omega, by go_num, HR1.out.2, H4.out.2.2.1, HR1.out.1⟩, by simp [intOf]; omega⟩
      · have key : (decide (0 ≤ x.tier) = true ∧ decide (x.tier < n') = false) ∨ decide (0 ≤ x.tier) = false := by
          by_cases h0 : 0 ≤ x.tier
          · exact .inl ⟨decide_eq_true h0, decide_eq_false (fun h1 => hr ⟨h0, h1⟩)⟩
          · exact .inr (decide_eq_false h0)
        have HNR := Aside0.mk hr
        clear hr
        go_wp2_with (fail)
        refine (a_put_arg x H3.out.1 HNR.out).mono ?_
        rintro e w4 ⟨rfl, hA4, k4⟩
        clear b0 b1 b2 b3 b4
        have hbx4 := H3.out.1.kr k4 _ _ H3.out.2.2
        have b1 := hbx4.cell 1 rfl
        have hH4 := KQ.row H3.out.2.1 k4 (by decide) (fun b hb => hb)
        have H4 := Aside0.mk (And.intro (hA4.mono (Nat.le_succ k)) hH4)
        clear hA4 k4 hH4 hbx4
        rcases key with ⟨q1, q2⟩ | q1
        · go_wp2_with (fail)
          exact ⟨⟨k + 1, R, T, by omega, by omega, by go_num, H4.out.1, HP.out, H4.out.2⟩, by simp [intOf]; omega⟩
        · go_wp2_with (fail)
          exact ⟨⟨k + 1, R, T, by omega, by omega, by go_num, H4.out.1, HP.out, H4.out.2⟩, by simp [intOf]; omega⟩
    · obtain rfl : k = m := by omega
      have H2 := Aside0.mk (And.intro hR (And.intro hP hH))
      clear hR hP hH HA hlt hk
      go_wp2_with (fail)
      go_loopw [8] (fun vl wr => ∃ (N : Nat) (R : List (List It)) (T : List Int), T.length ≤ k ∧ N ≤ 1000 + T.length ∧ TQA w1 wr a n' k N R ∧ Tl R T ∧ (Kd.int .u64).R 29 wr w1.heap.size (fun b => b ≠ a.ba ∧ b ≠ a.bh) vl T) (fun vl _ => k - slen vl)
      case atStart => exact ⟨k, R, T, hT, by omega, H2.out.1, H2.out.2.1, H2.out.2.2⟩
      case round =>
        clear H2 hT
        obtain ⟨N, R, T, hT, hN, hR, hP, hH⟩ := hrel
        have HLN := Aside0.mk (a_len hR)
        have htl := hP.len
        have H2 := Aside0.mk (And.intro hR (And.intro hP hH))
        clear hR hP hH
        rw [htl] at HLN
        have HTL := Aside0.mk htl
        clear htl
        by_cases hlt : T.length < k
        · have hlt' : (T.length : Int) < (k : Int) := by omega
          have hrl : 0 < R.length := by have := H2.out.1.rows; omega
          obtain ⟨lr, hlr⟩ : ∃ lr, R[0]? = some lr := ⟨_, List.getElem?_eq_getElem hrl⟩
          have HL := Aside0.mk hlr
          have HSL := Aside0.mk (slen_R H2.out.2.2)
          clear hlr hrl
          go_wp2_with (fail)
          refine HLN.out.mono ?_
          rintro e w3 ⟨rfl, rfl⟩
          go_wp2_with (fail)
          refine (a_put ⟨0, 0, 0, 0, 0⟩ H2.out.1 (by omega) rfl HL.out (by rw [HTL.out]; omega)).mono ?_
          rintro e w4 ⟨hh, rfl, hA4, k4⟩
          have hH4 := KQ.row H2.out.2.2 k4 (by decide) (fun b hb => hb)
          have hP4 := H2.out.2.1.put HL.out (hh, ⟨0, 0, 0, 0, 0⟩)
          have hlt4 := hA4.lts
          have hbs := hA4.bel.size
          have H4 := Aside0.mk (And.intro hA4 (And.intro hH4 (And.intro hP4 hlt4)))
          have hTl : (T.length + 1) * 8 ≤ 140737488355328 := by omega
          clear hA4 k4 hH4 hP4 hlt4
          go_wp2_with (at_builtin; refine Kd.R_append (Kd.int .u64) (w0 := w1) w1.heap.size rfl (.tmp 97) (.tmp 99) 43 29 (.int .u64 0) 8 rfl Try.underlying43 (by kernel_rfl) rfl (by decide) (by omega) _ T hh [.int .u64 hh] (fun b => b ≠ a.ba ∧ b ≠ a.bh) (fun _ => False) rfl rfl rfl (fun _ hk => hk.elim) (fun b hb => ⟨fun e => by have := H4.out.2.2.2.1; omega, fun e => by have := H4.out.2.2.2.2; omega⟩) H4.out.2.1 H4.out.1.bel hbs hTl ?_; intro v1 w5 hR1 hB1 hg1 ho1; have HR1 := Aside0.mk (And.intro hR1 (And.intro (H4.out.1.grown H4.out.2.1 (fun b hb => hb.2) (Nat.le_refl _) hg1) (slen_R hR1))); clear hR1 hB1 hg1 ho1)
          clear hTl
          refine ⟨⟨N + 1, _, T ++ [hh], by rw [List.length_append, List.length_singleton]; omega, by rw [List.length_append, List.length_singleton]; omega, HR1.out.2.1, H4.out.2.2.1, HR1.out.1⟩, ?_⟩
          have e1 := HR1.out.2.2
          have e2 := HSL.out
          rw [List.length_append, List.length_singleton] at e1
          simp
          omega
        · have hTk : T.length = k := by omega
          have hn0 : (0 : Int) < (n' : Int) := by omega
          go_wp2_with (fail)
          refine HLN.out.mono ?_
          rintro e w3 ⟨rfl, rfl⟩
          go_wp2_with (fail)
          refine (a_put_full ⟨0, 0, 0, 0, 0⟩ H2.out.1 (by decide) hn0 (by rw [HTL.out]; exact hTk)).mono ?_
          rintro e w4 ⟨rfl, hA4, k4⟩
          have hH4 := KQ.row H2.out.2.2 k4 (by decide) (fun b hb => hb)
          have hnd : T.Nodup := H2.out.2.1.nodup_iff.1 hA4.nodup
          obtain ⟨Av, cv, hv⟩ := Kd.R_slice hH4
          subst hv
          have hTpos : 0 < T.length := by omega
          obtain ⟨av, hav⟩ := C_ad (Kd.R_reads' hH4).2.2 hTpos
          subst hav
          have H4 := Aside0.mk (And.intro hA4 (And.intro hH4 (And.intro H2.out.2.1 hnd)))
          clear hA4 hH4 k4 hnd HLN H2 HTL hlt
          go_wp2_with (fail)
          go_loopw [111] (fun i wr => ∃ (j : Nat) (R : List (List It)), j ≤ k ∧ i = .int .i64 j ∧ TQA w1 wr a n' k (N + 1000) R ∧ Tl R (T.drop j) ∧ (Kd.int .u64).R 29 wr w1.heap.size (fun b => b ≠ a.ba ∧ b ≠ a.bh) (.slice (some av) T.length cv) T) (fun i _ => k - (intOf i).toNat)
          case atStart => exact ⟨0, R, Nat.zero_le _, rfl, H4.out.1.mono (by omega), H4.out.2.2.1, H4.out.2.1⟩
          case round =>
            have HND := Aside0.mk H4.out.2.2.2
            clear H4
            obtain ⟨j, R, hj, rfl, hR, hP, hH⟩ := hrel
            by_cases hlt : j < k
            · have hlt' : (j : Int) < (k : Int) := by omega
              have hjT : j < T.length := by omega
              have hx : T[j]? = some T[j] := List.getElem?_eq_getElem hjT
              have c1 := int_came (Kd.R_reads' hH).2.2 hx
              have hnot : T[j] ∉ T.drop (j + 1) := by
                have h1 : (T.drop j).Nodup := List.Sublist.nodup (List.drop_sublist j T) HND.out
                rw [List.drop_eq_getElem_cons hjT] at h1
                exact (List.nodup_cons.1 h1).1
              rw [List.drop_eq_getElem_cons hjT] at hP
              generalize T[j] = x at *
              obtain ⟨r, kk, lr, y, h1, h2, h3, h4⟩ := hP.take
              subst h3
              have hyy := hR.item (by omega) h1 (List.mem_of_getElem? h2)
              have y0 := hyy.2.1
              have y1 := hyy.2.2
              clear hyy
              have HR := Aside0.mk (And.intro hR (And.intro hH (And.intro h1 (And.intro h2 (And.intro h4 (And.intro hnot (And.intro y0 y1)))))))
              clear hR hH h1 h2 h4 hnot y0 y1 hx hP
              obtain ⟨yh, ⟨qt, qr, qc, qd, qa⟩⟩ := y
              go_wp2_with (fail)
              refine (a_take HR.out.1 (by omega) HR.out.2.2.1 HR.out.2.2.2.1).mono ?_
              rintro e w5 ⟨rfl, hA5, k5⟩
              unfold Rq.val
              dsimp only
              have hal := below_alloc (Below.refl _ w5) (.cells #[.int .u64 qt, .int .i64 qr, .int .i64 qc, .int .i64 qd, .int .i64 qa] 33)
              have hA6 := hA5.below hal
              have hH6 := KQ.row HR.out.2.1 (k5.trans (KQ.of_below hal)) (by decide) (fun b hb => hb)
              have H6 := Aside0.mk (And.intro hA6 hH6)
              clear hA5 hA6 hH6 k5 hal c1
              go_wp2_with (fail)
              refine (a_take_stale yh H6.out.1 (by omega) HR.out.2.2.2.2.2.2.1 HR.out.2.2.2.2.2.2.2 (fun z hz e => HR.out.2.2.2.2.2.1 (by
                have : z.1 ∈ ((R.set r (lr.eraseIdx kk)).flatten.map (·.1)) := List.mem_map.2 ⟨z, hz, rfl⟩
                rw [e] at this
                exact (List.Perm.mem_iff HR.out.2.2.2.2.1).1 this))).mono ?_
              rintro e w7 ⟨rfl, hA7, k7⟩
              have hal := below_alloc (Below.refl _ w7) (.cells #[.int .u64 0, .int .i64 0, .int .i64 0, .int .i64 0, .int .i64 0] 33)
              have hA8 := hA7.below hal
              have hH8 := KQ.row H6.out.2 (k7.trans (KQ.of_below hal)) (by decide) (fun b hb => hb)
              have H8 := Aside0.mk (And.intro hA8 hH8)
              clear hA7 hA8 hH8 k7 hal
              go_wp2_with (fail)
              exact ⟨⟨j + 1, _, by omega, by go_num, H8.out.1, HR.out.2.2.2.2.1, H8.out.2⟩, by simp [intOf]; omega⟩
            · obtain rfl : j = k := by omega
              have hd0 : T.drop j = [] := List.drop_eq_nil_of_le (by omega)
              rw [hd0] at hP
              have hf : R.flatten = [] := List.map_eq_nil_iff.1 (List.Perm.eq_nil hP)
              have HLN := a_len hR
              rw [hf] at HLN
              obtain ⟨D, hD1, _, hD⟩ := a_due 9223372036854775807 hR
              rw [hf] at hD1
              have hD0 : D = [] := List.Perm.eq_nil hD1
              subst hD0
              have HF := Aside0.mk (And.intro HLN (And.intro hD hR.bel))
              clear HLN hD hD1 hP hR hH hf hd0
              go_wp2_with (fail)
              refine HF.out.1.mono ?_
              rintro e w5 ⟨rfl, rfl⟩
              go_wp2_with (fail)
              refine HF.out.2.1.mono ?_
              rintro e w5 ⟨v, rfl, hv, hbv⟩
              obtain ⟨Ad, cd, rfl⟩ := Kd.R_slice hv
              have HE := Aside0.mk hbv
              clear hv hbv
              go_wp2_with (fail)
              go_ret
              exact ⟨rfl, HB.out.trans ((HF.out.2.2.trans (HE.out.mono HF.out.2.2.size)).mono HB.out.size)⟩
end Go.Proofs.Ytifffmfbipjilaa.Z

/- Remove over the set of entries. -/
import Derived.Test.YtifffmfbipjilaaHpq
import Derived.Deep.CutBlock
namespace Go.Proofs.Ytifffmfbipjilaa.Z.H
open Go.RowKit Go.Proofs.YtifffmfbipjilaaW.PrintWords Go.Proofs.YtifffmfbipjilaaW.PrintLast Go.Proofs.YtifffmfbipjilaaW.PrintMore
attribute [local go_sem] max2_int min2_int max_two min_two max_three min_three max_four min_four
set_option linter.unusedVariables false
set_option maxRecDepth 100000
set_option linter.unusedSimpArgs false
theorem rem_arg (g ba room : Nat) (v : Value) (S : List En) (i : Int) (w : World) (h : HS w g ba v S room) (hi : ¬ (0 ≤ i ∧ i < room)) :
    Calls Try.prog 39 #[.pointer (some ⟨g, 0, none⟩), .int .i64 i] w fun r w' => r = .returned (.int .i64 1) ∧ w = w' := by
  obtain ⟨l, a, h1, h2, h3, h4, h5⟩ := h.ex
  have hm := hmem_ok g ba v l a i w h1
  rw [show (decide (0 ≤ i) && decide (i < (a.length : Int))) = false by rw [h5]; simp; omega] at hm
  have HM := Aside0.mk hm
  clear h h1 h2 h3 h4 h5 hm hi
  go_enter Try.func39, Try.ntmps39
  go_wp2_with (go_at_call 58; refine HM.out.mono ?_; rintro e w' ⟨rfl, rfl⟩)
  go_ret
  exact ⟨rfl, rfl⟩
theorem rem_none (g ba room : Nat) (v : Value) (S : List En) (i : Int) (w : World) (h : HS w g ba v S room) (hi : 0 ≤ i ∧ i < room) (hin : ∀ e ∈ S, e.i ≠ i) :
    Calls Try.prog 39 #[.pointer (some ⟨g, 0, none⟩), .int .i64 i] w fun r w' => r = .returned (.int .i64 3) ∧ w = w' := by
  obtain ⟨l, a, h1, h2, h3, h4, h5⟩ := h.ex
  have hm := hmem_ok g ba v l a i w h1
  rw [show (decide (0 ≤ i) && decide (i < (a.length : Int))) = true by rw [h5]; simp; omega] at hm
  obtain ⟨n, hn⟩ : ∃ n : Nat, i = (n : Int) := ⟨i.toNat, by omega⟩
  subst hn
  have hnl : n < a.length := by omega
  obtain ⟨x, hx⟩ : ∃ x, a[n]? = some x := ⟨_, List.getElem?_eq_getElem hnl⟩
  have hxm : x = -1 := (at_none h3 hx).2 (fun y hy => hin y (h4.mem_iff.1 hy))
  subst hxm
  obtain ⟨c1, z1⟩ := h1.at_cell hx
  have c0 := h1.head.cell 1 rfl
  have n0 : (0 : Int) ≤ (n : Int) := by omega
  have n1 : (n : Int) < (a.length : Int) := by omega
  have HM := Aside0.mk hm
  clear h h1 h2 h3 h4 h5 hm hi hx hnl hin
  go_enter Try.func39, Try.ntmps39
  go_wp2_with (go_at_call 58; refine HM.out.mono ?_; rintro e w' ⟨rfl, rfl⟩)
  go_ret
  exact ⟨rfl, rfl⟩
theorem Hp.cut {w : World} {g ba gr n c N : Nat} {l : List En} {at_ : List Int} (h : Hp w g ba (.slice (some ⟨gr, 0, none⟩) n c) l at_) (hN : N ≤ l.length) :
    Hp (w.setCell ⟨g, 0, none⟩ (.slice (some ⟨gr, 0, none⟩) N c)) g ba (.slice (some ⟨gr, 0, none⟩) N c) (l.take N) at_ :=
  ⟨h.head.put 0 _ rfl, Kd.R_mono (Kd.R_set (Kd.R_take h.row hN) h.head (by simp [En.kd, fk]) 0 _) (fun _ _ => trivial), h.ats.far (p := ⟨g, 0, none⟩) (fun e => h.ne.1 e.symm) _, h.small⟩
set_option maxHeartbeats 8000000 in
set_option maxRecDepth 100000 in
theorem rem_ok (g ba room : Nat) (v : Value) (S : List En) (i : Int) (w : World) (h : HS w g ba v S room) (hi : 0 ≤ i ∧ i < room) (hin : ∃ x ∈ S, x.i = i) :
    Calls Try.prog 39 #[.pointer (some ⟨g, 0, none⟩), .int .i64 i] w fun r w' => r = .returned (.int .i64 0) ∧ ∃ v', HS w' g ba v' (S.filter fun y => decide (y.i ≠ i)) room ∧ Kp (hown g ba v) w w' ∧ v'.ownBlock = v.ownBlock := by
  obtain ⟨l, a, h1, h2, h3, h4, h5⟩ := h.ex
  have hm := hmem_ok g ba v l a i w h1
  rw [show (decide (0 ≤ i) && decide (i < (a.length : Int))) = true by rw [h5]; simp; omega] at hm
  obtain ⟨n, hn⟩ : ∃ n : Nat, i = (n : Int) := ⟨i.toNat, by omega⟩
  subst hn
  have hnl : n < a.length := by omega
  obtain ⟨x, hx, hxi⟩ : ∃ x ∈ l, x.i = (n : Int) := by
    obtain ⟨x, hx, hxi⟩ := hin
    exact ⟨x, h4.mem_iff.2 hx, hxi⟩
  obtain ⟨k, hk⟩ := List.mem_iff_getElem?.1 hx
  have hkl : k < l.length := (List.getElem?_eq_some_iff.1 hk).1
  have hak := (h3.fwd k x hk).2
  rw [show x.i.toNat = n by omega] at hak
  have hl10 := h3.len_le
  have h10 := h1.small
  obtain ⟨N, hN⟩ : ∃ N, l.length = N + 1 := ⟨l.length - 1, by omega⟩
  obtain ⟨e, he⟩ : ∃ e, l[l.length - 1]? = some e := ⟨_, List.getElem?_eq_getElem (by omega)⟩
  have he' : l[N]? = some e := by rw [← he]; congr 1; omega
  obtain ⟨gr, c, hv⟩ := h1.row_form (by omega)
  subst hv
  have hc := (Kd.R_reads' h1.row).2.1
  obtain ⟨y0, y1, y2⟩ := h1.cells he'
  obtain ⟨c1, z1⟩ := h1.at_cell hak
  have c0 := h1.head.cell 1 rfl
  have c00 := h1.head.cell 0 rfl
  have z00 := h1.head.frozen 0
  have n0 : (0 : Int) ≤ (n : Int) := by omega
  have n1 : (n : Int) < (a.length : Int) := by omega
  have N0 : (0 : Int) ≤ (N : Int) := by omega
  have N1 : (N : Int) < (N : Int) + 1 := by omega
  have hw1 : IntKind.i64.wrap ((N : Int) + 1 - 1) = (N : Int) := by rw [show (N : Int) + 1 - 1 = (N : Int) by omega]; exact IntWalk.i64_in _ (by omega)
  have HX := Aside0.mk (And.intro h1 (And.intro h2 (And.intro h3 (And.intro h4 (And.intro h5 (And.intro hk (And.intro hxi (And.intro he hN))))))))
  have HM := Aside0.mk hm
  rw [hN] at c00 hc
  obtain ⟨i0, hi0, hzz⟩ := Option.map_eq_some_iff.1 (show (Try.prog.info? 128).map (fun i => i.size) = some 3 by kernel_rfl)
  have hs1 := cut_to (P := Try.prog) 117 128 .i64 Try.underlying117 hi0 (some ⟨gr, 0, none⟩) (N + 1) c (N : Int) (by omega) (by omega) hc
  simp only [Int.toNat_natCast] at hs1
  have hkb : k ≤ N := by omega
  have hNb : N ≤ 1024 := by omega
  have HC := Aside0.mk hc
  clear h h1 h2 h3 h4 h5 hm hi hx hnl hin hk hkl hak hl10 h10 he he' hxi hN hc hi0 hzz
  go_enter Try.func39, Try.ntmps39
  go_upto_region 7 with (go_at_call 58; refine HM.out.mono ?_; rintro e w' ⟨rfl, rfl⟩)
  go_quiet (fail)
  obtain ⟨h1, h2, h3, h4, h5, hk, hxi, he, hN⟩ := HX.out
  have hV := h1.below (pw_below_drewN (Below.refl w.heap.size w) nq)
  have hKV := (Kp.refl (hown g ba (.slice (some ⟨gr, 0, none⟩) l.length c)) w).drewN nq
  have hlts := h1.lts
  have hszV : (w.drewN nq).heap.size = w.heap.size := rfl
  clear y0 y1 y2 c1 z1 c0 c00 z00 h1 h2 h3 h4 h5
  generalize w.drewN nq = V at *
  have he' : l[N]? = some e := by rw [← he]; congr 1; omega
  obtain ⟨y0, y1, y2⟩ := hV.cells he'
  obtain ⟨yk, hyk⟩ : ∃ y, a[n]? = some y := ⟨_, List.getElem?_eq_getElem (by omega)⟩
  obtain ⟨c1, z1⟩ := hV.at_cell hyk
  have c0 := hV.head.cell 1 rfl
  have c00 := hV.head.cell 0 rfl
  rw [hN] at c00
  have z00 := hV.head.frozen 0
  have hne := hV.ne
  have hVa := (hV.below (below_alloc (Below.refl _ V) (.cells #[.int .i64 e.key, .int .u64 e.tie, .int .i64 e.i] 128)))
  have hVa : Hp (V.alloc (.cells #[.int .i64 e.key, .int .u64 e.tie, .int .i64 e.i] 128)) g ba _ l a := hVa
  obtain ⟨d1, w1⟩ := hVa.at_cell hyk
  have d0 := hVa.head.cell 1 rfl
  have d00 := hVa.head.cell 0 rfl
  rw [hN] at d00
  have w00 := hVa.head.frozen 0
  have hbox : Blk (V.alloc (.cells #[.int .i64 e.key, .int .u64 e.tie, .int .i64 e.i] 128)) V.heap.size 128 e.enc := Blk.new V 128 e.enc
  have hq1 : V.heap.size ≠ g := by have := hlts g (mem_hown.2 (.inl rfl)); omega
  have hq2 : V.heap.size ≠ ba := by have := hlts ba (mem_hown.2 (.inr (.inl rfl))); omega
  have hgb : g ≠ ba := hne.1
  have hqn : V.heap.size ∉ hown g ba (.slice (some ⟨gr, 0, none⟩) N c) := fun hm => by
    have : V.heap.size ∈ hown g ba (.slice (some ⟨gr, 0, none⟩) l.length c) := mem_hown.2 (mem_hown.1 hm)
    have := hlts _ this; omega
  have hW := (hVa.cut (N := N) (by omega)).told (-1) (i := n) (by omega)
  have hbW := (hbox.far (p := ⟨g, 0, none⟩) hq1 (.slice (some ⟨gr, 0, none⟩) N c)).far (p := ⟨ba, n, none⟩) hq2 (.int .i64 (-1))
  have hKW := (((hKV.alloc (.cells #[.int .i64 e.key, .int .u64 e.tie, .int .i64 e.i] 128)).set (p := ⟨g, 0, none⟩) (.inl (mem_hown.2 (.inl rfl))) (.slice (some ⟨gr, 0, none⟩) N c)).set (p := ⟨ba, n, none⟩) (.inl (mem_hown.2 (.inr (.inl rfl)))) (.int .i64 (-1)))
  have HWW := Aside0.mk (And.intro hW (And.intro hbW (And.intro hKW hqn)))
  clear hV hKV hVa hbox hW hbW hKW hqn hlts hszV he' hyk hne hN hk hxi he
  obtain ⟨q, hq⟩ : ∃ q, q = V.heap.size := ⟨_, rfl⟩
  rw [← hq] at HWW
  go_upto_region 11 with (fail)
  rw [← hq]
  clear c1 z1 c0 c00 z00 y0 y1 y2 hs1 hw1 hq hq1 hq2 d1 w1 d0 d00 w00
  generalize (((V.alloc (.cells #[.int .i64 e.key, .int .u64 e.tie, .int .i64 e.i] 128)).setCell ⟨g, 0, none⟩ (.slice (some ⟨gr, 0, none⟩) N c)).setCell ⟨ba, n, none⟩ (.int .i64 (-1))) = W at *
  by_cases hkN : k = N
  · have hkN' : ((k : Int) == (N : Int)) = true := by simp; omega
    obtain ⟨h1, h2, h3, h4, h5, hk, hxi, he, hN⟩ := HX.out
    have hx2 : l[l.length - 1]? = some x := by rw [← hk]; congr 1; omega
    have htk : l.take N = l.take (l.length - 1) := by congr 1; omega
    have hp : (l.take N).Perm (S.filter fun y => decide (y.i ≠ (n : Int))) := by
      rw [htk]; exact (perm_last h3 hx2 hxi).trans (h4.filter _)
    have hA : At (l.take N) (a.set n (-1)) := by rw [htk]; exact h3.last hx2 hxi
    have hH : HeapL (l.take N) := h2.take N
    have HF := Aside0.mk (And.intro (HS.mk (room := room) ⟨_, _, HWW.out.1, hH, hA, hp, by rw [List.length_set]; exact h5⟩) HWW.out.2.2.1)
    clear h1 h2 h3 h4 h5 hk hxi he hN hx2 htk hp hA hH HWW
    go_wp2_with (fail)
    go_ret
    exact ⟨rfl, .slice (some ⟨gr, 0, none⟩) N c, HF.out.1, HF.out.2, rfl⟩
  · have hkN' : ((k : Int) == (N : Int)) = false := by simp; omega
    obtain ⟨h1, h2, h3, h4, h5, hk, hxi, he, hN⟩ := HX.out
    have hkn : k ≠ l.length - 1 := by omega
    have htk : l.take N = l.take (l.length - 1) := by congr 1; omega
    have hp : ((l.take N).set k e).Perm (S.filter fun y => decide (y.i ≠ (n : Int))) := by
      rw [htk]; exact (perm_less h3 hk hxi he hkn).trans (h4.filter _)
    have hA : At ((l.take N).set k e) ((a.set n (-1)).set e.i.toNat k) := by rw [htk]; exact h3.less hk hxi he hkn
    have hB : HB (fn ((l.take N).set k e)) ((l.take N).set k e).length k := by rw [htk]; exact HB.less h2 k (by omega) e
    have hlt : (l.take N).length = N := by rw [List.length_take]; omega
    have hlk : ((l.take N).set k e)[k]? = some e := by rw [List.getElem?_set, if_pos rfl, if_pos (by omega)]
    have hei := set_len_at hA hlk
    rw [List.length_set] at hei
    have hbx := HWW.out.2.1
    have x0 := hbx.cell 0 rfl
    have x1 := hbx.cell 1 rfl
    have x2 := hbx.cell 2 rfl
    have HP := Aside0.mk (And.intro hp (And.intro hA (And.intro hB (And.intro hlt (And.intro hlk (And.intro hei h5))))))
    clear hbx h1 h2 h3 h4 h5 hk hxi he hN hkn htk hp hA hB hlt hlk hei
    go_wp2_with (fail)
    refine (lay_ok g ba _ (l.take N) (a.set n (-1)) k e _ HWW.out.1 (by rw [HP.out.2.2.2.1]; omega) (by rw [HP.out.2.2.2.1]; omega) HP.out.2.2.2.2.2.1.1 (by rw [List.length_set]; exact HP.out.2.2.2.2.2.1.2)).mono ?_
    rintro r w4 ⟨rfl, h4, k4⟩
    have HB4 := Aside0.mk (k4.blk HWW.out.2.1 HWW.out.2.2.2)
    have HK4 := Aside0.mk (HWW.out.2.2.1.trans (k4.mono (fun b hb => mem_hown.2 (mem_hown.1 hb))))
    have HQN := Aside0.mk HWW.out.2.2.2
    have H4 := Aside0.mk h4
    clear h4 k4 HWW x0 x1 x2
    go_wp2_with (fail)
    refine (up_ok g ba _ _ _ k e _ H4.out (by rw [HP.out.2.1.set_same HP.out.2.2.2.2.1]; exact HP.out.2.1) HP.out.2.2.2.2.1 HP.out.2.2.1 (by rw [List.length_set, HP.out.2.2.2.1]; omega)).mono ?_
    rintro r w5 ⟨rfl, l5, a5, k5, h5, hD, -, hal, hk5⟩
    have hf5 := hD.at_.fwd k5 e hD.lies
    obtain ⟨m, hm⟩ : ∃ m : Nat, e.i = (m : Int) := ⟨e.i.toNat, by omega⟩
    rw [show e.i.toNat = m by omega] at hf5
    have hml : m < a5.length := (List.getElem?_eq_some_iff.1 hf5.2).1
    have m0 : (0 : Int) ≤ (m : Int) := by omega
    have m1 : (m : Int) < (a5.length : Int) := by omega
    have hbx := hk5.blk HB4.out HQN.out
    have x2 : w5.cell? ⟨q, 2, none⟩ = some (.int .i64 (m : Int)) := by have := hbx.cell 2 rfl; rw [hm] at this; exact this
    obtain ⟨y1, z1⟩ := h5.at_cell hf5.2
    have c1 := h5.head.cell 1 rfl
    have hl5 : l5.length ≤ 1024 := by have := hD.perm.length_eq; rw [List.length_set, HP.out.2.2.2.1] at this; omega
    have H5 := Aside0.mk (And.intro h5 (And.intro hD (And.intro hal (And.intro (HK4.out.trans (hk5.mono (fun b hb => mem_hown.2 (mem_hown.1 hb)))) hl5))))
    clear h5 hD hal hk5 hf5 hm hml hbx hl5 HB4 HK4 H4 HQN
    go_upto_region 15 with (fail)
    go_still_tail 9, (by kernel_rfl)
    change wpList _ _ _ _ _ w5.drew
    have H6 := Aside0.mk (H5.out.1.below (below_drew (Below.refl _ _)))
    have HK6 := Aside0.mk (H5.out.2.2.2.1.drew)
    clear x2 y1 z1 c1
    generalize w5.drew = w6 at *
    go_wp2_with (fail)
    refine (down_ok g ba _ l5 a5 k5 e _ H6.out H5.out.2.1.at_ H5.out.2.1.lies H5.out.2.1.hd H5.out.2.2.2.2).mono ?_
    rintro r w7 ⟨rfl, l7, a7, h7, hp7, hA7, hH7, hal7, hk7⟩
    have HF := Aside0.mk (And.intro (HS.mk (room := room) ⟨l7, a7, h7, hH7, hA7, (hp7.trans H5.out.2.1.perm).trans HP.out.1, by rw [hal7, H5.out.2.2.1, List.length_set, List.length_set]; exact HP.out.2.2.2.2.2.2⟩) (HK6.out.trans (hk7.mono (fun b hb => mem_hown.2 (mem_hown.1 hb)))))
    clear h7 hp7 hA7 hH7 hal7 hk7 H6 HK6 H5
    go_wp2_with (fail)
    go_ret
    exact ⟨rfl, .slice (some ⟨gr, 0, none⟩) N c, HF.out.1, HF.out.2, rfl⟩
end Go.Proofs.Ytifffmfbipjilaa.Z.H

/- HeapSorts. -/
import Derived.Test.YtphkahphpgipkaaHprp
import Derived.Test.YtphkahphpgipkaaHpdues
namespace Go.Proofs.Ytphkahphpgipkaa.Z
open Go.RowKit Go.Proofs.YtphkahphpgipkaaW.PrintWords Go.Proofs.YtphkahphpgipkaaW.PrintLast Go.Proofs.YtphkahphpgipkaaW.PrintMore
attribute [local go_sem] max2_int min2_int max_two min_two max_three min_three max_four min_four
set_option linter.unusedVariables false
set_option linter.unusedSimpArgs false
theorem C_someK {k : IntKind} {w : World} {A : Option Addr} {n : Nat} {l : List Int} (h : (Kd.int k).C w A n l) (hn : 0 < n) : ∃ ad, A = some ad := by
  obtain ⟨ad, e, _⟩ := h.2.2 (by have := h.1; omega)
  exact ⟨ad, e⟩
theorem HS.typed {w : World} {g ba room : Nat} {v : Value} {S : List En} (h : HS w g ba v S room) : ∀ b ∈ hown g ba v, ∃ t l, Blk w b t l ∧ t ≠ 39 ∧ t ≠ 42 := by
  obtain ⟨l, a, h1, _⟩ := h.ex
  intro b hb
  rcases mem_hown.1 hb with rfl | rfl | hb
  · exact ⟨_, _, h1.head, by decide, by decide⟩
  · exact ⟨_, _, h1.ats, by decide, by decide⟩
  · obtain ⟨cells, hc⟩ := Kd.R_typed h1.row b hb
    exact ⟨63, cells.toList, (by simpa [Blk] using hc), by decide, by decide⟩
theorem RH.away {w : World} {g ba room gx n base : Nat} {v vx : Value} {S S' : List En} (h : HS w g ba v S room) (hx : RH w base gx vx S' n) : gx ∉ hown g ba v := by
  intro hm
  obtain ⟨t, l, h1, h2, _⟩ := h.typed gx hm
  have := h1.symm.trans hx.head
  injection this with this
  injection this with _ e _
  exact h2 e
def sp (K T : List Int) (j : Nat) : En := ⟨(K[j]?).getD 0, (T[j]?).getD 0, j⟩
theorem drop_filter {S : List En} {y : En} {q : Nat} (hs : Srt (S.drop q)) (hd : S.drop q = y :: S.drop (q + 1)) (hinj : ∀ a ∈ S.drop q, ∀ b ∈ S.drop q, a.i = b.i → a = b) : (S.drop q).filter (fun x => x.i ≠ y.i) = S.drop (q + 1) := by
  rw [hd] at hs hinj ⊢
  rw [List.filter_cons_of_neg (by simp)]
  refine List.filter_eq_self.2 (fun x hx => ?_)
  simp only [decide_eq_true_eq]
  intro e
  have := hinj x (List.mem_cons_of_mem _ hx) y List.mem_cons_self e
  subst this
  exact En.lt_irrefl _ ((List.pairwise_cons.1 hs).1 x hx)
set_option maxHeartbeats 8000000 in
set_option maxRecDepth 100000 in
theorem heapSorts_body (A : Option Addr) (cap : Nat) (l : List Int) (B : Option Addr) (cb : Nat) (T : List Int) (w : World) (hC : (Kd.int .i64).C w A l.length l) (hlc : l.length ≤ cap) (hcap : cap ≤ maxLen) (hy : l.length * 8 ≤ 140737488351232) (hok : ∀ x ∈ l, (Lit.int .i64 x).wf = true)
    (hD : (Kd.int .u64).C w B T.length T) (hld : T.length ≤ cb) (hcb : cb ≤ maxLen) (hyd : T.length * 8 ≤ 140737488351232) (hokd : ∀ x ∈ T, (Lit.int .u64 x).wf = true) :
    Calls Try.prog 4 #[.slice A l.length cap, .slice B T.length cb] w fun e w' => e = .returned (.bool true) ∧ Below w.heap.size w w' := by
  unfold maxLen at hcap hcb
  obtain ⟨m, hm, hm1, hm2⟩ : ∃ m : Nat, (if 60 < (l.length : Int) then (60 : Int) else (l.length : Int)) = m ∧ m ≤ l.length ∧ m ≤ 60 := by
    by_cases h : 60 < l.length
    · exact ⟨60, by rw [if_pos (by omega)]; rfl, by omega, by omega⟩
    · exact ⟨l.length, by rw [if_neg (by omega)], by omega, by omega⟩
  obtain ⟨K, hK⟩ : ∃ K, K = l.take m := ⟨_, rfl⟩
  have hKl : K.length = m := by rw [hK, List.length_take]; omega
  have hC2 := Kd.C_take hC hm1
  rw [← hK, hKl] at hC2
  obtain ⟨nt, hnt⟩ : ∃ nt, nt = T.length := ⟨_, rfl⟩
  rw [← hnt] at hD hld
  rw [← hnt]
  have HC := Aside0.mk hC2
  have HD := Aside0.mk hD
  have HK := Aside0.mk hKl
  have HT := Aside0.mk hnt
  clear hC hC2 hK hKl hok hokd hy hyd hnt hD hld
  go_enter Try.func4, Try.ntmps4
  go_wp2_with (fail)
  refine (awake_ok _).mono ?_
  rintro e w1 ⟨rfl, hb⟩
  have HB := Aside0.mk hb
  have HC1 := Aside0.mk (Kd.C_below HC.out hb)
  have HD1 := Aside0.mk (Kd.C_below HD.out hb)
  clear hb HC HD
  by_cases hm0 : m = 0
  · subst hm0
    go_wp2_with (fail)
    go_ret
    exact ⟨rfl, HB.out⟩
  · have hm0' : ((m : Int) == 0) = false := by rw [beq_eq_false_iff_ne]; omega
    have HN := Aside0.mk (m_new m (by omega) (by omega) w1)
    have hmi : (m : Int) ≤ 60 := by omega
    go_wp2_with (fail)
    refine HN.out.mono ?_
    rintro e w2 ⟨g, ba, rfl, hM⟩
    have hxb : Blk (w2.alloc (.cells #[.slice none 0 0, .int .i64 m] 39)) w2.heap.size 39 [.slice none 0 0, .int .i64 m] := Blk.new w2 39 [.slice none 0 0, .int .i64 m]
    have hM1 := hM.below (below_alloc (Below.refl _ w2) (.cells #[.slice none 0 0, .int .i64 m] 39))
    have hgx := hM.bel.size
    have HX := Aside0.mk (And.intro hM1 (RH.mk (base := 0) hxb (Kd.R_nil _ _ _ _ _)))
    clear hM hxb hM1 HN
    go_wp2_with (fail)
    obtain ⟨gx, hgxe⟩ : ∃ gx, gx = w2.heap.size := ⟨_, rfl⟩
    rw [← hgxe] at HX hgx
    rw [← hgxe]
    have HGX := Aside0.mk hgx
    clear hgx hgxe
    generalize (w2.alloc (Obj.cells #[Value.slice none 0 0, Value.int IntKind.i64 m] 39)) = W3 at *
    go_loopw [37] (fun i wr => ∃ (k : Nat) (v vx : Value) (S : List En), k ≤ m ∧ i = .int .i64 k ∧ HM w1 wr g ba v S m ∧ RH wr 0 gx vx S m ∧ PutI (sp K T) k S) (fun i _ => m - (intOf i).toNat)
    case atStart => exact ⟨0, _, _, [], Nat.zero_le _, rfl, HX.out.1, HX.out.2, PutI.zero _⟩
    case round =>
      clear HX
      obtain ⟨k, v, vx, S, hk, rfl, hM, hx, hP⟩ := hrel
      by_cases hlt : k < m
      · have hlt' : (k : Int) < (m : Int) := by omega
        have k0 : (0 : Int) ≤ (k : Int) := by omega
        have hkb : (k : Int) + 1 ≤ 1024 := by omega
        obtain ⟨ad, rfl⟩ := C_some HC1.out (by omega)
        obtain ⟨x, hKx⟩ : ∃ x, K[k]? = some x := ⟨_, List.getElem?_eq_getElem (by rw [HK.out]; exact hlt)⟩
        have c1 := i_came (Kd.C_below HC1.out hM.bel) hKx
        by_cases hkt : k < nt
        · have hkt' : (k : Int) < (nt : Int) := by omega
          obtain ⟨at_, rfl⟩ := C_someK HD1.out (by omega)
          obtain ⟨t, hTt⟩ : ∃ t, T[k]? = some t := ⟨_, List.getElem?_eq_getElem (by rw [← HT.out]; exact hkt)⟩
          have c2 := i_came (Kd.C_below HD1.out hM.bel) hTt
          have hdp : sp K T k = ⟨x, t, k⟩ := by simp [sp, hKx, hTt]
          clear hTt
          have hput := m_put w1 g ba m v S ⟨x, t, k⟩ wr hM (by simp; omega) (by rw [← hdp]; exact hP.new (fun j hj => by simp [sp]; omega))
          have HPU := Aside0.mk hput
          have HPI := Aside0.mk (And.intro hdp (And.intro hP (And.intro hM hx)))
          clear hput hdp hP hM hx hKx
          go_wp2_with (fail)
          refine HPU.out.mono ?_
          rintro e w4 ⟨rfl, v', hM⟩
          have hx4 := HPI.out.2.2.2.kp hM.kp HPI.out.2.2.1.hs.typed
          have hrp := rput_ok gx m vx S ⟨x, t, k⟩ w4 hx4 (by have := HPI.out.2.1.len; omega) (by omega) (by simp; omega) (by rw [← HPI.out.1]; exact HPI.out.2.1.new (fun j hj => by simp [sp]; omega))
          have HRP := Aside0.mk hrp
          have HM4 := Aside0.mk (And.intro hM.hm (RH.away hM.hm.hs hx4))
          clear hM HPU hrp hx4
          go_wp2_with (fail)
          refine HRP.out.mono ?_
          rintro e w5 ⟨rfl, vx', hx5, hk5⟩
          have HM5 := Aside0.mk (And.intro (HM4.out.1.kp hk5 (by simpa using HM4.out.2) (by simpa using HGX.out)) hx5)
          clear hx5 hk5 HRP HM4
          go_wp2_with (fail)
          refine ⟨⟨k + 1, v', vx', _, by omega, by go_num, HM5.out.1, HM5.out.2, ?_⟩, by simp [intOf]; omega⟩
          have := HPI.out.2.1.succ
          rw [HPI.out.1] at this
          exact this
        · have hkt' : decide ((k : Int) < (nt : Int)) = false := decide_eq_false (by omega)
          have hTt : T[k]? = none := List.getElem?_eq_none (by rw [← HT.out]; omega)
          have hdp : sp K T k = ⟨x, 0, k⟩ := by simp [sp, hKx, hTt]
          clear hTt
          have hput := m_put w1 g ba m v S ⟨x, 0, k⟩ wr hM (by simp; omega) (by rw [← hdp]; exact hP.new (fun j hj => by simp [sp]; omega))
          have HPU := Aside0.mk hput
          have HPI := Aside0.mk (And.intro hdp (And.intro hP (And.intro hM hx)))
          clear hput hdp hP hM hx hKx
          go_wp2_with (fail)
          refine HPU.out.mono ?_
          rintro e w4 ⟨rfl, v', hM⟩
          have hx4 := HPI.out.2.2.2.kp hM.kp HPI.out.2.2.1.hs.typed
          have hrp := rput_ok gx m vx S ⟨x, 0, k⟩ w4 hx4 (by have := HPI.out.2.1.len; omega) (by omega) (by simp; omega) (by rw [← HPI.out.1]; exact HPI.out.2.1.new (fun j hj => by simp [sp]; omega))
          have HRP := Aside0.mk hrp
          have HM4 := Aside0.mk (And.intro hM.hm (RH.away hM.hm.hs hx4))
          clear hM HPU hrp hx4
          go_wp2_with (fail)
          refine HRP.out.mono ?_
          rintro e w5 ⟨rfl, vx', hx5, hk5⟩
          have HM5 := Aside0.mk (And.intro (HM4.out.1.kp hk5 (by simpa using HM4.out.2) (by simpa using HGX.out)) hx5)
          clear hx5 hk5 HRP HM4
          go_wp2_with (fail)
          refine ⟨⟨k + 1, v', vx', _, by omega, by go_num, HM5.out.1, HM5.out.2, ?_⟩, by simp [intOf]; omega⟩
          have := HPI.out.2.1.succ
          rw [HPI.out.1] at this
          exact this
      · obtain rfl : k = m := by omega
        have hSl := hP.len
        obtain ⟨gr, c, hv⟩ := hx.form (by omega)
        rw [hSl] at hv
        subst hv
        have c0 := hx.head.cell 0 rfl
        have HS := Aside0.mk hSl
        have HH := Aside0.mk (And.intro hM hx)
        clear hM hx hP hSl HD1 HC1
        go_wp2_with (fail)
        clear c0
        go_loopw [68] (fun i wr => ∃ (q : Nat) (v : Value), q ≤ k ∧ i = .int .i64 q ∧ HM w1 wr g ba v (S.drop q) k ∧ RH wr 0 gx (.slice (some ⟨gr, 0, none⟩) k c) S k) (fun i _ => k - (intOf i).toNat)
        case atStart => exact ⟨0, v, Nat.zero_le _, rfl, HH.out.1, HH.out.2⟩
        case round =>
          clear HH
          obtain ⟨q, v, hq, rfl, hM, hx⟩ := hrel
          by_cases hlq : q < k
          · have hlq' : (q : Int) < (k : Int) := by omega
            have q0 : (0 : Int) ≤ (q : Int) := by omega
            have hqb : (q : Int) + 1 ≤ 1024 := by omega
            obtain ⟨y, hyS⟩ : ∃ y, S[q]? = some y := ⟨_, List.getElem?_eq_getElem (by rw [HS.out]; exact hlq)⟩
            have hdrop : S.drop q = y :: S.drop (q + 1) := by
              rw [List.drop_eq_getElem?_toList_append, hyS]; rfl
            obtain ⟨y0, y1, y2⟩ := hx.cells hyS
            have hyi := hM.hs.in_ (e := y) (by rw [hdrop]; exact List.mem_cons_self)
            have hbox : Blk (wr.alloc (.cells #[.int .i64 y.i, .int .i64 y.key, .int .u64 y.tie] 42)) wr.heap.size 42 y.encR := Blk.new wr 42 y.encR
            have hal : Below wr.heap.size wr (wr.alloc (.cells #[.int .i64 y.i, .int .i64 y.key, .int .u64 y.tie] 42)) := below_alloc (Below.refl _ _) _
            have hM1 := hM.below hal
            have hx1 := hx.below hal
            have HM1 := Aside0.mk (And.intro hM1 (And.intro hx1 hdrop))
            clear hM hx hM1 hx1 hal hdrop hyS
            go_upto_region 21 with (fail)
            obtain ⟨gb, hgb⟩ : ∃ gb, gb = wr.heap.size := ⟨_, rfl⟩
            rw [← hgb] at hbox
            rw [← hgb]
            clear hgb
            generalize (wr.alloc (.cells #[.int .i64 y.i, .int .i64 y.key, .int .u64 y.tie] 42)) = V at *
            have x0 := hbox.cell 0 rfl
            have hmin := min_set g ba k v (S.drop q) V HM1.out.1.hs HM1.out.1.srt
            rw [show minI (S.drop q) = y.i by rw [HM1.out.2.2]; rfl, show decide (S.drop q ≠ []) = true by rw [HM1.out.2.2]; simp] at hmin
            have hrem := m_rem w1 g ba k v (S.drop q) y.i V HM1.out.1 (by omega) ⟨y, by rw [HM1.out.2.2]; exact List.mem_cons_self, rfl⟩
            rw [drop_filter HM1.out.1.srt HM1.out.2.2 HM1.out.1.hs.inj] at hrem
            have HMIN := Aside0.mk hmin
            have HREM := Aside0.mk hrem
            have HIN : Aside0 (∀ e ∈ S.drop (q + 1), e.i ≠ y.i) := ⟨fun e he hi => by
              have h1 := HM1.out.1.hs.inj e (by rw [HM1.out.2.2]; exact List.mem_cons_of_mem _ he) y (by rw [HM1.out.2.2]; exact List.mem_cons_self) hi
              have h2 := HM1.out.1.srt
              rw [HM1.out.2.2] at h2
              subst h1
              exact En.lt_irrefl _ ((List.pairwise_cons.1 h2).1 e he)⟩
            have HYI := Aside0.mk hyi
            clear hmin hrem hbox y0 y1 y2 hyi
            go_wp2_with (fail)
            refine HMIN.out.mono ?_
            rintro e V1 ⟨rfl, rfl⟩
            go_wp2_with (fail)
            refine HREM.out.mono ?_
            rintro e V2 ⟨rfl, v2, hM2⟩
            have HM2 := Aside0.mk (And.intro hM2.hm (HM1.out.2.1.kp hM2.kp HM1.out.1.hs.typed))
            clear hM2 HREM HMIN x0
            go_wp2_with (fail)
            refine (rem_none g ba k v2 (S.drop (q + 1)) y.i V2 HM2.out.1.hs HYI.out HIN.out).mono ?_
            rintro e V3 ⟨rfl, rfl⟩
            go_wp2_with (fail)
            exact ⟨⟨q + 1, v2, by omega, by go_num, HM2.out.1, HM2.out.2⟩, by simp [intOf]; omega⟩
          · obtain rfl : q = k := by omega
            have hlen := len_set g ba q v (S.drop q) wr hM.hs
            rw [show (S.drop q).length = 0 by rw [List.length_drop, HS.out]; omega] at hlen
            have HLEN := Aside0.mk hlen
            have HMF := Aside0.mk hM.bel
            clear hlen hM hx
            go_wp2_with (fail)
            refine HLEN.out.mono ?_
            rintro e w10 ⟨rfl, rfl⟩
            go_wp2_with (fail)
            go_ret
            exact ⟨rfl, HB.out.trans (HMF.out.mono HB.out.size)⟩
end Go.Proofs.Ytphkahphpgipkaa.Z

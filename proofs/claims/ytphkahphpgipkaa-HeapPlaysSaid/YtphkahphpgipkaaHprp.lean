/- The document's Put. -/
import Derived.Test.YtphkahphpgipkaaHpref
namespace Go.Proofs.Ytphkahphpgipkaa.Z
open Go.RowKit Go.Proofs.YtphkahphpgipkaaW.PrintWords Go.Proofs.YtphkahphpgipkaaW.PrintLast Go.Proofs.YtphkahphpgipkaaW.PrintMore
attribute [local go_sem] max2_int min2_int max_two min_two max_three min_three max_four min_four
set_option linter.unusedVariables false
set_option linter.unusedSimpArgs false
/-- What the rest of the round still puts behind. -/
def more (e : En) (pl : Bool) (T : List En) : List En := if pl then T else ins e T
theorem more_hit {e x : En} {out T D R : List En} (hc : out ++ more e false D = R) (hd : D = x :: T) (h : e.lt x) : ((out ++ [e]) ++ [x]) ++ more e true T = R := by
  rw [← hc, hd]
  have h1 : more e false (x :: T) = e :: x :: T := by
    have : more e false (x :: T) = ins e (x :: T) := rfl
    rw [this]; unfold ins; rw [if_pos h]
  have h2 : more e true T = T := rfl
  rw [h1, h2, List.append_assoc, List.append_assoc]; rfl
theorem more_miss {e x : En} {out T D R : List En} (hc : out ++ more e false D = R) (hd : D = x :: T) (h : ¬ e.lt x) : (out ++ [x]) ++ more e false T = R := by
  rw [← hc, hd]
  have h1 : more e false (x :: T) = x :: ins e T := by
    have : more e false (x :: T) = ins e (x :: T) := rfl
    rw [this]; conv => lhs; unfold ins
    rw [if_neg h]
  have h2 : more e false T = ins e T := rfl
  rw [h1, h2, List.append_assoc]; rfl
theorem R_sl {w : World} {e0 b : Nat} {ok : Nat → Prop} {v : Value} {S : List En} (h : En.kr.R e0 w b ok v S) : ∃ A L m, v = .slice A L m := by
  obtain ⟨A, c, e⟩ := Kd.R_slice h
  exact ⟨A, _, c, e⟩
theorem len_two {e x : En} {out : List En} {k : Nat} (h : out.length ≤ k + false.toNat) : ((out ++ [e]) ++ [x]).length ≤ k + 1 + true.toNat := by
  simp at h ⊢; omega
theorem len_one {x : En} {out : List En} {k : Nat} {b : Bool} (h : out.length ≤ k + b.toNat) : (out ++ [x]).length ≤ k + 1 + b.toNat := by
  simp at h ⊢; omega
set_option maxHeartbeats 8000000 in
set_option maxRecDepth 100000 in
theorem rput_ok (gx n : Nat) (v : Value) (S : List En) (e : En) (w : World) (h : RH w 0 gx v S n) (hl : S.length ≤ 1000) (hn : n ≤ 1024) (hi : 0 ≤ e.i ∧ e.i < n) (hin : ∀ x ∈ S, x.i ≠ e.i) :
    Calls Try.prog 14 #[.pointer (some ⟨gx, 0, none⟩), e.valR] w fun r w' => r = .returned (.int .i64 0) ∧ ∃ v', RH w' 0 gx v' (ins e S) n ∧ Kp [gx] w w' := by
  have hbox : Blk (w.alloc (.cells #[.int .i64 e.i, .int .i64 e.key, .int .u64 e.tie] 42)) w.heap.size 42 e.encR := Blk.new w 42 e.encR
  have hal : Below w.heap.size w (w.alloc (.cells #[.int .i64 e.i, .int .i64 e.key, .int .u64 e.tie] 42)) := below_alloc (Below.refl _ _) _
  have h1 := h.below hal
  have hgx := h.head.lt
  obtain ⟨A, c, hv⟩ := Kd.R_slice h.row
  obtain ⟨N, hN⟩ : ∃ N, N = S.length := ⟨_, rfl⟩
  rw [← hN] at hv hl
  subst hv
  have HN := Aside0.mk hN
  have HI := Aside0.mk (And.intro hin hgx)
  obtain ⟨i0, i1⟩ := hi
  clear h hN hin hgx
  unfold En.valR
  go_enter Try.func14, Try.ntmps14
  go_upto_region 1 with (fail)
  obtain ⟨q, hq⟩ : ∃ q, q = w.heap.size := ⟨_, rfl⟩
  rw [← hq] at hbox
  rw [← hq]
  clear hq
  generalize (w.alloc (.cells #[.int .i64 e.i, .int .i64 e.key, .int .u64 e.tie] 42)) = W at *
  have x0 := hbox.cell 0 rfl
  have c1 := h1.head.cell 1 rfl
  have d1 : decide (e.i < 0) = false := decide_eq_false (by omega)
  have d2 : decide (e.i ≥ (n : Int)) = false := decide_eq_false (by omega)
  have HW := Aside0.mk (And.intro hbox (And.intro h1 hal))
  clear hbox h1 hal
  go_quiet (fail)
  clear x0 c1 d1 d2
  have hal := pw_below_drewN HW.out.2.2 nq
  have h2 := HW.out.2.1.below (pw_below_drewN (Below.refl _ W) nq)
  have hbox := HW.out.1.drewN nq
  clear HW
  generalize W.drewN nq = W2 at *
  have x0 := hbox.cell 0 rfl
  have HW := Aside0.mk (And.intro hbox (And.intro h2 hal))
  clear hbox h2 hal
  go_wp2_with (fail)
  refine (find_no 0 gx n _ S e.i W2 HW.out.2.1 (by have := HN.out; omega) HI.out.1).mono ?_
  rintro r w2 ⟨rfl, rfl⟩
  clear x0
  have HF : Aside0 (∀ V, Below W2.heap.size W2 V → Blk V q 42 e.encR ∧ RH V 0 gx (.slice A N c) S n) := ⟨fun V hV => ⟨HW.out.1.below hV, HW.out.2.1.below hV⟩⟩
  go_wp2_with (fail)
  go_loopw [5, 6, 7] (fun s5 s6 s7 wr => ∃ (k : Nat) (out : List En) (pl : Bool), k ≤ N ∧ s6 = .bool pl ∧ s7 = .int .i64 k ∧ En.kr.R 42 wr W2.heap.size (fun _ => True) s5 out ∧ out ++ more e pl (S.drop k) = ins e S ∧ out.length ≤ k + pl.toNat ∧ Below W2.heap.size W2 wr) (fun _ _ s7 _ => N - (intOf s7).toNat)
  case atStart => exact ⟨0, [], false, Nat.zero_le _, rfl, rfl, Kd.R_nil _ _ _ _ _, rfl, by simp, Below.refl _ _⟩
  case round =>
    obtain ⟨k, out, pl, hk, rfl, rfl, hR, hcon, hol, hB⟩ := hrel
    have hF := HF.out wr hB
    have c0 := hF.2.head.cell 0 rfl
    by_cases hlt : k < N
    · obtain ⟨x, hx⟩ : ∃ x, S[k]? = some x := ⟨_, List.getElem?_eq_getElem (by rw [← HN.out]; exact hlt)⟩
      have hdrop : S.drop k = x :: S.drop (k + 1) := by
        rw [List.drop_eq_getElem?_toList_append, hx]; rfl
      have hlt' : (k : Int) < (N : Int) := by omega
      have k0 : (0 : Int) ≤ (k : Int) := by omega
      have hkb : (k : Int) + 1 ≤ 1001 := by omega
      obtain ⟨gr, cc, hv⟩ := HW.out.2.1.form (by rw [← HN.out]; omega)
      injection hv with e1 e2 e3
      subst e1 e3
      obtain ⟨y0, y1, y2⟩ := hF.2.cells hx
      have x0 := hF.1.cell 0 rfl
      have x1 := hF.1.cell 1 rfl
      have x2 := hF.1.cell 2 rfl
      have h24 : (out.length + 1) * 24 ≤ 140737488355328 := by have := pl.toNat_le; omega
      have HX := Aside0.mk hx
      have HR := Aside0.mk (And.intro hR hB)
      clear hF hR hB hx
      cases pl
      · go_upto_region 10 with (fail)
        go_still_tail 11, (by kernel_rfl)
        change wpList _ _ _ _ _ wr.drew
        have HC := Aside0.mk (And.intro hcon (And.intro hdrop hol))
        clear hcon hdrop hol
        go_wp2_with (fail)
        refine (ahead_ok e x _).mono ?_
        rintro r w3 ⟨rfl, hb3⟩
        have hR3 := Kd.R_below (Kd.R_drew HR.out.1) hb3
        have hB3 : Below W2.heap.size W2 w3 := (below_drew HR.out.2).trans (hb3.mono (below_drew HR.out.2).size)
        have hF := HF.out w3 hB3
        obtain ⟨y0, y1, y2⟩ := hF.2.cells HX.out
        have c0 := hF.2.head.cell 0 rfl
        have x0 := hF.1.cell 0 rfl
        have x1 := hF.1.cell 1 rfl
        have x2 := hF.1.cell 2 rfl
        have HR3 := Aside0.mk (And.intro hR3 hB3)
        clear hF hR3 hB3 hb3 HR
        by_cases hlx : e.lt x
        · have dlt : decide (e.lt x) = true := decide_eq_true hlx
          rw [dlt]
          have h25 : ((out ++ [e]).length + 1) * 24 ≤ 140737488355328 := by have := len_one (x := e) HC.out.2.2; have h0 : false.toNat = 0 := rfl; omega
          have HQ : Aside0 (((out ++ [e]) ++ [x]) ++ more e true (S.drop (k + 1)) = ins e S ∧ ((out ++ [e]) ++ [x]).length ≤ k + 1 + true.toNat) := ⟨more_hit HC.out.1 HC.out.2.1 hlx, len_two HC.out.2.2⟩
          clear hlx dlt
          go_wp2_with (first | (at_builtin; refine Kd.R_append En.kr (w0 := W2) W2.heap.size rfl (.tmp 47) (.tmp 49) 37 42 (.agg #[.int .i64 0, .int .i64 0, .int .u64 0]) 24 rfl Try.underlying37 (by kernel_rfl) rfl (by decide) (by omega) _ _ e (En.encR e) (fun _ => True) (fun _ => False) rfl rfl rfl (fun _ hk => hk.elim) (fun _ _ => trivial) HR3.out.1 HR3.out.2 HR3.out.2.size h24 ?_; intro v1 w1 hR1 hB1 hg1 ho1; have HR1 := Aside0.mk (And.intro hR1 hB1); have hF1 := HF.out w1 hB1; obtain ⟨y0, y1, y2⟩ := hF1.2.cells HX.out; have c0 := hF1.2.head.cell 0 rfl; clear hF1 hR1 hB1 hg1 ho1) | (at_builtin; refine Kd.R_append En.kr (w0 := W2) W2.heap.size rfl (.tmp 51) (.tmp 59) 37 42 (.agg #[.int .i64 0, .int .i64 0, .int .u64 0]) 24 rfl Try.underlying37 (by kernel_rfl) rfl (by decide) (by omega) _ _ x (En.encR x) (fun _ => True) (fun _ => False) rfl rfl rfl (fun _ hk => hk.elim) (fun _ _ => trivial) HR1.out.1 HR1.out.2 HR1.out.2.size h25 ?_; intro v2 w2 hR1 hB1 hg1 ho1; have HR2 := Aside0.mk (And.intro hR1 hB1); have hF1 := HF.out w2 hB1; clear hF1 hR1 hB1 hg1 ho1))
          refine ⟨⟨k + 1, _, true, by omega, rfl, by go_num, HR2.out.1, HQ.out.1, HQ.out.2, HR2.out.2⟩, by simp [intOf]; omega⟩
        · have dlt : decide (e.lt x) = false := decide_eq_false hlx
          rw [dlt]
          have HQ : Aside0 ((out ++ [x]) ++ more e false (S.drop (k + 1)) = ins e S ∧ (out ++ [x]).length ≤ k + 1 + false.toNat) := ⟨more_miss HC.out.1 HC.out.2.1 hlx, len_one HC.out.2.2⟩
          clear hlx dlt
          go_wp2_with (at_builtin; refine Kd.R_append En.kr (w0 := W2) W2.heap.size rfl (.tmp 51) (.tmp 59) 37 42 (.agg #[.int .i64 0, .int .i64 0, .int .u64 0]) 24 rfl Try.underlying37 (by kernel_rfl) rfl (by decide) (by omega) _ _ x (En.encR x) (fun _ => True) (fun _ => False) rfl rfl rfl (fun _ hk => hk.elim) (fun _ _ => trivial) HR3.out.1 HR3.out.2 HR3.out.2.size h24 ?_; intro v1 w1 hR1 hB1 hg1 ho1; have HR1 := Aside0.mk (And.intro hR1 hB1); have hF1 := HF.out w1 hB1; clear hF1 hR1 hB1 hg1 ho1)
          refine ⟨⟨k + 1, _, false, by omega, rfl, by go_num, HR1.out.1, HQ.out.1, HQ.out.2, HR1.out.2⟩, by simp [intOf]; omega⟩
      · have HQ : Aside0 ((out ++ [x]) ++ more e true (S.drop (k + 1)) = ins e S ∧ (out ++ [x]).length ≤ k + 1 + true.toNat) := ⟨by rw [← hcon, hdrop]; simp [more], by simp at hol ⊢; omega⟩
        clear hcon hdrop
        go_upto_region 10 with (fail)
        go_quiet (fail)
        have hRd := Kd.R_drewN HR.out.1 nq
        have hBd := pw_below_drewN HR.out.2 nq
        generalize wr.drewN nq = V at *
        have HR := Aside0.mk (And.intro hRd hBd)
        have hF := HF.out V hBd
        obtain ⟨y0, y1, y2⟩ := hF.2.cells HX.out
        have c0 := hF.2.head.cell 0 rfl
        clear hF hRd hBd
        go_wp2_with (at_builtin; refine Kd.R_append En.kr (w0 := W2) W2.heap.size rfl (.tmp 51) (.tmp 59) 37 42 (.agg #[.int .i64 0, .int .i64 0, .int .u64 0]) 24 rfl Try.underlying37 (by kernel_rfl) rfl (by decide) (by omega) _ _ x (En.encR x) (fun _ => True) (fun _ => False) rfl rfl rfl (fun _ hk => hk.elim) (fun _ _ => trivial) HR.out.1 HR.out.2 HR.out.2.size h24 ?_; intro v1 w1 hR1 hB1 hg1 ho1; have HR1 := Aside0.mk (And.intro hR1 hB1); clear hR1 hB1 hg1 ho1)
        refine ⟨⟨k + 1, _, true, by omega, rfl, by go_num, HR1.out.1, HQ.out.1, HQ.out.2, HR1.out.2⟩, by simp [intOf]; omega⟩
    · obtain rfl : k = N := by omega
      have hd : S.drop k = [] := by rw [HN.out, List.drop_length]
      have x0 := hF.1.cell 0 rfl
      have x1 := hF.1.cell 1 rfl
      have x2 := hF.1.cell 2 rfl
      have z0 := hF.2.head.frozen 0
      have h24 : (out.length + 1) * 24 ≤ 140737488355328 := by have := pl.toNat_le; omega
      have HR := Aside0.mk (And.intro hR hB)
      have HE : Aside0 (∀ V v1, Below W2.heap.size W2 V → En.kr.R 42 V W2.heap.size (fun _ => True) v1 (ins e S) → RH (V.setCell ⟨gx, 0, none⟩ v1) 0 gx v1 (ins e S) n ∧ Kp [gx] w (V.setCell ⟨gx, 0, none⟩ v1)) := ⟨fun V v1 hV hR => by
        have hF := HF.out V hV
        have hbw : Below w.heap.size w V := HW.out.2.2.trans (hV.mono HW.out.2.2.size)
        exact ⟨⟨hF.2.head.put 0 _ rfl, Kd.R_lower (Kd.R_set hR hF.2.head (by simp [En.kr, fk]) 0 _) (Nat.zero_le _)⟩, (Kp.of_below hbw).set (p := ⟨gx, 0, none⟩) (.inl (by simp)) _⟩⟩
      cases pl
      · have hq : out ++ [e] = ins e S := by rw [← hcon, hd]; rfl
        have HQ := Aside0.mk hq
        clear hcon hol hF hR hB hd hq
        go_wp2_with (at_builtin; refine Kd.R_append En.kr (w0 := W2) W2.heap.size rfl (.tmp 63) (.tmp 65) 37 42 (.agg #[.int .i64 0, .int .i64 0, .int .u64 0]) 24 rfl Try.underlying37 (by kernel_rfl) rfl (by decide) (by omega) _ _ e (En.encR e) (fun _ => True) (fun _ => False) rfl rfl rfl (fun _ hk => hk.elim) (fun _ _ => trivial) HR.out.1 HR.out.2 HR.out.2.size h24 ?_; intro v1 w1 hR1 hB1 hg1 ho1; rw [HQ.out] at hR1; obtain ⟨A1, L1, m1, hv1⟩ := R_sl hR1; subst hv1; have HE1 := Aside0.mk (HE.out w1 _ hB1 hR1); have hF1 := HF.out w1 hB1; have c0 := hF1.2.head.cell 0 rfl; have z0 := hF1.2.head.frozen 0; clear hF1 hR1 hB1 hg1 ho1)
        go_ret
        exact ⟨rfl, _, HE1.out⟩
      · have hq : out = ins e S := by rw [← hcon, hd]; simp [more]
        subst hq
        obtain ⟨A1, L1, m1, hv1⟩ := R_sl HR.out.1
        subst hv1
        have HE1 := Aside0.mk (HE.out _ _ HR.out.2 HR.out.1)
        clear hcon hol hF hR hB hd
        go_wp2_with (fail)
        go_ret
        exact ⟨rfl, _, HE1.out⟩
end Go.Proofs.Ytphkahphpgipkaa.Z

/- The document's Remove, Due; Put where it fails. -/
import Derived.Test.YtphkahphpgipkaaHprp
namespace Go.Proofs.Ytphkahphpgipkaa.Z
open Go.RowKit Go.Proofs.YtphkahphpgipkaaW.PrintWords Go.Proofs.YtphkahphpgipkaaW.PrintLast Go.Proofs.YtphkahphpgipkaaW.PrintMore
attribute [local go_sem] max2_int min2_int max_two min_two max_three min_three max_four min_four
set_option linter.unusedVariables false
set_option linter.unusedSimpArgs false
def wo (S : List En) (i : Int) : List En := S.filter fun x => x.i ≠ i
theorem wo_in {S : List En} {i : Int} {k : Nat} {x : En} (h : S[k]? = some x) (hx : x.i ≠ i) : wo (S.take k) i ++ [x] = wo (S.take (k + 1)) i := by
  rw [List.take_add_one, h]
  show _ = List.filter _ _
  rw [List.filter_append]
  simp [wo, hx]
theorem wo_out {S : List En} {i : Int} {k : Nat} {x : En} (h : S[k]? = some x) (hx : x.i = i) : wo (S.take k) i = wo (S.take (k + 1)) i := by
  rw [List.take_add_one, h]
  show _ = List.filter _ _
  rw [List.filter_append]
  simp [wo, hx]
theorem wo_len (S : List En) (i : Int) (k : Nat) : (wo (S.take k) i).length ≤ k := by
  have := List.length_filter_le (fun x : En => decide (x.i ≠ i)) (S.take k)
  rw [List.length_take] at this
  exact Nat.le_trans this (Nat.min_le_left _ _)
set_option maxHeartbeats 8000000 in
set_option maxRecDepth 100000 in
theorem rrem_ok (gx n p : Nat) (v : Value) (S : List En) (u : En) (w : World) (h : RH w 0 gx v S n) (hl : S.length ≤ 1000) (hn : n ≤ 1024) (hi : 0 ≤ u.i ∧ u.i < n) (hu : S[p]? = some u) (hinj : ∀ j e, S[j]? = some e → e.i = u.i → j = p) :
    Calls Try.prog 17 #[.pointer (some ⟨gx, 0, none⟩), .int .i64 u.i] w fun r w' => r = .returned (.int .i64 0) ∧ ∃ v', RH w' 0 gx v' (wo S u.i) n ∧ Kp [gx] w w' := by
  have hpl : p < S.length := (List.getElem?_eq_some_iff.1 hu).1
  obtain ⟨gr, c, hv⟩ := h.form (by omega)
  obtain ⟨N, hN⟩ : ∃ N, N = S.length := ⟨_, rfl⟩
  have hfind := find_at 0 gx n p v S u w h (by omega) hu hinj
  rw [← hN] at hv hl hpl
  subst hv
  have HN := Aside0.mk hN
  have HU := Aside0.mk (And.intro hu hinj)
  have HW := Aside0.mk h
  have HFI := Aside0.mk hfind
  obtain ⟨i0, i1⟩ := hi
  have c1 := h.head.cell 1 rfl
  have d1 : decide (u.i < 0) = false := decide_eq_false (by omega)
  have d2 : decide (u.i ≥ (n : Int)) = false := decide_eq_false (by omega)
  have p0 : ¬ (p : Int) < 0 := by omega
  clear h hN hu hinj hfind
  go_enter Try.func17, Try.ntmps17
  go_wp2_with (fail)
  refine HFI.out.mono ?_
  rintro r w2 ⟨rfl, rfl⟩
  clear HFI d1 d2
  have HF : Aside0 (∀ V, Below w.heap.size w V → RH V 0 gx (.slice (some ⟨gr, 0, none⟩) N c) S n) := ⟨fun V hV => HW.out.below hV⟩
  go_wp2_with (fail)
  clear c1
  go_loopw [6, 7] (fun s6 s7 wr => ∃ k : Nat, k ≤ N ∧ s7 = .int .i64 k ∧ En.kr.R 42 wr w.heap.size (fun _ => True) s6 (wo (S.take k) u.i) ∧ Below w.heap.size w wr) (fun _ s7 _ => N - (intOf s7).toNat)
  case atStart => exact ⟨0, Nat.zero_le _, rfl, Kd.R_nil _ _ _ _ _, Below.refl _ _⟩
  case round =>
    obtain ⟨k, hk, rfl, hR, hB⟩ := hrel
    have hF := HF.out wr hB
    have c0 := hF.head.cell 0 rfl
    by_cases hlt : k < N
    · obtain ⟨x, hx⟩ : ∃ x, S[k]? = some x := ⟨_, List.getElem?_eq_getElem (by rw [← HN.out]; exact hlt)⟩
      have hlt' : (k : Int) < (N : Int) := by omega
      have k0 : (0 : Int) ≤ (k : Int) := by omega
      have hkb : (k : Int) + 1 ≤ 1001 := by omega
      obtain ⟨y0, y1, y2⟩ := hF.cells hx
      have h24 : ((wo (S.take k) u.i).length + 1) * 24 ≤ 140737488355328 := by have := wo_len S u.i k; omega
      have HX := Aside0.mk hx
      have HR := Aside0.mk (And.intro hR hB)
      have hbs := hB.size
      clear hF hR hB hx
      by_cases hkp : k = p
      · subst hkp
        have hne : ((k : Int) != (k : Int)) = false := by simp
        have HQ : Aside0 (wo (S.take k) u.i = wo (S.take (k + 1)) u.i) := ⟨wo_out HX.out (by have := HX.out.symm.trans HU.out.1; injection this with this; rw [this])⟩
        go_wp2_with (fail)
        exact ⟨⟨k + 1, by omega, by go_num, by rw [← HQ.out]; exact HR.out.1, HR.out.2⟩, by simp [intOf]; omega⟩
      · have hne : ((k : Int) != (p : Int)) = true := by simp; omega
        have HQ : Aside0 (wo (S.take k) u.i ++ [x] = wo (S.take (k + 1)) u.i) := ⟨wo_in HX.out (fun e => hkp (HU.out.2 k x HX.out e))⟩
        go_wp2_with (at_builtin; refine Kd.R_append En.kr (w0 := w) w.heap.size rfl (.tmp 35) (.tmp 43) 37 42 (.agg #[.int .i64 0, .int .i64 0, .int .u64 0]) 24 rfl Try.underlying37 (by kernel_rfl) rfl (by decide) (by omega) _ _ x (En.encR x) (fun _ => True) (fun _ => False) rfl rfl rfl (fun _ hk => hk.elim) (fun _ _ => trivial) HR.out.1 HR.out.2 hbs h24 ?_; intro v1 w1 hR1 hB1 hg1 ho1; have HR1 := Aside0.mk (And.intro hR1 hB1); clear hR1 hB1 hg1 ho1)
        exact ⟨⟨k + 1, by omega, by go_num, by rw [← HQ.out]; exact HR1.out.1, HR1.out.2⟩, by simp [intOf]; omega⟩
    · obtain rfl : k = N := by omega
      have hd : S.take k = S := by rw [HN.out, List.take_length]
      rw [hd] at hR
      have z0 := hF.head.frozen 0
      obtain ⟨A1, L1, m1, hv1⟩ := R_sl hR
      subst hv1
      have HE1 : Aside0 (RH (wr.setCell ⟨gx, 0, none⟩ (.slice A1 L1 m1)) 0 gx (.slice A1 L1 m1) (wo S u.i) n ∧ Kp [gx] w (wr.setCell ⟨gx, 0, none⟩ (.slice A1 L1 m1))) :=
        ⟨⟨hF.head.put 0 _ rfl, Kd.R_lower (Kd.R_set hR hF.head (by simp [En.kr, fk]) 0 _) (Nat.zero_le _)⟩, (Kp.of_below hB).set (p := ⟨gx, 0, none⟩) (.inl (by simp)) _⟩
      clear hF hR hB hd
      go_wp2_with (fail)
      go_ret
      exact ⟨rfl, _, HE1.out⟩
theorem rrem_arg (gx n : Nat) (v : Value) (S : List En) (i : Int) (w : World) (h : RH w 0 gx v S n) (hi : ¬ (0 ≤ i ∧ i < n)) :
    Calls Try.prog 17 #[.pointer (some ⟨gx, 0, none⟩), .int .i64 i] w fun r w' => r = .returned (.int .i64 1) ∧ w = w' := by
  have c1 := h.head.cell 1 rfl
  clear h
  by_cases h0 : i < 0
  · go_enter Try.func17, Try.ntmps17
    go_wp2_with (fail)
    go_ret
    exact ⟨rfl, rfl⟩
  · have d1 : decide (i < 0) = false := decide_eq_false h0
    have d2 : decide (i ≥ (n : Int)) = true := decide_eq_true (by omega)
    clear hi h0
    go_enter Try.func17, Try.ntmps17
    go_wp2_with (fail)
    go_ret
    exact ⟨rfl, rfl⟩
theorem rrem_none (gx n : Nat) (v : Value) (S : List En) (i : Int) (w : World) (h : RH w 0 gx v S n) (hl : S.length ≤ 1000) (hi : 0 ≤ i ∧ i < n) (hin : ∀ x ∈ S, x.i ≠ i) :
    Calls Try.prog 17 #[.pointer (some ⟨gx, 0, none⟩), .int .i64 i] w fun r w' => r = .returned (.int .i64 3) ∧ w = w' := by
  have c1 := h.head.cell 1 rfl
  have HF := Aside0.mk (find_no 0 gx n v S i w h (by omega) hin)
  have d1 : decide (i < 0) = false := decide_eq_false (by omega)
  have d2 : decide (i ≥ (n : Int)) = false := decide_eq_false (by omega)
  clear h hin hl hi
  go_enter Try.func17, Try.ntmps17
  go_wp2_with (fail)
  refine HF.out.mono ?_
  rintro r w2 ⟨rfl, rfl⟩
  go_wp2_with (fail)
  go_ret
  exact ⟨rfl, rfl⟩
set_option maxHeartbeats 8000000 in
theorem rput_arg (gx n : Nat) (v : Value) (S : List En) (e : En) (w : World) (h : RH w 0 gx v S n) (hi : ¬ (0 ≤ e.i ∧ e.i < n)) :
    Calls Try.prog 14 #[.pointer (some ⟨gx, 0, none⟩), e.valR] w fun r w' => r = .returned (.int .i64 1) ∧ Below w.heap.size w w' := by
  have hbox : Blk (w.alloc (.cells #[.int .i64 e.i, .int .i64 e.key, .int .u64 e.tie] 42)) w.heap.size 42 e.encR := Blk.new w 42 e.encR
  have hal : Below w.heap.size w (w.alloc (.cells #[.int .i64 e.i, .int .i64 e.key, .int .u64 e.tie] 42)) := below_alloc (Below.refl _ _) _
  have h1 := h.below hal
  have x0 := hbox.cell 0 rfl
  have c1 := h1.head.cell 1 rfl
  have HAL := Aside0.mk hal
  clear h h1 hbox hal
  unfold En.valR
  by_cases h0 : e.i < 0
  · have d1 : decide (e.i < 0) = true := decide_eq_true h0
    clear hi h0
    go_enter Try.func14, Try.ntmps14
    go_upto_region 1 with (fail)
    go_quiet (fail)
    go_wp2_with (fail)
    go_ret
    exact ⟨rfl, pw_below_drewN HAL.out _⟩
  · have d1 : decide (e.i < 0) = false := decide_eq_false h0
    have d2 : decide (e.i ≥ (n : Int)) = true := decide_eq_true (by omega)
    clear hi h0
    go_enter Try.func14, Try.ntmps14
    go_upto_region 1 with (fail)
    go_quiet (fail)
    go_wp2_with (fail)
    go_ret
    exact ⟨rfl, pw_below_drewN HAL.out _⟩
set_option maxHeartbeats 8000000 in
theorem rput_busy (gx n p : Nat) (v : Value) (S : List En) (e u : En) (w : World) (h : RH w 0 gx v S n) (hl : S.length ≤ 1000) (hi : 0 ≤ e.i ∧ e.i < n) (hue : u.i = e.i) (hu : S[p]? = some u) (hinj : ∀ j x, S[j]? = some x → x.i = u.i → j = p) :
    Calls Try.prog 14 #[.pointer (some ⟨gx, 0, none⟩), e.valR] w fun r w' => r = .returned (.int .i64 10) ∧ Below w.heap.size w w' := by
  have hbox : Blk (w.alloc (.cells #[.int .i64 e.i, .int .i64 e.key, .int .u64 e.tie] 42)) w.heap.size 42 e.encR := Blk.new w 42 e.encR
  have hal : Below w.heap.size w (w.alloc (.cells #[.int .i64 e.i, .int .i64 e.key, .int .u64 e.tie] 42)) := below_alloc (Below.refl _ _) _
  have h1 := h.below hal
  have HX := Aside0.mk (And.intro hbox (And.intro h1 hal))
  have HU := Aside0.mk (And.intro hu hinj)
  have x0 := hbox.cell 0 rfl
  have c1 := h1.head.cell 1 rfl
  have d1 : decide (e.i < 0) = false := decide_eq_false (by omega)
  have d2 : decide (e.i ≥ (n : Int)) = false := decide_eq_false (by omega)
  clear h h1 hbox hal hi hu hinj
  unfold En.valR
  go_enter Try.func14, Try.ntmps14
  go_upto_region 1 with (fail)
  go_quiet (fail)
  have hf := find_at 0 gx n p v S u ((w.alloc (.cells #[.int .i64 e.i, .int .i64 e.key, .int .u64 e.tie] 42)).drewN nq) (HX.out.2.1.below (pw_below_drewN (Below.refl _ _) nq)) (by omega) HU.out.1 HU.out.2
  rw [hue] at hf
  have HF := Aside0.mk hf
  have x0 := (HX.out.1.drewN nq).cell 0 rfl
  have hp0 : (p : Int) ≥ 0 := by omega
  clear hf hl hue
  go_wp2_with (fail)
  refine HF.out.mono ?_
  rintro r w2 ⟨rfl, rfl⟩
  go_wp2_with (fail)
  go_ret
  exact ⟨rfl, pw_below_drewN HX.out.2.2 _⟩
end Go.Proofs.Ytphkahphpgipkaa.Z

/- Far, Turned, Corners. -/
import Derived.Test.YtahmogobaanklaaSwt
namespace Go.Proofs.Ytahmogobaanklaa.Z
open Go.RowKit Go.Proofs.YtahmogobaanklaaW.PrintWords Go.Proofs.YtahmogobaanklaaW.PrintLast Go.Proofs.YtahmogobaanklaaW.PrintMore
attribute [local go_sem] max2_int min2_int max_two min_two max_three min_three max_four min_four unary_neg_float
set_option linter.unusedVariables false
set_option linter.unusedSimpArgs false
set_option maxHeartbeats 4000000 in
theorem far_ok (A : Option Addr) (c : Nat) (l : List CB) (z : CB) (w : World) (hC : CB.kd.C w A l.length l) (h : Way l) (hz : z.fits 4194304) :
    Calls Try.prog 12 #[.slice A l.length c, .complex .f64 z.re z.im] w fun e w' => e = .returned (.int .i64 (farL z.pt (l.map CB.pt))) ∧ w = w' := by
  have hlen := h.1
  have hbd : ∀ k, 0 ≤ farL z.pt ((l.map CB.pt).take k) ∧ farL z.pt ((l.map CB.pt).take k) ≤ (140737488355328 : Nat) := fun k =>
    farL_le _ 0 (by omega) (by omega) (fun q hq => by
      have hq' := h.pts q (List.mem_of_mem_take hq)
      have := sqr_le (Pt.sub_le hq' hz.2)
      omega)
  have HC := Aside0.mk hC
  have HH := Aside0.mk h
  have HZ := Aside0.mk hz
  have HBD := Aside0.mk hbd
  clear hC h hz hbd
  go_enter Try.func12, Try.ntmps12
  go_wp2_with (fail)
  go_loop [5, 11] (fun f i => ∃ k : Nat, k ≤ l.length ∧ i = .int .i64 k ∧ f = .int .i64 (farL z.pt ((l.map CB.pt).take k))) (fun _ i => l.length - (intOf i).toNat)
  case atStart => exact ⟨0, Nat.zero_le _, rfl, rfl⟩
  case round =>
    obtain ⟨k, hk, rfl, rfl⟩ := hrel
    by_cases hlt : k < l.length
    · have hlt' : (k : Int) < (l.length : Int) := by omega
      obtain ⟨ad, rfl⟩ : ∃ ad, A = some ad := by
        obtain ⟨ad, h, _⟩ := HC.out.2.2 (by omega)
        exact ⟨ad, h⟩
      obtain ⟨x, hx⟩ : ∃ x, l[k]? = some x := ⟨_, List.getElem?_eq_getElem hlt⟩
      have c0 := cb_came HC.out hx
      have hxf := HH.out.2 x (List.mem_of_getElem? hx)
      have hzf := HZ.out
      obtain ⟨d, hs, hd⟩ := sub_run (P := Try.prog) (T := 24) hxf.1 hzf.1 (hxf.2.mono (by omega)) (hzf.2.mono (by omega))
      have hdl : (x.pt.sub z.pt).le 8388608 := (Pt.sub_le hxf.2 hzf.2).mono (by omega)
      obtain ⟨m, hm, hmi⟩ := mul_run (P := Try.prog) (T := 24) hd hd.conj (hdl.mono (by omega)) ⟨Nat.le_trans hdl.1 (by omega), by rw [Int.natAbs_neg]; exact Nat.le_trans hdl.2 (by omega)⟩
      have e1 : (x.pt.sub z.pt).u * (x.pt.sub z.pt).u - (x.pt.sub z.pt).v * -(x.pt.sub z.pt).v = sqr (x.pt.sub z.pt) := by unfold sqr; rw [Int.mul_neg]; omega
      have hre : FI m.re (sqr (x.pt.sub z.pt)) := by rw [← e1]; exact hmi.re
      have hsq := sqr_le hdl
      have hk2 := int_run hre (by omega)
      have hst : farL z.pt ((l.map CB.pt).take (k + 1)) = farS z.pt (farL z.pt ((l.map CB.pt).take k)) x.pt := by
        rw [List.take_add_one, List.getElem?_map, hx]; exact farL_snoc _ _ _
      have HST := Aside0.mk hst
      have hb1 := (HBD.out k).1
      have hb2 := (HBD.out k).2
      obtain ⟨F, hF⟩ : ∃ F, F = farL z.pt ((l.map CB.pt).take k) := ⟨_, rfl⟩
      obtain ⟨S, hS⟩ : ∃ S, S = sqr (x.pt.sub z.pt) := ⟨_, rfl⟩
      unfold farS at HST
      rw [← hF, ← hS] at HST
      rw [← hF] at hb1 hb2 ⊢
      rw [← hS] at hk2
      clear hst hmi e1 hre hd hdl hxf hzf hx hF hS hsq
      by_cases hFS : F < S
      · go_wp2_with (go_at_call 28; refine (conj_ok _ _).mono ?_; rintro e w' ⟨rfl, rfl⟩)
        go_round
        case rel => exact ⟨k + 1, by omega, by go_num, by rw [HST.out, if_pos hFS]⟩
        case measure => simp [intOf]; omega
      · go_wp2_with (go_at_call 28; refine (conj_ok _ _).mono ?_; rintro e w' ⟨rfl, rfl⟩)
        go_round
        case rel => exact ⟨k + 1, by omega, by go_num, by rw [HST.out, if_neg (by omega)]⟩
        case measure => simp [intOf]; omega
    · have e : (l.map CB.pt).take k = l.map CB.pt := List.take_of_length_le (by rw [List.length_map]; omega)
      rw [e]
      clear e
      go_wp2_with (fail)
      go_ret
      exact ⟨rfl, rfl⟩
set_option maxHeartbeats 4000000 in
theorem turned_ok (A : Option Addr) (c : Nat) (l : List CB) (w : World) (hC : CB.kd.C w A l.length l) (h : Way l) :
    Calls Try.prog 21 #[.slice A l.length c] w fun e w' => ∃ v, e = .returned v ∧ CB.kd.R 24 w' w.heap.size (fun _ => True) v (l.map turnB) ∧ Below w.heap.size w w' := by
  have hlen := h.1
  have HC := Aside0.mk hC
  have HH := Aside0.mk h
  clear hC h
  go_enter Try.func21, Try.ntmps21
  go_wp2_with (fail)
  go_loopw [3, 8] (fun v i wr => ∃ k : Nat, k ≤ l.length ∧ i = .int .i64 k ∧ CB.kd.R 24 wr w.heap.size (fun _ => True) v ((l.take k).map turnB) ∧ Below w.heap.size w wr) (fun _ i _ => l.length - (intOf i).toNat)
  case atStart => exact ⟨0, Nat.zero_le _, rfl, Kd.R_nil _ _ _ _ _, Below.refl _ _⟩
  case round =>
    obtain ⟨k, hk, rfl, hR, hb⟩ := hrel
    have HR := Aside0.mk hR
    have HB := Aside0.mk hb
    obtain ⟨A', c', hv⟩ := Kd.R_slice hR
    rw [List.length_map, List.length_take, Nat.min_eq_left hk] at hv
    subst hv
    clear hR hb
    by_cases hlt : k < l.length
    · have hlt' : (k : Int) < (l.length : Int) := by omega
      obtain ⟨ad, rfl⟩ : ∃ ad, A = some ad := by
        obtain ⟨ad, h, _⟩ := HC.out.2.2 (by omega)
        exact ⟨ad, h⟩
      obtain ⟨x, hx⟩ : ∃ x, l[k]? = some x := ⟨_, List.getElem?_eq_getElem hlt⟩
      have c0 := cb_came (Kd.C_below HC.out HB.out) hx
      have hxf := HH.out.2 x (List.mem_of_getElem? hx)
      have hm : ∀ W, (binOp .mul 24 (.complex .f64 x.re x.im) (.complex .f64 0 4607182418800017408)).run Try.prog W = .ok (.complex .f64 (turnB x).re (turnB x).im) W := (mulB_run (P := Try.prog) (T := 24) hxf.1 CB.i_is (hxf.2.mono (by omega)) ⟨by simp, by simp⟩).1
      have htk : (l.take (k + 1)).map turnB = (l.take k).map turnB ++ [turnB x] := by rw [List.take_add_one, hx, List.map_append]; rfl
      have HTK := Aside0.mk htk
      clear hx hxf htk
      go_wp2_with (at_builtin; refine Kd.R_append CB.kd (w0 := w) w.heap.size rfl (.tmp 12) (.tmp 15) 27 24 (.complex .f64 0 0) 16 rfl Try.underlying27 (by kernel_rfl) rfl (by decide) (by omega) _ ((l.take k).map turnB) (turnB x) [.complex .f64 (turnB x).re (turnB x).im] (fun _ => True) (fun _ => False) rfl rfl rfl (fun _ hk => hk.elim) (fun _ _ => trivial) HR.out HB.out HB.out.size (by rw [List.length_map, List.length_take]; omega) ?_; intro v8 w8 hR8 hB8 hg8 _; have HR8 := Aside0.mk hR8; have HB8 := Aside0.mk hB8; clear hR8 hB8 hg8)
      go_roundw
      case rel => exact ⟨k + 1, by omega, by go_num, by rw [HTK.out]; exact HR8.out, HB8.out⟩
      case measure => simp [intOf]; omega
    · obtain rfl : k = l.length := by omega
      go_wp2_with (fail)
      go_ret
      exact ⟨_, rfl, by have := HR.out; rw [List.take_length] at this; exact this, HB.out⟩
theorem corners_nil (A : Option Addr) (c : Nat) (w : World) : Calls Try.prog 19 #[.slice A 0 c] w fun e w' => e = .returned (.tuple #[.complex .f64 0 0, .complex .f64 0 0]) ∧ w = w' := by
  go_enter Try.func19, Try.ntmps19
  go_wp2
  refine bodyPost_ret (results_tmp2 rfl _ _ _) rfl ?_
  exact ⟨rfl, rfl⟩
/-- Low and high corners of points. -/
structure Corn (l : List Pt) (p q : Pt) : Prop where
  lo : ∀ z ∈ l, p.u ≤ z.u ∧ p.v ≤ z.v
  hi : ∀ z ∈ l, z.u ≤ q.u ∧ z.v ≤ q.v
  bp : p.le 4194304
  bq : q.le 4194304
set_option maxHeartbeats 8000000 in
theorem corners_ok (A : Option Addr) (c : Nat) (l : List CB) (w : World) (hC : CB.kd.C w A l.length l) (h : Way l) (hp : 0 < l.length) :
    Calls Try.prog 19 #[.slice A l.length c] w fun e w' => ∃ (a b : CB) (p q : Pt), e = .returned (.tuple #[.complex .f64 a.re a.im, .complex .f64 b.re b.im]) ∧ a.Is p ∧ b.Is q ∧ Corn (l.map CB.pt) p q ∧ Below w.heap.size w w' := by
  have hlen := h.1
  obtain ⟨ad, rfl⟩ : ∃ ad, A = some ad := by
    obtain ⟨ad, h, _⟩ := hC.2.2 (by omega)
    exact ⟨ad, h⟩
  obtain ⟨x0, hx0⟩ : ∃ x, l[0]? = some x := ⟨_, List.getElem?_eq_getElem hp⟩
  have c0 := cb_came hC hx0
  rw [show ad.add 0 = ad from by cases ad; simp [Addr.add]] at c0
  have hp' : (0 : Int) < (l.length : Int) := by omega
  have hpe : ((l.length : Int) == 0) = false := by rw [beq_eq_false_iff_ne]; omega
  have HC := Aside0.mk hC
  have HH := Aside0.mk h
  have HX0 := Aside0.mk hx0
  clear hC h hx0
  go_enter Try.func19, Try.ntmps19
  go_wp2_with (fail)
  go_quiet (fail)
  go_wp2_with (fail)
  clear c0
  go_loopw [4, 5, 19] (fun u v i wr => ∃ (k : Nat) (a b : CB) (p q : Pt), k ≤ l.length ∧ i = .int .i64 k ∧ u = .complex .f64 a.re a.im ∧ v = .complex .f64 b.re b.im ∧ a.Is p ∧ b.Is q ∧ Corn ((l.map CB.pt).take k) p q ∧ Below w.heap.size w wr) (fun _ _ i _ => l.length - (intOf i).toNat)
  case atStart =>
    have := HH.out.2 x0 (List.mem_of_getElem? HX0.out)
    exact ⟨0, x0, x0, x0.pt, x0.pt, Nat.zero_le _, rfl, rfl, rfl, this.1, this.1, ⟨by simp, by simp, this.2, this.2⟩, pw_below_drewN (Below.refl _ _) _⟩
  case round =>
    obtain ⟨k, a, b, p, q, hk, rfl, rfl, rfl, ha, hb, hco, hbw⟩ := hrel
    have HCO := Aside0.mk hco
    have HB := Aside0.mk hbw
    have HAB := Aside0.mk (And.intro ha hb)
    clear hco hbw
    by_cases hlt : k < l.length
    · have hlt' : (k : Int) < (l.length : Int) := by omega
      obtain ⟨x, hx⟩ : ∃ x, l[k]? = some x := ⟨_, List.getElem?_eq_getElem hlt⟩
      have c1 := cb_came (Kd.C_below HC.out HB.out) hx
      have hxf := HH.out.2 x (List.mem_of_getElem? hx)
      obtain ⟨r1, m1, i1⟩ := min2_FI ha.re hxf.1.re
      obtain ⟨r2, m2, i2⟩ := min2_FI ha.im hxf.1.im
      obtain ⟨r3, m3, i3⟩ := max2_FI hb.re hxf.1.re
      obtain ⟨r4, m4, i4⟩ := max2_FI hb.im hxf.1.im
      have HI := Aside0.mk (And.intro i1 (And.intro i2 (And.intro i3 i4)))
      have HX := Aside0.mk hx
      have HXF := Aside0.mk hxf
      clear hx hxf ha hb i1 i2 i3 i4
      go_wp2_with (fail)
      go_roundw
      case rel =>
        obtain ⟨i1, i2, i3, i4⟩ := HI.out
        have hco := HCO.out
        have hxl := HXF.out.2
        refine ⟨k + 1, ⟨r1, r2⟩, ⟨r3, r4⟩, ⟨min p.u x.pt.u, min p.v x.pt.v⟩, ⟨max q.u x.pt.u, max q.v x.pt.v⟩, by omega, by go_num, rfl, rfl, ⟨i1, i2⟩, ⟨i3, i4⟩, ?_, HB.out⟩
        have htk : (l.map CB.pt).take (k + 1) = (l.map CB.pt).take k ++ [x.pt] := by rw [List.take_add_one, List.getElem?_map, HX.out]; rfl
        rw [htk]
        have b1 := hco.bp
        have b2 := hco.bq
        refine ⟨fun z hz => ?_, fun z hz => ?_, ?_, ?_⟩
        · rcases List.mem_append.1 hz with hz | hz
          · have := hco.lo z hz
            constructor
            · show min p.u x.pt.u ≤ _; omega
            · show min p.v x.pt.v ≤ _; omega
          · rw [List.mem_singleton] at hz; subst hz
            constructor
            · show min p.u x.pt.u ≤ _; omega
            · show min p.v x.pt.v ≤ _; omega
        · rcases List.mem_append.1 hz with hz | hz
          · have := hco.hi z hz
            constructor
            · show _ ≤ max q.u x.pt.u; omega
            · show _ ≤ max q.v x.pt.v; omega
          · rw [List.mem_singleton] at hz; subst hz
            constructor
            · show _ ≤ max q.u x.pt.u; omega
            · show _ ≤ max q.v x.pt.v; omega
        · have h1 := b1.1; have h2 := b1.2; have h3 := hxl.1; have h4 := hxl.2
          constructor
          · show (min p.u x.pt.u).natAbs ≤ _; omega
          · show (min p.v x.pt.v).natAbs ≤ _; omega
        · have h1 := b2.1; have h2 := b2.2; have h3 := hxl.1; have h4 := hxl.2
          constructor
          · show (max q.u x.pt.u).natAbs ≤ _; omega
          · show (max q.v x.pt.v).natAbs ≤ _; omega
      case measure => simp [intOf]; omega
    · have e : (l.map CB.pt).take k = l.map CB.pt := List.take_of_length_le (by rw [List.length_map]; omega)
      clear ha hb
      go_wp2_with (fail)
      refine bodyPost_ret (results_tmp2 rfl _ _ _) rfl ?_
      exact ⟨a, b, p, q, rfl, HAB.out.1, HAB.out.2, by have := HCO.out; rw [e] at this; exact this, HB.out⟩
end Go.Proofs.Ytahmogobaanklaa.Z

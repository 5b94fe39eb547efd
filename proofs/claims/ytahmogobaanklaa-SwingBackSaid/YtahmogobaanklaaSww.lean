/- The swing's functions: what each turns. -/
import Derived.Test.YtahmogobaanklaaSwm
import Derived.Deep.QuietTactic
import Derived.BigQuiet
import Derived.WalkLawsBesides
import Derived.StillTailTactics
namespace Go.Proofs.Ytahmogobaanklaa.Z
open Go.RowKit Go.Proofs.YtahmogobaanklaaW.PrintWords Go.Proofs.YtahmogobaanklaaW.PrintLast Go.Proofs.YtahmogobaanklaaW.PrintMore
theorem unary_neg_float (k : FloatKind) (b : Nat) : Op.unary .neg (.float k b) = pure (.float k (Op.negFloat k b)) := rfl
attribute [local go_sem] max2_int min2_int max_two min_two max_three min_three max_four min_four unary_neg_float
set_option linter.unusedVariables false
set_option linter.unusedSimpArgs false
theorem conj_ok (a : CB) (w : World) : Calls Try.prog 28 #[.complex .f64 a.re a.im] w fun e w' => e = .returned (.complex .f64 a.conj.re a.conj.im) ∧ w = w' := by
  go_enter Try.func28, Try.ntmps28
  go_wp2
  go_ret
  exact ⟨rfl, rfl⟩
set_option maxHeartbeats 4000000 in
theorem cross_ok (a b : CB) (p q : Pt) (w : World) (ha : a.Is p) (hb : b.Is q) (hp : p.le 16777216) (hq : q.le 16777216) :
    Calls Try.prog 26 #[.complex .f64 a.re a.im, .complex .f64 b.re b.im] w fun e w' => e = .returned (.int .i64 (crs p q)) ∧ w = w' := by
  obtain ⟨c, hm, hc⟩ := mul_run (P := Try.prog) (T := 24) ha.conj hb (p := ⟨p.u, -p.v⟩) ⟨hp.1, by rw [Int.natAbs_neg]; exact hp.2⟩ hq
  have e : p.u * q.v + -p.v * q.u = crs p q := by unfold crs; rw [Int.neg_mul]; omega
  have hk := int_run (b := c.im) (n := crs p q) (by rw [← e]; exact hc.im) (by have := crs_le hp hq; omega)
  clear e hc ha hb hp hq
  go_enter Try.func26, Try.ntmps26
  go_wp2_with (go_at_call 28; refine (conj_ok a _).mono ?_; rintro e w' ⟨rfl, rfl⟩)
  go_ret
  exact ⟨rfl, rfl⟩
def clampI (x : Int) : Int := if x < -1048576 then -1048576 else if 1048576 < x then 1048576 else x
theorem clampI_le (x : Int) : (clampI x).natAbs ≤ 1048576 := by
  unfold clampI
  split
  · omega
  · split <;> omega
theorem clamp_any (x : Int) (w : World) : Calls Try.prog 23 #[.int .i64 x, .int .i64 (-1048576), .int .i64 1048576] w fun e w' => e = .returned (.int .i64 (clampI x)) ∧ w = w' := by
  by_cases h : x < -1048576
  · have e : clampI x = -1048576 := if_pos h
    rw [e]; clear e
    go_enter Try.func23, Try.ntmps23
    go_wp2
    go_ret
    exact ⟨rfl, rfl⟩
  · have hd : decide (x < -1048576) = false := decide_eq_false h
    by_cases k : 1048576 < x
    · have e : clampI x = 1048576 := by unfold clampI; rw [if_neg h, if_pos k]
      rw [e]; clear e h
      go_enter Try.func23, Try.ntmps23
      go_wp2
      go_ret
      exact ⟨rfl, rfl⟩
    · have kd : decide (1048576 < x) = false := decide_eq_false k
      have e : clampI x = x := by unfold clampI; rw [if_neg h, if_neg k]
      rw [e]; clear e h k
      go_enter Try.func23, Try.ntmps23
      go_wp2
      go_ret
      exact ⟨rfl, rfl⟩
def CB.of (p : Pt) : CB := ⟨floatOfInt .f64 p.u, floatOfInt .f64 p.v⟩
theorem CB.of_is {p : Pt} (h : p.le 16777216) : (CB.of p).Is p := ⟨FI.ofInt (by have := h.1; omega), FI.ofInt (by have := h.2; omega)⟩
def atP (u v : Int) : Pt := ⟨clampI u, clampI v⟩
theorem atP_le (u v : Int) : (atP u v).le 1048576 := ⟨clampI_le u, clampI_le v⟩
theorem at_ok (u v : Int) (w : World) : Calls Try.prog 8 #[.int .i64 u, .int .i64 v] w fun e w' => e = .returned (.complex .f64 (CB.of (atP u v)).re (CB.of (atP u v)).im) ∧ w = w' := by
  go_enter Try.func8, Try.ntmps8
  go_wp2_with (go_at_call 23; refine (clamp_any _ _).mono ?_; rintro e w' ⟨rfl, rfl⟩)
  go_ret
  exact ⟨rfl, rfl⟩
theorem rclamp_any (x : Int) (w : World) : Calls Try.prog 29 #[.int .i64 x] w fun e w' => e = .returned (.int .i64 (clampI x)) ∧ w = w' := by
  by_cases h : x < -1048576
  · have e : clampI x = -1048576 := if_pos h
    rw [e]; clear e
    go_enter Try.func29, Try.ntmps29
    go_wp2
    go_ret
    exact ⟨rfl, rfl⟩
  · have hd : decide (x < -1048576) = false := decide_eq_false h
    by_cases k : 1048576 < x
    · have e : clampI x = 1048576 := by unfold clampI; rw [if_neg h, if_pos k]
      rw [e]; clear e h
      go_enter Try.func29, Try.ntmps29
      go_wp2
      go_ret
      exact ⟨rfl, rfl⟩
    · have kd : decide (1048576 < x) = false := decide_eq_false k
      have e : clampI x = x := by unfold clampI; rw [if_neg h, if_neg k]
      rw [e]; clear e h k
      go_enter Try.func29, Try.ntmps29
      go_wp2
      go_ret
      exact ⟨rfl, rfl⟩
def Pt.enc (p : Pt) : List Value := [.int .i64 p.u, .int .i64 p.v]
def Pt.kd : Kd Pt := fk Pt.enc 2 (fun _ => rfl) (fun x u hu => by simp [Pt.enc] at hu; rcases hu with rfl | rfl <;> rfl)
theorem rClamp_ok (u v : Int) (w : World) : Calls Try.prog 15 #[.int .i64 u, .int .i64 v] w fun e w' => e = .returned (.agg #[.int .i64 (atP u v).u, .int .i64 (atP u v).v]) ∧ Below w.heap.size w w' := by
  go_enter Try.func15, Try.ntmps15
  go_wp2_with (go_at_call 29; refine (rclamp_any _ _).mono ?_; rintro e w' ⟨rfl, rfl⟩)
  exact bodyPost_ret (v := .agg #[.int .i64 (atP u v).u, .int .i64 (atP u v).v]) (by simp [results, Try.results15, go_sem, atP]) rfl ⟨rfl, (Below.refl _ _).alloc (Nat.le_refl _) _⟩
theorem steps_25 (A : Option Addr) (c : Nat) (l : List CB) (b : Nat) (J : Nat → World → Prop) (w : World) (hl : l.length ≤ 1000)
    (hC : ∀ k W, J k W → CB.kd.C W A l.length l)
    (hJ : ∀ (k : Nat) x y W, l[k]? = some x → l[(k + 1) % l.length]? = some y → J k W → Calls Try.prog 25 #[.complex .f64 x.re x.im, .complex .f64 y.re y.im, .pointer (some ⟨b, 0, none⟩)] W fun e W' => e = .returned (.tuple #[]) ∧ J (k + 1) W')
    (h0 : J 0 w) : Calls Try.prog 24 #[.slice A l.length c, .func (.func 25) #[] #[.pointer (some ⟨b, 0, none⟩)]] w fun e w' => e = .returned (.tuple #[]) ∧ J l.length w' := by
  have HC := Aside0.mk hC
  have HJ := Aside0.mk hJ
  clear hC hJ
  go_enter Try.func24, Try.ntmps24
  go_wp2_with (fail)
  go_loopw [8] (fun i wr => ∃ k : Nat, k ≤ l.length ∧ i = .int .i64 k ∧ J k wr) (fun i _ => l.length - (intOf i).toNat)
  case atStart => exact ⟨0, Nat.zero_le _, rfl, h0⟩
  case round =>
    obtain ⟨k, hk, rfl, hj⟩ := hrel
    by_cases hlt : k < l.length
    · have hlt' : (k : Int) < (l.length : Int) := by omega
      have hcc := HC.out k wr hj
      obtain ⟨ad, rfl⟩ : ∃ ad, A = some ad := by
        obtain ⟨ad, h, _⟩ := hcc.2.2 (by omega)
        exact ⟨ad, h⟩
      obtain ⟨j, hjd⟩ : ∃ j, j = (k + 1) % l.length := ⟨_, rfl⟩
      have hjl : j < l.length := by rw [hjd]; exact Nat.mod_lt _ (by omega)
      obtain ⟨x, hx⟩ : ∃ x, l[k]? = some x := ⟨_, List.getElem?_eq_getElem hlt⟩
      obtain ⟨y, hy⟩ : ∃ y, l[j]? = some y := ⟨_, List.getElem?_eq_getElem hjl⟩
      have c1 := cb_came hcc hx
      have c2 := cb_came hcc hy
      have hmod : ((k : Int) + 1) % (l.length : Int) = (j : Int) := by rw [hjd]; push_cast; rfl
      have hcall := HJ.out k x y wr hx (hjd ▸ hy) hj
      have HM := Aside0.mk hcall
      have p0 : (0 : Int) < (l.length : Int) := by omega
      have hjl' : (j : Int) < (l.length : Int) := by omega
      clear hcc hx hy hjd hcall hj
      go_wp2_with (fail)
      refine HM.out.mono ?_
      rintro e w' ⟨rfl, hj2⟩
      go_wp2_with (fail)
      exact ⟨⟨k + 1, by omega, by go_num, hj2⟩, by simp [intOf]; omega⟩
    · obtain rfl : k = l.length := by omega
      go_wp2_with (fail)
      go_end0
      exact ⟨rfl, hj⟩
theorem steps_27 (A : Option Addr) (c : Nat) (l : List CB) (b b2 : Nat) (J : Nat → World → Prop) (w : World) (hl : l.length ≤ 1000)
    (hC : ∀ k W, J k W → CB.kd.C W A l.length l)
    (hJ : ∀ (k : Nat) x y W, l[k]? = some x → l[(k + 1) % l.length]? = some y → J k W → Calls Try.prog 27 #[.complex .f64 x.re x.im, .complex .f64 y.re y.im, .pointer (some ⟨b, 0, none⟩), .pointer (some ⟨b2, 0, none⟩)] W fun e W' => e = .returned (.tuple #[]) ∧ J (k + 1) W')
    (h0 : J 0 w) : Calls Try.prog 24 #[.slice A l.length c, .func (.func 27) #[] #[.pointer (some ⟨b, 0, none⟩), .pointer (some ⟨b2, 0, none⟩)]] w fun e w' => e = .returned (.tuple #[]) ∧ J l.length w' := by
  have HC := Aside0.mk hC
  have HJ := Aside0.mk hJ
  clear hC hJ
  go_enter Try.func24, Try.ntmps24
  go_wp2_with (fail)
  go_loopw [8] (fun i wr => ∃ k : Nat, k ≤ l.length ∧ i = .int .i64 k ∧ J k wr) (fun i _ => l.length - (intOf i).toNat)
  case atStart => exact ⟨0, Nat.zero_le _, rfl, h0⟩
  case round =>
    obtain ⟨k, hk, rfl, hj⟩ := hrel
    by_cases hlt : k < l.length
    · have hlt' : (k : Int) < (l.length : Int) := by omega
      have hcc := HC.out k wr hj
      obtain ⟨ad, rfl⟩ : ∃ ad, A = some ad := by
        obtain ⟨ad, h, _⟩ := hcc.2.2 (by omega)
        exact ⟨ad, h⟩
      obtain ⟨j, hjd⟩ : ∃ j, j = (k + 1) % l.length := ⟨_, rfl⟩
      have hjl : j < l.length := by rw [hjd]; exact Nat.mod_lt _ (by omega)
      obtain ⟨x, hx⟩ : ∃ x, l[k]? = some x := ⟨_, List.getElem?_eq_getElem hlt⟩
      obtain ⟨y, hy⟩ : ∃ y, l[j]? = some y := ⟨_, List.getElem?_eq_getElem hjl⟩
      have c1 := cb_came hcc hx
      have c2 := cb_came hcc hy
      have hmod : ((k : Int) + 1) % (l.length : Int) = (j : Int) := by rw [hjd]; push_cast; rfl
      have hcall := HJ.out k x y wr hx (hjd ▸ hy) hj
      have HM := Aside0.mk hcall
      have p0 : (0 : Int) < (l.length : Int) := by omega
      have hjl' : (j : Int) < (l.length : Int) := by omega
      clear hcc hx hy hjd hcall hj
      go_wp2_with (fail)
      refine HM.out.mono ?_
      rintro e w' ⟨rfl, hj2⟩
      go_wp2_with (fail)
      exact ⟨⟨k + 1, by omega, by go_num, hj2⟩, by simp [intOf]; omega⟩
    · obtain rfl : k = l.length := by omega
      go_wp2_with (fail)
      go_end0
      exact ⟨rfl, hj⟩
set_option maxHeartbeats 4000000 in
theorem area1_ok (x y : CB) (p q : Pt) (s : Int) (b : Nat) (W : World) (hB : Blk W b 2 [.int .i64 s]) (hx : x.Is p) (hy : y.Is q) (hp : p.le 16777216) (hq : q.le 16777216) (hs : s.natAbs ≤ 1152921504606846976) :
    Calls Try.prog 25 #[.complex .f64 x.re x.im, .complex .f64 y.re y.im, .pointer (some ⟨b, 0, none⟩)] W fun e W' => e = .returned (.tuple #[]) ∧ Blk W' b 2 [.int .i64 (s + crs p q)] ∧ Kp [b] W W' := by
  have c0 := hB.cell 0 rfl
  have f0 := hB.frozen 0
  have hc := crs_le hp hq
  have HB := Aside0.mk hB
  have ew : IntKind.i64.wrap (s + crs p q) = s + crs p q := IntWalk.i64_in _ (by omega)
  obtain ⟨D, hD⟩ : ∃ D, D = crs p q := ⟨_, rfl⟩
  have hcr := cross_ok x y p q W.drew hx hy hp hq
  rw [← hD] at ew hcr ⊢
  have HCR := Aside0.mk hcr
  clear hB hD hc hcr
  go_enter Try.func25, Try.ntmps25
  go_still_tail 5, (by kernel_rfl)
  still_call (HCR.out.mono (fun e w' h => ⟨h.1, h.2.symm⟩))
  repeat still_step
  refine wpStill_nil ?_
  go_wp2
  go_end0
  exact ⟨rfl, (HB.out.put 0 _ rfl).drew_, ((Kp.refl _ _).set (.inl (by simp)) _).drew⟩
/-- What the walk knows of a way: each point within bounds. -/
def Way (l : List CB) : Prop := l.length ≤ 200 ∧ ∀ c ∈ l, c.fits 4194304
theorem Way.pts {l : List CB} (h : Way l) : ∀ p ∈ l.map CB.pt, p.le 4194304 := by
  intro p hp
  obtain ⟨c, hc, rfl⟩ := List.mem_map.1 hp
  exact (h.2 c hc).2
theorem Pt.le.mono {p : Pt} {A B : Nat} (h : p.le A) (k : A ≤ B) : p.le B := ⟨Nat.le_trans h.1 k, Nat.le_trans h.2 k⟩
theorem Way.step {l : List CB} (h : Way l) {k : Nat} {x y : CB} (hx : l[k]? = some x) (hy : l[(k + 1) % l.length]? = some y) : x.fits 4194304 ∧ y.fits 4194304 ∧ step_ (l.map CB.pt) k = (x.pt, y.pt) :=
  ⟨h.2 x (List.mem_of_getElem? hx), h.2 y (List.mem_of_getElem? hy), step_at (by rw [List.getElem?_map, hx]; rfl) (by rw [List.length_map, List.getElem?_map, hy]; rfl)⟩
set_option maxHeartbeats 4000000 in
theorem area_ok (A : Option Addr) (c : Nat) (l : List CB) (w : World) (hC : CB.kd.C w A l.length l) (h : Way l) :
    Calls Try.prog 10 #[.slice A l.length c] w fun e w' => e = .returned (.int .i64 (area (l.map CB.pt))) ∧ Below w.heap.size w w' := by
  have hsum : ∀ k, k ≤ l.length → (sumE crs (l.map CB.pt) k).natAbs ≤ 200 * 35184372088832 := fun k hk => by
    have h0 := sumE_le (f := crs) (l := l.map CB.pt) (B := 35184372088832) (fun a ha b hb => by
      have := crs_le (h.pts a ha) (h.pts b hb); omega) k (by rw [List.length_map]; exact hk)
    exact Nat.le_trans h0 (Nat.mul_le_mul_right _ (Nat.le_trans hk h.1))
  have hC2 := hC
  have HC := Aside0.mk hC
  have HH := Aside0.mk h
  have HS := Aside0.mk hsum
  clear hC h hsum hC2
  go_enter Try.func10, Try.ntmps10
  go_wp2_with (fail)
  have hB0 := Blk.new w 2 [.int .i64 0]
  have hb0 := below_alloc (Below.refl _ w) (.cells #[.int .i64 0] 2)
  have hB0 : Blk (w.alloc (.cells #[.int .i64 0] 2)) w.heap.size 2 [.int .i64 0] := hB0
  generalize hW : w.alloc (.cells #[.int .i64 0] 2) = W at *
  obtain ⟨b, hb⟩ : ∃ b, b = w.heap.size := ⟨_, rfl⟩
  rw [← hb] at hB0 ⊢
  have hle : w.heap.size ≤ b := by omega
  clear hW hb
  refine (steps_25 A c l b (fun k W => Blk W b 2 [.int .i64 (sumE crs (l.map CB.pt) k)] ∧ Below w.heap.size w W) W (by have := HH.out.1; omega) (fun k V hV => Kd.C_below HC.out hV.2) (fun k x y V hx hy hV => ?_) ⟨hB0, hb0⟩).mono ?_
  · obtain ⟨f1, f2, hst⟩ := HH.out.step hx hy
    have hk : k < l.length := (List.getElem?_eq_some_iff.1 hx).1
    have hs := HS.out k (by omega)
    refine (area1_ok x y x.pt y.pt _ b V hV.1 f1.1 f2.1 (f1.2.mono (by omega)) (f2.2.mono (by omega)) (by omega)).mono fun e V' ⟨he, hB, hk2⟩ => ⟨he, ?_, Kp.to_below hV.2 hV.2.size hk2 (by simpa using hle)⟩
    rw [sumE, hst]; exact hB
  rintro e w' ⟨rfl, hB, hb'⟩
  have c0 := hB.cell 0 rfl
  have e1 : sumE crs (l.map CB.pt) l.length = area (l.map CB.pt) := by unfold area; rw [List.length_map]
  rw [e1] at c0
  have HB := Aside0.mk hb'
  clear hB hb0 hb' hB0 e1
  go_wp2
  go_ret
  exact ⟨rfl, HB.out⟩
end Go.Proofs.Ytahmogobaanklaa.Z

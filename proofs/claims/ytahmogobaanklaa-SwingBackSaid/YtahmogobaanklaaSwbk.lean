/- What SwingBack calls of the package slices. -/
import Derived.Test.YtahmogobaanklaaSwbkp
import Derived.BigRegion
import Derived.BigQuiet
import Derived.Deep.QuietTactic
namespace Go.Proofs.Ytahmogobaanklaa.Z
open Go.RowKit Go.Proofs.YtahmogobaanklaaW.PrintWords Go.Proofs.YtahmogobaanklaaW.PrintLast Go.Proofs.YtahmogobaanklaaW.PrintMore
attribute [local go_sem] max2_int min2_int max_two min_two max_three min_three max_four min_four unary_neg_float run_store_complex
set_option linter.unusedVariables false
set_option linter.unusedSimpArgs false
set_option maxHeartbeats 4000000 in
theorem reverse_r (g : Nat) (c base : Nat) (ok : Nat → Prop) (l : List CB) (w : World) (hR : CB.kd.R 24 w base ok (.slice (some ⟨g, 0, none⟩) l.length c) l) (hl : l.length ≤ 1000) :
    Calls Try.prog 9 #[.slice (some ⟨g, 0, none⟩) l.length c] w fun e w' => e = .returned (.tuple #[]) ∧ CB.kd.R 24 w' base ok (.slice (some ⟨g, 0, none⟩) l.length c) l.reverse ∧ Kp [g] w w' := by
  have HB := Aside0.mk hR
  clear hR
  go_enter Try.func9, Try.ntmps9
  go_wp2
  go_loopw [2, 3] (fun i j wr => ∃ k : Nat, 2 * k ≤ l.length + 1 ∧ i = .int .i64 k ∧ j = .int .i64 ((l.length : Int) - 1 - k) ∧ CB.kd.R 24 wr base ok (.slice (some ⟨g, 0, none⟩) l.length c) (rv ⟨0, 0⟩ l k) ∧ Kp [g] w wr) (fun i _ _ => l.length - (intOf i).toNat)
  case atStart => exact ⟨0, by omega, rfl, by simp, by rw [rv_zero]; exact HB.out, Kp.refl _ _⟩
  case round =>
    obtain ⟨k, hk, rfl, rfl, hbw, hkp⟩ := hrel
    by_cases hlt : 2 * k + 1 < l.length
    · have hlt' : (k : Int) < (l.length : Int) - 1 - k := by omega
      obtain ⟨c1, f1⟩ := Kd.R_celln (⟨0, 0⟩ : CB) hbw k (by omega) (by omega)
      obtain ⟨c2, f2⟩ := Kd.R_celln (⟨0, 0⟩ : CB) hbw ((l.length - 1 - k : Nat) : Int) (by omega) (by omega)
      have x1 : rdOf (⟨0, 0⟩ : CB) (rv ⟨0, 0⟩ l k) k = l.getD k ⟨0, 0⟩ := by
        unfold rdOf; rw [Int.toNat_natCast, List.getD_eq_getElem?_getD, rv_get _ _ _ (by omega), if_neg (by omega)]; rfl
      have x2 : rdOf (⟨0, 0⟩ : CB) (rv ⟨0, 0⟩ l k) ((l.length - 1 - k : Nat) : Int) = l.getD (l.length - 1 - k) ⟨0, 0⟩ := by
        unfold rdOf; rw [Int.toNat_natCast, List.getD_eq_getElem?_getD, rv_get _ _ _ (by omega), if_neg (by omega)]; rfl
      rw [x1] at c1
      rw [x2] at c2
      rw [Int.toNat_natCast] at c1 f1 c2 f2
      have HBW := Aside0.mk hbw
      have HKP := Aside0.mk hkp
      have HS := Aside0.mk (rv_succ (⟨0, 0⟩ : CB) l hlt)
      have hi1 : ((l.length : Int) - 1 - k).toNat = l.length - 1 - k := by omega
      generalize hx : l.getD k ⟨0, 0⟩ = x at *
      generalize hy : l.getD (l.length - 1 - k) ⟨0, 0⟩ = y at *
      change wr.cell? ⟨g, k, none⟩ = some (.complex .f64 x.re x.im) at c1
      change wr.cell? ⟨g, l.length - 1 - k, none⟩ = some (.complex .f64 y.re y.im) at c2
      clear hx hy hbw hkp x1 x2
      go_wp2
      have q1 : (k : Int) ≤ (l.length : Int) - 1 := by omega
      have q2 : (l.length : Int) - 1 - k < l.length := by omega
      have q3 : (k : Int) < l.length := by omega
      have g1 : wr.drew.frozen? ⟨g, k, none⟩ = false := f1
      have g2 : wr.drew.frozen? ⟨g, l.length - 1 - k, none⟩ = false := f2
      obtain ⟨v1, d1⟩ := cell?_setCell_some (w := wr) (p := ⟨g, k, none⟩) (x := .complex .f64 y.re y.im) (q := ⟨g, l.length - 1 - k, none⟩) (v := .complex .f64 y.re y.im) c2
      obtain ⟨v2, d2⟩ := cell?_setCell_some (w := wr) (p := ⟨g, l.length - 1 - k, none⟩) (x := .complex .f64 x.re x.im) (q := ⟨g, k, none⟩) (v := .complex .f64 x.re x.im) c1
      go_region
      generalize hw : World.drew _ = w2
      have hb2 : CB.kd.R 24 w2 base ok (.slice (some ⟨g, 0, none⟩) l.length c) (rv ⟨0, 0⟩ l (k + 1)) := by
        rw [← hw, ← HS.out]
        have s1 := Kd.R_putn HBW.out k y
        have s2 := Kd.R_putn s1 ((l.length - 1 - k : Nat) : Int) x
        rw [Int.toNat_natCast, Int.toNat_natCast] at s2
        exact Kd.R_drew s2
      have hk2 : Kp [g] w w2 := by
        rw [← hw]
        exact ((HKP.out.set (.inl (by simp)) _).set (.inl (by simp)) _).drew
      have n1 : IntKind.i64.wrap ((l.length : Int) - 1 - k - 1) = (l.length : Int) - 1 - k - 1 := IntWalk.i64_in _ (by omega)
      go_wp2
      exact ⟨⟨k + 1, by omega, by go_num, by go_num, hb2, hk2⟩, by simp [intOf]; omega⟩
    · have hlt' : ¬ (k : Int) < (l.length : Int) - 1 - k := by omega
      have e1 : (rv ⟨0, 0⟩ l k) = l.reverse := rv_done _ _ (by omega)
      rw [e1] at hbw
      have HBW := Aside0.mk hbw
      have HKP := Aside0.mk hkp
      clear hbw hkp
      go_wp2
      go_end0
      exact ⟨rfl, HBW.out, HKP.out⟩
theorem i_nil (base : Nat) (W : World) (hb : base ≤ W.heap.size) : (Kd.int .i64).R 2 (W.alloc (.cells #[] 2)) base (fun _ => True) (.slice (some ⟨W.heap.size, 0, none⟩) 0 0) [] :=
  Kd.R_of_own ⟨by simp [encs], .inr ⟨W.heap.size, 0, #[], rfl, hb, Blk.new W 2 [], Nat.le_refl _, by unfold maxLen; omega, by simp, by simp [encs]⟩⟩ (fun _ _ => trivial)
set_option maxHeartbeats 4000000 in
theorem clone_i (A : Option Addr) (c : Nat) (l : List Int) (w : World) (hC : (Kd.int .i64).C w A l.length l) (hl : l.length * 8 ≤ 140737488351232) :
    Calls Try.prog 20 #[.slice A l.length c] w fun e w' => ∃ v, e = .returned v ∧ (Kd.int .i64).R 2 w' w.heap.size (fun _ => True) v l ∧ Below w.heap.size w w' := by
  have qT : ∀ (w : World) (a : Option Addr) (n c n' c' : Nat), (binOp .eql 33 (.slice a n c) (.slice none n' c')).run Try.prog w = .ok (.bool a.isNone) w := fun w a n c n' c' => Lib.run_eql_slice_nil w _ _ a n c n' c' Try.underlying33
  cases A with
  | none =>
    have h0 : l = [] := by
      cases l with
      | nil => rfl
      | cons x l => obtain ⟨ad, h, _⟩ := hC.2.2 (by simp); cases h
    subst h0
    go_enter Try.func20, Try.ntmps20
    go_wp2
    go_ret
    exact ⟨_, rfl, Kd.R_nil _ _ _ _ _, Below.refl _ _⟩
  | some ad =>
    have hal := below_alloc (Below.refl _ w) (.cells #[] 2)
    have HC := Aside0.mk (Kd.C_below hC hal)
    have HB := Aside0.mk hal
    have HN := Aside0.mk (i_nil w.heap.size w (Nat.le_refl _))
    clear hC hal
    go_enter Try.func20, Try.ntmps20
    go_wp2_with (at_builtin; refine Kd.R_append_row (Value.int .i64) 0 (h1 := fun _ => rfl) (w0 := w) w.heap.size rfl (.tmp 5) (.tmp 6) 33 2 (.int .i64 0) 8 rfl Try.underlying33 (by kernel_rfl) rfl (by decide) _ [] l (some ad) l.length c (fun _ => True) rfl rfl (fun _ _ => trivial) HN.out HC.out HB.out HB.out.size (by simp only [List.length_nil]; omega) ?_; intro v8 w8 hR8 hB8 hg8 _; have HR8 := Aside0.mk hR8; have HB8 := Aside0.mk hB8; clear hR8 hB8 hg8)
    go_ret
    exact ⟨_, rfl, HR8.out, HB8.out⟩
set_option maxHeartbeats 4000000 in
theorem equal_cb (A B : Option Addr) (c c' : Nat) (l m : List CB) (w : World) (hA : CB.kd.C w A l.length l) (hB : CB.kd.C w B m.length m) (hlen : l.length = m.length) (hl : l.length ≤ 1000) (h : ∀ (i : Nat) (x y : CB), l[i]? = some x → m[i]? = some y → ∃ p : Pt, x.Is p ∧ y.Is p) :
    Calls Try.prog 22 #[.slice A l.length c, .slice B m.length c'] w fun e w' => e = .returned (.bool true) ∧ Below w.heap.size w w' := by
  have HA := Aside0.mk hA
  have HB := Aside0.mk hB
  have HH := Aside0.mk h
  clear hA hB h
  go_enter Try.func22, Try.ntmps22
  go_wp2_with (fail)
  go_loopw [13] (fun i wr => ∃ k : Nat, k ≤ l.length ∧ i = .int .i64 k ∧ Below w.heap.size w wr) (fun i _ => l.length - (intOf i).toNat)
  case atStart => exact ⟨0, Nat.zero_le _, rfl, Below.refl _ _⟩
  case round =>
    obtain ⟨k, hk, rfl, hbw⟩ := hrel
    have HBW := Aside0.mk hbw
    clear hbw
    by_cases hlt : k < l.length
    · have hlt' : (k : Int) < (l.length : Int) := by omega
      have hlt2 : (k : Int) < (m.length : Int) := by omega
      obtain ⟨ad, rfl⟩ : ∃ ad, A = some ad := by
        obtain ⟨ad, h, _⟩ := HA.out.2.2 (by omega)
        exact ⟨ad, h⟩
      obtain ⟨ad', rfl⟩ : ∃ ad, B = some ad := by
        obtain ⟨ad, h, _⟩ := HB.out.2.2 (by omega)
        exact ⟨ad, h⟩
      obtain ⟨x, hx⟩ : ∃ x, l[k]? = some x := ⟨_, List.getElem?_eq_getElem hlt⟩
      obtain ⟨y, hy⟩ : ∃ y, m[k]? = some y := ⟨_, List.getElem?_eq_getElem (by omega)⟩
      obtain ⟨p, hxp, hyp⟩ := HH.out k x y hx hy
      have c1 := cb_came (Kd.C_below HA.out HBW.out) hx
      have c2 := cb_came (Kd.C_below HB.out HBW.out) hy
      have o1 := hxp.re.order hyp.re
      have o2 := hxp.im.order hyp.im
      rw [cmp_int, if_neg (by omega), if_pos rfl] at o1 o2
      clear hx hy hxp hyp
      go_wp2_with (fail)
      go_quiet (fail)
      go_wp2_with (fail)
      exact ⟨⟨k + 1, by omega, by go_num, below_drewN HBW.out _⟩, by simp [intOf]; omega⟩
    · obtain rfl : k = l.length := by omega
      go_wp2_with (fail)
      go_ret
      exact ⟨rfl, HBW.out⟩
end Go.Proofs.Ytahmogobaanklaa.Z

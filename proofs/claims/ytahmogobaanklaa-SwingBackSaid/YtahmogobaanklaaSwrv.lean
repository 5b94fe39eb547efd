/- slices.Reverse over complex numbers. -/
import Derived.Test.YtahmogobaanklaaSwbp
import Derived.BigRegion
namespace Go.Proofs.Ytahmogobaanklaa.Z
open Go.RowKit Go.Proofs.YtahmogobaanklaaW.PrintWords Go.Proofs.YtahmogobaanklaaW.PrintLast Go.Proofs.YtahmogobaanklaaW.PrintMore
attribute [local go_sem] max2_int min2_int max_two min_two max_three min_three max_four min_four unary_neg_float
set_option linter.unusedVariables false
set_option linter.unusedSimpArgs false
theorem run_store_complex (P : Program) (w : World) (a : Addr) (k : FloatKind) (re im : Nat) (m : Mode) : (store a (.complex k re im) m).run P w = stored P w a (.complex k re im) m := run_store P w a _ m rfl
attribute [local go_sem] run_store_complex
theorem blk_cb {w : World} {b : Nat} {l : List CB} {r : List Value} (h : Blk w b 24 (l.map CB.val ++ r)) {i : Nat} {x : CB} (hx : l[i]? = some x) : w.cell? ⟨b, i, none⟩ = some (.complex .f64 x.re x.im) :=
  h.cell i (by rw [List.getElem?_append_left (by rw [List.length_map]; exact (List.getElem?_eq_some_iff.1 hx).1), List.getElem?_map, hx]; rfl)
theorem set_cb (l : List CB) (r : List Value) (i : Nat) (x : CB) (h : i < l.length) : (l.map CB.val ++ r).set i (.complex .f64 x.re x.im) = (l.set i x).map CB.val ++ r := by
  rw [List.set_append_left _ _ (by rw [List.length_map]; exact h), List.map_set]
  rfl
set_option maxHeartbeats 4000000 in
theorem reverse_cb (b : Nat) (c : Nat) (l : List CB) (r : List Value) (w : World) (hB : Blk w b 24 (l.map CB.val ++ r)) (hl : l.length ≤ 1000) :
    Calls Try.prog 9 #[.slice (some ⟨b, 0, none⟩) l.length c] w fun e w' => e = .returned (.tuple #[]) ∧ Blk w' b 24 (l.reverse.map CB.val ++ r) ∧ Kp [b] w w' := by
  have HB := Aside0.mk hB
  clear hB
  go_enter Try.func9, Try.ntmps9
  go_wp2
  go_loopw [2, 3] (fun i j wr => ∃ k : Nat, 2 * k ≤ l.length + 1 ∧ i = .int .i64 k ∧ j = .int .i64 ((l.length : Int) - 1 - k) ∧ Blk wr b 24 ((rv ⟨0, 0⟩ l k).map CB.val ++ r) ∧ Kp [b] w wr) (fun i _ _ => l.length - (intOf i).toNat)
  case atStart => exact ⟨0, by omega, rfl, by simp, by rw [rv_zero]; exact HB.out, Kp.refl _ _⟩
  case round =>
    obtain ⟨k, hk, rfl, rfl, hbw, hkp⟩ := hrel
    by_cases hlt : 2 * k + 1 < l.length
    · have hlt' : (k : Int) < (l.length : Int) - 1 - k := by omega
      have c1 := blk_cb hbw (i := k) (x := l.getD k ⟨0, 0⟩) (by rw [rv_get _ _ _ (by omega), if_neg (by omega)])
      have c2 := blk_cb hbw (i := l.length - 1 - k) (x := l.getD (l.length - 1 - k) ⟨0, 0⟩) (by rw [rv_get _ _ _ (by omega), if_neg (by omega)])
      have f1 := hbw.frozen k
      have f2 := hbw.frozen (l.length - 1 - k)
      have e1 : (rv ⟨0, 0⟩ l k).length = l.length := rv_len _ _ _
      have HBW := Aside0.mk hbw
      have HKP := Aside0.mk hkp
      have HS := Aside0.mk (rv_succ (⟨0, 0⟩ : CB) l hlt)
      have hi1 : ((l.length : Int) - 1 - k).toNat = l.length - 1 - k := by omega
      generalize hx : l.getD k ⟨0, 0⟩ = x at *
      generalize hy : l.getD (l.length - 1 - k) ⟨0, 0⟩ = y at *
      clear hx hy hbw hkp
      go_wp2
      have q1 : (k : Int) ≤ (l.length : Int) - 1 := by omega
      have q2 : (l.length : Int) - 1 - k < l.length := by omega
      have q3 : (k : Int) < l.length := by omega
      have g1 : wr.drew.frozen? ⟨b, k, none⟩ = false := f1
      have g2 : wr.drew.frozen? ⟨b, l.length - 1 - k, none⟩ = false := f2
      obtain ⟨v1, d1⟩ := cell?_setCell_some (w := wr) (p := ⟨b, k, none⟩) (x := .complex .f64 y.re y.im) (q := ⟨b, l.length - 1 - k, none⟩) (v := .complex .f64 y.re y.im) c2
      obtain ⟨v2, d2⟩ := cell?_setCell_some (w := wr) (p := ⟨b, l.length - 1 - k, none⟩) (x := .complex .f64 x.re x.im) (q := ⟨b, k, none⟩) (v := .complex .f64 x.re x.im) c1
      go_region
      generalize hw : World.drew _ = w2
      have hb2 : Blk w2 b 24 ((rv ⟨0, 0⟩ l (k + 1)).map CB.val ++ r) := by
        rw [← hw, ← HS.out, ← set_cb _ _ _ _ (by rw [List.length_set, rv_len]; omega), ← set_cb _ _ _ _ (by rw [rv_len]; omega)]
        exact ((HBW.out.set _ _).set _ _).drew_
      have hk2 : Kp [b] w w2 := by
        rw [← hw]
        exact ((HKP.out.set (.inl (by simp)) _).set (.inl (by simp)) _).drew
      have n1 : IntKind.i64.wrap ((l.length : Int) - 1 - k - 1) = (l.length : Int) - 1 - k - 1 := IntWalk.i64_in _ (by omega)
      go_wp2
      exact ⟨⟨k + 1, by omega, by go_num, by go_num, hb2, hk2⟩, by simp [intOf]; omega⟩
    · have hlt' : ¬ (k : Int) < (l.length : Int) - 1 - k := by omega
      have e1 : (rv ⟨0, 0⟩ l k) = l.reverse := rv_done _ _ (by omega)
      rw [e1] at hbw
      have HBW := Aside0.mk hbw
      have HKP := Aside0.mk hkp
      clear hbw hkp
      go_wp2
      go_end0
      refine ⟨rfl, ?_, HKP.out⟩
      have := HBW.out
      simpa using this
end Go.Proofs.Ytahmogobaanklaa.Z

/- slices.Equal over int; of a nil log. -/
import Derived.Test.YtfnnoecdpolbfaaTl64
namespace Go.Proofs.Ytfnnoecdpolbfaa.Z
open Go.RowKit Go.Proofs.YtfnnoecdpolbfaaW.PrintWords Go.Proofs.YtfnnoecdpolbfaaW.PrintLast Go.Proofs.YtfnnoecdpolbfaaW.PrintMore
attribute [local go_sem] max2_int min2_int max_two min_two max_three min_three max_four min_four
set_option linter.unusedVariables false
set_option linter.unusedSimpArgs false
theorem i_came {k : IntKind} {w : World} {ad : Addr} {n : Nat} {xs : List Int} (h : (Kd.int k).C w (some ad) n xs) {i : Nat} {x : Int} (hx : xs[i]? = some x) : w.cell? (ad.add i) = some (.int k x) := by
  have hi : i < xs.length := (List.getElem?_eq_some_iff.1 hx).1
  obtain ⟨hn, _, hc⟩ := h
  obtain ⟨ad', e, hc⟩ := hc (by omega)
  obtain rfl : ad = ad' := by injection e
  obtain ⟨c, hcl, hK, hcc⟩ := hc i x hx
  obtain rfl : c = [.int k x] := hK
  have := hcc 0 _ rfl
  rwa [Nat.add_zero, show (Kd.int k).sz = 1 from rfl, Nat.mul_one] at this
set_option maxHeartbeats 4000000 in
theorem equal_i (A B : Option Addr) (c c' : Nat) (l : List Int) (w : World) (hA : (Kd.int .i64).C w A l.length l) (hB : (Kd.int .i64).C w B l.length l) (hl : l.length ≤ 1000) :
    Calls Try.prog 21 #[.slice A l.length c, .slice B l.length c'] w fun e w' => e = .returned (.bool true) ∧ Below w.heap.size w w' := by
  have HA := Aside0.mk hA
  have HB := Aside0.mk hB
  clear hA hB
  go_enter Try.func21, Try.ntmps21
  go_wp2_with (fail)
  go_loopw [13] (fun i wr => ∃ k : Nat, k ≤ l.length ∧ i = .int .i64 k ∧ Below w.heap.size w wr) (fun i _ => l.length - (intOf i).toNat)
  case atStart => exact ⟨0, Nat.zero_le _, rfl, Below.refl _ _⟩
  case round =>
    obtain ⟨k, hk, rfl, hbw⟩ := hrel
    have HBW := Aside0.mk hbw
    clear hbw
    by_cases hlt : k < l.length
    · have hlt' : (k : Int) < (l.length : Int) := by omega
      obtain ⟨ad, rfl⟩ : ∃ ad, A = some ad := by
        obtain ⟨ad, h, _⟩ := HA.out.2.2 (by omega)
        exact ⟨ad, h⟩
      obtain ⟨ad', rfl⟩ : ∃ ad, B = some ad := by
        obtain ⟨ad, h, _⟩ := HB.out.2.2 (by omega)
        exact ⟨ad, h⟩
      obtain ⟨x, hx⟩ : ∃ x, l[k]? = some x := ⟨_, List.getElem?_eq_getElem hlt⟩
      have c1 := i_came (Kd.C_below HA.out HBW.out) hx
      have c2 := i_came (Kd.C_below HB.out HBW.out) hx
      clear hx
      go_wp2_with (fail)
      go_quiet (fail)
      go_wp2_with (fail)
      exact ⟨⟨k + 1, by omega, by go_num, pw_below_drewN HBW.out _⟩, by simp [intOf]; omega⟩
    · obtain rfl : k = l.length := by omega
      go_wp2_with (fail)
      go_ret
      exact ⟨rfl, HBW.out⟩
/-! Of a nil log -/
theorem add_none (o : Oc) (w : World) : Calls Try.prog 13 #[.pointer none, o.val] w fun e w' => e = .returned (.tuple #[]) ∧ Below w.heap.size w w' := by
  have hb := below_alloc (Below.refl _ w) (.cells o.enc.toArray 26)
  have HB := Aside0.mk hb
  clear hb
  unfold Oc.val
  go_enter Try.func13, Try.ntmps13
  go_wp2
  go_end0
  exact ⟨rfl, HB.out⟩
theorem copy_none (w : World) : Calls Try.prog 17 #[.pointer none] w fun e w' => e = .returned (.pointer none) ∧ w = w' := by
  go_enter Try.func17, Try.ntmps17
  go_wp2
  go_ret
  exact ⟨rfl, rfl⟩
theorem tail_none (k : Int) (w : World) : Calls Try.prog 28 #[.pointer none, .int .i64 k] w fun e w' => e = .returned (.slice none 0 0) ∧ w = w' := by
  go_enter Try.func28, Try.ntmps28
  go_wp2
  go_ret
  exact ⟨rfl, rfl⟩
set_option maxHeartbeats 4000000 in
theorem copy_ok (g base : Nat) (l : List Oc) (w : World) (h : LogAt w base g l) (hl : l.length ≤ 1000) :
    Calls Try.prog 17 #[.pointer (some ⟨g, 0, none⟩)] w fun e w' => ∃ g', e = .returned (.pointer (some ⟨g', 0, none⟩)) ∧ LogAt w' w.heap.size g' l ∧ Below w.heap.size w w' := by
  obtain ⟨h0, v, h1, h2⟩ := h
  obtain ⟨A, c, rfl⟩ := Kd.R_slice h2
  have c0 := h1.cell 0 rfl
  have HC := Aside0.mk (Kd.R_reads' h2).2.2
  clear h1 h2
  go_enter Try.func17, Try.ntmps17
  go_wp2_with (fail)
  refine (clone_oc A c l _ HC.out hl).mono ?_
  rintro e w5 ⟨v5, rfl, hR5, hb5⟩
  obtain ⟨A5, c5, rfl⟩ := Kd.R_slice hR5
  have HR5 := Aside0.mk (Kd.R_alloc hR5 (.cells #[.slice A5 l.length c5] 58))
  have HB5 := Aside0.mk (hb5.alloc hb5.size (.cells #[.slice A5 l.length c5] 58))
  have HX := Aside0.mk (Blk.new w5 58 [.slice A5 l.length c5])
  have hs := hb5.size
  clear hR5 hb5
  go_wp2_with (fail)
  go_ret
  exact ⟨_, rfl, ⟨hs, _, HX.out, HR5.out⟩, HB5.out⟩
end Go.Proofs.Ytfnnoecdpolbfaa.Z

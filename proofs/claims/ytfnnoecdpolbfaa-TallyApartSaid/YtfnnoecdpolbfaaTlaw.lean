/- The tally's example. -/
import Derived.Test.YtfnnoecdpolbfaaTllo
namespace Go.Proofs.Ytfnnoecdpolbfaa.Z
open Go.RowKit Go.Proofs.YtfnnoecdpolbfaaW.PrintWords Go.Proofs.YtfnnoecdpolbfaaW.PrintLast Go.Proofs.YtfnnoecdpolbfaaW.PrintMore
attribute [local go_sem] max2_int min2_int max_two min_two max_three min_three max_four min_four
set_option linter.unusedVariables false
set_option linter.unusedSimpArgs false
def encI (x : Int) : List Value := [.int .i64 x]
theorem C_of_blk {w : World} {b : Nat} {l : List Int} (h : Blk w b 3 (flat encI l)) (hl : l.length ≤ maxLen) : (Kd.int .i64).C w (some ⟨b, 0, none⟩) l.length l := by
  have : maxLen = 9223372036854775807 := rfl
  refine ⟨rfl, by omega, fun _ => ⟨_, rfl, fun j p hj => ⟨[.int .i64 p], rfl, rfl, fun i u hu => ?_⟩⟩⟩
  cases i with
  | zero =>
    simp at hu
    subst hu
    have := h.cells_at (f := encI) (k := 1) (fun _ => rfl) j 0 hj (by omega) (v := .int .i64 p) rfl
    show w.cell? ((⟨b, 0, none⟩ : Addr).add (j * 1 + 0)) = _
    rw [add_plain]
    exact this
  | succ i => simp at hu
theorem ex_row : sprF (-1) [⟨0, 0, 0, 1, 0, 5⟩] = [0, 0, 0, 1] := by decide
set_option maxHeartbeats 8000000 in
set_option maxRecDepth 100000 in
theorem tawake_ok (w : World) : Calls Try.prog 7 #[] w fun e w' => e = .returned (.bool true) ∧ Below w.heap.size w w' := by
  go_enter Try.func7, Try.ntmps7
  go_wp2_with (fail)
  refine (new_ok _).mono ?_
  rintro e w1 ⟨rfl, hL, hb⟩
  have HL := Aside0.mk hL
  have HB := Aside0.mk hb
  obtain ⟨q, hq⟩ : ∃ q, q = w.heap.size := ⟨_, rfl⟩
  rw [← hq]
  have HQ := Aside0.mk hq
  have hbs := hb.size
  clear hL hb hq
  go_wp2_with (fail)
  have ha := add_ok q q [] ⟨0, 0, 0, 1, 0, 5⟩ w w1 (by rw [HQ.out]; exact HL.out) (by rw [HQ.out]; exact HB.out) (by rw [HQ.out]; exact hbs) (by simp)
  refine ha.mono ?_
  clear ha
  rintro e w2 ⟨rfl, hL2, hb2⟩
  have HL2 := Aside0.mk hL2
  have HB2 := Aside0.mk hb2
  clear hL2 hb2 HL HB hbs
  go_wp2_with (fail)
  refine (spread_ok q q _ (-1) _ HL2.out (by simp) (by simp [Oc.ok]; decide)).mono ?_
  rintro e w3 ⟨v3, rfl, hR3, hb3⟩
  rw [List.nil_append, ex_row] at hR3
  have hL3 := HL2.out.below hb3
  have hB3 : Below q w w3 := HB2.out.trans (hb3.mono (by have := HB2.out.size; rw [HQ.out]; exact this))
  obtain ⟨A, c, rfl⟩ := Kd.R_slice hR3
  have hC3 := (Kd.R_reads' hR3).2.2
  have hal := below_alloc (Below.refl _ w3) (.cells #[.int .i64 0, .int .i64 0, .int .i64 0, .int .i64 1] 3)
  have HC4 := Aside0.mk (Kd.C_below hC3 hal)
  have HN4 := Aside0.mk (C_of_blk (l := [0, 0, 0, 1]) (Blk.new w3 3 (flat encI [0, 0, 0, 1])) (by decide))
  have HL4 := Aside0.mk (hL3.below hal)
  have HB4 := Aside0.mk (hB3.trans (hal.mono (by have := hB3.size; rw [HQ.out]; exact this)))
  clear hR3 hb3 hL3 hB3 hC3 hal HL2 HB2
  go_wp2_with (fail)
  refine (equal_i _ _ _ _ [0, 0, 0, 1] _ HC4.out HN4.out (by simp)).mono ?_
  rintro e w5 ⟨rfl, hb5⟩
  have HL5 := Aside0.mk (HL4.out.below hb5)
  have HB5 := Aside0.mk (HB4.out.trans (hb5.mono (by have := HB4.out.size; rw [HQ.out]; exact this)))
  clear hb5 HL4 HB4 HC4 HN4
  go_wp2_with (fail)
  refine (len_ok q q _ _ HL5.out).mono ?_
  rintro e w6 ⟨rfl, rfl⟩
  go_wp2_with (fail)
  go_ret
  exact ⟨rfl, by have := HB5.out; rwa [HQ.out] at this⟩
end Go.Proofs.Ytfnnoecdpolbfaa.Z

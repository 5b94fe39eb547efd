/- slices.Clone over outcomes; Since; the document's Same. -/
import Derived.Test.YtfnnoecdpolbfaaTlc
import Derived.Lib.SliceRun
import Derived.Deep.QuietTactic
import Derived.BigQuiet
namespace Go.Proofs.Ytfnnoecdpolbfaa.Z
open Go.RowKit Go.Proofs.YtfnnoecdpolbfaaW.PrintWords Go.Proofs.YtfnnoecdpolbfaaW.PrintLast Go.Proofs.YtfnnoecdpolbfaaW.PrintMore
attribute [local go_sem] max2_int min2_int max_two min_two max_three min_three max_four min_four
set_option linter.unusedVariables false
set_option linter.unusedSimpArgs false
theorem oc_nil (w : World) : Oc.kd.R 26 (w.alloc (.cells #[] 26)) w.heap.size (fun _ => True) (.slice (some ⟨w.heap.size, 0, none⟩) 0 0) [] :=
  R_of_blk (f := Oc.enc) (k := 6) (l := []) (Blk.new w 26 []) (Nat.le_refl _) (by unfold maxLen; simp)
set_option maxHeartbeats 4000000 in
theorem clone_oc (A : Option Addr) (c : Nat) (l : List Oc) (w : World) (hC : Oc.kd.C w A l.length l) (hl : l.length ≤ 1000) :
    Calls Try.prog 27 #[.slice A l.length c] w fun e w' => ∃ v, e = .returned v ∧ Oc.kd.R 26 w' w.heap.size (fun _ => True) v l ∧ Below w.heap.size w w' := by
  have qT : ∀ (w : World) (a : Option Addr) (n c n' c' : Nat), (binOp .eql 22 (.slice a n c) (.slice none n' c')).run Try.prog w = .ok (.bool a.isNone) w := fun w a n c n' c' => Lib.run_eql_slice_nil w _ _ a n c n' c' Try.underlying22
  cases A with
  | none =>
    have h0 : l = [] := by
      cases l with
      | nil => rfl
      | cons x l => obtain ⟨ad, h, _⟩ := hC.2.2 (by simp); cases h
    subst h0
    go_enter Try.func27, Try.ntmps27
    go_wp2
    go_ret
    exact ⟨_, rfl, Kd.R_nil _ _ _ _ _, Below.refl _ _⟩
  | some ad =>
    have hal := below_alloc (Below.refl _ w) (.cells #[] 26)
    have HC := Aside0.mk (Kd.C_below hC hal)
    have HB := Aside0.mk hal
    have HN := Aside0.mk (oc_nil w)
    clear hC hal
    go_enter Try.func27, Try.ntmps27
    go_wp2_with (at_builtin; refine Kd.R_append_rows Oc.kd (Rr := Oc.kd.K w) (w0 := w) w.heap.size rfl (.tmp 5) (.tmp 6) 22 26 (.agg #[.int .u64 0, .int .i64 0, .int .i64 0, .int .u8 0, .int .i64 0, .int .i64 0]) 48 rfl Try.underlying22 (by kernel_rfl) rfl (by decide) (by omega) _ [] l (some ad) l.length c (fun _ => True) (fun _ => False) rfl rfl HN.out HC.out (fun _ _ h => h) (fun _ hk => hk.elim) (fun _ _ => trivial) HB.out HB.out.size (by simp only [List.length_nil]; omega) ?_; intro v8 w8 hR8 hB8 hg8 _; have HR8 := Aside0.mk hR8; have HB8 := Aside0.mk hB8; clear hR8 hB8 hg8)
    go_ret
    exact ⟨_, rfl, HR8.out, HB8.out⟩
theorem since_ok (g base : Nat) (l D : List Oc) (k : Int) (w : World) (h : LogAt w base g l) (hl : l.length ≤ 1000) (hD : D = l.drop (min (max k 0) l.length).toNat) :
    Calls Try.prog 12 #[.pointer (some ⟨g, 0, none⟩), .int .i64 k] w fun e w' => ∃ v, e = .returned v ∧ Oc.kd.R 26 w' w.heap.size (fun _ => True) v D ∧ Below w.heap.size w w' := by
  have HL := Aside0.mk h
  have hm0 : 0 ≤ max k 0 := by omega
  have ek : ∃ m : Nat, min (max k 0) (l.length : Int) = m ∧ m ≤ l.length := ⟨(min (max k 0) (l.length : Int)).toNat, by omega, by omega⟩
  obtain ⟨m, hm, hml⟩ := ek
  rw [hm, Int.toNat_natCast] at hD
  have HD := Aside0.mk hD
  have HDL := Aside0.mk (show D.length ≤ 1000 by rw [hD, List.length_drop]; omega)
  have HM := Aside0.mk hm
  have HML := Aside0.mk hml
  clear h hD hm hml
  go_enter Try.func12, Try.ntmps12
  go_wp2_with (fail)
  all_goals
    refine (len_ok g base l _ HL.out).mono ?_
    rintro e w' ⟨rfl, rfl⟩
    go_wp2_with (fail)
  all_goals
    have hm := HM.out
    have hml := HML.out
    have ht := tail_ok g base l D m w HL.out hml HD.out
    first
      | (rw [show (m : Int) = 0 by omega] at ht; refine ht.mono ?_)
      | (rw [show (m : Int) = l.length by omega] at ht; refine ht.mono ?_)
      | (rw [show (m : Int) = k by omega] at ht; refine ht.mono ?_)
    clear ht hm hml
    rintro e w' ⟨⟨A, c, rfl, hlc, hC⟩, rfl⟩
    have HC := Aside0.mk hC
    clear hC
    go_wp2_with (fail)
    refine (clone_oc A c D _ HC.out HDL.out).mono ?_
    rintro e w5 ⟨v5, rfl, hR5, hb5⟩
    have HR5 := Aside0.mk hR5
    have HB5 := Aside0.mk hb5
    clear hR5 hb5
    go_wp2_with (fail)
    go_ret
    exact ⟨_, rfl, HR5.out, HB5.out⟩
set_option maxHeartbeats 4000000 in
/-- The document's Same, of lists that are alike. -/
theorem same_ok (A B : Option Addr) (c c' : Nat) (l : List Oc) (w : World) (hA : Oc.kd.C w A l.length l) (hB : Oc.kd.C w B l.length l) (hl : l.length ≤ 1000) :
    Calls Try.prog 14 #[.slice A l.length c, .slice B l.length c'] w fun e w' => e = .returned (.bool true) ∧ Below w.heap.size w w' := by
  have HA := Aside0.mk hA
  have HB := Aside0.mk hB
  clear hA hB
  go_enter Try.func14, Try.ntmps14
  go_wp2_with (fail)
  go_loopw [13] (fun i wr => ∃ k : Nat, k ≤ l.length ∧ i = .int .i64 k ∧ Below w.heap.size w wr) (fun i _ => l.length - (intOf i).toNat)
  case atStart => exact ⟨0, Nat.zero_le _, rfl, Below.refl _ _⟩
  case round =>
    obtain ⟨k, hk, rfl, hbw⟩ := hrel
    have HBW := Aside0.mk hbw
    clear hbw
    by_cases hlt : k < l.length
    · have hlt' : (k : Int) < (l.length : Int) := by omega
      obtain ⟨ad, rfl⟩ : ∃ ad, A = some ad := by
        obtain ⟨ad, h, _⟩ := HA.out.2.2 (by omega)
        exact ⟨ad, h⟩
      obtain ⟨ad', rfl⟩ : ∃ ad, B = some ad := by
        obtain ⟨ad, h, _⟩ := HB.out.2.2 (by omega)
        exact ⟨ad, h⟩
      obtain ⟨x, hx⟩ : ∃ x, l[k]? = some x := ⟨_, List.getElem?_eq_getElem hlt⟩
      obtain ⟨e0, e1, e2, e3, e4, e5⟩ := Oc.came (Kd.C_below HA.out HBW.out) hx
      obtain ⟨d0, d1, d2, d3, d4, d5⟩ := Oc.came (Kd.C_below HB.out HBW.out) hx
      clear hx
      go_wp2_with (fail)
      go_quiet (fail)
      go_wp2_with (fail)
      exact ⟨⟨k + 1, by omega, by go_num, pw_below_drewN HBW.out _⟩, by simp [intOf]; omega⟩
    · obtain rfl : k = l.length := by omega
      go_wp2_with (fail)
      go_ret
      exact ⟨rfl, HBW.out⟩
end Go.Proofs.Ytfnnoecdpolbfaa.Z

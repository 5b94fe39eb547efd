/- HeapNil. -/
import Derived.Test.YtphkahphpgipkaaHpx
namespace Go.Proofs.Ytphkahphpgipkaa.Z
open Go.RowKit Go.Proofs.YtphkahphpgipkaaW.PrintWords Go.Proofs.YtphkahphpgipkaaW.PrintLast Go.Proofs.YtphkahphpgipkaaW.PrintMore
attribute [local go_sem] max2_int min2_int max_two min_two max_three min_three max_four min_four
set_option linter.unusedVariables false
set_option linter.unusedSimpArgs false
set_option maxHeartbeats 8000000 in
set_option maxRecDepth 100000 in
theorem heapNil_body (room i key tie : Int) (w : World) (hk0 : (Lit.int .i64 room).wf = true) (hk1 : (Lit.int .i64 i).wf = true) (hk2 : (Lit.int .i64 key).wf = true) (hk3 : (Lit.int .u64 tie).wf = true) : Calls Try.prog 7 #[.int .i64 room, .int .i64 i, .int .i64 key, .int .u64 tie] w fun e w' => e = .returned (.bool true) ∧ Below w.heap.size w w' := by
  clear hk0 hk1 hk2 hk3
  by_cases hr : 1 ≤ room ∧ room ≤ 1024
  · obtain ⟨n, rfl⟩ : ∃ n : Nat, room = (n : Int) := ⟨room.toNat, by omega⟩
    have r1 : decide ((n : Int) ≥ 1) = true := decide_eq_true (by omega)
    have r2 : decide ((n : Int) ≤ 1024) = true := decide_eq_true (by omega)
    have HN := Aside0.mk (m_new n (by omega) (by omega))
    clear hr
    go_enter Try.func7, Try.ntmps7
    go_wp2_with (fail)
    refine (awake_ok _).mono ?_
    rintro e w1 ⟨rfl, hb⟩
    go_wp2_with (fail)
    refine (HN.out _).mono ?_
    rintro e w2 ⟨g, ba, rfl, hM⟩
    have HB := Aside0.mk (hb.trans (hM.bel.mono hb.size))
    clear hM hb
    go_wp2_with (fail)
    refine (min_nil _).mono ?_
    rintro e w3 ⟨rfl, rfl⟩
    go_wp2_with (fail)
    refine (key_nil _ _).mono ?_
    rintro e w3 ⟨rfl, rfl⟩
    go_wp2_with (fail)
    refine (put_nil _ _ _ _).mono ?_
    rintro e w3 ⟨rfl, rfl⟩
    go_wp2_with (fail)
    refine (rem_nil _ _).mono ?_
    rintro e w3 ⟨rfl, rfl⟩
    go_wp2_with (fail)
    refine (hlen_nil _).mono ?_
    rintro e w3 ⟨rfl, rfl⟩
    go_wp2_with (fail)
    refine (due_nil _ _).mono ?_
    rintro e w3 ⟨rfl, rfl⟩
    go_wp2_with (fail)
    go_ret
    exact ⟨rfl, HB.out⟩
  · have hn := fun W => hnew_no room W hr
    have HN := Aside0.mk hn
    have hd : (decide (room ≥ 1) && decide (room ≤ 1024)) = false := by simp; omega
    by_cases r1 : room ≥ 1
    · have r2 : decide (room ≤ 1024) = false := decide_eq_false (by omega)
      clear hr hn hd
      go_enter Try.func7, Try.ntmps7
      go_wp2_with (fail)
      refine (awake_ok _).mono ?_
      rintro e w1 ⟨rfl, hb⟩
      have HB := Aside0.mk hb
      clear hb
      go_wp2_with (fail)
      refine (HN.out _).mono ?_
      rintro e w2 ⟨rfl, rfl⟩
      go_wp2_with (fail)
      refine (min_nil _).mono ?_
      rintro e w3 ⟨rfl, rfl⟩
      go_wp2_with (fail)
      refine (key_nil _ _).mono ?_
      rintro e w3 ⟨rfl, rfl⟩
      go_wp2_with (fail)
      refine (put_nil _ _ _ _).mono ?_
      rintro e w3 ⟨rfl, rfl⟩
      go_wp2_with (fail)
      refine (rem_nil _ _).mono ?_
      rintro e w3 ⟨rfl, rfl⟩
      go_wp2_with (fail)
      refine (hlen_nil _).mono ?_
      rintro e w3 ⟨rfl, rfl⟩
      go_wp2_with (fail)
      refine (due_nil _ _).mono ?_
      rintro e w3 ⟨rfl, rfl⟩
      go_wp2_with (fail)
      go_ret
      exact ⟨rfl, HB.out⟩
    · have r1 : decide (room ≥ 1) = false := decide_eq_false r1
      clear hr hn hd
      go_enter Try.func7, Try.ntmps7
      go_wp2_with (fail)
      refine (awake_ok _).mono ?_
      rintro e w1 ⟨rfl, hb⟩
      have HB := Aside0.mk hb
      clear hb
      go_wp2_with (fail)
      refine (HN.out _).mono ?_
      rintro e w2 ⟨rfl, rfl⟩
      go_wp2_with (fail)
      refine (min_nil _).mono ?_
      rintro e w3 ⟨rfl, rfl⟩
      go_wp2_with (fail)
      refine (key_nil _ _).mono ?_
      rintro e w3 ⟨rfl, rfl⟩
      go_wp2_with (fail)
      refine (put_nil _ _ _ _).mono ?_
      rintro e w3 ⟨rfl, rfl⟩
      go_wp2_with (fail)
      refine (rem_nil _ _).mono ?_
      rintro e w3 ⟨rfl, rfl⟩
      go_wp2_with (fail)
      refine (hlen_nil _).mono ?_
      rintro e w3 ⟨rfl, rfl⟩
      go_wp2_with (fail)
      refine (due_nil _ _).mono ?_
      rintro e w3 ⟨rfl, rfl⟩
      go_wp2_with (fail)
      go_ret
      exact ⟨rfl, HB.out⟩
end Go.Proofs.Ytphkahphpgipkaa.Z

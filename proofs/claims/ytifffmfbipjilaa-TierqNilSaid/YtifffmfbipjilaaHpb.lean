/- Who is below a key. -/
import Derived.Test.YtifffmfbipjilaaHpn
namespace Go.Proofs.Ytifffmfbipjilaa.Z.H
open Go.RowKit Go.Proofs.YtifffmfbipjilaaW.PrintWords Go.Proofs.YtifffmfbipjilaaW.PrintLast Go.Proofs.YtifffmfbipjilaaW.PrintMore
attribute [local go_sem] max2_int min2_int max_two min_two max_three min_three max_four min_four
set_option linter.unusedVariables false
set_option maxRecDepth 100000
set_option linter.unusedSimpArgs false
set_option maxHeartbeats 4000000 in
set_option maxRecDepth 100000 in
theorem below_ok (g ba : Nat) (v : Value) (l : List En) (at_ : List Int) (key : Int) (w0 : World) (HP : Hp w0 g ba v l at_) (hl : l.length ≤ 1024) : ∀ (m k : Nat) (out : List En) (vo : Value) (w : World),
    En.kd.R 128 w w0.heap.size (fun _ => True) vo out → Below w0.heap.size w0 w → k ≤ 2050 → l.length ≤ m + k → out.length + (below (fn l) l.length key m k).length ≤ 1024 →
    Calls Try.prog 64 #[.pointer (some ⟨g, 0, none⟩), .int .i64 k, .int .i64 key, vo] w fun r w' => ∃ v', r = .returned v' ∧ En.kd.R 128 w' w0.heap.size (fun _ => True) v' (out ++ (below (fn l) l.length key m k).map (fn l)) ∧ Below w0.heap.size w0 w' := by
  have HP0 := Aside0.mk HP
  clear HP
  intro m
  induction m with
  | zero =>
    intro k out vo w hR hB hk hlk hlen
    have h1 := HP0.out.below hB
    obtain ⟨A, c, hv⟩ := Kd.R_slice h1.row
    subst hv
    have c0 := h1.head.cell 0 rfl
    have hge : (k : Int) ≥ (l.length : Int) := by omega
    have HR := Aside0.mk (And.intro hR hB)
    clear hR hB h1 hlk hlen
    go_enter Try.func64, Try.ntmps64
    go_wp2_with (fail)
    go_ret
    exact ⟨vo, rfl, (by simpa [below] using HR.out.1), HR.out.2⟩
  | succ m ih =>
    intro k out vo w hR hB hk hlk hlen
    have h1 := HP0.out.below hB
    by_cases hkl : k < l.length
    · obtain ⟨e, he⟩ : ∃ e, l[k]? = some e := ⟨_, List.getElem?_eq_getElem hkl⟩
      have hfe := fn_at he
      obtain ⟨gr, c, hv⟩ := h1.row_form (by omega)
      subst hv
      have c0 := h1.head.cell 0 rfl
      obtain ⟨y0, y1, y2⟩ := h1.cells he
      have k0 : (0 : Int) ≤ (k : Int) := by omega
      have k1 : (k : Int) < (l.length : Int) := by omega
      have d1 : decide ((k : Int) ≥ (l.length : Int)) = false := decide_eq_false (by omega)
      by_cases hkey : e.key > key
      · have hb0 : below (fn l) l.length key (m + 1) k = [] := by unfold below; rw [if_pos (.inr (by rw [hfe]; exact hkey))]
        have d2 : decide (e.key > key) = true := decide_eq_true hkey
        rw [hb0]
        have HR := Aside0.mk (And.intro hR hB)
        clear hR hB h1 hlk hlen ih hb0 he hfe
        obtain ⟨ek, et, ei⟩ := e
        dsimp only at *
        go_enter Try.func64, Try.ntmps64
        go_wp2_with (fail)
        go_ret
        exact ⟨vo, rfl, (by simpa using HR.out.1), HR.out.2⟩
      · have hb0 : below (fn l) l.length key (m + 1) k = k :: (below (fn l) l.length key m (2 * k + 1) ++ below (fn l) l.length key m (2 * k + 2)) := by
          conv => lhs; unfold below
          rw [if_neg (by rw [hfe]; omega)]
        have d2 : decide (e.key > key) = false := decide_eq_false hkey
        rw [hb0] at hlen
        simp only [List.length_cons, List.length_append] at hlen
        have hbw := hB.size
        have HD := Aside0.mk (And.intro hb0 (And.intro hfe (And.intro hlk hlen)))
        have IH := Aside0.mk ih
        have HR := Aside0.mk (And.intro hR hB)
        have h10 : (out.length + 1) * 24 ≤ 140737488355328 := by omega
        clear hR hB h1 hlk hlen ih hb0 he hfe
        obtain ⟨ek, et, ei⟩ := e
        dsimp only at *
        go_enter Try.func64, Try.ntmps64
        go_wp2_with (at_builtin; refine Kd.R_append En.kd (w0 := w0) w0.heap.size rfl (.tmp 29) (.tmp 37) 117 128 (.agg #[.int .i64 0, .int .u64 0, .int .i64 0]) 24 rfl Try.underlying117 (by kernel_rfl) rfl (by decide) (by omega) _ out ⟨ek, et, ei⟩ (En.enc ⟨ek, et, ei⟩) (fun _ => True) (fun _ => False) rfl rfl rfl (fun _ hk => hk.elim) (fun _ _ => trivial) HR.out.1 HR.out.2 hbw h10 ?_; intro v1 w1 hR1 hB1 hg1 ho1; have HR1 := Aside0.mk (And.intro hR1 hB1); clear hR1 hB1 hg1 ho1)
        have hc1 := IH.out (2 * k + 1) (out ++ [⟨ek, et, ei⟩]) v1 w1 HR1.out.1 HR1.out.2 (by have := k1; omega) (by have := HD.out.2.2.1; omega) (by have := HD.out.2.2.2; simp only [List.length_append, List.length_singleton]; omega)
        rw [show ((2 * k + 1 : Nat) : Int) = 2 * (k : Int) + 1 by omega] at hc1
        refine hc1.mono ?_
        clear hc1
        rintro r w2 ⟨v2, rfl, hR2, hB2⟩
        have HR2 := Aside0.mk (And.intro hR2 hB2)
        clear hR2 hB2
        go_wp2_with (fail)
        have hc2 := IH.out (2 * k + 2) _ v2 w2 HR2.out.1 HR2.out.2 (by have := k1; omega) (by have := HD.out.2.2.1; omega) (by have := HD.out.2.2.2; simp only [List.length_append, List.length_singleton, List.length_map]; omega)
        rw [show ((2 * k + 2 : Nat) : Int) = 2 * (k : Int) + 2 by omega] at hc2
        refine hc2.mono ?_
        clear hc2
        rintro r w3 ⟨v3, rfl, hR3, hB3⟩
        have HR3 := Aside0.mk (And.intro hR3 hB3)
        clear hR3 hB3
        go_wp2_with (fail)
        go_ret
        refine ⟨v3, rfl, ?_, HR3.out.2⟩
        have h := HR3.out.1
        rw [HD.out.1, List.map_cons, List.map_append, HD.out.2.1]
        simpa using h
    · have hge : (k : Int) ≥ (l.length : Int) := by omega
      have hb0 : below (fn l) l.length key (m + 1) k = [] := by unfold below; rw [if_pos (.inl (by omega))]
      obtain ⟨A, c, hv⟩ := Kd.R_slice h1.row
      subst hv
      have c0 := h1.head.cell 0 rfl
      rw [hb0]
      have HR := Aside0.mk (And.intro hR hB)
      clear hR hB h1 hlk hlen ih hb0
      go_enter Try.func64, Try.ntmps64
      go_wp2_with (fail)
      go_ret
      exact ⟨vo, rfl, (by simpa using HR.out.1), HR.out.2⟩
end Go.Proofs.Ytifffmfbipjilaa.Z.H

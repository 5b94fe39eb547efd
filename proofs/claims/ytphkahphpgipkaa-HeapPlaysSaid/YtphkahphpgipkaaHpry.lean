/- The document's Due. -/
import Derived.Test.YtphkahphpgipkaaHprr
namespace Go.Proofs.Ytphkahphpgipkaa.Z
open Go.RowKit Go.Proofs.YtphkahphpgipkaaW.PrintWords Go.Proofs.YtphkahphpgipkaaW.PrintLast Go.Proofs.YtphkahphpgipkaaW.PrintMore
attribute [local go_sem] max2_int min2_int max_two min_two max_three min_three max_four min_four
set_option linter.unusedVariables false
set_option linter.unusedSimpArgs false
def dI (S : List En) (x : Int) (k : Nat) : List Int := (dueL (S.take k) x).map (·.i)
theorem dI_in {S : List En} {x : Int} {k : Nat} {e : En} (h : S[k]? = some e) (hx : e.key ≤ x) : dI S x k ++ [e.i] = dI S x (k + 1) := by
  unfold dI
  rw [List.take_add_one, h]
  show _ = List.map _ (List.filter _ _)
  rw [List.filter_append]
  simp [dueL, hx]
theorem dI_out {S : List En} {x : Int} {k : Nat} {e : En} (h : S[k]? = some e) (hx : ¬ e.key ≤ x) : dI S x k = dI S x (k + 1) := by
  unfold dI
  rw [List.take_add_one, h]
  show _ = List.map _ (List.filter _ _)
  rw [List.filter_append]
  simp [dueL, hx]
theorem dI_len (S : List En) (x : Int) (k : Nat) : (dI S x k).length ≤ k := by
  unfold dI
  rw [List.length_map]
  have := due_len (S.take k) x
  rw [List.length_take] at this
  exact Nat.le_trans this (Nat.min_le_left _ _)
set_option maxHeartbeats 8000000 in
set_option maxRecDepth 100000 in
theorem rdue_ok (gx n : Nat) (v : Value) (S : List En) (x : Int) (w : World) (h : RH w 0 gx v S n) (hl : S.length ≤ 1000) :
    Calls Try.prog 18 #[.pointer (some ⟨gx, 0, none⟩), .int .i64 x] w fun r w' => ∃ v', r = .returned v' ∧ (Kd.int .i64).R 3 w' w.heap.size (fun _ => True) v' ((dueL S x).map (·.i)) ∧ Below w.heap.size w w' := by
  obtain ⟨A, c, hv⟩ := Kd.R_slice h.row
  obtain ⟨N, hN⟩ : ∃ N, N = S.length := ⟨_, rfl⟩
  rw [← hN] at hv hl
  subst hv
  have HN := Aside0.mk hN
  have HF : Aside0 (∀ V, Below w.heap.size w V → RH V 0 gx (.slice A N c) S n) := ⟨fun V hV => h.below hV⟩
  clear h hN
  go_enter Try.func18, Try.ntmps18
  go_wp2_with (fail)
  go_loopw [5, 6] (fun s5 s6 wr => ∃ k : Nat, k ≤ N ∧ s6 = .int .i64 k ∧ (Kd.int .i64).R 3 wr w.heap.size (fun _ => True) s5 (dI S x k) ∧ Below w.heap.size w wr) (fun _ s6 _ => N - (intOf s6).toNat)
  case atStart => exact ⟨0, Nat.zero_le _, rfl, Kd.R_nil _ _ _ _ _, Below.refl _ _⟩
  case round =>
    obtain ⟨k, hk, rfl, hR, hB⟩ := hrel
    have hF := HF.out _ hB
    have c0 := hF.head.cell 0 rfl
    by_cases hlt : k < N
    · obtain ⟨e, he⟩ : ∃ e, S[k]? = some e := ⟨_, List.getElem?_eq_getElem (by rw [← HN.out]; exact hlt)⟩
      have hlt' : (k : Int) < (N : Int) := by omega
      have k0 : (0 : Int) ≤ (k : Int) := by omega
      have hkb : (k : Int) + 1 ≤ 1001 := by omega
      obtain ⟨gr, cc, hv⟩ := hF.form (by rw [← HN.out]; omega)
      injection hv with e1 e2 e3
      subst e1 e3
      obtain ⟨y0, y1, y2⟩ := hF.cells he
      have h8 : ((dI S x k).length + 1) * 8 ≤ 140737488355328 := by have := dI_len S x k; omega
      have HX := Aside0.mk he
      have HR := Aside0.mk (And.intro hR hB)
      have hbs := hB.size
      clear hF hR hB he
      by_cases hx : e.key ≤ x
      · have HQ : Aside0 (dI S x k ++ [e.i] = dI S x (k + 1)) := ⟨dI_in HX.out hx⟩
        go_wp2_with (at_builtin; refine Kd.R_append (Kd.int .i64) (w0 := w) w.heap.size rfl (.tmp 26) (.tmp 35) 30 3 (.int .i64 0) 8 rfl Try.underlying30 (by kernel_rfl) rfl (by decide) (by omega) _ (dI S x k) e.i [.int .i64 e.i] (fun _ => True) (fun _ => False) rfl rfl rfl (fun _ hk => hk.elim) (fun _ _ => trivial) HR.out.1 HR.out.2 hbs h8 ?_; intro v1 w1 hR1 hB1 hg1 ho1; have HR1 := Aside0.mk (And.intro hR1 hB1); clear hR1 hB1 hg1 ho1)
        exact ⟨⟨k + 1, by omega, by go_num, by rw [← HQ.out]; exact HR1.out.1, HR1.out.2⟩, by simp [intOf]; omega⟩
      · have HQ : Aside0 (dI S x k = dI S x (k + 1)) := ⟨dI_out HX.out hx⟩
        have dx : decide (e.key ≤ x) = false := decide_eq_false hx
        go_wp2_with (fail)
        exact ⟨⟨k + 1, by omega, by go_num, by rw [← HQ.out]; exact HR.out.1, HR.out.2⟩, by simp [intOf]; omega⟩
    · obtain rfl : k = N := by omega
      have hd : dI S x k = (dueL S x).map (·.i) := by unfold dI; rw [HN.out, List.take_length]
      rw [hd] at hR
      have HR := Aside0.mk (And.intro hR hB)
      clear hF hR hB hd
      go_wp2_with (fail)
      go_ret
      exact ⟨_, rfl, HR.out.1, HR.out.2⟩
end Go.Proofs.Ytphkahphpgipkaa.Z

/- The document's list: Ahead, Find. -/
import Derived.Test.YtphkahphpgipkaaHpdp
namespace Go.Proofs.Ytphkahphpgipkaa.Z
open Go.RowKit Go.Proofs.YtphkahphpgipkaaW.PrintWords Go.Proofs.YtphkahphpgipkaaW.PrintLast Go.Proofs.YtphkahphpgipkaaW.PrintMore
attribute [local go_sem] max2_int min2_int max_two min_two max_three min_three max_four min_four
set_option linter.unusedVariables false
set_option linter.unusedSimpArgs false
def En.encR (e : En) : List Value := [.int .i64 e.i, .int .i64 e.key, .int .u64 e.tie]
def En.valR (e : En) : Value := .agg #[.int .i64 e.i, .int .i64 e.key, .int .u64 e.tie]
theorem En.encR_len (e : En) : e.encR.length = 3 := rfl
theorem En.encR_one (e : En) : ∀ u ∈ e.encR, u.oneCell' = true := fun u hu => by simp [En.encR] at hu; rcases hu with rfl | rfl | rfl <;> rfl
def En.kr : Kd En := fk En.encR 3 En.encR_len En.encR_one
/-- The document's heap at gx: its list is S, in room n. -/
structure RH (w : World) (base gx : Nat) (v : Value) (S : List En) (n : Nat) : Prop where
  head : Blk w gx 39 [v, .int .i64 n]
  row : En.kr.R 42 w base (fun _ => True) v S
theorem RH.below {w w1 : World} {base gx : Nat} {v : Value} {S : List En} {n : Nat} (h : RH w base gx v S n) (hb : Below w.heap.size w w1) : RH w1 base gx v S n :=
  ⟨h.head.below hb, Kd.R_below h.row hb⟩
theorem RH.kp {w w1 : World} {base gx : Nat} {v : Value} {S : List En} {n : Nat} (h : RH w base gx v S n) {T : List Nat} (k : Kp T w w1) (hT : ∀ b ∈ T, ∃ t l, Blk w b t l ∧ t ≠ 39 ∧ t ≠ 42) : RH w1 base gx v S n := by
  refine ⟨k.blk h.head (fun hm => ?_), R_kp rfl h.row k (fun b hb => ?_)⟩
  · obtain ⟨t, l, h1, h2, _⟩ := hT gx hm
    have := h1.symm.trans h.head
    injection this with this
    injection this with _ e _
    exact h2 e
  · obtain ⟨t, l, h1, _, h3⟩ := hT b hb
    exact ⟨t, l, h1, h3⟩
theorem RH.cells {w : World} {base gx gr k c : Nat} {S : List En} {n m : Nat} {e : En} (h : RH w base gx (.slice (some ⟨gr, 0, none⟩) m c) S n) (he : S[k]? = some e) :
    w.cell? ⟨gr, k * 3, none⟩ = some (.int .i64 e.i) ∧ w.cell? ⟨gr, k * 3 + 1, none⟩ = some (.int .i64 e.key) ∧ w.cell? ⟨gr, k * 3 + 2, none⟩ = some (.int .u64 e.tie) := by
  have y0 := R_fk_cell h.row he 0 _ rfl
  have y1 := R_fk_cell h.row he 1 _ rfl
  have y2 := R_fk_cell h.row he 2 _ rfl
  exact ⟨y0, y1, y2⟩
theorem RH.form {w : World} {base gx : Nat} {v : Value} {S : List En} {n : Nat} (h : RH w base gx v S n) (hp : 0 < S.length) : ∃ gr c, v = .slice (some ⟨gr, 0, none⟩) S.length c := by
  obtain ⟨g, c, e, _⟩ := Kd.R_form h.row hp
  exact ⟨g, c, e⟩
set_option maxHeartbeats 4000000 in
theorem ahead_ok (a b : En) (w : World) : Calls Try.prog 26 #[a.valR, b.valR] w fun e w' => e = .returned (.bool (decide (a.lt b))) ∧ Below w.heap.size w w' := by
  have e1 : Blk (w.alloc (.cells #[.int .i64 a.i, .int .i64 a.key, .int .u64 a.tie] 42)) w.heap.size 42 a.encR := Blk.new w 42 a.encR
  have e1 := e1.alloc (.cells #[.int .i64 b.i, .int .i64 b.key, .int .u64 b.tie] 42)
  have e2 : Blk ((w.alloc (.cells #[.int .i64 a.i, .int .i64 a.key, .int .u64 a.tie] 42)).alloc (.cells #[.int .i64 b.i, .int .i64 b.key, .int .u64 b.tie] 42)) (w.heap.size + 1) 42 b.encR := by
    have := Blk.new (w.alloc (.cells #[.int .i64 a.i, .int .i64 a.key, .int .u64 a.tie] 42)) 42 b.encR
    rw [World.size_alloc] at this
    exact this
  have hb : Below w.heap.size w ((w.alloc (.cells #[.int .i64 a.i, .int .i64 a.key, .int .u64 a.tie] 42)).alloc (.cells #[.int .i64 b.i, .int .i64 b.key, .int .u64 b.tie] 42)) := below_alloc (below_alloc (Below.refl _ _) _) _
  unfold En.valR
  go_enter Try.func26, Try.ntmps26
  go_upto_region 1 with (fail)
  obtain ⟨q1, hq1⟩ : ∃ q, q = w.heap.size := ⟨_, rfl⟩
  obtain ⟨q2, hq2⟩ : ∃ q, q = w.heap.size + 1 := ⟨_, rfl⟩
  rw [← hq1] at e1
  rw [← hq2] at e2
  rw [← hq2, ← hq1]
  have HB := Aside0.mk hb
  clear hq1 hq2 hb
  generalize ((w.alloc (.cells #[.int .i64 a.i, .int .i64 a.key, .int .u64 a.tie] 42)).alloc (.cells #[.int .i64 b.i, .int .i64 b.key, .int .u64 b.tie] 42)) = W at *
  have x0 := e1.cell 0 rfl
  have x1 := e1.cell 1 rfl
  have x2 := e1.cell 2 rfl
  have y0 := e2.cell 0 rfl
  have y1 := e2.cell 1 rfl
  have y2 := e2.cell 2 rfl
  clear e1 e2
  have hl : a.lt b ↔ (a.key < b.key ∨ a.key = b.key ∧ (a.tie < b.tie ∨ a.tie = b.tie ∧ a.i < b.i)) := by unfold En.lt; omega
  by_cases h1 : a.key = b.key
  · by_cases h2 : a.tie = b.tie
    · have h3 : a.lt b ↔ a.i < b.i := by rw [hl]; omega
      have f1 : (a.key != b.key) = false := by simp [h1]
      have f2 : (a.tie != b.tie) = false := by simp [h2]
      have H3 := Aside0.mk h3
      clear h1 h2 h3 hl
      go_wp2_with (fail)
      go_ret
      refine ⟨?_, HB.out⟩
      rw [decide_eq_decide.2 H3.out]
      rfl
    · have h3 : a.lt b ↔ a.tie < b.tie := by rw [hl]; omega
      have f1 : (a.key != b.key) = false := by simp [h1]
      have f2 : (a.tie != b.tie) = true := by simp [h2]
      have H3 := Aside0.mk h3
      clear h1 h2 h3 hl
      go_wp2_with (fail)
      go_ret
      refine ⟨?_, HB.out⟩
      rw [decide_eq_decide.2 H3.out]
      rfl
  · have h3 : a.lt b ↔ a.key < b.key := by rw [hl]; omega
    have f1 : (a.key != b.key) = true := by simp [h1]
    have H3 := Aside0.mk h3
    clear h1 h3 hl
    go_wp2_with (fail)
    go_ret
    refine ⟨?_, HB.out⟩
    rw [decide_eq_decide.2 H3.out]
    rfl
/-- Find: nobody. -/
theorem find_no (base gx n : Nat) (v : Value) (S : List En) (i : Int) (w : World) (h : RH w base gx v S n) (hl : S.length ≤ 1024) (hin : ∀ e ∈ S, e.i ≠ i) : Calls Try.prog 20 #[.pointer (some ⟨gx, 0, none⟩), .int .i64 i] w fun r w' => r = .returned (.int .i64 (-1)) ∧ w = w' := by
  obtain ⟨A, c, rfl⟩ := Kd.R_slice h.row
  have c0 := h.head.cell 0 rfl
  have H := Aside0.mk (And.intro h hin)
  obtain ⟨N, hN⟩ : ∃ N, N = S.length := ⟨_, rfl⟩
  rw [← hN] at c0 hl
  have HN := Aside0.mk hN
  clear h hin hN
  go_enter Try.func20, Try.ntmps20
  go_wp2_with (fail)
  go_loopw [5] (fun i wr => ∃ k : Nat, k ≤ N ∧ i = .int .i64 k ∧ w = wr) (fun i _ => N - (intOf i).toNat)
  case atStart => exact ⟨0, Nat.zero_le _, rfl, rfl⟩
  case round =>
    obtain ⟨k, hk, rfl, rfl⟩ := hrel
    by_cases hlt : k < N
    · have hlt' : (k : Int) < (N : Int) := by omega
      have k0 : (0 : Int) ≤ (k : Int) := by omega
      have hkb : (k : Int) + 1 ≤ 1025 := by omega
      obtain ⟨gr, cc, hv⟩ := H.out.1.form (by rw [← HN.out]; omega)
      injection hv with e1 e2 e3
      subst e1 e3
      obtain ⟨e, he⟩ : ∃ e, S[k]? = some e := ⟨_, List.getElem?_eq_getElem (by rw [← HN.out]; exact hlt)⟩
      obtain ⟨y0, _, _⟩ := H.out.1.cells he
      have hne : (e.i == i) = false := by rw [beq_eq_false_iff_ne]; exact H.out.2 e (List.mem_of_getElem? he)
      clear he
      go_wp2_with (fail)
      exact ⟨⟨k + 1, by omega, by go_num, trivial⟩, by simp [intOf]; omega⟩
    · obtain rfl : k = N := by omega
      go_wp2_with (fail)
      go_ret
      exact ⟨rfl, rfl⟩
/-- Find: where he is. -/
theorem find_at (base gx n p : Nat) (v : Value) (S : List En) (u : En) (w : World) (h : RH w base gx v S n) (hl : S.length ≤ 1024) (hu : S[p]? = some u) (hinj : ∀ j e, S[j]? = some e → e.i = u.i → j = p) : Calls Try.prog 20 #[.pointer (some ⟨gx, 0, none⟩), .int .i64 u.i] w fun r w' => r = .returned (.int .i64 p) ∧ w = w' := by
  have hpl : p < S.length := (List.getElem?_eq_some_iff.1 hu).1
  obtain ⟨gr, c, rfl⟩ := h.form (by omega)
  have c0 := h.head.cell 0 rfl
  obtain ⟨N, hN⟩ : ∃ N, N = S.length := ⟨_, rfl⟩
  have H := Aside0.mk (And.intro h (And.intro hu hinj))
  rw [← hN] at c0 hl hpl
  have HN := Aside0.mk hN
  clear h hinj hN hu
  go_enter Try.func20, Try.ntmps20
  go_wp2_with (fail)
  go_loopw [5] (fun i wr => ∃ k : Nat, k ≤ p ∧ i = .int .i64 k ∧ w = wr) (fun i _ => N - (intOf i).toNat)
  case atStart => exact ⟨0, Nat.zero_le _, rfl, rfl⟩
  case round =>
    obtain ⟨k, hk, rfl, rfl⟩ := hrel
    have hlt' : (k : Int) < (N : Int) := by omega
    have k0 : (0 : Int) ≤ (k : Int) := by omega
    have hkb : (k : Int) + 1 ≤ 1025 := by omega
    obtain ⟨e, he⟩ : ∃ e, S[k]? = some e := ⟨_, List.getElem?_eq_getElem (by rw [← HN.out]; omega)⟩
    obtain ⟨y0, _, _⟩ := H.out.1.cells he
    by_cases hkp : k = p
    · subst hkp
      obtain rfl : e = u := by
        have := he.symm.trans H.out.2.1
        injection this
      have hne : (e.i == e.i) = true := by simp
      clear he
      go_wp2_with (fail)
      go_ret
      exact ⟨rfl, rfl⟩
    · have hne : (e.i == u.i) = false := by rw [beq_eq_false_iff_ne]; exact fun h => hkp (H.out.2.2 k e he h)
      have hkp2 : k < p := by omega
      clear he
      go_wp2_with (fail)
      exact ⟨⟨k + 1, by omega, by go_num, trivial⟩, by simp [intOf]; omega⟩
end Go.Proofs.Ytphkahphpgipkaa.Z

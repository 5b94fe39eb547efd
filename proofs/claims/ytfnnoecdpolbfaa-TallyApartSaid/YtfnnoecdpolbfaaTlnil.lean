/- Of a nil log. -/
import Derived.Test.YtfnnoecdpolbfaaTlrs
namespace Go.Proofs.Ytfnnoecdpolbfaa.Z
open Go.RowKit Go.Shelf Go.Proofs.YtfnnoecdpolbfaaW.PrintWords Go.Proofs.YtfnnoecdpolbfaaW.PrintLast Go.Proofs.YtfnnoecdpolbfaaW.PrintMore
attribute [local go_sem] Oper.semAt_some
set_option linter.unusedVariables false
set_option linter.unusedSimpArgs false
set_option maxHeartbeats 8000000 in
theorem all1_nil (n : Nat) (hn : 3 ≤ n) (lp b1 b2 : Nat) (y : Int) (W : World) (hB1 : Blk W b1 27 [.pointer none]) :
    CallsIn Fence.wide n Try.prog 29 #[.func (.yield lp) #[] #[], .pointer (some ⟨b1, 0, none⟩), .pointer (some ⟨b2, 0, none⟩)] W fun e W' => (∃ v, e = .returned v) ∧ W = W' := by
  have c1 := hB1.cell 0 rfl
  refine callsIn_of_wp Try.func29 rfl trivial ?_ rfl
  simp only [Try.ntmps29, List.size_toArray, List.length_cons, List.length_nil, Nat.reduceAdd, Nat.reduceSub, Array.replicate_succ, Array.replicate_zero, List.push_toArray, List.append_toArray, List.nil_append, List.cons_append]
  gi_wp2_with (fail)
  refine ⟨trivial, (fun h => by cases h), ?_⟩
  refine (callsIn_wide.2 (tail_none 0 _)).mono ?_
  rintro e w' ⟨rfl, rfl⟩
  gi_wp2_with (fail)
  gi_loopw [9] (fun i wr => i = .int .i64 0 ∧ wr = W) (fun i _ => 0)
  case atStart => exact ⟨rfl, rfl⟩
  case round =>
    obtain ⟨rfl, rfl⟩ := hrel
    gi_wp2_with (fail)
    go_end0
    exact ⟨⟨_, rfl⟩, rfl⟩
theorem seq_nil (n : Nat) (hn : 3 ≤ n) (b1 b2 : Nat) (y : Int) (K : World → World → Prop) (w : World) (hB1 : Blk w b1 27 [.pointer none]) :
    SeqStopsK Fence.wide n Try.prog 29 #[.pointer (some ⟨b1, 0, none⟩), .pointer (some ⟨b2, 0, none⟩)] (fun x : Empty => x.elim) K (fun ys => ys = []) (fun _ => False) 0 w :=
  fun lp J Jx W hW ha hx hY h0 => (all1_nil n hn lp b1 b2 y W (hB1.below hW)).mono fun e W' h => ⟨h.1, .inl ⟨[], rfl, h.2 ▸ h0⟩⟩
set_option maxHeartbeats 8000000 in
set_option maxRecDepth 100000 in
theorem count_nin (n : Nat) (hn : 5 ≤ n) (t y : Int) (w : World) :
    CallsIn Fence.wide n Try.prog 9 #[.pointer none, .int .i64 t, .int .u8 y] w fun e w' => e = .returned (.int .i64 0) ∧ Below w.heap.size w w' := by
  have h1 : 1 ≤ n := by omega
  refine callsIn_of_wp_marks Try.func9 rfl trivial ?_ rfl
  simp only [Try.ntmps9, List.size_toArray, List.length_cons, List.length_nil, Nat.reduceAdd, Nat.reduceSub, Array.replicate_succ, Array.replicate_zero, List.push_toArray, List.append_toArray, List.nil_append, List.cons_append]
  gi_wp2_with (fail)
  refine ⟨trivial, ?_⟩
  have e3 := Blk.new ((w.alloc (.cells #[.int .i64 t] 3)).alloc (.cells #[.int .u8 y] 5)) 3 [.int .i64 0]
  simp only [World.size_alloc] at e3
  have e3 : Blk (((w.alloc (.cells #[.int .i64 t] 3)).alloc (.cells #[.int .u8 y] 5)).alloc (.cells #[.int .i64 0] 3)) _ _ _ := e3
  have hb0 : Below w.heap.size w (((w.alloc (.cells #[.int .i64 t] 3)).alloc (.cells #[.int .u8 y] 5)).alloc (.cells #[.int .i64 0] 3)) := (((Below.refl _ w).alloc (Nat.le_refl _) _).alloc (by simp) _).alloc (by simp; omega) _
  generalize (((w.alloc (.cells #[.int .i64 t] 3)).alloc (.cells #[.int .u8 y] 5)).alloc (.cells #[.int .i64 0] 3)) = w1 at *
  obtain ⟨q, hq⟩ : ∃ q, q = w.heap.size := ⟨_, rfl⟩
  obtain ⟨q7, hq7⟩ : ∃ q, q = w.heap.size + 1 + 1 := ⟨_, rfl⟩
  rw [← hq7] at e3 ⊢
  rw [← hq] at hb0
  have y0 : q ≤ w1.heap.size := by rw [hq]; exact hb0.size
  have HQ := Aside0.mk hq
  have HB0 := Aside0.mk hb0
  clear hq hq7 hb0
  refine (callsIn_wide.2 (all_ok none y _)).mono ?_
  rintro e w6 ⟨b1, b2, rfl, hb, hB1, hB2, m1, m2⟩
  have e3 := e3.below hb
  have hB6 := HB0.out.trans (hb.mono y0)
  have hs6 : q ≤ w6.heap.size := Nat.le_trans y0 hb.size
  have HB6 := Aside0.mk hB6
  clear hb hB6 HB0
  gi_wp2_with (fail)
  apply wpIn_rangeFunc_ownH (α := Empty) rfl h1 (gf := 29) (lb := #[.pointer (some ⟨b1, 0, none⟩), .pointer (some ⟨b2, 0, none⟩)]) rfl trivial (enters_of Try.func29 (by kernel_rfl) rfl)
    (seq_nil (n - 1) (by omega) b1 b2 y (BX w6.heap.size (fun _ => False)) w6 hB1) bx_t (bx_b (Nat.le_refl _)) (Below.refl _ _) (fun x => x.elim)
    (fun pre W => Boxed W q7 3 (.int .i64 0) ∧ Below q w W) (fun _ _ _ => False) (Ax := fun _ _ _ => True)
  case hI => exact OwnFrom.and (Own.from (boxed_own q7 3 (fun pre : List Empty => .int .i64 0)) _) (ownFrom_below (by rw [HQ.out]; exact Nat.le_refl _) hs6)
  case hIx => exact fun _ _ _ _ _ hs _ _ => hs
  case h0 => exact ⟨e3, HB6.out⟩
  case hAx => exact fun x => x.elim
  case hassign => exact fun _ _ x => x.elim
  case hbody => exact fun _ _ x => x.elim
  case hstop =>
    rintro D c pre W _ _ h _
    exact h.elim
  case hdone =>
    rintro D ys W hD rfl ⟨hbx, hB⟩ hK
    have c7 := hbx.cell
    have HW := Aside0.mk hB
    have HK := Aside0.mk hK
    have HDD := Aside0.mk hD
    clear hbx hB hK hD e3 hB1 hB2
    gi_wp2_with (fail)
    refine ⟨by simp, .inl ⟨_, _, rfl, run_takeDeferred HK.out, ?_⟩⟩
    refine ⟨_, results_tmp rfl _ _ _, rfl, ?_⟩
    have := HW.out.trans (belowK_b (n₀ := q) (w := w6) hs6 W D _ (.deferred none) HDD.out HK.out rfl rfl)
    rw [HQ.out] at this
    exact this
theorem count_nil (t y : Int) (w : World) : Calls Try.prog 9 #[.pointer none, .int .i64 t, .int .u8 y] w fun e w' => e = .returned (.int .i64 0) ∧ Below w.heap.size w w' := callsIn_wide.1 (count_nin 5 (by omega) t y w)

set_option maxHeartbeats 8000000 in
set_option maxRecDepth 100000 in
theorem spread_nin (n : Nat) (hn : 5 ≤ n) (t : Int) (w : World) :
    CallsIn Fence.wide n Try.prog 10 #[.pointer none, .int .i64 t] w fun e w' => e = .returned (.slice none 0 0) ∧ Below w.heap.size w w' := by
  have h1 : 1 ≤ n := by omega
  refine callsIn_of_wp_marks Try.func10 rfl trivial ?_ rfl
  simp only [Try.ntmps10, List.size_toArray, List.length_cons, List.length_nil, Nat.reduceAdd, Nat.reduceSub, Array.replicate_succ, Array.replicate_zero, List.push_toArray, List.append_toArray, List.nil_append, List.cons_append]
  gi_wp2_with (fail)
  refine ⟨trivial, ?_⟩
  have e3 := Blk.new (w.alloc (.cells #[.int .i64 t] 3)) 32 [.slice none 0 0]
  simp only [World.size_alloc] at e3
  have e3 : Blk ((w.alloc (.cells #[.int .i64 t] 3)).alloc (.cells #[.slice none 0 0] 32)) _ _ _ := e3
  have hb0 : Below w.heap.size w ((w.alloc (.cells #[.int .i64 t] 3)).alloc (.cells #[.slice none 0 0] 32)) := ((Below.refl _ w).alloc (Nat.le_refl _) _).alloc (by simp) _
  generalize ((w.alloc (.cells #[.int .i64 t] 3)).alloc (.cells #[.slice none 0 0] 32)) = w1 at *
  obtain ⟨q, hq⟩ : ∃ q, q = w.heap.size := ⟨_, rfl⟩
  obtain ⟨q7, hq7⟩ : ∃ q, q = w.heap.size + 1 := ⟨_, rfl⟩
  rw [← hq7] at e3 ⊢
  rw [← hq] at hb0
  have y0 : q ≤ w1.heap.size := by rw [hq]; exact hb0.size
  have HQ := Aside0.mk hq
  have HB0 := Aside0.mk hb0
  clear hq hq7 hb0
  refine (callsIn_wide.2 (all_ok none 1 _)).mono ?_
  rintro e w6 ⟨b1, b2, rfl, hb, hB1, hB2, m1, m2⟩
  have e3 := e3.below hb
  have hB6 := HB0.out.trans (hb.mono y0)
  have hs6 : q ≤ w6.heap.size := Nat.le_trans y0 hb.size
  have HB6 := Aside0.mk hB6
  clear hb hB6 HB0
  gi_wp2_with (fail)
  apply wpIn_rangeFunc_ownH (α := Empty) rfl h1 (gf := 29) (lb := #[.pointer (some ⟨b1, 0, none⟩), .pointer (some ⟨b2, 0, none⟩)]) rfl trivial (enters_of Try.func29 (by kernel_rfl) rfl)
    (seq_nil (n - 1) (by omega) b1 b2 1 (BX w6.heap.size (fun _ => False)) w6 hB1) bx_t (bx_b (Nat.le_refl _)) (Below.refl _ _) (fun x => x.elim)
    (fun pre W => Boxed W q7 32 (.slice none 0 0) ∧ Below q w W) (fun _ _ _ => False) (Ax := fun _ _ _ => True)
  case hI => exact OwnFrom.and (Own.from (boxed_own q7 32 (fun pre : List Empty => .slice none 0 0)) _) (ownFrom_below (by rw [HQ.out]; exact Nat.le_refl _) hs6)
  case hIx => exact fun _ _ _ _ _ hs _ _ => hs
  case h0 => exact ⟨e3, HB6.out⟩
  case hAx => exact fun x => x.elim
  case hassign => exact fun _ _ x => x.elim
  case hbody => exact fun _ _ x => x.elim
  case hstop =>
    rintro D c pre W _ _ h _
    exact h.elim
  case hdone =>
    rintro D ys W hD rfl ⟨hbx, hB⟩ hK
    have c7 := hbx.cell
    have HW := Aside0.mk hB
    have HK := Aside0.mk hK
    have HDD := Aside0.mk hD
    clear hbx hB hK hD e3 hB1 hB2
    gi_wp2_with (fail)
    refine ⟨by simp, .inl ⟨_, _, rfl, run_takeDeferred HK.out, ?_⟩⟩
    refine ⟨_, results_tmp rfl _ _ _, rfl, ?_⟩
    have := HW.out.trans (belowK_b (n₀ := q) (w := w6) hs6 W D _ (.deferred none) HDD.out HK.out rfl rfl)
    rw [HQ.out] at this
    exact this
set_option maxHeartbeats 8000000 in
set_option maxRecDepth 100000 in
theorem longest_nin (n : Nat) (hn : 5 ≤ n) (t : Int) (w : World) :
    CallsIn Fence.wide n Try.prog 19 #[.pointer none, .int .i64 t] w fun e w' => e = .returned (.tuple #[.int .i64 0, .bool false]) ∧ Below w.heap.size w w' := by
  have h1 : 1 ≤ n := by omega
  refine callsIn_of_wp_marks Try.func19 rfl trivial ?_ rfl
  simp only [Try.ntmps19, List.size_toArray, List.length_cons, List.length_nil, Nat.reduceAdd, Nat.reduceSub, Array.replicate_succ, Array.replicate_zero, List.push_toArray, List.append_toArray, List.nil_append, List.cons_append]
  gi_wp2_with (fail)
  refine ⟨trivial, ?_⟩
  have e2 := Blk.new (w.alloc (.cells #[.int .i64 t] 3)) 2 [.int .i64 0]
  have e3 := Blk.new ((w.alloc (.cells #[.int .i64 t] 3)).alloc (.cells #[.int .i64 0] 2)) 4 [.bool false]
  simp only [World.size_alloc] at e2 e3
  have e2 : Blk (((w.alloc (.cells #[.int .i64 t] 3)).alloc (.cells #[.int .i64 0] 2)).alloc (.cells #[.bool false] 4)) _ _ _ := e2.alloc _
  have e3 : Blk (((w.alloc (.cells #[.int .i64 t] 3)).alloc (.cells #[.int .i64 0] 2)).alloc (.cells #[.bool false] 4)) _ _ _ := e3
  have hb0 : Below w.heap.size w (((w.alloc (.cells #[.int .i64 t] 3)).alloc (.cells #[.int .i64 0] 2)).alloc (.cells #[.bool false] 4)) := (((Below.refl _ w).alloc (Nat.le_refl _) _).alloc (by simp) _).alloc (by simp; omega) _
  generalize (((w.alloc (.cells #[.int .i64 t] 3)).alloc (.cells #[.int .i64 0] 2)).alloc (.cells #[.bool false] 4)) = w1 at *
  obtain ⟨q, hq⟩ : ∃ q, q = w.heap.size := ⟨_, rfl⟩
  obtain ⟨q5, hq5⟩ : ∃ q, q = w.heap.size + 1 := ⟨_, rfl⟩
  obtain ⟨q7, hq7⟩ : ∃ q, q = w.heap.size + 1 + 1 := ⟨_, rfl⟩
  rw [← hq7] at e3 ⊢
  rw [← hq5] at e2 ⊢
  rw [← hq] at hb0
  have y0 : q ≤ w1.heap.size := by rw [hq]; exact hb0.size
  have HQ := Aside0.mk hq
  have HB0 := Aside0.mk hb0
  clear hq hq7 hq5 hb0
  refine (callsIn_wide.2 (all_ok none 1 _)).mono ?_
  rintro e w6 ⟨b1, b2, rfl, hb, hB1, hB2, m1, m2⟩
  have e2 := e2.below hb
  have e3 := e3.below hb
  have hB6 := HB0.out.trans (hb.mono y0)
  have hs6 : q ≤ w6.heap.size := Nat.le_trans y0 hb.size
  have HB6 := Aside0.mk hB6
  clear hb hB6 HB0
  gi_wp2_with (fail)
  apply wpIn_rangeFunc_ownH (α := Empty) rfl h1 (gf := 29) (lb := #[.pointer (some ⟨b1, 0, none⟩), .pointer (some ⟨b2, 0, none⟩)]) rfl trivial (enters_of Try.func29 (by kernel_rfl) rfl)
    (seq_nil (n - 1) (by omega) b1 b2 1 (BX w6.heap.size (fun _ => False)) w6 hB1) bx_t (bx_b (Nat.le_refl _)) (Below.refl _ _) (fun x => x.elim)
    (fun pre W => Boxed W q5 2 (.int .i64 0) ∧ Boxed W q7 4 (.bool false) ∧ Below q w W) (fun _ _ _ => False) (Ax := fun _ _ _ => True)
  case hI => exact OwnFrom.and (Own.from (boxed_own q5 2 (fun pre : List Empty => .int .i64 0)) _) <| OwnFrom.and (Own.from (boxed_own q7 4 (fun pre : List Empty => .bool false)) _) (ownFrom_below (by rw [HQ.out]; exact Nat.le_refl _) hs6)
  case hIx => exact fun _ _ _ _ _ hs _ _ => hs
  case h0 => exact ⟨e2, e3, HB6.out⟩
  case hAx => exact fun x => x.elim
  case hassign => exact fun _ _ x => x.elim
  case hbody => exact fun _ _ x => x.elim
  case hstop =>
    rintro D c pre W _ _ h _
    exact h.elim
  case hdone =>
    rintro D ys W hD rfl ⟨hbx, hbs, hB⟩ hK
    have c5 := hbx.cell
    have c7 := hbs.cell
    have HW := Aside0.mk hB
    have HK := Aside0.mk hK
    have HDD := Aside0.mk hD
    clear hbx hbs hB hK hD e2 e3 hB1 hB2
    gi_wp2_with (fail)
    gi_region
    all_goals
      gi_wp2_with (fail)
      refine ⟨by simp, .inl ⟨_, _, rfl, run_takeDeferred (w := W.drew) HK.out, ?_⟩⟩
      refine ⟨_, results_tmp2 rfl _ _ _, rfl, ?_⟩
      have := (pw_below_drewN HW.out 1).trans (belowK_b (n₀ := q) (w := w6) hs6 W.drew D _ (.deferred none) HDD.out HK.out rfl rfl)
      rw [HQ.out] at this
      exact this
theorem spread_nil (t : Int) (w : World) : Calls Try.prog 10 #[.pointer none, .int .i64 t] w fun e w' => e = .returned (.slice none 0 0) ∧ Below w.heap.size w w' := callsIn_wide.1 (spread_nin 5 (by omega) t w)
theorem longest_nil (t : Int) (w : World) : Calls Try.prog 19 #[.pointer none, .int .i64 t] w fun e w' => e = .returned (.tuple #[.int .i64 0, .bool false]) ∧ Below w.heap.size w w' := callsIn_wide.1 (longest_nin 5 (by omega) t w)
theorem clone_none (w : World) : Calls Try.prog 27 #[.slice none 0 0] w fun e w' => e = .returned (.slice none 0 0) ∧ w = w' := by
  have qT : ∀ (w : World) (a : Option Addr) (n c n' c' : Nat), (binOp .eql 22 (.slice a n c) (.slice none n' c')).run Try.prog w = .ok (.bool a.isNone) w := fun w a n c n' c' => Lib.run_eql_slice_nil w _ _ a n c n' c' Try.underlying22
  go_enter Try.func27, Try.ntmps27
  go_wp2
  go_ret
  exact ⟨rfl, rfl⟩
attribute [local go_sem] max2_int min2_int max_two min_two
set_option maxHeartbeats 4000000 in
theorem since_nil (w : World) : Calls Try.prog 12 #[.pointer none, .int .i64 0] w fun e w' => e = .returned (.slice none 0 0) ∧ w = w' := by
  go_enter Try.func12, Try.ntmps12
  go_wp2_with (fail)
  refine (len_nil _).mono ?_
  rintro e w' ⟨rfl, rfl⟩
  go_wp2_with (fail)
  refine (tail_none 0 _).mono ?_
  rintro e w' ⟨rfl, rfl⟩
  go_wp2_with (fail)
  refine (clone_none _).mono ?_
  rintro e w' ⟨rfl, rfl⟩
  go_wp2_with (fail)
  go_ret
  exact ⟨rfl, rfl⟩
end Go.Proofs.Ytfnnoecdpolbfaa.Z

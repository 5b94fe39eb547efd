/- slices.Collect over a log's All. -/
import Derived.Test.YtfnnoecdpolbfaaTlaw
namespace Go.Proofs.Ytfnnoecdpolbfaa.Z
open Go.RowKit Go.Shelf Go.Proofs.YtfnnoecdpolbfaaW.PrintWords Go.Proofs.YtfnnoecdpolbfaaW.PrintLast Go.Proofs.YtfnnoecdpolbfaaW.PrintMore
attribute [local go_sem] Oper.semAt_some
set_option linter.unusedVariables false
set_option linter.unusedSimpArgs false
theorem info_oc : (Try.prog.info? 26).map (fun i => (i.zero, i.size, i.bytes)) = some (some (.agg #[.int .u64 0, .int .i64 0, .int .i64 0, .int .u8 0, .int .i64 0, .int .i64 0]), 6, 48) := by kernel_rfl
theorem R_of_ownF {α : Type} {f : α → List Value} {k : Nat} {hk : ∀ x, (f x).length = k} {h1 : ∀ x, ∀ u ∈ f x, u.oneCell' = true} {w : World} {e base : Nat} {v : Value} {l : List α} (h : w.ownsRow base e k v l.length (flat f l)) : (fk f k hk h1).R e w base (fun _ => True) v l := by
  refine ⟨fun _ _ => trivial, flat f l, h, flat_len hk l, fun j p hj => ?_⟩
  show ((flat f l).drop (j * k)).take k = f p
  apply List.ext_getElem?
  intro i
  rw [List.getElem?_take, List.getElem?_drop]
  by_cases hi : i < k
  · rw [if_pos hi, flat_at hk l j i p hj hi]
  · rw [if_neg hi, List.getElem?_eq_none (by rw [hk]; omega)]
theorem flat_snoc {α : Type} (f : α → List Value) (l : List α) (x : α) : flat f (l ++ [x]) = flat f l ++ f x := by simp [flat]
set_option maxHeartbeats 8000000 in
set_option maxRecDepth 100000 in
theorem append_oc (n : Nat) (hn : 4 ≤ n) (b1 b2 g base : Nat) (l : List Oc) (y : Int) (hl : l.length ≤ 1000) (w : World) (h : LogAt w base g l) (hB1 : Blk w b1 27 [.pointer (some ⟨g, 0, none⟩)]) (hB2 : Blk w b2 5 [.int .u8 y]) :
    CallsIn Fence.wide n Try.prog 31 #[.slice none 0 0, .func (.func 29) #[] #[.pointer (some ⟨b1, 0, none⟩), .pointer (some ⟨b2, 0, none⟩)]] w fun e W' => ∃ v, e = .returned v ∧ Oc.kd.R 26 W' w.heap.size (fun _ => True) v (ofWhy y l) ∧ Below w.heap.size w W' := by
  have h1 : 1 ≤ n := by omega
  obtain ⟨i0, hi, hz0, hz1, hz2⟩ := info_parts info_oc
  obtain ⟨A, c, hg, hC⟩ := log_reads (n₀ := w.heap.size) (nx := fun _ => False) h (Nat.le_refl _) (fun _ h => h.elim)
  refine callsIn_of_wp_marks Try.func31 rfl trivial ?_ rfl
  simp only [Try.ntmps31, List.size_toArray, List.length_cons, List.length_nil, Nat.reduceAdd, Nat.reduceSub, Array.replicate_succ, Array.replicate_zero, List.push_toArray, List.append_toArray, List.nil_append, List.cons_append]
  have HW := Aside0.mk (log_seq (n - 1) (by omega) (fun _ => False) b1 b2 g A c l y hl w hg hC hB1 hB2 (fun h => h) (fun h => h))
  clear hg hC hB1 hB2 h
  gi_wp2_with (fail)
  have bO := Boxed.new w 22 (.slice none 0 0)
  have hB0 : Below w.heap.size w (w.alloc (.cells #[.slice none 0 0] 22)) := (Below.refl _ w).alloc (Nat.le_refl _) _
  have hs0 : w.heap.size ≤ (w.alloc (.cells #[.slice none 0 0] 22)).heap.size := by simp
  obtain ⟨q, hq⟩ : ∃ q, q = w.heap.size := ⟨_, rfl⟩
  rw [← hq] at bO hB0 hs0 ⊢
  have HQ := Aside0.mk hq
  have HS := HW.out
  rw [← hq] at HS
  clear hq HW
  generalize (w.alloc (.cells #[.slice none 0 0] 22)) = w1 at *
  have HB0 := Aside0.mk hB0
  clear hB0
  apply wpIn_rangeFunc_ownH rfl h1 (gf := 29) (lb := #[.pointer (some ⟨b1, 0, none⟩), .pointer (some ⟨b2, 0, none⟩)]) rfl trivial (enters_of Try.func29 (by kernel_rfl) rfl)
    HS bx_t (bx_b hs0) (by rw [← HQ.out]; exact HB0.out) (fun _ => rfl)
    (fun pre W => (∃ v, Boxed W q 22 v ∧ W.ownsRow q 26 6 v pre.length (flat Oc.enc pre) ∧ True) ∧ Below q w W)
    (fun _ _ _ => False)
    (Ax := fun x a' W => ∃ qx, Blk W qx 26 x.enc ∧ a' = { tmps := #[.slice none 0 0, .func (.func 29) #[] #[.pointer (some ⟨b1, 0, none⟩), .pointer (some ⟨b2, 0, none⟩)], .pointer (some ⟨q, 0, none⟩), undef, .slice none 0 0, .pointer (some ⟨qx, 0, none⟩), .func (.func 29) #[] #[.pointer (some ⟨b1, 0, none⟩), .pointer (some ⟨b2, 0, none⟩)], x.val, undef, undef, undef, undef, undef], defers := [] })
  case hI => exact OwnFrom.and (Own.from (holdsRow_own q q 22 26 6 (fun pre : List Oc => pre.length) (fun pre => flat Oc.enc pre) (fun pre v => True)) _) (ownFrom_below (by rw [HQ.out]; exact Nat.le_refl _) hs0)
  case hIx => exact fun _ _ _ _ _ hs _ _ => hs
  case h0 => exact ⟨⟨_, bO, World.ownsRow_nil _ _ _ _, trivial⟩, HB0.out⟩
  case hAx =>
    rintro x a' _ X Y row ⟨qx, hqx, rfl⟩ hgr hrow
    exact ⟨qx, (Own.from (blk_own qx 26 x.enc) w1.heap.size) () X Y row hqx hgr hrow, rfl⟩
  case hassign =>
    intro lp pre x W K hI hK
    have hsz6 : q ≤ W.heap.size := by have := hI.2.size; rw [HQ.out]; exact this
    have hbox : Blk (W.alloc (.cells #[.int .u64 x.tk, .int .i64 x.tier, .int .i64 x.co, .int .u8 x.why, .int .i64 x.at_, .int .i64 x.so] 26)) W.heap.size 26 x.enc := Blk.new W 26 x.enc
    have HBOX := Aside0.mk hbox
    have hKe := fun a' => hK a' (W.alloc (.cells #[.int .u64 x.tk, .int .i64 x.tier, .int .i64 x.co, .int .u8 x.why, .int .i64 x.at_, .int .i64 x.so] 26)) ((KeepsOthers.alloc _ _).from _) (BX.of_below ((Below.refl _ W).alloc hsz6 _)) ⟨⟨hI.1.choose, hI.1.choose_spec.1.alloc _, hI.1.choose_spec.2.1.alloc _, trivial⟩, hI.2.alloc hsz6 _⟩
    have HKE := Aside0.mk hKe
    clear hKe hbox hK hI
    unfold Oc.val
    gi_wp2
    exact HKE.out _ ⟨W.heap.size, HBOX.out, rfl⟩
  case hbody =>
    rintro lp pre x a' W hlp _ ⟨⟨v, hbx, hrow, -⟩, hB⟩ ⟨qx, hqx, rfl⟩ hlt
    have x0 := hqx.cell 0 rfl
    have x1 := hqx.cell 1 rfl
    have x2 := hqx.cell 2 rfl
    have x3 := hqx.cell 3 rfl
    have x4 := hqx.cell 4 rfl
    have x5 := hqx.cell 5 rfl
    have hc := hbx.cell
    have hpl : pre.length ≤ 1000 := by
      have a2 : (ofWhy y l).length ≤ l.length := List.length_filter_le _ _
      omega
    have hsz6 : q ≤ W.heap.size := by have := hB.size; rw [HQ.out]; exact this
    have hnb : ∀ j u, x.enc[j]? = some u → (W.alloc (.cells #[.int .u64 x.tk, .int .i64 x.tier, .int .i64 x.co, .int .u8 x.why, .int .i64 x.at_, .int .i64 x.so] 26)).cell? ((⟨W.heap.size, 0, none⟩ : Addr).add j) = some u := fun j u hu => by
      rw [add_plain]; exact (Blk.new W 26 x.enc).cell j hu
    clear hlt HS
    gi_wp2_with (gi_at_builtin; refine wpListIn_append_own _ rfl _ _ 22 rfl q 26 i0 (.agg #[.int .u64 0, .int .i64 0, .int .i64 0, .int .u8 0, .int .i64 0, .int .i64 0]) 6 48 Try.underlying22 hi hz0 hz1 hz2 rfl (by decide) _ _ _ rfl (hrow.alloc _) ⟨W.heap.size, 0, none⟩ 1 1 x.enc rfl rfl hnb (by intro u hu; simp [Oc.enc] at hu; rcases hu with rfl | rfl | rfl | rfl | rfl | rfl <;> rfl) (by have : maxLen = 9223372036854775807 := rfl; omega) (by omega) (by simp; omega) ?_; intro v' w1' hown' hgrow _; obtain ⟨g', cap', rfl⟩ := ownsRow_succ hown'; obtain ⟨hv1, hv2, hr2, hk2, hb2⟩ := hbx.appended (n₀ := q) (by decide) hrow hsz6 (Nat.le_refl _) hown' hgrow; have hc1 := hv1.cell; have hf1 := hv1.frozen)
    exact ⟨hk2.from _, BX.of_below (by rw [HQ.out] at hb2 ⊢; exact hb2), ⟨_, hv2, by rw [flat_snoc, List.length_append]; exact hr2, trivial⟩, hB.trans hb2⟩
  case hdone =>
    rintro D ys W hD rfl ⟨⟨v, hbx, hrow, -⟩, hB⟩ hK
    have hc := hbx.cell
    have HW := Aside0.mk (And.intro hrow hB)
    have HK := Aside0.mk hK
    have HDD := Aside0.mk hD
    clear hbx hrow hB hK hD HS
    gi_wp2_with (fail)
    refine ⟨by simp, .inl ⟨_, _, rfl, run_takeDeferred HK.out, ?_⟩⟩
    refine ⟨_, results_tmp rfl _ _ _, v, rfl, ?_, ?_⟩
    · rw [← HQ.out]
      exact R_of_ownF (ownsRow_putObj HW.out.1 _ HK.out rfl)
    · have := HW.out.2.trans (belowK_b (n₀ := q) (w := w1) hs0 W D _ (.deferred none) HDD.out HK.out rfl rfl)
      rw [HQ.out] at this
      exact this
  case hstop =>
    rintro D c pre W _ _ h _
    exact h.elim
set_option maxHeartbeats 8000000 in
theorem collect_in (n : Nat) (hn : 6 ≤ n) (b1 b2 g base : Nat) (l : List Oc) (y : Int) (hl : l.length ≤ 1000) (w : World) (h : LogAt w base g l) (hB1 : Blk w b1 27 [.pointer (some ⟨g, 0, none⟩)]) (hB2 : Blk w b2 5 [.int .u8 y]) :
    CallsIn Fence.wide n Try.prog 24 #[.func (.func 29) #[] #[.pointer (some ⟨b1, 0, none⟩), .pointer (some ⟨b2, 0, none⟩)]] w fun e W' => ∃ v, e = .returned v ∧ Oc.kd.R 26 W' w.heap.size (fun _ => True) v (ofWhy y l) ∧ Below w.heap.size w W' := by
  refine callsIn_of_wp Try.func24 rfl trivial ?_ rfl
  simp only [Try.ntmps24, List.size_toArray, List.length_cons, List.length_nil, Nat.reduceAdd, Nat.reduceSub, Array.replicate_succ, Array.replicate_zero, List.push_toArray, List.append_toArray, List.nil_append, List.cons_append]
  gi_wp2_with (fail)
  refine ⟨trivial, fun _ => by omega, ?_⟩
  refine (append_oc (n - 1) (by omega) b1 b2 g base l y hl w h hB1 hB2).mono ?_
  rintro e w' ⟨v, rfl, hrow, hb⟩
  gi_wp2
  go_ret
  exact ⟨v, rfl, hrow, hb⟩
theorem collect_oc (b1 b2 g base : Nat) (l : List Oc) (y : Int) (hl : l.length ≤ 1000) (w : World) (h : LogAt w base g l) (hB1 : Blk w b1 27 [.pointer (some ⟨g, 0, none⟩)]) (hB2 : Blk w b2 5 [.int .u8 y]) :
    Calls Try.prog 24 #[.func (.func 29) #[] #[.pointer (some ⟨b1, 0, none⟩), .pointer (some ⟨b2, 0, none⟩)]] w fun e W' => ∃ v, e = .returned v ∧ Oc.kd.R 26 W' w.heap.size (fun _ => True) v (ofWhy y l) ∧ Below w.heap.size w W' :=
  callsIn_wide.1 (collect_in 6 (by omega) b1 b2 g base l y hl w h hB1 hB2)
end Go.Proofs.Ytfnnoecdpolbfaa.Z

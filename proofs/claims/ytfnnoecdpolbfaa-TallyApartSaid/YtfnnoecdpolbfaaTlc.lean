/- All, Count. -/
import Derived.Test.YtfnnoecdpolbfaaTli
namespace Go.Proofs.Ytfnnoecdpolbfaa.Z
open Go.RowKit Go.Shelf Go.Proofs.YtfnnoecdpolbfaaW.PrintWords Go.Proofs.YtfnnoecdpolbfaaW.PrintLast Go.Proofs.YtfnnoecdpolbfaaW.PrintMore
attribute [local go_sem] Oper.semAt_some
set_option linter.unusedVariables false
set_option linter.unusedSimpArgs false
theorem ownFrom_bx {β : Type} {n₀ B : Nat} {nx : Nat → Prop} {w₀ : World} (hn : n₀ ≤ B) (h0 : n₀ ≤ w₀.heap.size) : OwnFrom B (fun (_ : β) W => BX n₀ nx w₀ W) := fun s W W' row hs hg hr =>
  hs.trans ⟨hg.size, fun b h1 h2 => hg.block b (by have := hs.size; omega) (fun e => by have := (hr b e.symm).1; omega)⟩
theorem bx_b {n₀ : Nat} {nx : Nat → Prop} {w : World} (hn : n₀ ≤ w.heap.size) (W : World) (l : Nat) (o o' : Obj) (hl : w.heap.size ≤ l) (h : W.heap[l]? = some o) (k1 : o.isCells = false) (k2 : o.isWalk = false) : BX n₀ nx W (W.putObj l o') :=
  BX.of_below (belowK_b hn W l o o' hl h k1 k2)
theorem bx_t {n₀ : Nat} {nx : Nat → Prop} {A B C : World} (h : BX n₀ nx A B) (k : BX n₀ nx B C) : BX n₀ nx A C := h.trans k
theorem bx_set {n₀ : Nat} {nx : Nat → Prop} {A B : World} {q : Nat} (hq : nx q) (h : BX n₀ nx A B) (v : Value) : BX n₀ nx A (B.setCell ⟨q, 0, none⟩ v) := h.trans ⟨by simp [World.setCell], fun b _ h2 => Below.heap_setCell B _ v b (fun e => h2 (by rw [e]; exact hq))⟩
theorem all_ok (pt : Option Addr) (y : Int) (w : World) :
    Calls Try.prog 18 #[.pointer pt, .int .u8 y] w fun e w' => ∃ b1 b2, e = .returned (.func (.func 29) #[] #[.pointer (some ⟨b1, 0, none⟩), .pointer (some ⟨b2, 0, none⟩)]) ∧
      Below w.heap.size w w' ∧ Blk w' b1 27 [.pointer pt] ∧ Blk w' b2 5 [.int .u8 y] ∧ w.heap.size ≤ b1 ∧ w.heap.size ≤ b2 := by
  go_enter Try.func18, Try.ntmps18
  go_wp2
  go_ret
  have hb : Below w.heap.size w ((w.alloc (.cells #[.pointer pt] 27)).alloc (.cells #[.int .u8 y] 5)) :=
    ((Below.refl _ w).alloc (Nat.le_refl _) _).alloc (by simp) _
  have e1 := Blk.new w 27 [.pointer pt]
  have e2 := Blk.new (w.alloc (.cells #[.pointer pt] 27)) 5 [.int .u8 y]
  simp only [World.size_alloc] at e2
  exact ⟨_, _, rfl, hb, e1.alloc _, e2, by simp, by simp⟩
theorem log_seq (n : Nat) (hn : 3 ≤ n) (nx : Nat → Prop) (b1 b2 g : Nat) (A : Option Addr) (c : Nat) (l : List Oc) (y : Int) (hl : l.length ≤ 1000) (w : World) (hg : Blk w g 58 [.slice A l.length c]) (hC : ∀ V, BX w.heap.size nx w V → Oc.kd.C V A l.length l)
    (hB1 : Blk w b1 27 [.pointer (some ⟨g, 0, none⟩)]) (hB2 : Blk w b2 5 [.int .u8 y]) (k1 : ¬ nx b1) (k2 : ¬ nx b2) :
    SeqStopsK Fence.wide n Try.prog 29 #[.pointer (some ⟨b1, 0, none⟩), .pointer (some ⟨b2, 0, none⟩)] (fun x : Oc => #[x.val]) (BX w.heap.size nx) (fun ys => ys = ofWhy y l) (fun pre => pre <+: ofWhy y l) (ofWhy y l).length w :=
  fun lp J Jx W hW ha hx hY h0 => all1_in n hn lp b1 b2 w.heap.size nx g A c l y hl J Jx (fun pre U V h hg => ha pre U V none h hg (fun r e => by cases e)) (fun pre x W _ => hY pre x W) W hW.size (hg.below hW) (fun V hV => hC V ((BX.of_below hW).trans hV)) (hB1.below hW) (hB2.below hW) ⟨hB1.lt, k1⟩ ⟨hB2.lt, k2⟩ h0
/-- The same, where the body must know that its outcomes' numbers fit. -/
abbrev OkOc := { x : Oc // x.ok }
def bare (l : List OkOc) : List Oc := l.map (·.1)
theorem log_seqO (n : Nat) (hn : 3 ≤ n) (nx : Nat → Prop) (b1 b2 g : Nat) (A : Option Addr) (c : Nat) (l : List Oc) (hok : ∀ x ∈ l, x.ok) (y : Int) (hl : l.length ≤ 1000) (w : World) (hg : Blk w g 58 [.slice A l.length c]) (hC : ∀ V, BX w.heap.size nx w V → Oc.kd.C V A l.length l)
    (hB1 : Blk w b1 27 [.pointer (some ⟨g, 0, none⟩)]) (hB2 : Blk w b2 5 [.int .u8 y]) (k1 : ¬ nx b1) (k2 : ¬ nx b2) :
    SeqStopsK Fence.wide n Try.prog 29 #[.pointer (some ⟨b1, 0, none⟩), .pointer (some ⟨b2, 0, none⟩)] (fun x : OkOc => #[x.1.val]) (BX w.heap.size nx) (fun ys => bare ys = ofWhy y l) (fun pre => bare pre <+: ofWhy y l) (ofWhy y l).length w :=
  fun lp J Jx W hW ha hx hY h0 => (all1_in n hn lp b1 b2 w.heap.size nx g A c l y hl (fun pre U => ∃ ys, bare ys = pre ∧ J ys U) (fun pre U => ∃ ys, bare ys = pre ∧ Jx ys U)
    (fun pre U V h hg => h.imp fun ys h => ⟨h.1, ha ys U V none h.2 hg (fun r e => by cases e)⟩)
    (fun pre x W hx ⟨ys, hys, hJ⟩ hlt => by
      have hb : ∀ ys', bare (ys' ++ [⟨x, hok x hx⟩]) = bare ys' ++ [x] := fun ys' => by simp [bare]
      have hlt' : ys.length < (ofWhy y l).length := by rw [← hys] at hlt; simpa [bare] using hlt
      refine (hY ys ⟨x, hok x hx⟩ W hJ hlt').mono ?_
      rintro e W' (⟨a, b, c⟩ | ⟨a, b⟩)
      · exact .inl ⟨a, ⟨_, by rw [hb, hys], b⟩, c⟩
      · exact .inr ⟨a, _, by rw [hb, hys], b⟩) W hW.size (hg.below hW) (fun V hV => hC V ((BX.of_below hW).trans hV)) (hB1.below hW) (hB2.below hW) ⟨hB1.lt, k1⟩ ⟨hB2.lt, k2⟩ ⟨[], rfl, h0⟩).mono (fun e W' h => ⟨h.1, h.2.imp (fun ⟨_, h1, zs, h2, h3⟩ => ⟨zs, h2.trans h1, h3⟩) (fun ⟨_, h1, zs, h2, h3⟩ => ⟨zs, (show bare zs <+: ofWhy y l by rw [h2]; exact h1), h3⟩)⟩)
def cntB (t y : Int) (l : List Oc) : Nat := (l.filter fun o => isB o t y).length
theorem cntB_snoc (t y : Int) (l : List Oc) (x : Oc) : cntB t y (l ++ [x]) = cntB t y l + if isB x t y then 1 else 0 := by
  unfold cntB
  rw [List.filter_append, List.length_append]
  by_cases hb : isB x t y <;> simp [List.filter, hb]
/-- A log's row is read as it lay, whatever else is done. -/
theorem log_reads {w : World} {base g n₀ : Nat} {nx : Nat → Prop} {l : List Oc} (h : LogAt w base g l) (hn : w.heap.size ≤ n₀) (hx : ∀ q, nx q → w.heap.size ≤ q) :
    ∃ A c, Blk w g 58 [.slice A l.length c] ∧ ∀ V, BX n₀ nx w V → Oc.kd.C V A l.length l := by
  obtain ⟨h0, v, h1, h2⟩ := h
  obtain ⟨A, c, rfl⟩ := Kd.R_slice h2
  refine ⟨A, c, h1, fun V hV => ?_⟩
  have hlt := Kd.R_lt h2
  exact (Kd.R_reads' (Kd.R_step (Kd.R_bound h2) (fun k hk hkl => hV.block k (by omega) (fun h => by have := hx k h; omega)))).2.2
theorem blk_own (q T : Nat) (l : List Value) : Own (fun (_ : Unit) W => Blk W q T l) := fun s X Y row hs hg hrow =>
  (hg.block q hs.lt (fun e' => by
    obtain ⟨o, ho, hc⟩ := hrow q e'.symm
    rw [show X.heap[q]? = _ from hs] at ho
    cases ho
    cases hc)).trans hs
set_option maxHeartbeats 8000000 in
set_option maxRecDepth 100000 in
theorem count_in (n : Nat) (hn : 5 ≤ n) (g base : Nat) (l : List Oc) (t y : Int) (w : World) (h : LogAt w base g l) (hl : l.length ≤ 1000) :
    CallsIn Fence.wide n Try.prog 9 #[.pointer (some ⟨g, 0, none⟩), .int .i64 t, .int .u8 y] w fun e w' => e = .returned (.int .i64 (cntB t y (ofWhy y l))) ∧ Below w.heap.size w w' := by
  have h1 : 1 ≤ n := by omega
  have HL := Aside0.mk h
  clear h
  refine callsIn_of_wp_marks Try.func9 rfl trivial ?_ rfl
  simp only [Try.ntmps9, List.size_toArray, List.length_cons, List.length_nil, Nat.reduceAdd, Nat.reduceSub, Array.replicate_succ, Array.replicate_zero, List.push_toArray, List.append_toArray, List.nil_append, List.cons_append]
  gi_wp2_with (fail)
  refine ⟨trivial, ?_⟩
  have e1 := Blk.new w 3 [.int .i64 t]
  have e2 := Blk.new (w.alloc (.cells #[.int .i64 t] 3)) 5 [.int .u8 y]
  have e3 := Blk.new ((w.alloc (.cells #[.int .i64 t] 3)).alloc (.cells #[.int .u8 y] 5)) 3 [.int .i64 0]
  simp only [World.size_alloc] at e2 e3
  have e1 : Blk (((w.alloc (.cells #[.int .i64 t] 3)).alloc (.cells #[.int .u8 y] 5)).alloc (.cells #[.int .i64 0] 3)) _ _ _ := (e1.alloc _).alloc _
  have e2 : Blk (((w.alloc (.cells #[.int .i64 t] 3)).alloc (.cells #[.int .u8 y] 5)).alloc (.cells #[.int .i64 0] 3)) _ _ _ := e2.alloc _
  have e3 : Blk (((w.alloc (.cells #[.int .i64 t] 3)).alloc (.cells #[.int .u8 y] 5)).alloc (.cells #[.int .i64 0] 3)) _ _ _ := e3
  have hb0 : Below w.heap.size w (((w.alloc (.cells #[.int .i64 t] 3)).alloc (.cells #[.int .u8 y] 5)).alloc (.cells #[.int .i64 0] 3)) := (((Below.refl _ w).alloc (Nat.le_refl _) _).alloc (by simp) _).alloc (by simp; omega) _
  generalize (((w.alloc (.cells #[.int .i64 t] 3)).alloc (.cells #[.int .u8 y] 5)).alloc (.cells #[.int .i64 0] 3)) = w1 at *
  have hlg : LogAt w1 base g l := HL.out.below hb0
  obtain ⟨q4, hq4⟩ : ∃ q, q = w.heap.size := ⟨_, rfl⟩
  obtain ⟨q5, hq5⟩ : ∃ q, q = w.heap.size + 1 := ⟨_, rfl⟩
  obtain ⟨q7, hq7⟩ : ∃ q, q = w.heap.size + 1 + 1 := ⟨_, rfl⟩
  rw [← hq4] at e1
  rw [← hq5] at e2
  rw [← hq7] at e3
  rw [← hq7, ← hq5, ← hq4]
  rw [← hq4] at hb0
  have n1 : q4 ≠ q7 := by omega
  have n2 : q5 ≠ q7 := by omega
  have y7 : q4 ≤ q7 := by omega
  have l1 := e1.lt
  have l2 := e2.lt
  have l3 := e3.lt
  obtain ⟨A, c, hgB, hCC⟩ : ∃ A c, Blk w1 g 58 [.slice A l.length c] ∧ ∀ V, (∀ b, b < q4 → V.heap[b]? = w1.heap[b]?) → Oc.kd.C V A l.length l := by
    obtain ⟨h0, v, h2, h3⟩ := HL.out
    obtain ⟨A, c, rfl⟩ := Kd.R_slice h3
    refine ⟨A, c, h2.below (by rw [hq4] at hb0; exact hb0), fun V hV => ?_⟩
    exact (Kd.R_reads' (Kd.R_step (w1 := V) (Kd.R_bound h3) (fun k hk hkl => (hV k (by omega)).trans (hb0.block k (by omega))))).2.2
  have HQ := Aside0.mk hq4
  have HGB := Aside0.mk hgB
  have HCC := Aside0.mk hCC
  have HB0 := Aside0.mk hb0
  have y0 : q4 ≤ w1.heap.size := by omega
  clear hq4 hq5 hq7 hgB hCC hb0 hlg HL
  refine (callsIn_wide.2 (all_ok _ y _)).mono ?_
  rintro e w6 ⟨b1, b2, rfl, hb, hB1, hB2, m1, m2⟩
  have e1 := e1.below hb
  have e2 := e2.below hb
  have e3 := e3.below hb
  have hB6 := HB0.out.trans (hb.mono y0)
  have hsz := hb.size
  have hg6 := HGB.out.below hb
  have hC6 : ∀ V, BX w6.heap.size (· = q7) w6 V → Oc.kd.C V A l.length l := fun V hV => HCC.out V (fun b hb' => (hV.block b (by omega) (by omega)).trans (hb.block b (by omega)))
  have HB6 := Aside0.mk hB6
  have y6 : q4 ≤ w6.heap.size := by omega
  have k1 : b1 ≠ q7 := by omega
  have k2 : b2 ≠ q7 := by omega
  clear hb hB6 HB0 HGB HCC
  gi_wp2_with (fail)
  have HGG := Aside0.mk hg6
  have HC6 := Aside0.mk hC6
  apply wpIn_rangeFunc_ownH rfl h1 (gf := 29) (lb := #[.pointer (some ⟨b1, 0, none⟩), .pointer (some ⟨b2, 0, none⟩)]) rfl trivial (enters_of Try.func29 (by kernel_rfl) rfl)
    (log_seq (n - 1) (by omega) (· = q7) b1 b2 g A c l y hl w6 hg6 hC6 hB1 hB2 k1 k2) bx_t (bx_b (Nat.le_refl _)) (Below.refl _ _) (fun _ => rfl)
    (fun pre W => Boxed W q7 3 (.int .i64 (cntB t y pre : Int)) ∧ BX w6.heap.size (· = q7) w6 W ∧ Below q4 w W)
    (fun _ _ _ => False)
    (Ax := fun x a' W => ∃ q, Blk W q 26 x.enc ∧ a' = { tmps := #[.pointer (some ⟨g, 0, none⟩), .int .i64 t, .int .u8 y, undef, .pointer (some ⟨q4, 0, none⟩), .pointer (some ⟨q5, 0, none⟩), .int .i64 0, .pointer (some ⟨q7, 0, none⟩), .pointer (some ⟨q, 0, none⟩), .pointer (some ⟨g, 0, none⟩), .int .u8 y, .func (.func 29) #[] #[.pointer (some ⟨b1, 0, none⟩), .pointer (some ⟨b2, 0, none⟩)], x.val, undef, undef, undef, undef, undef, undef, undef], defers := [] })
  case hI => exact OwnFrom.and (Own.from (boxed_own q7 3 (fun pre : List Oc => .int .i64 (cntB t y pre : Int))) _) (OwnFrom.and (ownFrom_bx (Nat.le_refl _) (Nat.le_refl _)) (ownFrom_below (by rw [HQ.out]; exact Nat.le_refl _) y6))
  case hIx => exact fun _ _ _ _ _ hs _ _ => hs
  case h0 => exact ⟨e3, BX.refl _ _ _, HB6.out⟩
  case hAx =>
    rintro x a' _ X Y row ⟨q, hq, rfl⟩ hgr hrow
    exact ⟨q, (Own.from (blk_own q 26 x.enc) w6.heap.size) () X Y row hq hgr hrow, rfl⟩
  case hassign =>
    intro lp pre x W K hI hK
    have HI := Aside0.mk hI
    clear hI
    have hbox : Blk (W.alloc (.cells #[.int .u64 x.tk, .int .i64 x.tier, .int .i64 x.co, .int .u8 x.why, .int .i64 x.at_, .int .i64 x.so] 26)) W.heap.size 26 x.enc := Blk.new W 26 x.enc
    have HBOX := Aside0.mk hbox
    have hKe : ∀ a', (∃ q, Blk (W.alloc (.cells #[.int .u64 x.tk, .int .i64 x.tier, .int .i64 x.co, .int .u8 x.why, .int .i64 x.at_, .int .i64 x.so] 26)) q 26 x.enc ∧ a' = { tmps := #[.pointer (some ⟨g, 0, none⟩), .int .i64 t, .int .u8 y, undef, .pointer (some ⟨q4, 0, none⟩), .pointer (some ⟨q5, 0, none⟩), .int .i64 0, .pointer (some ⟨q7, 0, none⟩), .pointer (some ⟨q, 0, none⟩), .pointer (some ⟨g, 0, none⟩), .int .u8 y, .func (.func 29) #[] #[.pointer (some ⟨b1, 0, none⟩), .pointer (some ⟨b2, 0, none⟩)], x.val, undef, undef, undef, undef, undef, undef, undef], defers := [] }) → K a' (W.alloc (.cells #[.int .u64 x.tk, .int .i64 x.tier, .int .i64 x.co, .int .u8 x.why, .int .i64 x.at_, .int .i64 x.so] 26)) := fun a' ha =>
      hK a' _ ((KeepsOthers.alloc _ _).from _) (BX.of_below ((Below.refl _ W).alloc (Nat.le_trans HI.out.2.1.size (Nat.le_refl _)) _)) ⟨HI.out.1.alloc _, HI.out.2.1.trans (BX.of_below ((Below.refl _ W).alloc HI.out.2.1.size _)), HI.out.2.2.alloc (Nat.le_trans y6 HI.out.2.1.size) _⟩ ha
    have HKE := Aside0.mk hKe
    clear hKe hbox hK
    unfold Oc.val
    gi_wp2
    exact HKE.out _ ⟨W.heap.size, HBOX.out, rfl⟩
  case hbody =>
    rintro lp pre x a' W hlp _ ⟨hbx, hbK, hB⟩ ⟨q, hq, rfl⟩ hlt
    have x0 := hq.cell 0 rfl
    have x1 := hq.cell 1 rfl
    have x2 := hq.cell 2 rfl
    have x3 := hq.cell 3 rfl
    have x4 := hq.cell 4 rfl
    have x5 := hq.cell 5 rfl
    have c4 := (e1.bx hbK ⟨e1.lt, n1⟩).cell 0 rfl
    have c5 := (e2.bx hbK ⟨e2.lt, n2⟩).cell 0 rfl
    have hcb : cntB t y pre ≤ 1000 := by
      have a1 : cntB t y pre ≤ pre.length := List.length_filter_le _ _
      have a2 : (ofWhy y l).length ≤ l.length := List.length_filter_le _ _
      omega
    have hcb' : (cntB t y pre : Int) ≤ 1000 := by omega
    have hcb0 : (0 : Int) ≤ (cntB t y pre : Int) := by omega
    have HW := Aside0.mk (And.intro hbx (And.intro hbK hB))
    have hs6 := hbK.size
    clear hbx hbK hB e1 e2 e3 hg6 hC6 hB1 hB2 hlt hq
    gi_wp2_with (fail)
    refine ⟨trivial, (fun h => by cases h), ?_⟩
    refine (CallsIn.inRound lp (callsIn_wide.2 (is_ok x t y _))).mono ?_
    rintro e w5 ⟨rfl, hb5⟩
    have hbx5 : Boxed w5 q7 3 (.int .i64 (cntB t y pre : Int)) := (hb5.block q7 HW.out.1.lt).trans HW.out.1
    have hbK5 : BX w6.heap.size (· = q7) w6 w5 := HW.out.2.1.trans ⟨hb5.size, fun b h1 _ => hb5.block b (by omega)⟩
    have hk5 : BX w6.heap.size (· = q7) W w5 := ⟨hb5.size, fun b h1 _ => hb5.block b (by omega)⟩
    have hB5 : Below q4 w w5 := HW.out.2.2.trans (hb5.mono (by omega))
    have hkf : KeepsFrom w6.heap.size W w5 := (KeepsOthers.of_grownBy (grown_of_below hb5 none) (fun j o h => by cases h)).from _
    have c7 := hbx5.cell
    have z7 := hbx5.frozen
    have H5 := Aside0.mk (And.intro hbx5 (And.intro hbK5 (And.intro hB5 (And.intro hkf hk5))))
    have hsn := cntB_snoc t y pre x
    clear hbx5 hbK5 hB5 hkf hk5 hb5 x0 x1 x2 x3 x4 x5 c4 c5
    cases hb : isB x t y with
    | false =>
      rw [hb, if_neg (by simp), Nat.add_zero] at hsn
      have HSN := Aside0.mk hsn
      clear hsn hb
      gi_wp2_with (fail)
      exact ⟨H5.out.2.2.2.1, H5.out.2.2.2.2, by rw [HSN.out]; exact H5.out.1, H5.out.2.1, H5.out.2.2.1⟩
    | true =>
      rw [hb, if_pos rfl] at hsn
      have HSN := Aside0.mk hsn
      clear hsn hb
      gi_wp2_with (fail)
      exact ⟨H5.out.2.2.2.1.trans ((KeepsOthers.setCell _ _ _).from _), bx_set (q := q7) (nx := (· = q7)) rfl H5.out.2.2.2.2 _, by rw [HSN.out]; push_cast; exact H5.out.1.set _, bx_set (q := q7) (nx := (· = q7)) rfl H5.out.2.1 _, H5.out.2.2.1.setCell (p := ⟨q7, 0, none⟩) y7 _⟩
  case hdone =>
    rintro D ys W hD rfl ⟨hbx, hbK, hB⟩ hK
    have c7 := hbx.cell
    have HW := Aside0.mk (And.intro hbx (And.intro hbK hB))
    have HK := Aside0.mk hK
    have HDD := Aside0.mk hD
    clear hbx hbK hB hK hD e1 e2 e3 hg6 hC6 hB1 hB2
    gi_wp2_with (fail)
    refine ⟨by simp, .inl ⟨_, _, rfl, run_takeDeferred HK.out, ?_⟩⟩
    refine ⟨_, results_tmp rfl _ _ _, rfl, ?_⟩
    have := HW.out.2.2.trans (belowK_b (n₀ := q4) (w := w6) y6 W D _ (.deferred none) HDD.out HK.out rfl rfl)
    rw [HQ.out] at this
    exact this
  case hstop =>
    rintro D c pre W _ _ h _
    exact h.elim
theorem count_ok (g base : Nat) (l : List Oc) (t y : Int) (w : World) (h : LogAt w base g l) (hl : l.length ≤ 1000) :
    Calls Try.prog 9 #[.pointer (some ⟨g, 0, none⟩), .int .i64 t, .int .u8 y] w fun e w' => e = .returned (.int .i64 (cntB t y (ofWhy y l))) ∧ Below w.heap.size w w' :=
  callsIn_wide.1 (count_in 5 (by omega) g base l t y w h hl)
end Go.Proofs.Ytfnnoecdpolbfaa.Z

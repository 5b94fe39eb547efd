/- TallyApart: copies, what is told, who stops, a nil log. -/
import Derived.Test.YtfnnoecdpolbfaaTlnil
import Derived.ControlIn
namespace Go.Proofs.Ytfnnoecdpolbfaa.Z
open Go.RowKit Go.Shelf Go.Proofs.YtfnnoecdpolbfaaW.PrintWords Go.Proofs.YtfnnoecdpolbfaaW.PrintLast Go.Proofs.YtfnnoecdpolbfaaW.PrintMore
attribute [local go_sem] Oper.semAt_some max2_int min2_int max_two min_two max_three min_three max_four min_four
set_option linter.unusedVariables false
set_option linter.unusedSimpArgs false
structure Tl (wr V : World) (q12 D D2 : Nat) (M : Int) : Prop where
  low : Below q12 wr V
  box : Boxed V q12 3 (.int .i64 M)
  d1 : V.heap[D]? = some (.deferred (some []))
  d2 : V.heap[D2]? = some (.deferred (some []))
  le : q12 ≤ V.heap.size
theorem Tl.below {wr V V' : World} {q12 D D2 : Nat} {M : Int} (h : Tl wr V q12 D D2 M) (hb : Below V.heap.size V V') : Tl wr V' q12 D D2 M :=
  ⟨h.low.trans (hb.mono h.le), (hb.block q12 h.box.lt).trans h.box, (hb.block D (Array.getElem?_eq_some_iff.1 h.d1).1).trans h.d1, (hb.block D2 (Array.getElem?_eq_some_iff.1 h.d2).1).trans h.d2, Nat.le_trans h.le hb.size⟩
set_option maxHeartbeats 8000000 in
set_option maxRecDepth 100000 in
theorem apart_in (n : Nat) (hn : 7 ≤ n) (A : Option Addr) (cap : Nat) (l : List Oc) (o : Oc) (stop : Int) (w : World) (hC : Oc.kd.C w A l.length l) (hlc : l.length ≤ cap) (hS : 0 ≤ stop ∧ stop < 256) :
    CallsIn Fence.wide n Try.prog 5 #[.slice A l.length cap, o.val, .int .u8 stop] w fun e w' => e = .returned (.bool true) ∧ Below w.heap.size w w' := by
  have h1 : 1 ≤ n := by omega
  have HC := Aside0.mk hC
  clear hC
  refine callsIn_of_wp_marks Try.func5 rfl trivial ?_ rfl
  simp only [Try.ntmps5, List.size_toArray, List.length_cons, List.length_nil, Nat.reduceAdd, Nat.reduceSub, Array.replicate_succ, Array.replicate_zero, List.push_toArray, List.append_toArray, List.nil_append, List.cons_append]
  unfold Oc.val
  gi_wp2_with (fail)
  refine ⟨trivial, ?_⟩
  have e1 : Blk (w.alloc (.cells #[.int .u64 o.tk, .int .i64 o.tier, .int .i64 o.co, .int .u8 o.why, .int .i64 o.at_, .int .i64 o.so] 26)) w.heap.size 26 o.enc := Blk.new w 26 o.enc
  have e2 := Blk.new (w.alloc (.cells #[.int .u64 o.tk, .int .i64 o.tier, .int .i64 o.co, .int .u8 o.why, .int .i64 o.at_, .int .i64 o.so] 26)) 5 [.int .u8 stop]
  have e3 := Blk.new ((w.alloc (.cells #[.int .u64 o.tk, .int .i64 o.tier, .int .i64 o.co, .int .u8 o.why, .int .i64 o.at_, .int .i64 o.so] 26)).alloc (.cells #[.int .u8 stop] 5)) 4 [.bool false]
  simp only [World.size_alloc] at e2 e3
  have e1 : Blk (((w.alloc (.cells #[.int .u64 o.tk, .int .i64 o.tier, .int .i64 o.co, .int .u8 o.why, .int .i64 o.at_, .int .i64 o.so] 26)).alloc (.cells #[.int .u8 stop] 5)).alloc (.cells #[.bool false] 4)) _ _ _ := (e1.alloc _).alloc _
  have e2 : Blk (((w.alloc (.cells #[.int .u64 o.tk, .int .i64 o.tier, .int .i64 o.co, .int .u8 o.why, .int .i64 o.at_, .int .i64 o.so] 26)).alloc (.cells #[.int .u8 stop] 5)).alloc (.cells #[.bool false] 4)) _ _ _ := e2.alloc _
  have e3 : Blk (((w.alloc (.cells #[.int .u64 o.tk, .int .i64 o.tier, .int .i64 o.co, .int .u8 o.why, .int .i64 o.at_, .int .i64 o.so] 26)).alloc (.cells #[.int .u8 stop] 5)).alloc (.cells #[.bool false] 4)) _ _ _ := e3
  have hb0 : Below w.heap.size w (((w.alloc (.cells #[.int .u64 o.tk, .int .i64 o.tier, .int .i64 o.co, .int .u8 o.why, .int .i64 o.at_, .int .i64 o.so] 26)).alloc (.cells #[.int .u8 stop] 5)).alloc (.cells #[.bool false] 4)) := (((Below.refl _ w).alloc (Nat.le_refl _) _).alloc (by simp) _).alloc (by simp; omega) _
  generalize (((w.alloc (.cells #[.int .u64 o.tk, .int .i64 o.tier, .int .i64 o.co, .int .u8 o.why, .int .i64 o.at_, .int .i64 o.so] 26)).alloc (.cells #[.int .u8 stop] 5)).alloc (.cells #[.bool false] 4)) = w1 at *
  have hC1 := Kd.C_below HC.out hb0
  obtain ⟨q4, hq4⟩ : ∃ q, q = w.heap.size := ⟨_, rfl⟩
  obtain ⟨q5, hq5⟩ : ∃ q, q = w.heap.size + 1 := ⟨_, rfl⟩
  obtain ⟨q6, hq6⟩ : ∃ q, q = w.heap.size + 1 + 1 := ⟨_, rfl⟩
  rw [← hq4] at e1
  rw [← hq5] at e2
  rw [← hq6] at e3
  rw [← hq6, ← hq5, ← hq4]
  rw [← hq4] at hb0
  have y6 : q4 ≤ q6 := by omega
  have y1 : q4 ≤ w1.heap.size := by have := e3.lt; omega
  have HQ := Aside0.mk hq4
  have HC1 := Aside0.mk hC1
  have HE := Aside0.mk (And.intro e1 (And.intro e2 (And.intro e3 hb0)))
  clear hq4 hq5 hq6 hb0 HC hC1 e1 e2 e3
  refine (callsIn_wide.2 (tawake_ok _)).mono ?_
  rintro e w2 ⟨rfl, hb⟩
  have hle : q4 ≤ w2.heap.size := Nat.le_trans y1 hb.size
  have HE2 := Aside0.mk (And.intro (HE.out.1.below hb) (And.intro (HE.out.2.1.below hb) (And.intro (HE.out.2.2.1.below hb) (HE.out.2.2.2.trans (hb.mono y1)))))
  have HC2 := Aside0.mk (Kd.C_below HC1.out hb)
  clear hb HE HC1 y1
  gi_wp2_with (fail)
  refine ⟨trivial, ?_⟩
  obtain ⟨X, hX⟩ : ∃ X, X = l.take 60 := ⟨_, rfl⟩
  have hXl : X.length ≤ 60 := by rw [hX, List.length_take]; omega
  refine (callsIn_wide.2 (filled_ok A cap l X _ HC2.out hlc hX)).mono ?_
  rintro e w3 ⟨g, v, rfl, hL, hR, hb⟩
  obtain ⟨A2, c2, rfl⟩ := Kd.R_slice hR
  have hle3 : q4 ≤ w3.heap.size := Nat.le_trans hle hb.size
  have HE3 := Aside0.mk (And.intro (HE2.out.1.below hb) (And.intro (HE2.out.2.1.below hb) (And.intro (HE2.out.2.2.1.below hb) (HE2.out.2.2.2.trans (hb.mono hle)))))
  have HL3 := Aside0.mk (And.intro hL (Kd.R_reads' hR).2.2)
  clear hb HE2 HC2 hX hL hR hle
  gi_wp2_with (fail)
  refine ⟨trivial, ?_⟩
  refine (callsIn_wide.2 (copy_ok g _ X _ HL3.out.1 (by omega))).mono ?_
  rintro e w4 ⟨g2, rfl, hL2, hb⟩
  obtain ⟨n4, hn4⟩ : ∃ n4, n4 = w3.heap.size := ⟨_, rfl⟩
  rw [← hn4] at hL2
  have hle4 : q4 ≤ w4.heap.size := Nat.le_trans hle3 hb.size
  have hn44 : n4 ≤ w4.heap.size := by rw [hn4]; exact hb.size
  have hb4 : Below n4 w3 w4 := by rw [hn4]; exact hb
  have HE4 := Aside0.mk (And.intro (HE3.out.1.below hb) (And.intro (HE3.out.2.1.below hb) (And.intro (HE3.out.2.2.1.below hb) (HE3.out.2.2.2.trans (hb.mono hle3)))))
  have HN4 := Aside0.mk hn4
  have HL4 := Aside0.mk (And.intro hL2 hb4)
  have d0 := HE4.out.1.cell 0 rfl
  have d1 := HE4.out.1.cell 1 rfl
  have d2 := HE4.out.1.cell 2 rfl
  have d3 := HE4.out.1.cell 3 rfl
  have d4 := HE4.out.1.cell 4 rfl
  have d5 := HE4.out.1.cell 5 rfl
  clear hb hL2 hb4 hn4
  gi_wp2_with (fail)
  refine ⟨trivial, ?_⟩
  refine (callsIn_wide.2 (add_ok g2 n4 X o w3 _ HL4.out.1 HL4.out.2 hn44 (by omega))).mono ?_
  rintro e w5 ⟨rfl, hL2, hb⟩
  have hbb : Below w3.heap.size w3 w5 := by rw [← HN4.out]; exact hb
  have hle5 : q4 ≤ w5.heap.size := Nat.le_trans hle3 hbb.size
  have HE5 := Aside0.mk (And.intro (HE3.out.1.below hbb) (And.intro (HE3.out.2.1.below hbb) (And.intro (HE3.out.2.2.1.below hbb) (HE3.out.2.2.2.trans (hbb.mono hle3)))))
  have HL5 := Aside0.mk (And.intro (HL3.out.1.below hbb) (And.intro (Kd.C_below HL3.out.2 hbb) hL2))
  clear hb hbb hL2 HE3 HE4 HL3 HL4 d0 d1 d2 d3 d4 d5
  gi_wp2_with (fail)
  refine ⟨trivial, ?_⟩
  refine (callsIn_wide.2 (since_ok g _ X X 0 _ HL5.out.1 (by omega) (by rw [show (min (max (0 : Int) 0) X.length).toNat = 0 by omega]; rfl))).mono ?_
  rintro e w6 ⟨v6, rfl, hR6, hb⟩
  obtain ⟨A6, c6, rfl⟩ := Kd.R_slice hR6
  have HR6 := Aside0.mk (And.intro hR6 hb)
  clear hR6 hb
  gi_wp2_with (fail)
  gi_loopw [32] (fun i wv => ∃ (j : Nat) (Y : List Oc), j ≤ X.length ∧ Y.length = X.length ∧ i = .int .i64 j ∧ Oc.kd.R 26 wv w5.heap.size (fun _ => True) (.slice A6 X.length c6) Y ∧ Below w5.heap.size w5 wv) (fun i _ => X.length - (intOf i).toNat)
  case atStart => exact ⟨0, X, Nat.zero_le _, rfl, rfl, HR6.out.1, HR6.out.2⟩
  case round =>
    obtain ⟨j, Y, hj, hYl, rfl, hR, hb⟩ := hrel
    have HRB := Aside0.mk (And.intro hR hb)
    by_cases hlt : j < X.length
    · have hlt' : (j : Int) < (X.length : Int) := by omega
      obtain ⟨g6, cap6, hv, hgb, -⟩ := Kd.R_form hR (by omega)
      obtain ⟨rfl, rfl⟩ : A6 = some ⟨g6, 0, none⟩ ∧ c6 = cap6 := by injection hv with a b c; exact ⟨a, c⟩
      obtain ⟨x, hx⟩ : ∃ x, Y[j]? = some x := ⟨_, List.getElem?_eq_getElem (by omega)⟩
      have x0 := R_fk_cell hR hx 0 _ rfl
      have z0 := R_fk_frozen hR (j * 6)
      rw [Nat.add_zero] at x0
      have hst := fun tk : Int => R_fset (j := 0) (v := .int .u64 tk) (x' := { x with tk := tk }) hR hx (by omega) rfl
      have HST := Aside0.mk (And.intro hst hYl)
      clear hR hb hv hst hYl hx
      gi_wp2_with (fail)
      refine ⟨⟨j + 1, Y.set j { x with tk := IntKind.u64.wrap (x.tk + 1) }, by omega, by rw [List.length_set]; exact HST.out.2, by go_num, (HST.out.1 _).1, HRB.out.2.setCell (p := ⟨g6, j * 6, none⟩) hgb _⟩, by simp [intOf]; omega⟩
    · have hlt' : ¬ (j : Int) < (X.length : Int) := by omega
      have hle6 : q4 ≤ wr.heap.size := Nat.le_trans hle5 hb.size
      have f1 := HE5.out.1.below hb
      have f2 := HE5.out.2.1.below hb
      have f3 := HE5.out.2.2.1.below hb
      have hB := HE5.out.2.2.2.trans (hb.mono hle5)
      have hL := HL5.out.1.below hb
      have hX := Kd.C_below HL5.out.2.1 hb
      have hL2 := HL5.out.2.2.below hb
      clear hR hb HE5 HL5 HR6 hYl
      have f12 := Blk.new wr 3 [.int .i64 0]
      have HAL := Aside0.mk (below_alloc (Below.refl _ wr) (.cells #[.int .i64 0] 3))
      have HF := Aside0.mk (And.intro f1 (And.intro f2 (And.intro f3 (And.intro hB (And.intro hL (And.intro hX hL2))))))
      clear f1 f2 f3 hB hL hX hL2
      gi_wp2_with (fail)
      refine ⟨trivial, ?_⟩
      obtain ⟨q12, hq12⟩ : ∃ q, q = wr.heap.size := ⟨_, rfl⟩
      rw [← hq12] at f12 hle6 ⊢
      have HQ12 := Aside0.mk hq12
      have hs7 : q12 + 1 = (wr.alloc (.cells #[.int .i64 0] 3)).heap.size := by rw [World.size_alloc]; omega
      have f12 : Blk (wr.alloc (.cells #[.int .i64 0] 3)) q12 3 [.int .i64 0] := f12
      clear hq12
      generalize (wr.alloc (.cells #[.int .i64 0] 3)) = w7 at *
      obtain ⟨AL, cL, hgB, hCC⟩ : ∃ A c, Blk w7 g 58 [.slice A X.length c] ∧ ∀ V, (∀ b, b < q12 → V.heap[b]? = w7.heap[b]?) → Oc.kd.C V A X.length X := by
        obtain ⟨h0, v, h2, h3⟩ := HF.out.2.2.2.2.1
        obtain ⟨A, c, rfl⟩ := Kd.R_slice h3
        refine ⟨A, c, h2.below HAL.out, fun V hV => ?_⟩
        exact (Kd.R_reads' (Kd.R_step (w1 := V) (Kd.R_bound h3) (fun k hk hkl => (hV k (by rw [HQ12.out]; exact hkl)).trans (HAL.out.block k hkl)))).2.2
      have HGB := Aside0.mk hgB
      have HCC := Aside0.mk hCC
      clear hgB hCC
      refine (callsIn_wide.2 (all_ok _ 0 _)).mono ?_
      rintro e w8 ⟨b1, b2, rfl, hb, hB1, hB2, m1, m2⟩
      have f12 := f12.below hb
      have hsz := hb.size
      have hg8 := HGB.out.below hb
      have hC8 : ∀ V, BX w8.heap.size (· = q12) w8 V → Oc.kd.C V AL X.length X := fun V hV => HCC.out V (fun b hb' => (hV.block b (by omega) (by omega)).trans (hb.block b (by omega)))
      have hB8 : Below q12 wr w8 := by
        rw [HQ12.out]; exact HAL.out.trans (hb.mono (by rw [← HQ12.out]; omega))
      have k1 : b1 ≠ q12 := by omega
      have k2 : b2 ≠ q12 := by omega
      have hle8 : q12 ≤ w8.heap.size := by omega
      have HB8 := Aside0.mk hB8
      obtain ⟨S, hS'⟩ : ∃ S : Nat, stop % 20 = (S : Int) := ⟨(stop % 20).toNat, by omega⟩
      have hS20 : S < 20 := by omega
      have HSS := Aside0.mk hS'
      clear hb hB8 HGB HCC hS'
      gi_wp2_with (fail)
      have hlw : (ofWhy 0 X).length = X.length := by
        unfold ofWhy
        rw [List.filter_eq_self.2]
        intro x hx
        simp [isB]
      have HLW := Aside0.mk hlw
      clear hlw
      apply wpIn_rangeFunc_ownH rfl h1 (gf := 29) (lb := #[.pointer (some ⟨b1, 0, none⟩), .pointer (some ⟨b2, 0, none⟩)]) rfl trivial (enters_of Try.func29 (by kernel_rfl) rfl)
        (log_seq (n - 1) (by omega) (· = q12) b1 b2 g AL cL X 0 (by omega) w8 hg8 hC8 hB1 hB2 k1 k2) bx_t (bx_b (Nat.le_refl _)) (Below.refl _ _) (fun _ => rfl)
        (fun pre W => (pre.length ≤ S ∧ Boxed W q12 3 (.int .i64 (pre.length : Int))) ∧ BX w8.heap.size (· = q12) w8 W ∧ Below q12 wr W)
        (fun c pre W => c = .exit 2 ∧ (pre.length = S + 1 ∧ Boxed W q12 3 (.int .i64 (pre.length : Int))) ∧ BX w8.heap.size (· = q12) w8 W ∧ Below q12 wr W)
        (Ax := fun x a' W => a' = { tmps := #[.slice A l.length cap, .agg #[.int .u64 o.tk, .int .i64 o.tier, .int .i64 o.co, .int .u8 o.why, .int .i64 o.at_, .int .i64 o.so], .int .u8 stop, undef, .pointer (some ⟨q4, 0, none⟩), .pointer (some ⟨q5, 0, none⟩), .pointer (some ⟨q6, 0, none⟩), .pointer (some ⟨g, 0, none⟩), .slice A2 X.length c2, .pointer (some ⟨g2, 0, none⟩), .slice A6 X.length c6, u11, .pointer (some ⟨q12, 0, none⟩), undef, undef, undef, .bool true, .bool false, .tuple #[.pointer (some ⟨g, 0, none⟩), .slice A2 X.length c2], .slice A l.length cap, .tuple #[.pointer (some ⟨g, 0, none⟩), .slice A2 X.length c2], .pointer (some ⟨g, 0, none⟩), .slice A2 X.length c2, .pointer (some ⟨g, 0, none⟩), .pointer (some ⟨g2, 0, none⟩), .pointer (some ⟨g2, 0, none⟩), .agg #[.int .u64 o.tk, .int .i64 o.tier, .int .i64 o.co, .int .u8 o.why, .int .i64 o.at_, .int .i64 o.so], .tuple #[], .pointer (some ⟨g, 0, none⟩), .slice A6 X.length c6, .slice A6 X.length c6, .int .i64 X.length, .int .i64 j, .bool false, u34, u35, u36, u37, u38, u39, u40, u41, u42, u43, .pointer (some ⟨g, 0, none⟩), .func (.func 29) #[] #[.pointer (some ⟨b1, 0, none⟩), .pointer (some ⟨b2, 0, none⟩)], x.val, undef, undef, undef, undef, undef, undef, undef, undef, undef, undef, undef, undef, undef, undef, undef, undef, undef, undef, undef, undef, undef, undef, undef, undef, undef, undef, undef, undef, undef, undef, undef, undef, undef, undef, undef, undef, undef, undef, undef, undef, undef, undef, undef, undef, undef, undef, undef, undef, undef, undef, undef, undef, undef, undef, undef, undef, undef, undef, undef, undef, undef, undef, undef, undef, undef, undef, undef, undef, undef, undef, undef, undef, undef, undef], defers := [] })
      case hI => exact OwnFrom.and (OwnFrom.and (ownFrom_pure _ (fun pre : List Oc => pre.length ≤ S)) (Own.from (boxed_own q12 3 (fun pre : List Oc => .int .i64 (pre.length : Int))) _)) (OwnFrom.and (ownFrom_bx (Nat.le_refl _) (Nat.le_refl _)) (ownFrom_below (by rw [HQ12.out]; exact Nat.le_refl _) hle8))
      case hIx =>
        rintro c s Z V row ⟨h, ⟨h2, h3⟩, h4, h5⟩ hg hr
        exact ⟨h, ⟨h2, (Own.from (boxed_own q12 3 (fun pre : List Oc => .int .i64 (pre.length : Int))) _) s Z V row h3 hg hr⟩, (ownFrom_bx (Nat.le_refl _) (Nat.le_refl _)) s Z V row h4 hg hr, (ownFrom_below (by rw [HQ12.out]; exact Nat.le_refl _) hle8) s Z V row h5 hg hr⟩
      case h0 => exact ⟨⟨Nat.zero_le _, f12⟩, BX.refl _ _ _, HB8.out⟩
      case hAx =>
        rintro x a' _ Z V row h hgr hrow
        exact h
      case hassign =>
        intro lp pre x W K hI hK
        have HKE := Aside0.mk (fun a' => hK a' W ((KeepsOthers.refl _).from _) (BX.refl _ _ _) hI)
        clear hI hK
        gi_wp2
        exact HKE.out _ rfl
      case hbody =>
        rintro lp pre x a' W hlp _ ⟨⟨hp, hbx⟩, hbK, hB⟩ rfl hlt2
        have c12 := hbx.cell
        have z12 := hbx.frozen
        have c5 := (HF.out.2.1.below (by rw [← HQ12.out]; exact hB)).cell 0 rfl
        have hne : q5 ≠ q12 := by have := HF.out.2.1.lt; rw [HQ12.out]; omega
        have hSS := HSS.out
        have HW := Aside0.mk (And.intro hbx (And.intro hbK hB))
        have hlen : (pre ++ [x]).length = pre.length + 1 := by simp
        have done_ : KeepsFrom w8.heap.size W (W.setCell ⟨q12, 0, none⟩ (.int .i64 ((pre.length : Int) + 1))) ∧ Boxed (W.setCell ⟨q12, 0, none⟩ (.int .i64 ((pre.length : Int) + 1))) q12 3 (.int .i64 ((pre ++ [x]).length : Int)) ∧ BX w8.heap.size (· = q12) w8 (W.setCell ⟨q12, 0, none⟩ (.int .i64 ((pre.length : Int) + 1))) ∧ Below q12 wr (W.setCell ⟨q12, 0, none⟩ (.int .i64 ((pre.length : Int) + 1))) ∧ BX w8.heap.size (· = q12) W (W.setCell ⟨q12, 0, none⟩ (.int .i64 ((pre.length : Int) + 1))) :=
          ⟨(KeepsOthers.setCell _ _ _).from _, by rw [hlen]; push_cast; exact hbx.set _, bx_set (q := q12) (nx := (· = q12)) rfl hbK _, hB.setCell (p := ⟨q12, 0, none⟩) (Nat.le_refl _) _, bx_set (q := q12) (nx := (· = q12)) rfl (BX.refl _ _ _) _⟩
        have DN := Aside0.mk done_
        have HLEN := Aside0.mk hlen
        clear done_ hlen hbx hbK hB hlt2 hg8 hC8 hB1 hB2
        have hw1 : stop.tmod 20 = (S : Int) := by rw [Int.tmod_eq_emod_of_nonneg hS.1, hSS]
        clear hSS
        by_cases hm : (S : Int) < (pre.length : Int) + 1
        · gi_wp2_with (fail)
          exact ⟨DN.out.1, rfl, ⟨by rw [HLEN.out]; omega, DN.out.2.1⟩, DN.out.2.2.1, DN.out.2.2.2.1⟩
        · gi_wp2_with (fail)
          exact ⟨DN.out.1, DN.out.2.2.2.2, ⟨by rw [HLEN.out]; omega, DN.out.2.1⟩, DN.out.2.2.1, DN.out.2.2.2.1⟩
      case hdone =>
        rintro D ys W hD rfl ⟨⟨hp, hbx⟩, hbK, hB⟩ hK
        rw [HLW.out] at hp hbx
        obtain ⟨M, hM⟩ : ∃ M : Int, M = (X.length : Int) := ⟨_, rfl⟩
        rw [← hM] at hbx
        have hMM : M = min (X.length : Int) ((S : Int) + 1) := by rw [hM]; omega
        have hM2 : 0 ≤ M ∧ M ≤ 60 := by omega
        clear hM hp hbK
        have HD := Aside0.mk (And.intro hB (And.intro hbx (And.intro hK hD)))
        have HDQ := Aside0.mk (Nat.le_trans hle8 hD)
        have hq4 := HF.out.1.below (by rw [← HQ12.out]; exact hB)
        have d0 := hq4.cell 0 rfl
        have d1 := hq4.cell 1 rfl
        have d2 := hq4.cell 2 rfl
        have d3 := hq4.cell 3 rfl
        have d4 := hq4.cell 4 rfl
        have d5 := hq4.cell 5 rfl
        have HMM := Aside0.mk hMM
        clear hB hbx hK hD hq4 hg8 hC8 hB1 hB2 f12 hMM
        gi_wp2_with (fail)
        refine ⟨trivial, ?_⟩
        refine (callsIn_wide.2 (add_none o _)).mono ?_
        rintro e W2 ⟨rfl, hb⟩
        have hDl : D < W.heap.size := (Array.getElem?_eq_some_iff.1 HD.out.2.2.1).1
        have hWs : q12 ≤ W.heap.size := by have := HD.out.2.1.lt; omega
        have HD2 := Aside0.mk (And.intro (HD.out.1.trans (hb.mono hWs)) (And.intro ((hb.block q12 HD.out.2.1.lt).trans HD.out.2.1 : Boxed W2 q12 3 _) (And.intro ((hb.block D hDl).trans HD.out.2.2.1) (Nat.lt_of_lt_of_le hDl hb.size))))
        have hWs2 : q12 ≤ W2.heap.size := Nat.le_trans hWs hb.size
        clear hb HD d0 d1 d2 d3 d4 d5 hDl hWs
        gi_wp2_with (fail)
        refine ⟨trivial, ?_⟩
        refine (callsIn_wide.2 (all_ok none 0 _)).mono ?_
        rintro e W3 ⟨p1, p2, rfl, hb, hP1, hP2, -, -⟩
        have hbx2 : Boxed W2 q12 3 (.int .i64 M) := HD2.out.2.1
        have HD3 := Aside0.mk (And.intro (HD2.out.1.trans (hb.mono hWs2)) (And.intro ((hb.block q12 hbx2.lt).trans hbx2 : Boxed W3 q12 3 _) (And.intro ((hb.block D HD2.out.2.2.2).trans HD2.out.2.2.1) (Nat.lt_of_lt_of_le HD2.out.2.2.2 hb.size))))
        have hWs3 : q12 ≤ W3.heap.size := Nat.le_trans hWs2 hb.size
        clear hb HD2 hWs2 hbx2
        gi_wp2_with (fail)
        apply wpIn_rangeFunc_ownH (α := Empty) rfl h1 (gf := 29) (lb := #[.pointer (some ⟨p1, 0, none⟩), .pointer (some ⟨p2, 0, none⟩)]) rfl trivial (enters_of Try.func29 (by kernel_rfl) rfl)
          (seq_nil (n - 1) (by omega) p1 p2 0 (BX W3.heap.size (fun _ => False)) W3 hP1) bx_t (bx_b (Nat.le_refl _)) (Below.refl _ _) (fun x => x.elim)
          (fun pre V => Below q12 wr V ∧ Boxed V q12 3 (.int .i64 M) ∧ V.heap[D]? = some (.deferred (some []))) (fun _ _ _ => False) (Ax := fun _ _ _ => True)
        case hI => exact OwnFrom.and (ownFrom_below (by rw [HQ12.out]; exact Nat.le_refl _) hWs3) (OwnFrom.and (Own.from (boxed_own q12 3 (fun pre : List Empty => .int .i64 M)) _) (fun s Z V row hs hg hr => (hg.block D (Array.getElem?_eq_some_iff.1 hs).1 (fun e => by have := (hr D e.symm).1; have := HD3.out.2.2.2; omega)).trans hs))
        case hIx => exact fun _ _ _ _ _ hs _ _ => hs
        case h0 => exact ⟨HD3.out.1, HD3.out.2.1, HD3.out.2.2.1⟩
        case hAx => exact fun x => x.elim
        case hassign => exact fun _ _ x => x.elim
        case hbody => exact fun _ _ x => x.elim
        case hstop =>
          rintro D c pre W _ _ h _
          exact h.elim
        case hdone =>
          rintro D2 ys V hD2 rfl ⟨hB, hbx, hK⟩ hK2
          have hDl : D < V.heap.size := (Array.getElem?_eq_some_iff.1 hK).1
          have hDl2 : D2 < V.heap.size := (Array.getElem?_eq_some_iff.1 hK2).1
          have hDD : D ≠ D2 := by have := HD3.out.2.2.2; omega
          have hV0 : q12 ≤ V.heap.size := by have := hbx.lt; omega
          have hV3 : q12 ≤ D2 := by omega
          have hV4 : q12 ≤ D := HDQ.out
          have HV := Aside0.mk (Tl.mk hB hbx hK hK2 hV0)
          have hmin : (if (S : Int) + 1 < (X.length : Int) then (S : Int) + 1 else (X.length : Int)) = M := by
            rw [HMM.out]; split <;> omega
          have HMIN := Aside0.mk hmin
          have hw2 : IntKind.i64.wrap ((S : Int) + 1) = (S : Int) + 1 := by
            exact IntWalk.i64_in _ (by omega)
          have HW2 := Aside0.mk hw2
          clear hw2
          clear hB hbx hK hK2 HD3 hP1 hP2 hmin
          gi_wp2_with (fail)
          refine ⟨trivial, ?_⟩
          refine (callsIn_wide.2 (longest_nil (-1) _)).mono ?_
          rintro e V1 ⟨rfl, hb⟩
          have HV1 := Aside0.mk (HV.out.below hb)
          clear hb HV
          gi_wp2_with (fail)
          refine ⟨trivial, ?_⟩
          refine (callsIn_wide.2 (len_ok g _ X _ (HF.out.2.2.2.2.1.below (by rw [← HQ12.out]; exact HV1.out.low)))).mono ?_
          rintro e V2 ⟨rfl, rfl⟩
          gi_wp2_with (fail)
          refine ⟨trivial, ?_⟩
          have hlc := len_ok g2 _ (X ++ [o]) _ (HF.out.2.2.2.2.2.2.below (w1 := V1) (by rw [← HQ12.out]; exact HV1.out.low))
          rw [show (((X ++ [o]).length : Nat) : Int) = (X.length : Int) + 1 by rw [List.length_append]; rfl] at hlc
          refine (callsIn_wide.2 hlc).mono ?_
          clear hlc
          rintro e V3 ⟨rfl, rfl⟩
          gi_wp2_with (fail)
          refine ⟨trivial, ?_⟩
          refine (callsIn_wide.2 (since_ok g _ X X (-1) _ (HF.out.2.2.2.2.1.below (by rw [← HQ12.out]; exact HV1.out.low)) (by omega) (by rw [show (min (max (-1 : Int) 0) X.length).toNat = 0 by omega]; rfl))).mono ?_
          rintro e V4 ⟨v4, rfl, hR4, hb⟩
          obtain ⟨A4, c4, rfl⟩ := Kd.R_slice hR4
          have HC4 := Aside0.mk (Kd.R_reads' hR4).2.2
          have HV4 := Aside0.mk (HV1.out.below hb)
          clear hR4 hb HV1
          gi_wp2_with (fail)
          refine ⟨trivial, ?_⟩
          refine (callsIn_wide.2 (own_ok A4 c4 X _ HC4.out (by omega))).mono ?_
          rintro e V5 ⟨v5, rfl, hR5, hb⟩
          obtain ⟨A5, c5, rfl⟩ := Kd.R_slice hR5
          have HC5 := Aside0.mk (Kd.R_reads' hR5).2.2
          have HV5 := Aside0.mk (HV4.out.below hb)
          clear hR5 hb HV4 HC4
          gi_wp2_with (fail)
          refine ⟨trivial, ?_⟩
          refine (callsIn_wide.2 (same_ok _ _ _ _ X _ HC5.out (Kd.C_below HF.out.2.2.2.2.2.1 (by rw [← HQ12.out]; exact HV5.out.low)) (by omega))).mono ?_
          rintro e V6 ⟨rfl, hb⟩
          have HV6 := Aside0.mk (HV5.out.below hb)
          clear hb HV5 HC5
          have c12 := HV6.out.box.cell
          have c5' := (HF.out.2.1.below (by rw [← HQ12.out]; exact HV6.out.low)).cell 0 rfl
          have hw1 : stop.tmod 20 = (S : Int) := by rw [Int.tmod_eq_emod_of_nonneg hS.1, HSS.out]
          have hmin := HMIN.out
          have hw2 := HW2.out
          gi_wp2_with (fail)
          refine ⟨trivial, ?_⟩
          refine (callsIn_wide.2 (len_nil _)).mono ?_
          rintro e V7 ⟨rfl, rfl⟩
          clear c12 c5' hw1 hmin hw2
          gi_wp2_with (fail)
          refine ⟨trivial, ?_⟩
          refine (callsIn_wide.2 (count_nil (-1) 0 _)).mono ?_
          rintro e V8 ⟨rfl, hb⟩
          have HV8 := Aside0.mk (HV6.out.below hb)
          clear hb HV6
          gi_wp2_with (fail)
          refine ⟨trivial, ?_⟩
          refine (callsIn_wide.2 (since_nil _)).mono ?_
          rintro e V9 ⟨rfl, rfl⟩
          gi_wp2_with (fail)
          refine ⟨trivial, ?_⟩
          refine (callsIn_wide.2 (spread_nil (-1) _)).mono ?_
          rintro e V10 ⟨rfl, hb⟩
          have HV10 := Aside0.mk (HV8.out.below hb)
          clear hb HV8
          gi_wp2_with (fail)
          refine ⟨trivial, ?_⟩
          refine (callsIn_wide.2 (copy_none _)).mono ?_
          rintro e V11 ⟨rfl, rfl⟩
          have k6 := HF.out.2.2.1.below (by rw [← HQ12.out]; exact HV10.out.low)
          have c6' := k6.cell 0 rfl
          have z6 := k6.frozen 0
          have HK6 := Aside0.mk k6
          clear k6
          gi_wp2_with (fail)
          have hd1 : (V10.setCell ⟨q6, 0, none⟩ (.bool true)).heap[D]? = some (.deferred (some [])) := (KeepsOthers.setCell V10 ⟨q6, 0, none⟩ (.bool true)).same D _ HV10.out.d1 rfl
          have hd2 : (V10.setCell ⟨q6, 0, none⟩ (.bool true)).heap[D2]? = some (.deferred (some [])) := (KeepsOthers.setCell V10 ⟨q6, 0, none⟩ (.bool true)).same D2 _ HV10.out.d2 rfl
          refine ⟨by simp, .inl ⟨_, _, rfl, run_takeDeferred hd2, ?_⟩⟩
          have hd1' : ((V10.setCell ⟨q6, 0, none⟩ (.bool true)).putObj D2 (.deferred none)).heap[D]? = some (.deferred (some [])) := (World.putObj_heap_other hDD).trans hd1
          refine ⟨by simp, .inl ⟨_, _, rfl, run_takeDeferred hd1', ?_⟩⟩
          have k6' := HK6.out.put 0 (.bool true) rfl
          have hc6 := cell_kept (k6'.cell 0 rfl) (grownBy_putObj' _ D2 (.deferred none)) (fun r e => by cases e; exact ⟨_, hd2, rfl⟩)
          have hc6' := cell_kept hc6 (grownBy_putObj' _ D (.deferred none)) (fun r e => by cases e; exact ⟨_, hd1', rfl⟩)
          refine ⟨.bool true, ?_, rfl, ?_⟩
          · simp [results, Try.f5, go_sem, hc6']
          · have hlow := HF.out.2.2.2.1.trans (HV10.out.low.mono hle6)
            have hb := hlow.setCell (p := ⟨q6, 0, none⟩) y6 (.bool true)
            have := (hb.trans (belowK_b (n₀ := q4) (w := wr) (by rw [← HQ12.out]; exact hle6) _ D2 _ (.deferred none) (by rw [← HQ12.out]; omega) hd2 rfl rfl)).trans (belowK_b (n₀ := q4) (w := wr) (by rw [← HQ12.out]; exact hle6) _ D _ (.deferred none) (by rw [← HQ12.out]; omega) hd1' rfl rfl)
            rw [HQ.out] at this
            exact this
      case hstop =>
        rintro D c pre W hD hpre ⟨rfl, ⟨hp, hbx⟩, hbK, hB⟩ hK
        have hple : pre.length ≤ X.length := by rw [← HLW.out]; exact hpre.length_le
        obtain ⟨M, hM⟩ : ∃ M : Int, M = (pre.length : Int) := ⟨_, rfl⟩
        rw [← hM] at hbx
        have hMM : M = min (X.length : Int) ((S : Int) + 1) := by rw [hM]; omega
        have hM2 : 0 ≤ M ∧ M ≤ 60 := by omega
        clear hM hp hbK hpre hple
        have HD := Aside0.mk (And.intro hB (And.intro hbx (And.intro hK hD)))
        have HDQ := Aside0.mk (Nat.le_trans hle8 hD)
        have hq4 := HF.out.1.below (by rw [← HQ12.out]; exact hB)
        have d0 := hq4.cell 0 rfl
        have d1 := hq4.cell 1 rfl
        have d2 := hq4.cell 2 rfl
        have d3 := hq4.cell 3 rfl
        have d4 := hq4.cell 4 rfl
        have d5 := hq4.cell 5 rfl
        have HMM := Aside0.mk hMM
        clear hB hbx hK hD hq4 hg8 hC8 hB1 hB2 f12 hMM
        gi_wp2_with (fail)
        refine ⟨trivial, ?_⟩
        refine (callsIn_wide.2 (add_none o _)).mono ?_
        rintro e W2 ⟨rfl, hb⟩
        have hDl : D < W.heap.size := (Array.getElem?_eq_some_iff.1 HD.out.2.2.1).1
        have hWs : q12 ≤ W.heap.size := by have := HD.out.2.1.lt; omega
        have HD2 := Aside0.mk (And.intro (HD.out.1.trans (hb.mono hWs)) (And.intro ((hb.block q12 HD.out.2.1.lt).trans HD.out.2.1 : Boxed W2 q12 3 _) (And.intro ((hb.block D hDl).trans HD.out.2.2.1) (Nat.lt_of_lt_of_le hDl hb.size))))
        have hWs2 : q12 ≤ W2.heap.size := Nat.le_trans hWs hb.size
        clear hb HD d0 d1 d2 d3 d4 d5 hDl hWs
        gi_wp2_with (fail)
        refine ⟨trivial, ?_⟩
        refine (callsIn_wide.2 (all_ok none 0 _)).mono ?_
        rintro e W3 ⟨p1, p2, rfl, hb, hP1, hP2, -, -⟩
        have hbx2 : Boxed W2 q12 3 (.int .i64 M) := HD2.out.2.1
        have HD3 := Aside0.mk (And.intro (HD2.out.1.trans (hb.mono hWs2)) (And.intro ((hb.block q12 hbx2.lt).trans hbx2 : Boxed W3 q12 3 _) (And.intro ((hb.block D HD2.out.2.2.2).trans HD2.out.2.2.1) (Nat.lt_of_lt_of_le HD2.out.2.2.2 hb.size))))
        have hWs3 : q12 ≤ W3.heap.size := Nat.le_trans hWs2 hb.size
        clear hb HD2 hWs2 hbx2
        gi_wp2_with (fail)
        apply wpIn_rangeFunc_ownH (α := Empty) rfl h1 (gf := 29) (lb := #[.pointer (some ⟨p1, 0, none⟩), .pointer (some ⟨p2, 0, none⟩)]) rfl trivial (enters_of Try.func29 (by kernel_rfl) rfl)
          (seq_nil (n - 1) (by omega) p1 p2 0 (BX W3.heap.size (fun _ => False)) W3 hP1) bx_t (bx_b (Nat.le_refl _)) (Below.refl _ _) (fun x => x.elim)
          (fun pre V => Below q12 wr V ∧ Boxed V q12 3 (.int .i64 M) ∧ V.heap[D]? = some (.deferred (some []))) (fun _ _ _ => False) (Ax := fun _ _ _ => True)
        case hI => exact OwnFrom.and (ownFrom_below (by rw [HQ12.out]; exact Nat.le_refl _) hWs3) (OwnFrom.and (Own.from (boxed_own q12 3 (fun pre : List Empty => .int .i64 M)) _) (fun s Z V row hs hg hr => (hg.block D (Array.getElem?_eq_some_iff.1 hs).1 (fun e => by have := (hr D e.symm).1; have := HD3.out.2.2.2; omega)).trans hs))
        case hIx => exact fun _ _ _ _ _ hs _ _ => hs
        case h0 => exact ⟨HD3.out.1, HD3.out.2.1, HD3.out.2.2.1⟩
        case hAx => exact fun x => x.elim
        case hassign => exact fun _ _ x => x.elim
        case hbody => exact fun _ _ x => x.elim
        case hstop =>
          rintro D c pre W _ _ h _
          exact h.elim
        case hdone =>
          rintro D2 ys V hD2 rfl ⟨hB, hbx, hK⟩ hK2
          have hDl : D < V.heap.size := (Array.getElem?_eq_some_iff.1 hK).1
          have hDl2 : D2 < V.heap.size := (Array.getElem?_eq_some_iff.1 hK2).1
          have hDD : D ≠ D2 := by have := HD3.out.2.2.2; omega
          have hV0 : q12 ≤ V.heap.size := by have := hbx.lt; omega
          have hV3 : q12 ≤ D2 := by omega
          have hV4 : q12 ≤ D := HDQ.out
          have HV := Aside0.mk (Tl.mk hB hbx hK hK2 hV0)
          have hmin : (if (S : Int) + 1 < (X.length : Int) then (S : Int) + 1 else (X.length : Int)) = M := by
            rw [HMM.out]; split <;> omega
          have HMIN := Aside0.mk hmin
          have hw2 : IntKind.i64.wrap ((S : Int) + 1) = (S : Int) + 1 := by
            exact IntWalk.i64_in _ (by omega)
          have HW2 := Aside0.mk hw2
          clear hw2
          clear hB hbx hK hK2 HD3 hP1 hP2 hmin
          gi_wp2_with (fail)
          refine ⟨trivial, ?_⟩
          refine (callsIn_wide.2 (longest_nil (-1) _)).mono ?_
          rintro e V1 ⟨rfl, hb⟩
          have HV1 := Aside0.mk (HV.out.below hb)
          clear hb HV
          gi_wp2_with (fail)
          refine ⟨trivial, ?_⟩
          refine (callsIn_wide.2 (len_ok g _ X _ (HF.out.2.2.2.2.1.below (by rw [← HQ12.out]; exact HV1.out.low)))).mono ?_
          rintro e V2 ⟨rfl, rfl⟩
          gi_wp2_with (fail)
          refine ⟨trivial, ?_⟩
          have hlc := len_ok g2 _ (X ++ [o]) _ (HF.out.2.2.2.2.2.2.below (w1 := V1) (by rw [← HQ12.out]; exact HV1.out.low))
          rw [show (((X ++ [o]).length : Nat) : Int) = (X.length : Int) + 1 by rw [List.length_append]; rfl] at hlc
          refine (callsIn_wide.2 hlc).mono ?_
          clear hlc
          rintro e V3 ⟨rfl, rfl⟩
          gi_wp2_with (fail)
          refine ⟨trivial, ?_⟩
          refine (callsIn_wide.2 (since_ok g _ X X (-1) _ (HF.out.2.2.2.2.1.below (by rw [← HQ12.out]; exact HV1.out.low)) (by omega) (by rw [show (min (max (-1 : Int) 0) X.length).toNat = 0 by omega]; rfl))).mono ?_
          rintro e V4 ⟨v4, rfl, hR4, hb⟩
          obtain ⟨A4, c4, rfl⟩ := Kd.R_slice hR4
          have HC4 := Aside0.mk (Kd.R_reads' hR4).2.2
          have HV4 := Aside0.mk (HV1.out.below hb)
          clear hR4 hb HV1
          gi_wp2_with (fail)
          refine ⟨trivial, ?_⟩
          refine (callsIn_wide.2 (own_ok A4 c4 X _ HC4.out (by omega))).mono ?_
          rintro e V5 ⟨v5, rfl, hR5, hb⟩
          obtain ⟨A5, c5, rfl⟩ := Kd.R_slice hR5
          have HC5 := Aside0.mk (Kd.R_reads' hR5).2.2
          have HV5 := Aside0.mk (HV4.out.below hb)
          clear hR5 hb HV4 HC4
          gi_wp2_with (fail)
          refine ⟨trivial, ?_⟩
          refine (callsIn_wide.2 (same_ok _ _ _ _ X _ HC5.out (Kd.C_below HF.out.2.2.2.2.2.1 (by rw [← HQ12.out]; exact HV5.out.low)) (by omega))).mono ?_
          rintro e V6 ⟨rfl, hb⟩
          have HV6 := Aside0.mk (HV5.out.below hb)
          clear hb HV5 HC5
          have c12 := HV6.out.box.cell
          have c5' := (HF.out.2.1.below (by rw [← HQ12.out]; exact HV6.out.low)).cell 0 rfl
          have hw1 : stop.tmod 20 = (S : Int) := by rw [Int.tmod_eq_emod_of_nonneg hS.1, HSS.out]
          have hmin := HMIN.out
          have hw2 := HW2.out
          gi_wp2_with (fail)
          refine ⟨trivial, ?_⟩
          refine (callsIn_wide.2 (len_nil _)).mono ?_
          rintro e V7 ⟨rfl, rfl⟩
          clear c12 c5' hw1 hmin hw2
          gi_wp2_with (fail)
          refine ⟨trivial, ?_⟩
          refine (callsIn_wide.2 (count_nil (-1) 0 _)).mono ?_
          rintro e V8 ⟨rfl, hb⟩
          have HV8 := Aside0.mk (HV6.out.below hb)
          clear hb HV6
          gi_wp2_with (fail)
          refine ⟨trivial, ?_⟩
          refine (callsIn_wide.2 (since_nil _)).mono ?_
          rintro e V9 ⟨rfl, rfl⟩
          gi_wp2_with (fail)
          refine ⟨trivial, ?_⟩
          refine (callsIn_wide.2 (spread_nil (-1) _)).mono ?_
          rintro e V10 ⟨rfl, hb⟩
          have HV10 := Aside0.mk (HV8.out.below hb)
          clear hb HV8
          gi_wp2_with (fail)
          refine ⟨trivial, ?_⟩
          refine (callsIn_wide.2 (copy_none _)).mono ?_
          rintro e V11 ⟨rfl, rfl⟩
          have k6 := HF.out.2.2.1.below (by rw [← HQ12.out]; exact HV10.out.low)
          have c6' := k6.cell 0 rfl
          have z6 := k6.frozen 0
          have HK6 := Aside0.mk k6
          clear k6
          gi_wp2_with (fail)
          have hd1 : (V10.setCell ⟨q6, 0, none⟩ (.bool true)).heap[D]? = some (.deferred (some [])) := (KeepsOthers.setCell V10 ⟨q6, 0, none⟩ (.bool true)).same D _ HV10.out.d1 rfl
          have hd2 : (V10.setCell ⟨q6, 0, none⟩ (.bool true)).heap[D2]? = some (.deferred (some [])) := (KeepsOthers.setCell V10 ⟨q6, 0, none⟩ (.bool true)).same D2 _ HV10.out.d2 rfl
          refine ⟨by simp, .inl ⟨_, _, rfl, run_takeDeferred hd2, ?_⟩⟩
          have hd1' : ((V10.setCell ⟨q6, 0, none⟩ (.bool true)).putObj D2 (.deferred none)).heap[D]? = some (.deferred (some [])) := (World.putObj_heap_other hDD).trans hd1
          refine ⟨by simp, .inl ⟨_, _, rfl, run_takeDeferred hd1', ?_⟩⟩
          have k6' := HK6.out.put 0 (.bool true) rfl
          have hc6 := cell_kept (k6'.cell 0 rfl) (grownBy_putObj' _ D2 (.deferred none)) (fun r e => by cases e; exact ⟨_, hd2, rfl⟩)
          have hc6' := cell_kept hc6 (grownBy_putObj' _ D (.deferred none)) (fun r e => by cases e; exact ⟨_, hd1', rfl⟩)
          refine ⟨.bool true, ?_, rfl, ?_⟩
          · simp [results, Try.f5, go_sem, hc6']
          · have hlow := HF.out.2.2.2.1.trans (HV10.out.low.mono hle6)
            have hb := hlow.setCell (p := ⟨q6, 0, none⟩) y6 (.bool true)
            have := (hb.trans (belowK_b (n₀ := q4) (w := wr) (by rw [← HQ12.out]; exact hle6) _ D2 _ (.deferred none) (by rw [← HQ12.out]; omega) hd2 rfl rfl)).trans (belowK_b (n₀ := q4) (w := wr) (by rw [← HQ12.out]; exact hle6) _ D _ (.deferred none) (by rw [← HQ12.out]; omega) hd1' rfl rfl)
            rw [HQ.out] at this
            exact this
theorem tallyApart_body (A : Option Addr) (cap : Nat) (l : List Oc) (a0 a1 a2 a3 a4 a5 stop : Int) (w : World) (hC : Oc.kd.C w A l.length l) (hlc : l.length ≤ cap) (hcap : cap ≤ maxLen) (hok : ∀ x ∈ l, x.ok) (k0 : (Lit.int .u64 a0).wf = true) (k1 : (Lit.int .i64 a1).wf = true) (k2 : (Lit.int .i64 a2).wf = true) (k3 : (Lit.int .u8 a3).wf = true) (k4 : (Lit.int .i64 a4).wf = true) (k5 : (Lit.int .i64 a5).wf = true) (hs : (Lit.int .u8 stop).wf = true) :
    Calls Try.prog 5 #[.slice A l.length cap, .agg #[.int .u64 a0, .int .i64 a1, .int .i64 a2, .int .u8 a3, .int .i64 a4, .int .i64 a5], .int .u8 stop] w fun e w' => e = .returned (.bool true) ∧ Below w.heap.size w w' :=
  callsIn_wide.1 (apart_in 7 (by omega) A cap l ⟨a0, a1, a2, a3, a4, a5⟩ stop w hC hlc (wf_u8 hs))
end Go.Proofs.Ytfnnoecdpolbfaa.Z

/- Spread of the log. -/
import Derived.Test.YtfnnoecdpolbfaaTlp
namespace Go.Proofs.Ytfnnoecdpolbfaa.Z
open Go.RowKit Go.Shelf Go.Proofs.YtfnnoecdpolbfaaW.PrintWords Go.Proofs.YtfnnoecdpolbfaaW.PrintLast Go.Proofs.YtfnnoecdpolbfaaW.PrintMore
attribute [local go_sem] Oper.semAt_some
set_option linter.unusedVariables false
set_option linter.unusedSimpArgs false
theorem info_int : (Try.prog.info? 3).map (fun i => (i.zero, i.size, i.bytes)) = some (some (.int .i64 0), 1, 8) := by kernel_rfl
def rowLen (q : Nat) (W : World) : Nat := match W.cell? ⟨q, 0, none⟩ with | some (.slice _ n _) => n | _ => 0
theorem rowLen_box {W : World} {q T n c : Nat} {A : Option Addr} (h : Boxed W q T (.slice A n c)) : rowLen q W = n := by unfold rowLen; rw [h.cell]
/-- A box that holds a row of the call's own (from n₀ on); what has been done in a body. -/
structure Spr (w6 W wr : World) (n₀ q4 q5 : Nat) (w : World) (v : Value) (xs : List Int) : Prop where
  box : Boxed wr q5 32 v
  row : wr.ownsRow n₀ 3 1 v xs.length (nums .i64 xs)
  bx : BX n₀ (· = q5) w6 wr
  low : Below q4 w wr
  keep : KeepsFrom n₀ W wr
  bx2 : BX n₀ (· = q5) W wr
theorem Spr.step {w6 W wr wr' : World} {n₀ q4 q5 : Nat} {w : World} {v v' : Value} {xs xs' : List Int} (h : Spr w6 W wr n₀ q4 q5 w v xs) (hb : Boxed wr' q5 32 v') (hr : wr'.ownsRow n₀ 3 1 v' xs'.length (nums .i64 xs')) (hk : KeepsOthers wr wr') (hl : Below q4 wr wr') (hx : BX n₀ (· = q5) wr wr') : Spr w6 W wr' n₀ q4 q5 w v' xs' :=
  ⟨hb, hr, h.bx.trans hx, h.low.trans hl, h.keep.trans (hk.from _), h.bx2.trans hx⟩
theorem spr_row (t : Int) (pre : List Oc) (k : Nat) : ∃ m : Nat, m ≤ pre.length ∧ (padF (sprF t pre) k).getD k 0 = (m : Int) := by
  rw [spr_cnts]
  refine ⟨_, ?_, by rw [List.getD_eq_getElem?_getD, padF_at _ k k (by omega)]; rfl⟩
  refine Nat.le_trans List.count_le_length ?_
  rw [List.length_map]
  exact List.length_filter_le _ _
theorem spr_len (t : Int) (l : List Oc) : (sprF t l).length ≤ 65 := by
  induction l using snoc_ind with
  | h0 => simp [sprF]
  | h1 l x ih =>
    rw [sprF_snoc]
    split
    · rw [bump_len]; have := lenF_le 64 (max x.so 0).toNat; unfold rowF; omega
    · exact ih
set_option maxHeartbeats 8000000 in
set_option maxRecDepth 100000 in
theorem spread_in (n : Nat) (hn : 5 ≤ n) (g base : Nat) (l : List Oc) (t : Int) (w : World) (h : LogAt w base g l) (hl : l.length ≤ 1000) (hok : ∀ x ∈ l, x.ok) :
    CallsIn Fence.wide n Try.prog 10 #[.pointer (some ⟨g, 0, none⟩), .int .i64 t] w fun e w' => ∃ v, e = .returned v ∧ (Kd.int .i64).R 3 w' w.heap.size (fun _ => True) v (sprF t (ofWhy 1 l)) ∧ Below w.heap.size w w' := by
  have h1 : 1 ≤ n := by omega
  have HL := Aside0.mk h
  have HOK := Aside0.mk hok
  clear h hok
  refine callsIn_of_wp_marks Try.func10 rfl trivial ?_ rfl
  simp only [Try.ntmps10, List.size_toArray, List.length_cons, List.length_nil, Nat.reduceAdd, Nat.reduceSub, Array.replicate_succ, Array.replicate_zero, List.push_toArray, List.append_toArray, List.nil_append, List.cons_append]
  gi_wp2_with (fail)
  refine ⟨trivial, ?_⟩
  have e1 := Blk.new w 3 [.int .i64 t]
  have e3 := Blk.new (w.alloc (.cells #[.int .i64 t] 3)) 32 [.slice none 0 0]
  simp only [World.size_alloc] at e3
  have e1 : Blk ((w.alloc (.cells #[.int .i64 t] 3)).alloc (.cells #[.slice none 0 0] 32)) _ _ _ := e1.alloc _
  have e3 : Blk ((w.alloc (.cells #[.int .i64 t] 3)).alloc (.cells #[.slice none 0 0] 32)) _ _ _ := e3
  have hb0 : Below w.heap.size w ((w.alloc (.cells #[.int .i64 t] 3)).alloc (.cells #[.slice none 0 0] 32)) := ((Below.refl _ w).alloc (Nat.le_refl _) _).alloc (by simp) _
  generalize ((w.alloc (.cells #[.int .i64 t] 3)).alloc (.cells #[.slice none 0 0] 32)) = w1 at *
  obtain ⟨q4, hq4⟩ : ∃ q, q = w.heap.size := ⟨_, rfl⟩
  obtain ⟨q5, hq5⟩ : ∃ q, q = w.heap.size + 1 := ⟨_, rfl⟩
  rw [← hq4] at e1
  rw [← hq5] at e3
  rw [← hq5, ← hq4]
  rw [← hq4] at hb0
  have n1 : q4 ≠ q5 := by omega
  have y5 : q4 ≤ q5 := by omega
  have l1 := e1.lt
  have l3 := e3.lt
  obtain ⟨A, c, hgB, hCC⟩ : ∃ A c, Blk w1 g 58 [.slice A l.length c] ∧ ∀ V, (∀ b, b < q4 → V.heap[b]? = w1.heap[b]?) → Oc.kd.C V A l.length l := by
    obtain ⟨h0, v, h2, h3⟩ := HL.out
    obtain ⟨A, c, rfl⟩ := Kd.R_slice h3
    refine ⟨A, c, h2.below (by rw [hq4] at hb0; exact hb0), fun V hV => ?_⟩
    exact (Kd.R_reads' (Kd.R_step (w1 := V) (Kd.R_bound h3) (fun k hk hkl => (hV k (by omega)).trans (hb0.block k (by omega))))).2.2
  have HQ := Aside0.mk hq4
  have HGB := Aside0.mk hgB
  have HCC := Aside0.mk hCC
  have HB0 := Aside0.mk hb0
  have y0 : q4 ≤ w1.heap.size := by omega
  clear hq4 hq5 hgB hCC hb0 HL
  refine (callsIn_wide.2 (all_ok _ 1 _)).mono ?_
  rintro e w6 ⟨b1, b2, rfl, hb, hB1, hB2, m1, m2⟩
  have e1 := e1.below hb
  have e3 := e3.below hb
  have hB6 := HB0.out.trans (hb.mono y0)
  have hsz := hb.size
  have hg6 := HGB.out.below hb
  have hC6 : ∀ V, BX w6.heap.size (· = q5) w6 V → Oc.kd.C V A l.length l := fun V hV => HCC.out V (fun b hb' => (hV.block b (by omega) (by omega)).trans (hb.block b (by omega)))
  have HB6 := Aside0.mk hB6
  have y6 : q4 ≤ w6.heap.size := by omega
  have k1 : b1 ≠ q5 := by omega
  have k2 : b2 ≠ q5 := by omega
  clear hb hB6 HB0 HGB HCC
  gi_wp2_with (fail)
  apply wpIn_rangeFunc_ownH rfl h1 (gf := 29) (lb := #[.pointer (some ⟨b1, 0, none⟩), .pointer (some ⟨b2, 0, none⟩)]) rfl trivial (enters_of Try.func29 (by kernel_rfl) rfl)
    (log_seqO (n - 1) (by omega) (· = q5) b1 b2 g A c l HOK.out 1 hl w6 hg6 hC6 hB1 hB2 k1 k2) bx_t (bx_b (Nat.le_refl _)) (Below.refl _ _) (fun _ => rfl)
    (fun pre W => (∃ v, Boxed W q5 32 v ∧ W.ownsRow w6.heap.size 3 1 v (sprF t (bare pre)).length (nums .i64 (sprF t (bare pre))) ∧ True) ∧ BX w6.heap.size (· = q5) w6 W ∧ Below q4 w W)
    (fun _ _ _ => False)
    (Ax := fun x a' W => ∃ q, Blk W q 26 x.1.enc ∧ a' = { tmps := #[.pointer (some ⟨g, 0, none⟩), .int .i64 t, undef, .pointer (some ⟨q4, 0, none⟩), .slice none 0 0, .pointer (some ⟨q5, 0, none⟩), .pointer (some ⟨q, 0, none⟩), undef, .pointer (some ⟨g, 0, none⟩), .func (.func 29) #[] #[.pointer (some ⟨b1, 0, none⟩), .pointer (some ⟨b2, 0, none⟩)], x.1.val, undef, undef, undef, undef, undef, undef, undef, undef, undef, undef, undef, undef, undef, undef, undef, undef, undef, undef, undef, undef, undef, undef, undef], defers := [] })
  case hI => exact OwnFrom.and (Own.from (holdsRow_own w6.heap.size q5 32 3 1 (fun pre : List OkOc => (sprF t (bare pre)).length) (fun pre => nums .i64 (sprF t (bare pre))) (fun pre v => True)) _) (OwnFrom.and (ownFrom_bx (Nat.le_refl _) (Nat.le_refl _)) (ownFrom_below (by rw [HQ.out]; exact Nat.le_refl _) y6))
  case hIx => exact fun _ _ _ _ _ hs _ _ => hs
  case h0 => exact ⟨⟨_, e3, World.ownsRow_nil _ _ _ _, trivial⟩, BX.refl _ _ _, HB6.out⟩
  case hAx =>
    rintro x a' _ X Y row ⟨q, hq, rfl⟩ hgr hrow
    exact ⟨q, (Own.from (blk_own q 26 x.1.enc) w6.heap.size) () X Y row hq hgr hrow, rfl⟩
  case hassign =>
    intro lp pre x W K hI hK
    have HI := Aside0.mk hI
    clear hI
    have hbox : Blk (W.alloc (.cells #[.int .u64 x.1.tk, .int .i64 x.1.tier, .int .i64 x.1.co, .int .u8 x.1.why, .int .i64 x.1.at_, .int .i64 x.1.so] 26)) W.heap.size 26 x.1.enc := Blk.new W 26 x.1.enc
    have HBOX := Aside0.mk hbox
    have hsz6 := HI.out.2.1.size
    have hKe := fun a' => hK a' (W.alloc (.cells #[.int .u64 x.1.tk, .int .i64 x.1.tier, .int .i64 x.1.co, .int .u8 x.1.why, .int .i64 x.1.at_, .int .i64 x.1.so] 26)) ((KeepsOthers.alloc _ _).from _) (BX.of_below ((Below.refl _ W).alloc hsz6 _)) ⟨⟨HI.out.1.choose, HI.out.1.choose_spec.1.alloc _, HI.out.1.choose_spec.2.1.alloc _, trivial⟩, HI.out.2.1.trans (BX.of_below ((Below.refl _ W).alloc hsz6 _)), HI.out.2.2.alloc (Nat.le_trans y6 hsz6) _⟩
    have HKE := Aside0.mk hKe
    clear hKe hbox hK
    unfold Oc.val
    gi_wp2
    exact HKE.out _ ⟨W.heap.size, HBOX.out, rfl⟩
  case hdone =>
    rintro D ys W hD hys ⟨⟨v, hbx, hrow, -⟩, hbK, hB⟩ hK
    have c7 := hbx.cell
    have HW := Aside0.mk (And.intro hrow (And.intro hbK hB))
    have HK := Aside0.mk hK
    have HDD := Aside0.mk hD
    have HYS := Aside0.mk (show bare ys = ofWhy 1 l from hys)
    clear hbx hbK hB hrow hK hD e1 e3 hg6 hC6 hB1 hB2 hys
    gi_wp2_with (fail)
    refine ⟨by simp, .inl ⟨_, _, rfl, run_takeDeferred HK.out, ?_⟩⟩
    refine ⟨_, results_tmp rfl _ _ _, v, rfl, ?_, ?_⟩
    · rw [← HYS.out]
      refine Kd.R_lower (base := w6.heap.size) ?_ (by rw [← HQ.out]; exact y6)
      exact Kd.R_of_own (ownsRow_putObj HW.out.1 _ HK.out rfl) (fun _ _ => trivial)
    · have := HW.out.2.2.trans (belowK_b (n₀ := q4) (w := w6) y6 W D _ (.deferred none) HDD.out HK.out rfl rfl)
      rw [HQ.out] at this
      exact this
  case hstop =>
    rintro D c pre W _ _ h _
    exact h.elim
  case hbody =>
    rintro lp pre x a' W hlp _ ⟨⟨v, hbx, hrow, -⟩, hbK, hB⟩ ⟨q, hq, rfl⟩ hlt
    have x0 := hq.cell 0 rfl
    have x1 := hq.cell 1 rfl
    have x2 := hq.cell 2 rfl
    have x3 := hq.cell 3 rfl
    have x4 := hq.cell 4 rfl
    have x5 := hq.cell 5 rfl
    have c4 := (e1.bx hbK ⟨e1.lt, n1⟩).cell 0 rfl
    have HW := Aside0.mk (And.intro hbx (And.intro hbK (And.intro hB hrow)))
    have hs6 := hbK.size
    have hso := wf_i64 x.2.2.2.2.2.2
    have HQ2 := Aside0.mk hq
    have HLT := Aside0.mk hlt
    clear hbx hbK hB hrow e1 e3 hg6 hC6 hB1 hB2 hlt hq
    gi_wp2_with (fail)
    refine ⟨trivial, (fun h => by cases h), ?_⟩
    refine (CallsIn.inRound lp (callsIn_wide.2 (is_ok x.1 t 1 _))).mono ?_
    rintro e w5 ⟨rfl, hb5⟩
    have hbx5 : Boxed w5 q5 32 v := (hb5.block q5 HW.out.1.lt).trans HW.out.1
    have hbK5 : BX w6.heap.size (· = q5) w6 w5 := HW.out.2.1.trans ⟨hb5.size, fun b h1 _ => hb5.block b (by omega)⟩
    have hk5 : BX w6.heap.size (· = q5) W w5 := ⟨hb5.size, fun b h1 _ => hb5.block b (by omega)⟩
    have hB5 : Below q4 w w5 := HW.out.2.2.1.trans (hb5.mono (by omega))
    have hkf : KeepsFrom w6.heap.size W w5 := (KeepsOthers.of_grownBy (grown_of_below hb5 none) (fun j o h => by cases h)).from _
    have hr5 : w5.ownsRow w6.heap.size 3 1 v (sprF t (bare pre)).length (nums .i64 (sprF t (bare pre))) := pw_own_below HW.out.2.2.2 hb5
    have hq5' := HQ2.out.below hb5
    have H5 := Aside0.mk (Spr.mk hbx5 hr5 hbK5 hB5 hkf hk5)
    have hsn := sprF_snoc t (bare pre) x.1
    have HB' := Aside0.mk (show bare (pre ++ [x]) = bare pre ++ [x.1] by simp [bare])
    have x5' := hq5'.cell 5 rfl
    clear hbx5 hbK5 hB5 hkf hk5 hr5 hb5 hq5' x0 x1 x2 x3 x4 x5 c4 HQ2
    cases hb : isB x.1 t 1 with
    | false =>
      rw [hb, if_neg (by simp)] at hsn
      have HSN := Aside0.mk hsn
      clear hsn hb
      gi_wp2_with (fail)
      exact ⟨H5.out.keep, H5.out.bx2, ⟨⟨v, H5.out.box, by rw [HB'.out, HSN.out]; exact H5.out.row, trivial⟩, H5.out.bx, H5.out.low⟩⟩
    | true =>
      rw [hb, if_pos rfl] at hsn
      have hrw : rowF x.1 ≤ 64 := lenF_le _ _
      have hN1 : 0 ≤ x.1.so → ((max x.1.so 0).toNat : Int) = x.1.so := by omega
      have hN2 : x.1.so < 0 → ((max x.1.so 0).toNat : Int) = 0 := by omega
      have hl64 := len64_ok (max x.1.so 0).toNat w5 (by omega)
      obtain ⟨k, hk⟩ : ∃ k, k = rowF x.1 := ⟨_, rfl⟩
      rw [show lenF 64 (max x.1.so 0).toNat = k from hk.symm] at hl64
      rw [← hk] at hsn hrw
      obtain ⟨m, hm, hrk⟩ := spr_row t (bare pre) k
      obtain ⟨O, hO⟩ : ∃ O, O = sprF t (bare pre) := ⟨_, rfl⟩
      rw [← hO] at hrk
      have hm1 : m ≤ 1000 := by
        have a2 : (ofWhy 1 l).length ≤ l.length := List.length_filter_le _ _
        have a3 : (bare pre).length = pre.length := by simp [bare]
        have := HLT.out
        omega
      have HRK := Aside0.mk hrk
      clear hrk hm
      rw [← hO] at hsn
      have h5 := H5.out
      rw [← hO] at h5
      have hOl : O.length ≤ 65 := by rw [hO]; exact spr_len _ _
      have H5 := Aside0.mk h5
      clear h5
      have HSN := Aside0.mk hsn
      have HL64 := Aside0.mk (And.intro hN1 (And.intro hN2 hl64))
      clear hsn hb hN1 hN2 hl64 hk hO
      gi_wp2_with (fail)
      all_goals
        obtain ⟨hN1, hN2, hl64⟩ := HL64.out
        refine ⟨trivial, (fun h => by cases h), ?_⟩
        first
          | (rw [hN2 (by omega)] at hl64; refine (CallsIn.inRound lp (callsIn_wide.2 hl64)).mono ?_)
          | (rw [hN1 (by omega)] at hl64; refine (CallsIn.inRound lp (callsIn_wide.2 hl64)).mono ?_)
        clear hl64 hN1 hN2
        rintro e w7 ⟨rfl, rfl⟩
        clear x5'
        have hr5 := H5.out.box.cell
        gi_wp2_with (fail)
        obtain ⟨i0, hi, hz0, hz1, hz2⟩ := info_parts info_int
        gi_loopw [] (fun wr => ∃ (j : Nat) (v' : Value), (O.length + j ≤ max O.length (k + 1)) ∧ Spr w6 W wr w6.heap.size q4 q5 w v' (O ++ List.replicate j 0)) (fun wr => k + 1 - rowLen q5 wr)
        case atStart => exact ⟨0, v, by omega, by simpa using H5.out⟩
        case round =>
          obtain ⟨j, v', hj, hS⟩ := hrel
          obtain ⟨A', c', hv'⟩ := own_slice hS.row
          subst hv'
          have hLl : (O ++ List.replicate j 0).length = O.length + j := by simp
          have hpd : k < O.length + j → O ++ List.replicate j 0 = padF O k := fun h => by unfold padF; rw [show k + 1 - O.length = j by omega]
          have hzs : O ++ List.replicate (j + 1) 0 = (O ++ List.replicate j 0) ++ [0] := by rw [List.replicate_succ', List.append_assoc]
          obtain ⟨L, hL⟩ : ∃ L, L = O ++ List.replicate j 0 := ⟨_, rfl⟩
          rw [← hL] at hS hLl hpd hzs
          have hbox := hS.box
          have hc := hbox.cell
          have hfr := hbox.frozen
          have hmu := rowLen_box hbox
          have HZS := Aside0.mk (And.intro hzs (And.intro hLl hpd))
          have HMU := Aside0.mk hmu
          have hrow := hS.row
          have hsz : w6.heap.size ≤ wr.heap.size := hS.bx.size
          have hL65 : L.length ≤ 66 := by omega
          have hlow := hS.low
          have HS := Aside0.mk hS
          clear hS hmu hr5 hL hzs hLl hpd
          by_cases hlt : L.length ≤ k
          · have hlt' : (L.length : Int) ≤ (k : Int) := by omega
            gi_wp2_with (gi_at_builtin; refine wpListIn_append_own _ rfl _ _ 32 rfl w6.heap.size 3 i0 (.int .i64 0) 1 8 Try.underlying32 hi hz0 hz1 hz2 rfl (by decide) _ _ _ rfl (hrow.alloc _) ⟨wr.heap.size, 0, none⟩ 1 1 [.int .i64 0] rfl rfl (cell_one_new _ _ _) (by simp [Value.oneCell']) (by have : maxLen = 9223372036854775807 := rfl; omega) (by omega) (by simp; omega) ?_; intro v' w1' hown' hgrow _; obtain ⟨g', cap', rfl⟩ := ownsRow_succ hown'; obtain ⟨hv1, hv2, hr2, hk2, hb2⟩ := hbox.appended (n₀ := q4) (by decide) (own_weaken hrow y6) (Nat.le_trans y6 hsz) y5 (own_weaken hown' y6) hgrow; have hc1 := hv1.cell; have hf1 := hv1.frozen)
            obtain ⟨hz1', hz2', -⟩ := HZS.out
            have hbx1 : BX w6.heap.size (· = q5) wr w1' := ⟨Nat.le_trans (by simp) hgrow.size, fun b h1 h2 => (hgrow.block b (by simp; omega) (fun e => by have h4 := own_base hrow b e.symm; omega)).trans (Below.heap_alloc wr _ b (by omega))⟩
            have hro : (w1'.setCell ⟨q5, 0, none⟩ (.slice (some ⟨g', 0, none⟩) (L.length + 1) cap')).ownsRow w6.heap.size 3 1 (.slice (some ⟨g', 0, none⟩) (L.length + 1) cap') (L.length + 1) (nums .i64 L ++ [.int .i64 0]) := hown'.kept (grownBy_setCell' w1' q5 _) (.inr (hv1.not_row (by decide) hown').symm)
            refine ⟨⟨j + 1, .slice (some ⟨g', 0, none⟩) (L.length + 1) cap', by omega, ?_⟩, ?_⟩
            · rw [hz1']
              exact HS.out.step hv2 (by rw [List.length_append]; simpa [nums] using hro) hk2 hb2 (bx_set (q := q5) (nx := (· = q5)) rfl hbx1 _)
            · rw [rowLen_box hv2, HMU.out]; omega
          · have hlt' : (k : Int) < (L.length : Int) := by omega
            have hform := Kd.R_form (d := Kd.int .i64) (ok := fun _ => True) (Kd.R_of_own hrow (fun _ _ => trivial)) (by omega)
            obtain ⟨g', cap', hv', hgb, hgl, -⟩ := hform
            obtain ⟨rfl, -, rfl⟩ : A' = some ⟨g', 0, none⟩ ∧ True ∧ c' = cap' := by injection hv' with a b c; exact ⟨a, trivial, c⟩
            obtain ⟨hat1, hat2⟩ := own_at hrow (k : Int) (by omega) (by omega)
            have hst := fun x : Int => own_store hrow (k : Int) x
            rw [Int.toNat_natCast] at hat1 hat2
            have hst := fun x : Int => by have := hst x; rw [Int.toNat_natCast] at this; exact this
            have HST := Aside0.mk hst
            have k0 : (0 : Int) ≤ (k : Int) := by omega
            obtain ⟨hz1', hz2', hpd⟩ := HZS.out
            have hrd : rd L (k : Int) = (m : Int) := by
              rw [hpd (by omega)]
              exact HRK.out
            rw [hrd] at hat1
            have HPD := Aside0.mk (hpd (by omega))
            clear hz1' hz2' hpd hrd
            clear hst hv'
            gi_wp2_with (fail)
            have hfin : L.set k ((m : Int) + 1) = sprF t (bare (pre ++ [x])) := by
              rw [HB'.out, HSN.out, HPD.out]
              unfold bump
              rw [HRK.out]
            have hS2 := HS.out.step (wr' := wr.setCell ⟨g', k, none⟩ (.int .i64 ((m : Int) + 1))) (xs' := L.set k ((m : Int) + 1)) (hbox.kept (HST.out _).2 (hbox.not_row (by decide) hrow)) (by rw [List.length_set]; exact (HST.out _).1) (KeepsOthers.setCell _ _ _) ((Below.refl q4 wr).setCell (p := ⟨g', k, none⟩) (show q4 ≤ g' by omega) _) ⟨by simp [World.setCell], fun b h1 h2 => (HST.out _).2.block b (by omega) (fun e => by injection e with e; omega)⟩
            rw [hfin] at hS2
            exact ⟨hS2.keep, hS2.bx2, ⟨_, hS2.box, hS2.row, trivial⟩, hS2.bx, hS2.low⟩
theorem spread_ok (g base : Nat) (l : List Oc) (t : Int) (w : World) (h : LogAt w base g l) (hl : l.length ≤ 1000) (hok : ∀ x ∈ l, x.ok) :
    Calls Try.prog 10 #[.pointer (some ⟨g, 0, none⟩), .int .i64 t] w fun e w' => ∃ v, e = .returned v ∧ (Kd.int .i64).R 3 w' w.heap.size (fun _ => True) v (sprF t l) ∧ Below w.heap.size w w' := by
  have := callsIn_wide.1 (spread_in 5 (by omega) g base l t w h hl hok)
  rwa [spr_why] at this
end Go.Proofs.Ytfnnoecdpolbfaa.Z

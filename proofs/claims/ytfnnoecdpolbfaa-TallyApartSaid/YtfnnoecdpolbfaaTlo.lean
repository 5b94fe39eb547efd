/- own, filled, is. -/
import Derived.Test.YtfnnoecdpolbfaaTlm
import Derived.Deep.CutBlock
namespace Go.Proofs.Ytfnnoecdpolbfaa.Z
open Go.RowKit Go.Proofs.YtfnnoecdpolbfaaW.PrintWords Go.Proofs.YtfnnoecdpolbfaaW.PrintLast Go.Proofs.YtfnnoecdpolbfaaW.PrintMore
attribute [local go_sem] max2_int min2_int max_two min_two max_three min_three max_four min_four
set_option linter.unusedVariables false
set_option linter.unusedSimpArgs false
set_option maxHeartbeats 4000000 in
set_option maxRecDepth 100000 in
theorem own_ok (A : Option Addr) (c : Nat) (l : List Oc) (w : World) (hC : Oc.kd.C w A l.length l) (hl : l.length ≤ 1000) :
    Calls Try.prog 15 #[.slice A l.length c] w fun e w' => ∃ v, e = .returned v ∧ Oc.kd.R 49 w' w.heap.size (fun _ => True) v l ∧ Below w.heap.size w w' := by
  have HC := Aside0.mk hC
  clear hC
  go_enter Try.func15, Try.ntmps15
  go_wp2_with (fail)
  go_loopw [3, 8] (fun v i wr => ∃ k : Nat, k ≤ l.length ∧ i = .int .i64 k ∧ Oc.kd.R 49 wr w.heap.size (fun _ => True) v (l.take k) ∧ Below w.heap.size w wr) (fun _ i _ => l.length - (intOf i).toNat)
  case atStart => exact ⟨0, Nat.zero_le _, rfl, Kd.R_nil _ _ _ _ _, Below.refl _ _⟩
  case round =>
    obtain ⟨k, hk, rfl, hR, hb⟩ := hrel
    have HR := Aside0.mk hR
    have HB := Aside0.mk hb
    obtain ⟨A', c', hv⟩ := Kd.R_slice hR
    rw [List.length_take, Nat.min_eq_left hk] at hv
    subst hv
    clear hR hb
    by_cases hlt : k < l.length
    · have hlt' : (k : Int) < (l.length : Int) := by omega
      obtain ⟨ad, rfl⟩ : ∃ ad, A = some ad := by
        obtain ⟨ad, h, _⟩ := HC.out.2.2 (by omega)
        exact ⟨ad, h⟩
      obtain ⟨x, hx⟩ : ∃ x, l[k]? = some x := ⟨_, List.getElem?_eq_getElem hlt⟩
      obtain ⟨e0, e1, e2, e3, e4, e5⟩ := Oc.came (Kd.C_below HC.out HB.out) hx
      have HTK := Aside0.mk (show l.take (k + 1) = l.take k ++ [x] by rw [List.take_add_one, hx]; rfl)
      clear hx
      go_upto_region 5 with (fail)
      have hbox := Blk.new wr 26 [.int .u64 x.tk, .int .i64 x.tier, .int .i64 x.co, .int .u8 x.why, .int .i64 x.at_, .int .i64 x.so]
      have hbox : Blk (wr.alloc (.cells #[.int .u64 x.tk, .int .i64 x.tier, .int .i64 x.co, .int .u8 x.why, .int .i64 x.at_, .int .i64 x.so] 26)) wr.heap.size 26 [.int .u64 x.tk, .int .i64 x.tier, .int .i64 x.co, .int .u8 x.why, .int .i64 x.at_, .int .i64 x.so] := hbox
      have hR2 := Kd.R_alloc HR.out (.cells #[.int .u64 x.tk, .int .i64 x.tier, .int .i64 x.co, .int .u8 x.why, .int .i64 x.at_, .int .i64 x.so] 26)
      have hB2 := HB.out.alloc HB.out.size (.cells #[.int .u64 x.tk, .int .i64 x.tier, .int .i64 x.co, .int .u8 x.why, .int .i64 x.at_, .int .i64 x.so] 26)
      obtain ⟨gq, hgq⟩ : ∃ g, g = wr.heap.size := ⟨_, rfl⟩
      rw [← hgq] at hbox ⊢
      clear hgq e0 e1 e2 e3 e4 e5
      generalize (wr.alloc (.cells #[.int .u64 x.tk, .int .i64 x.tier, .int .i64 x.co, .int .u8 x.why, .int .i64 x.at_, .int .i64 x.so] 26)) = W at *
      have x0 := hbox.cell 0 rfl
      have x1 := hbox.cell 1 rfl
      have x2 := hbox.cell 2 rfl
      have x3 := hbox.cell 3 rfl
      have x4 := hbox.cell 4 rfl
      have x5 := hbox.cell 5 rfl
      have HR2 := Aside0.mk hR2
      have HB2 := Aside0.mk hB2
      clear hR2 hB2 hbox
      go_wp2_with (at_builtin; refine Kd.R_append Oc.kd (w0 := w) w.heap.size rfl (.tmp 12) (.tmp 14) 28 49 (.agg #[.int .u64 0, .int .i64 0, .int .i64 0, .int .u8 0, .int .i64 0, .int .i64 0]) 48 rfl Try.underlying28 (by kernel_rfl) rfl (by decide) (by omega) _ (l.take k) x x.enc (fun _ => True) (fun _ => False) rfl rfl rfl (fun _ hk => hk.elim) (fun _ _ => trivial) HR2.out HB2.out HB2.out.size (by rw [List.length_take]; omega) ?_; intro v8 w8 hR8 hB8 hg8 _; have HR8 := Aside0.mk hR8; have HB8 := Aside0.mk hB8; clear hR8 hB8 hg8)
      go_roundw
      case rel => exact ⟨k + 1, by omega, by go_num, by rw [HTK.out]; exact HR8.out, HB8.out⟩
      case measure => simp [intOf]; omega
    · obtain rfl : k = l.length := by omega
      go_wp2_with (fail)
      go_ret
      exact ⟨_, rfl, by have := HR.out; rw [List.take_length] at this; exact this, HB.out⟩
def isB (o : Oc) (t y : Int) : Bool := (decide (t < 0) || decide (o.tier = t)) && (decide (y = 0) || decide (o.why = y))
set_option maxHeartbeats 4000000 in
theorem is_ok (o : Oc) (t y : Int) (w : World) :
    Calls Try.prog 25 #[o.val, .int .i64 t, .int .u8 y] w fun e w' => e = .returned (.bool (isB o t y)) ∧ Below w.heap.size w w' := by
  unfold isB
  have hbw := below_alloc (Below.refl _ w) (.cells o.enc.toArray 26)
  have HBW := Aside0.mk hbw
  clear hbw
  by_cases h1 : t < 0
  · have d1 : decide (t < 0) = true := decide_eq_true h1
    by_cases h2 : y = 0
    · subst h2
      unfold Oc.val
      go_enter Try.func25, Try.ntmps25
      go_wp2_with (fail)
      go_ret
      exact ⟨by simp [h1], HBW.out⟩
    · have b2 : (y == 0) = false := by simp [h2]
      by_cases h3 : o.why = y
      · subst h3
        unfold Oc.val
        go_enter Try.func25, Try.ntmps25
        go_wp2_with (fail)
        go_ret
        exact ⟨by simp [h1, h2], HBW.out⟩
      · have b3 : (o.why == y) = false := by simp [h3]
        unfold Oc.val
        go_enter Try.func25, Try.ntmps25
        go_wp2_with (fail)
        go_ret
        exact ⟨by simp [h1, h2, h3], HBW.out⟩
  · have d1 : decide (t < 0) = false := decide_eq_false h1
    by_cases h4 : o.tier = t
    · subst h4
      by_cases h2 : y = 0
      · subst h2
        unfold Oc.val
        go_enter Try.func25, Try.ntmps25
        go_wp2_with (fail)
        go_ret
        exact ⟨by simp [h1], HBW.out⟩
      · have b2 : (y == 0) = false := by simp [h2]
        by_cases h3 : o.why = y
        · subst h3
          unfold Oc.val
          go_enter Try.func25, Try.ntmps25
          go_wp2_with (fail)
          go_ret
          exact ⟨by simp [h1, h2], HBW.out⟩
        · have b3 : (o.why == y) = false := by simp [h3]
          unfold Oc.val
          go_enter Try.func25, Try.ntmps25
          go_wp2_with (fail)
          go_ret
          exact ⟨by simp [h1, h2, h3], HBW.out⟩
    · have b4 : (o.tier == t) = false := by simp [h4]
      unfold Oc.val
      go_enter Try.func25, Try.ntmps25
      go_wp2_with (fail)
      go_ret
      exact ⟨by simp [h1, h4], HBW.out⟩
set_option maxHeartbeats 4000000 in
set_option maxRecDepth 100000 in
theorem filled_ok (A : Option Addr) (c : Nat) (l X : List Oc) (w : World) (hC : Oc.kd.C w A l.length l) (hc : l.length ≤ c) (hX : X = l.take 60) :
    Calls Try.prog 8 #[.slice A l.length c] w fun e w' => ∃ g v, e = .returned (.tuple #[.pointer (some ⟨g, 0, none⟩), v]) ∧ LogAt w' w.heap.size g X ∧ Oc.kd.R 49 w' w.heap.size (fun _ => True) v X ∧ Below w.heap.size w w' := by
  obtain ⟨m, hm⟩ : ∃ m : Nat, m = min l.length 60 := ⟨_, rfl⟩
  have hXl : X.length = m := by rw [hX, List.length_take, hm]; omega
  have hXl60 : X.length ≤ 60 := by omega
  obtain ⟨i0, hi, hzz⟩ := Option.map_eq_some_iff.1 (show (Try.prog.info? 26).map (fun i => i.size) = some 6 by kernel_rfl)
  have hs1 := cut_to (P := Try.prog) 22 26 .i64 Try.underlying22 hi A l.length c (m : Int) (by omega) (by omega) hc
  have hct := Kd.C_take hC (m := m) (by omega)
  rw [show l.take m = X by rw [hX, hm]; exact (List.take_eq_take_iff.2 (by omega))] at hct
  have HC := Aside0.mk hct
  have HL60 := Aside0.mk hXl60
  have HXL := Aside0.mk (show X.length = min l.length 60 by omega)
  clear hct hC hi hzz hX hs1 hXl hXl60 hm
  go_enter Try.func8, Try.ntmps8
  go_upto_region 1 with (fail)
  go_cut [0] from 7 (fun s wx => s = .slice A X.length c ∧ wx = w)
  case first =>
    go_wp2_with (fail)
    · go_meet
      case rel =>
        have := HXL.out
        exact ⟨by rw [show X.length = 60 by omega], rfl⟩
    · go_meet
      case rel =>
        have := HXL.out
        exact ⟨by rw [show X.length = l.length by omega], rfl⟩
  case rest =>
    obtain ⟨rfl, rfl⟩ := hcut
    go_wp2_with (fail)
    refine (new_ok _).mono ?_
    rintro e w1 ⟨rfl, hg, hb1⟩
    obtain ⟨base, hbase⟩ : ∃ b, b = wc.heap.size := ⟨_, rfl⟩
    rw [← hbase] at hg hb1 ⊢
    have HG := Aside0.mk hg
    have HB1 := Aside0.mk hb1
    have HBS := Aside0.mk hbase
    clear hg hb1 hbase
    go_wp2_with (fail)
    go_loopw [15] (fun i wr => ∃ k : Nat, k ≤ X.length ∧ i = .int .i64 k ∧ LogAt wr base base (X.take k) ∧ Below base wc wr) (fun i _ => X.length - (intOf i).toNat)
    case atStart => exact ⟨0, Nat.zero_le _, rfl, HG.out, HB1.out⟩
    case round =>
      obtain ⟨k, hk, rfl, hG, hb⟩ := hrel
      have HGK := Aside0.mk hG
      have HB := Aside0.mk hb
      clear hG hb
      have h60 := HL60.out
      by_cases hlt : k < X.length
      · have hlt' : (k : Int) < (X.length : Int) := by omega
        have hbw : Below wc.heap.size wc wr := by rw [← HBS.out]; exact HB.out
        have hsz := hbw.size
        have hsz2 : base ≤ wr.heap.size := by rw [HBS.out]; exact hsz
        have HBW := Aside0.mk hbw
        have HSZ := Aside0.mk hsz2
        clear hbw hsz hsz2
        obtain ⟨ad, rfl⟩ : ∃ ad, A = some ad := by
          obtain ⟨ad, h, _⟩ := HC.out.2.2 (by omega)
          exact ⟨ad, h⟩
        obtain ⟨x, hx⟩ : ∃ x, X[k]? = some x := ⟨_, List.getElem?_eq_getElem hlt⟩
        obtain ⟨e0, e1, e2, e3, e4, e5⟩ := Oc.came (Kd.C_below HC.out HBW.out) hx
        have HTK := Aside0.mk (show X.take (k + 1) = X.take k ++ [x] by rw [List.take_add_one, hx]; rfl)
        clear hx
        go_upto_region 6 with (fail)
        have hbox := Blk.new wr 26 [.int .u64 x.tk, .int .i64 x.tier, .int .i64 x.co, .int .u8 x.why, .int .i64 x.at_, .int .i64 x.so]
        have hbox : Blk (wr.alloc (.cells #[.int .u64 x.tk, .int .i64 x.tier, .int .i64 x.co, .int .u8 x.why, .int .i64 x.at_, .int .i64 x.so] 26)) wr.heap.size 26 [.int .u64 x.tk, .int .i64 x.tier, .int .i64 x.co, .int .u8 x.why, .int .i64 x.at_, .int .i64 x.so] := hbox
        have hG2 := HGK.out.below (below_alloc (Below.refl _ wr) (.cells #[.int .u64 x.tk, .int .i64 x.tier, .int .i64 x.co, .int .u8 x.why, .int .i64 x.at_, .int .i64 x.so] 26))
        have hB2 := HB.out.alloc HSZ.out (.cells #[.int .u64 x.tk, .int .i64 x.tier, .int .i64 x.co, .int .u8 x.why, .int .i64 x.at_, .int .i64 x.so] 26)
        have hS2 : base ≤ (wr.alloc (.cells #[.int .u64 x.tk, .int .i64 x.tier, .int .i64 x.co, .int .u8 x.why, .int .i64 x.at_, .int .i64 x.so] 26)).heap.size := by have := HSZ.out; rw [World.size_alloc]; omega
        obtain ⟨gq, hgq⟩ : ∃ g, g = wr.heap.size := ⟨_, rfl⟩
        rw [← hgq] at hbox ⊢
        clear hgq e0 e1 e2 e3 e4 e5
        generalize (wr.alloc (.cells #[.int .u64 x.tk, .int .i64 x.tier, .int .i64 x.co, .int .u8 x.why, .int .i64 x.at_, .int .i64 x.so] 26)) = W at *
        have x0 := hbox.cell 0 rfl
        have x1 := hbox.cell 1 rfl
        have x2 := hbox.cell 2 rfl
        have x3 := hbox.cell 3 rfl
        have x4 := hbox.cell 4 rfl
        have x5 := hbox.cell 5 rfl
        have HG2 := Aside0.mk hG2
        have HB2 := Aside0.mk hB2
        have HS2 := Aside0.mk hS2
        clear hG2 hB2 hbox hS2
        go_wp2_with (fail)
        refine (add_ok base base (X.take k) x wc _ HG2.out HB2.out HS2.out (by have := HL60.out; rw [List.length_take]; omega)).mono ?_
        rintro e w5 ⟨rfl, hG5, hB5⟩
        have HG5 := Aside0.mk hG5
        have HB5 := Aside0.mk hB5
        clear hG5 hB5
        go_wp2_with (fail)
        exact ⟨⟨k + 1, by omega, by go_num, by rw [HTK.out]; exact HG5.out, HB5.out⟩, by simp [intOf]; omega⟩
      · obtain rfl : k = X.length := by omega
        have hG := HGK.out
        rw [List.take_length] at hG
        have hbw : Below wc.heap.size wc wr := by rw [← HBS.out]; exact HB.out
        have HG := Aside0.mk hG
        have HBW := Aside0.mk hbw
        have HSZ := Aside0.mk hbw.size
        clear hG hbw
        go_wp2_with (fail)
        refine (own_ok A c X _ (Kd.C_below HC.out HBW.out) (by have := HL60.out; omega)).mono ?_
        rintro e w6 ⟨v6, rfl, hR6, hb6⟩
        have HR6 := Aside0.mk hR6
        have HB6 := Aside0.mk hb6
        clear hR6 hb6
        go_wp2_with (fail)
        refine bodyPost_ret (results_tmp2 rfl _ _ _) rfl ?_
        refine ⟨base, v6, rfl, ?_, ?_, ?_⟩
        · rw [← HBS.out]; exact HG.out.below HB6.out
        · exact Kd.R_lower HR6.out HSZ.out
        · exact below_step HBW.out HB6.out
end Go.Proofs.Ytfnnoecdpolbfaa.Z

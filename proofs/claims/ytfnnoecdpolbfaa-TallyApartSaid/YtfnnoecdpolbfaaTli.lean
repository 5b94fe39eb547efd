/- The iterator over a log. -/
import Derived.Test.YtfnnoecdpolbfaaTlo
import Derived.RangeFuncNested
import Derived.RangeFuncBound
import Derived.RangeFuncCalls
import Derived.RangeFuncLeaves
import Derived.Shelf.Abstract
import Derived.Shelf.RegionOpen
import Derived.WalkKit
import Derived.OwnWalkIn
import Derived.TacticsInMore
import Derived.LoopNIn
import Derived.LoopIn
import Derived.Maps.AppendAt
namespace Go.Proofs.Ytfnnoecdpolbfaa.Z
open Go.RowKit Go.Shelf Go.Proofs.YtfnnoecdpolbfaaW.PrintWords Go.Proofs.YtfnnoecdpolbfaaW.PrintLast Go.Proofs.YtfnnoecdpolbfaaW.PrintMore
attribute [local go_sem] Oper.semAt_some
set_option linter.unusedVariables false
set_option linter.unusedSimpArgs false
theorem tail0_ok (g : Nat) (A : Option Addr) (n c : Nat) (w : World) (h1 : Blk w g 58 [.slice A n c]) : Calls Try.prog 28 #[.pointer (some ⟨g, 0, none⟩), .int .i64 0] w fun e w' => e = .returned (.slice A n c) ∧ w = w' := by
  have c0 := h1.cell 0 rfl
  obtain ⟨i0, hi, hzz⟩ := Option.map_eq_some_iff.1 (show (Try.prog.info? 26).map (fun i => i.size) = some 6 by kernel_rfl)
  have hs1 := cut_from (P := Try.prog) 22 26 .i64 Try.underlying22 hi 6 hzz A n c (0 : Int) (by omega) (by omega)
  have e : (if c = (0 : Int).toNat then A else A.map (·.add ((0 : Int).toNat * 6))) = A := by
    split
    · rfl
    · cases A <;> simp [Addr.add]
  rw [e] at hs1
  simp only [Int.toNat_zero, Nat.sub_zero] at hs1
  clear hi hzz e
  go_enter Try.func28, Try.ntmps28
  go_wp2
  go_ret
  exact ⟨rfl, rfl⟩
/-- Whatever lay below n₀ lies as it lay, but for one block. -/
structure BX (n₀ : Nat) (nx : Nat → Prop) (w W : World) : Prop where
  size : w.heap.size ≤ W.heap.size
  block : ∀ b, b < n₀ → ¬ nx b → W.heap[b]? = w.heap[b]?
theorem BX.refl (n₀ : Nat) (nx : Nat → Prop) (w : World) : BX n₀ nx w w := ⟨Nat.le_refl _, fun _ _ _ => rfl⟩
theorem BX.trans {n₀ : Nat} {nx : Nat → Prop} {w W V : World} (h : BX n₀ nx w W) (k : BX n₀ nx W V) : BX n₀ nx w V := ⟨Nat.le_trans h.size k.size, fun b h1 h2 => (k.block b h1 h2).trans (h.block b h1 h2)⟩
theorem BX.of_below {n₀ : Nat} {nx : Nat → Prop} {w W : World} (h : Below n₀ w W) : BX n₀ nx w W := ⟨h.size, fun b h1 _ => h.block b h1⟩
theorem Blk.bx {n₀ : Nat} {nx : Nat → Prop} {w w1 : World} {b T : Nat} {l : List Value} (h : Blk w b T l) (hb : BX n₀ nx w w1) (hl : b < n₀ ∧ ¬ nx b) : Blk w1 b T l := (hb.block b hl.1 hl.2).trans h
/-- Of a why. -/
def ofWhy (y : Int) (l : List Oc) : List Oc := l.filter fun o => isB o (-1) y
theorem ofWhy_snoc (y : Int) (l : List Oc) (k : Nat) (x : Oc) (h : l[k]? = some x) : ofWhy y (l.take (k + 1)) = ofWhy y (l.take k) ++ if isB x (-1) y then [x] else [] := by
  unfold ofWhy
  rw [List.take_add_one, h, List.filter_append]
  congr 1
  show List.filter _ [x] = _
  by_cases hb : isB x (-1) y <;> simp [List.filter, hb]
theorem ofWhy_take (y : Int) (l : List Oc) (k : Nat) : ofWhy y (l.take k) <+: ofWhy y l := (List.take_prefix k l).filter _
set_option maxHeartbeats 8000000 in
set_option maxRecDepth 100000 in
theorem all1_in (n : Nat) (hn : 3 ≤ n) (lp b1 b2 n₀ : Nat) (nx : Nat → Prop) (g : Nat) (A : Option Addr) (c : Nat) (l : List Oc) (y : Int) (hl : l.length ≤ 1000) (J Jx : List Oc → World → Prop)
    (hJ : ∀ pre U V, J pre U → U.grownBy V none → J pre V)
    (hY : ∀ (pre : List Oc) (x : Oc) (W : World), x ∈ l → J pre W → pre.length < (ofWhy y l).length → YieldAt Fence.wide (n - 1) Try.prog lp #[x.val] W fun e W' =>
      (e = .returned (.bool true) ∧ J (pre ++ [x]) W' ∧ BX n₀ nx W W') ∨ (e = .returned (.bool false) ∧ Jx (pre ++ [x]) W'))
    (W : World) (hn0 : n₀ ≤ W.heap.size) (hg : Blk W g 58 [.slice A l.length c]) (hC : ∀ V, BX n₀ nx W V → Oc.kd.C V A l.length l) (hB1 : Blk W b1 27 [.pointer (some ⟨g, 0, none⟩)]) (hB2 : Blk W b2 5 [.int .u8 y])
    (k1 : b1 < n₀ ∧ ¬ nx b1) (k2 : b2 < n₀ ∧ ¬ nx b2) (h0 : J [] W) :
    CallsIn Fence.wide n Try.prog 29 #[.func (.yield lp) #[] #[], .pointer (some ⟨b1, 0, none⟩), .pointer (some ⟨b2, 0, none⟩)] W fun e W' => (∃ v, e = .returned v) ∧
      ((∃ ys, ys = ofWhy y l ∧ J ys W') ∨ (∃ pre, pre <+: ofWhy y l ∧ Jx pre W')) := by
  have c1 := hB1.cell 0 rfl
  have HG := Aside0.mk hg
  have HC := Aside0.mk hC
  have HB2 := Aside0.mk hB2
  have HJ := Aside0.mk hJ
  have HY := Aside0.mk hY
  clear hg hC hB2 hJ hY
  refine callsIn_of_wp Try.func29 rfl trivial ?_ rfl
  simp only [Try.ntmps29, List.size_toArray, List.length_cons, List.length_nil, Nat.reduceAdd, Nat.reduceSub, Array.replicate_succ, Array.replicate_zero, List.push_toArray, List.append_toArray, List.nil_append, List.cons_append]
  gi_wp2_with (fail)
  refine ⟨trivial, (fun h => by cases h), ?_⟩
  refine (callsIn_wide.2 (tail0_ok g A l.length c _ HG.out)).mono ?_
  rintro e w' ⟨rfl, rfl⟩
  gi_wp2_with (fail)
  gi_loopw [9] (fun i wr => ∃ k : Nat, k ≤ l.length ∧ i = .int .i64 k ∧ J (ofWhy y (l.take k)) wr ∧ BX n₀ nx W wr) (fun i _ => l.length - (intOf i).toNat)
  case atStart => exact ⟨0, Nat.zero_le _, rfl, h0, BX.refl _ _ _⟩
  case round =>
    obtain ⟨k, hk, rfl, hJ1, hb1⟩ := hrel
    by_cases hlt : k < l.length
    · have hlt' : (k : Int) < (l.length : Int) := by omega
      obtain ⟨ad, rfl⟩ : ∃ ad, A = some ad := by
        obtain ⟨ad, h, _⟩ := (HC.out W (BX.refl _ _ _)).2.2 (by omega)
        exact ⟨ad, h⟩
      obtain ⟨x, hx⟩ : ∃ x, l[k]? = some x := ⟨_, List.getElem?_eq_getElem hlt⟩
      obtain ⟨e0, e1, e2, e3, e4, e5⟩ := Oc.came (HC.out wr hb1) hx
      have HX := Aside0.mk hx
      have HJ1 := Aside0.mk hJ1
      have HB1 := Aside0.mk hb1
      have hal := below_alloc (Below.refl _ wr) (.cells #[.int .u64 x.tk, .int .i64 x.tier, .int .i64 x.co, .int .u8 x.why, .int .i64 x.at_, .int .i64 x.so] 26)
      have hsz : n₀ ≤ wr.heap.size := Nat.le_trans hn0 hb1.size
      have r2 := ((HB2.out.bx hb1 k2).alloc (.cells #[.int .u64 x.tk, .int .i64 x.tier, .int .i64 x.co, .int .u8 x.why, .int .i64 x.at_, .int .i64 x.so] 26)).cell 0 rfl
      have hbox := Blk.new wr 26 [.int .u64 x.tk, .int .i64 x.tier, .int .i64 x.co, .int .u8 x.why, .int .i64 x.at_, .int .i64 x.so]
      have hbox : Blk (wr.alloc (.cells #[.int .u64 x.tk, .int .i64 x.tier, .int .i64 x.co, .int .u8 x.why, .int .i64 x.at_, .int .i64 x.so] 26)) wr.heap.size 26 [.int .u64 x.tk, .int .i64 x.tier, .int .i64 x.co, .int .u8 x.why, .int .i64 x.at_, .int .i64 x.so] := hbox
      have HAL := Aside0.mk hal
      have HBOX := Aside0.mk hbox
      have HSZ := Aside0.mk hsz
      clear hx hJ1 hb1 hal hbox hsz
      gi_wp2_with (fail)
      refine ⟨trivial, (fun h => by cases h), ?_⟩
      refine (callsIn_wide.2 (is_ok x (-1) y _)).mono ?_
      rintro e w5 ⟨rfl, hb5⟩
      have hbw : Below wr.heap.size wr w5 := below_step HAL.out hb5
      have hJ5 := HJ.out _ _ _ HJ1.out (grown_of_below hbw none)
      have hbx5 : BX n₀ nx W w5 := HB1.out.trans ⟨hbw.size, fun b h1 _ => hbw.block b (by have := HSZ.out; omega)⟩
      have hbox := HBOX.out.below hb5
      have x0 := hbox.cell 0 rfl
      have x1 := hbox.cell 1 rfl
      have x2 := hbox.cell 2 rfl
      have x3 := hbox.cell 3 rfl
      have x4 := hbox.cell 4 rfl
      have x5 := hbox.cell 5 rfl
      have HJ5 := Aside0.mk hJ5
      have HBX5 := Aside0.mk hbx5
      have hsn := ofWhy_snoc y l k x HX.out
      clear hbw hJ5 hbx5 hbox hb5 e0 e1 e2 e3 e4 e5 r2
      cases hb : isB x (-1) y with
      | false =>
        rw [hb, if_neg (by simp), List.append_nil] at hsn
        have HSN := Aside0.mk hsn
        clear hsn hb
        gi_wp2_with (fail)
        refine ⟨(fun _ h => (by cases h)), ?_⟩
        gi_wp2_with (fail)
        go_roundw
        case rel => exact ⟨k + 1, by omega, by go_num, by rw [HSN.out]; exact HJ5.out, HBX5.out⟩
        case measure => simp [intOf]; omega
      | true =>
        rw [hb, if_pos rfl] at hsn
        have hpl : (ofWhy y (l.take k)).length < (ofWhy y l).length := by
          have h1 := (ofWhy_take y l (k + 1)).length_le
          rw [hsn, List.length_append] at h1
          simp at h1
          omega
        obtain ⟨fn, tmps, assign, body, hy, hR⟩ := HY.out (ofWhy y (l.take k)) x w5 (List.mem_of_getElem? HX.out) HJ5.out hpl
        rw [← hsn] at hR
        unfold Oc.val at hy
        clear hsn hb hpl
        gi_wp2_with (fail)
        refine ⟨(fun h => by cases h), hR.mono ?_⟩
        rintro e W3 (⟨rfl, hJ3, hk3⟩ | ⟨rfl, hJx3⟩)
        · have hb3 := HBX5.out.trans hk3
          gi_wp2_with (fail)
          go_roundw
          case rel => exact ⟨k + 1, by omega, by go_num, hJ3, hb3⟩
          case measure => simp [intOf]; omega
        · gi_wp2_with (fail)
          refine bodyPost_ret (results_none rfl _ _ _) rfl ?_
          exact ⟨⟨_, rfl⟩, .inr ⟨ofWhy y (l.take (k + 1)), ofWhy_take _ _ _, hJx3⟩⟩
    · obtain rfl : k = l.length := by omega
      rw [List.take_length] at hJ1
      gi_wp2_with (fail)
      go_end0
      exact ⟨⟨_, rfl⟩, .inl ⟨_, rfl, hJ1⟩⟩
end Go.Proofs.Ytfnnoecdpolbfaa.Z

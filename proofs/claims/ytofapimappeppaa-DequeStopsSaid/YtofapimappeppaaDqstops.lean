/- DequeStops. -/
import Derived.Test.YtofapimappeppaaDqc
import Derived.StillTailTactics
import Derived.ControlIn
namespace Go.Proofs.Ytofapimappeppaa.Z
open Go.RowKit Go.Shelf Go.Proofs.YtofapimappeppaaW.PrintWords Go.Proofs.YtofapimappeppaaW.PrintLast Go.Proofs.YtofapimappeppaaW.PrintMore
attribute [local go_sem] Oper.semAt_some max2_int min2_int max_two min_two max_three min_three max_four min_four
set_option linter.unusedVariables false
set_option linter.unusedSimpArgs false
theorem all_any_lo (pt : Option Addr) (row : Int) (back : Bool) (w : World) :
    Calls Try.prog 11 #[.pointer pt, .int .i64 row, .bool back] w fun e w' => ∃ b1 b2 b3, e = .returned (.func (.func 28) #[] #[.pointer (some ⟨b1, 0, none⟩), .pointer (some ⟨b2, 0, none⟩), .pointer (some ⟨b3, 0, none⟩)]) ∧
      Below w.heap.size w w' ∧ (Blk w' b1 23 [.pointer pt] ∧ Blk w' b2 3 [.int .i64 row] ∧ Blk w' b3 4 [.bool back]) ∧ w.heap.size ≤ b1 ∧ w.heap.size ≤ b2 ∧ w.heap.size ≤ b3 := by
  go_enter Try.func11, Try.ntmps11
  go_wp2
  go_ret
  have hb : Below w.heap.size w (((w.alloc (.cells #[.pointer pt] 23)).alloc (.cells #[.int .i64 row] 3)).alloc (.cells #[.bool back] 4)) :=
    (((Below.refl _ w).alloc (Nat.le_refl _) _).alloc (by simp) _).alloc (by simp; omega) _
  have e1 := Blk.new w 23 [.pointer pt]
  have e2 := Blk.new (w.alloc (.cells #[.pointer pt] 23)) 3 [.int .i64 row]
  have e3 := Blk.new ((w.alloc (.cells #[.pointer pt] 23)).alloc (.cells #[.int .i64 row] 3)) 4 [.bool back]
  simp only [World.size_alloc] at e2 e3
  exact ⟨_, _, _, rfl, hb, ⟨(e1.alloc _).alloc _, e2.alloc _, e3⟩, Nat.le_refl _, by omega, by omega⟩
theorem ownFrom_bx {β : Type} {n₀ nx B : Nat} {w₀ : World} (hn : n₀ ≤ B) (h0 : n₀ ≤ w₀.heap.size) : OwnFrom B (fun (_ : β) W => BX n₀ nx w₀ W) := fun s W W' row hs hg hr =>
  hs.trans ⟨hg.size, fun b h1 h2 => hg.block b (by have := hs.size; omega) (fun e => by have := (hr b e.symm).1; omega)⟩
theorem bx_b {n₀ nx : Nat} {w : World} (hn : n₀ ≤ w.heap.size) (W : World) (l : Nat) (o o' : Obj) (hl : w.heap.size ≤ l) (h : W.heap[l]? = some o) (k1 : o.isCells = false) (k2 : o.isWalk = false) : BX n₀ nx W (W.putObj l o') :=
  BX.of_below (belowK_b hn W l o o' hl h k1 k2)
theorem bx_t {n₀ nx : Nat} {A B C : World} (h : BX n₀ nx A B) (k : BX n₀ nx B C) : BX n₀ nx A C := h.trans k
theorem bx_set {n₀ nx : Nat} {A B : World} (h : BX n₀ nx A B) (v : Value) : BX n₀ nx A (B.setCell ⟨nx, 0, none⟩ v) := h.trans ⟨by simp [World.setCell], fun b _ h2 => Below.heap_setCell B _ v b h2⟩
set_option maxHeartbeats 8000000 in
set_option maxRecDepth 100000 in
theorem stops_in (n : Nat) (hn : 4 ≤ n) (N stop : Int) (back : Bool) (w : World) (hN : 0 ≤ N ∧ N < 256) (hS : 0 ≤ stop ∧ stop < 256) : CallsIn Fence.wide n Try.prog 3 #[.int .u8 N, .int .u8 stop, .bool back] w fun e w' => e = .returned (.bool true) ∧ Below w.heap.size w w' := by
  have h1 : 1 ≤ n := by omega
  refine callsIn_of_wp_marks Try.func3 rfl trivial ?_ rfl
  simp only [Try.ntmps3, List.size_toArray, List.length_cons, List.length_nil, Nat.reduceAdd, Nat.reduceSub, Array.replicate_succ, Array.replicate_zero, List.push_toArray, List.append_toArray, List.nil_append, List.cons_append]
  gi_wp2_with (fail)
  refine ⟨trivial, ?_⟩
  have e1 := Blk.new w 5 [.int .u8 stop]
  have e2 := Blk.new (w.alloc (.cells #[.int .u8 stop] 5)) 4 [.bool back]
  have e3 := Blk.new ((w.alloc (.cells #[.int .u8 stop] 5)).alloc (.cells #[.bool back] 4)) 4 [.bool false]
  simp only [World.size_alloc] at e2 e3
  have e1 : Blk (((w.alloc (.cells #[.int .u8 stop] 5)).alloc (.cells #[.bool back] 4)).alloc (.cells #[.bool false] 4)) _ _ _ := (e1.alloc _).alloc _
  have e2 : Blk (((w.alloc (.cells #[.int .u8 stop] 5)).alloc (.cells #[.bool back] 4)).alloc (.cells #[.bool false] 4)) _ _ _ := e2.alloc _
  have e3 : Blk (((w.alloc (.cells #[.int .u8 stop] 5)).alloc (.cells #[.bool back] 4)).alloc (.cells #[.bool false] 4)) _ _ _ := e3
  have hb0 : Below w.heap.size w (((w.alloc (.cells #[.int .u8 stop] 5)).alloc (.cells #[.bool back] 4)).alloc (.cells #[.bool false] 4)) := (((Below.refl _ w).alloc (Nat.le_refl _) _).alloc (by simp) _).alloc (by simp; omega) _
  generalize (((w.alloc (.cells #[.int .u8 stop] 5)).alloc (.cells #[.bool back] 4)).alloc (.cells #[.bool false] 4)) = w1 at *
  obtain ⟨q4, hq4⟩ : ∃ q, q = w.heap.size := ⟨_, rfl⟩
  obtain ⟨q5, hq5⟩ : ∃ q, q = w.heap.size + 1 := ⟨_, rfl⟩
  obtain ⟨q6, hq6⟩ : ∃ q, q = w.heap.size + 1 + 1 := ⟨_, rfl⟩
  rw [← hq4] at e1
  rw [← hq5] at e2
  rw [← hq6] at e3
  rw [← hq6, ← hq5, ← hq4]
  rw [← hq4] at hb0
  have n1 : q4 ≠ q5 := by omega
  have n2 : q4 ≠ q6 := by omega
  have n3 : q5 ≠ q6 := by omega
  have y5 : q4 ≤ q5 := by omega
  have y6 : q4 ≤ q6 := by omega
  have y0 : q4 ≤ w.heap.size := by omega
  have HQ := Aside0.mk hq4
  clear hq4 hq5 hq6
  have HB0 := Aside0.mk hb0
  clear hb0
  refine (callsIn_wide.2 (dawake_ok _)).mono ?_
  rintro e w2 ⟨rfl, hb⟩
  have e1 := e1.below hb
  have e2 := e2.below hb
  have e3 := e3.below hb
  have HB1 := Aside0.mk (HB0.out.trans (hb.mono (Nat.le_trans y0 HB0.out.size)))
  clear hb HB0
  obtain ⟨k, hk⟩ : ∃ k : Nat, N % 30 = (k : Int) := ⟨(N % 30).toNat, by omega⟩
  have hk30 : k < 30 := by omega
  gi_wp2_with (fail)
  refine ⟨trivial, ?_⟩
  rw [hk]
  have l1 := e1.lt
  have l2 := e2.lt
  have l3 := e3.lt
  have e4 := Blk.new w2 3 [.int .i64 k]
  have e1 := e1.alloc (.cells #[.int .i64 k] 3)
  have e2 := e2.alloc (.cells #[.int .i64 k] 3)
  have e3 := e3.alloc (.cells #[.int .i64 k] 3)
  have hb2 := HB1.out.alloc (Nat.le_trans y0 HB1.out.size) (.cells #[.int .i64 k] 3)
  obtain ⟨q7, hq7⟩ : ∃ q, q = w2.heap.size := ⟨_, rfl⟩
  rw [← hq7] at e4
  rw [← hq7]
  have y7 : q4 ≤ q7 := by have := HB1.out.size; omega
  have n4 : q4 ≠ q7 := by omega
  have n5 : q5 ≠ q7 := by omega
  have n6 : q6 ≠ q7 := by omega
  have hszA : q7 + 1 = (w2.alloc (.cells #[.int .i64 (k : Int)] 3)).heap.size := by rw [World.size_alloc]; omega
  generalize (w2.alloc (.cells #[.int .i64 (k : Int)] 3)) = w3 at *
  clear hq7 hk
  refine (callsIn_wide.2 (dnew_ok 1 40 (by omega) (by omega) (by omega) (by omega) _)).mono ?_
  rintro e w4 ⟨g, br, bl, rfl, hd, hg, hbr, hbl, hb⟩
  have l1 := e1.lt
  have l2 := e2.lt
  have l3 := e3.lt
  have l4 := e4.lt
  have g1 : g ≠ q4 ∧ g ≠ q5 ∧ g ≠ q6 ∧ g ≠ q7 := ⟨by omega, by omega, by omega, by omega⟩
  have g2 : br ≠ q4 ∧ br ≠ q5 ∧ br ≠ q6 ∧ br ≠ q7 := ⟨by omega, by omega, by omega, by omega⟩
  have g3 : bl ≠ q4 ∧ bl ≠ q5 ∧ bl ≠ q6 ∧ bl ≠ q7 := ⟨by omega, by omega, by omega, by omega⟩
  have g4 : q4 ≤ g ∧ q4 ≤ br ∧ q4 ≤ bl := ⟨by omega, by omega, by omega⟩
  have e1 := e1.below hb
  have e2 := e2.below hb
  have e3 := e3.below hb
  have e4 := e4.below hb
  have HB4 := Aside0.mk (hb2.trans (hb.mono (Nat.le_trans y0 hb2.size)))
  have HD := Aside0.mk hd
  have HR := Aside0.mk (DR.new 1 40 (by omega))
  have hnil : (0 : Nat) ≤ k := Nat.zero_le _
  clear hb hb2 HB1 hd hg hbr hbl hszA l1 l2 l3 l4
  have c7 := e4.cell 0 rfl
  gi_wp2_with (fail)
  clear c7
  gi_loopw [24] (fun i wr => ∃ (j : Nat) (d : Dq), j ≤ k ∧ i = .int .i64 j ∧ DqAt wr g br bl d ∧ DR d [List.range j] ∧ d.links.length = 40 ∧ Kp [br, bl] w4 wr) (fun i _ => k - (intOf i).toNat)
  case atStart => exact ⟨0, _, Nat.zero_le _, rfl, HD.out, HR.out, by simp, Kp.refl _ _⟩
  case round =>
    obtain ⟨j, d, hjk, rfl, hd, hdr, hdl, hkp⟩ := hrel
    by_cases hlt : j < k
    · have hlt' : (j : Int) < (k : Int) := by omega
      have HDJ := Aside0.mk hd
      have HDR := Aside0.mk hdr
      have HKP := Aside0.mk hkp
      have HDL := Aside0.mk hdl
      clear hd hdr hkp hdl
      gi_wp2_with (fail)
      refine ⟨trivial, ?_⟩
      refine (callsIn_wide.2 (push_dr 0 j g br bl d _ (List.range j) _ HDJ.out HDR.out rfl (by rw [HDL.out]; omega) (fun r' l' hl' hm => by
        match r', hl' with
        | 0, hl' => injection hl' with hl'; rw [← hl', List.mem_range] at hm; omega
        | r + 1, hl' => simp at hl'))).mono ?_
      rintro e w5 ⟨rfl, d', hd5, hdr5, hl5, hk5⟩
      have HDJ := Aside0.mk hd5
      have HDR := Aside0.mk hdr5
      have HKP := Aside0.mk (HKP.out.trans hk5)
      have HDL := Aside0.mk (hl5.trans HDL.out)
      clear hd5 hdr5 hl5 hk5
      gi_wp2_with (fail)
      go_roundw
      case rel => exact ⟨j + 1, d', by omega, by go_num, HDJ.out, by have := HDR.out; rw [List.range_succ]; exact this, HDL.out, HKP.out⟩
      case measure => simp [intOf]; omega
    · obtain rfl : j = k := by omega
      have f1 := hkp.blk e1 (by simp; omega)
      have f2 := hkp.blk e2 (by simp; omega)
      have f3 := hkp.blk e3 (by simp; omega)
      have f4 := hkp.blk e4 (by simp; omega)
      have HB5 := Aside0.mk (kp2_to hkp HB4.out g4.2.1 g4.2.2 (Nat.le_trans y0 HB4.out.size))
      have HDJ := Aside0.mk hd
      have HDR := Aside0.mk hdr
      clear hd hdr hdl hkp e1 e2 e3 e4 HD HR
      have c5 : (wr.alloc (.cells #[.int .i64 0] 3)).cell? ⟨q5, 0, none⟩ = some (.bool back) := (f2.alloc _).cell 0 rfl
      gi_wp2_with (fail)
      refine ⟨trivial, ?_⟩
      have l1 := f1.lt
      have l2 := f2.lt
      have l3 := f3.lt
      have l4 := f4.lt
      have l5 := HDJ.out.head.lt
      have l6 := HDJ.out.rows.lt
      have l7 := HDJ.out.links.lt
      have f5 := Blk.new wr 3 [.int .i64 0]
      have f1 := f1.alloc (.cells #[.int .i64 0] 3)
      have f2 := f2.alloc (.cells #[.int .i64 0] 3)
      have f3 := f3.alloc (.cells #[.int .i64 0] 3)
      have f4 := f4.alloc (.cells #[.int .i64 0] 3)
      have hb5 := HB5.out.alloc (Nat.le_trans y0 HB5.out.size) (.cells #[.int .i64 0] 3)
      have HDJ := Aside0.mk (HDJ.out.below (below_alloc (Below.refl _ _) (.cells #[.int .i64 0] 3)))
      obtain ⟨q8, hq8⟩ : ∃ q, q = wr.heap.size := ⟨_, rfl⟩
      rw [← hq8] at f5
      rw [← hq8]
      have n7 : q4 ≠ q8 ∧ q5 ≠ q8 ∧ q6 ≠ q8 ∧ q7 ≠ q8 ∧ g ≠ q8 ∧ br ≠ q8 ∧ bl ≠ q8 := ⟨by omega, by omega, by omega, by omega, by omega, by omega, by omega⟩
      have y8 : q4 ≤ q8 := by have := HB5.out.size; omega
      clear hq8 l1 l2 l3 l4 l5 l6 l7 HB5 HB4 c5
      generalize (wr.alloc (.cells #[.int .i64 0] 3)) = w5 at *
      refine (callsIn_wide.2 (all_any_lo (some ⟨g, 0, none⟩) 0 back _)).mono ?_
      rintro e w6 ⟨b1, b2, b3, rfl, hb, ⟨hB1, hB2, hB3⟩, m1, m2, m3⟩
      have l8 := f5.lt
      have n8 : b1 ≠ q8 ∧ b2 ≠ q8 ∧ b3 ≠ q8 := ⟨by omega, by omega, by omega⟩
      have f1 := f1.below hb
      have f2 := f2.below hb
      have f3 := f3.below hb
      have f4 := f4.below hb
      have f5 := f5.below hb
      have HDJ := Aside0.mk (HDJ.out.below hb)
      have hB6 := hb5.trans (hb.mono (Nat.le_trans y0 hb5.size))
      clear hb hb5 m1 m2 m3 l8
      obtain ⟨lst, hlst⟩ : ∃ l, l = if back then (List.range j).reverse else List.range j := ⟨_, rfl⟩
      have hsq := HDR.out.seq (r := 0) rfl back
      rw [← hlst] at hsq
      have hll : lst.length = j := by rw [hlst]; cases back <;> simp
      obtain ⟨S, hS'⟩ : ∃ S : Nat, stop % 40 = (S : Int) := ⟨(stop % 40).toNat, by omega⟩
      have hS40 : S < 40 := by omega
      have hw1 : IntKind.i64.wrap (stop.tmod 40) = (S : Int) := by
        rw [Int.tmod_eq_emod_of_nonneg hS.1, hS']
        exact IntWalk.i64_in _ (by omega)
      have hw2 : IntKind.i64.wrap ((S : Int) + 1) = (S : Int) + 1 := by
        exact IntWalk.i64_in _ (by omega)
      have HW1 := Aside0.mk (And.intro hw1 hw2)
      clear hw1 hw2
      have HSQ := Aside0.mk hsq
      have HB6 := Aside0.mk hB6
      have HLST := Aside0.mk hlst
      clear hsq hlst
      gi_wp2_with (fail)
      apply wpIn_rangeFunc_ownG rfl h1 (gf := 28) (lb := #[.pointer (some ⟨b1, 0, none⟩), .pointer (some ⟨b2, 0, none⟩), .pointer (some ⟨b3, 0, none⟩)]) rfl trivial (enters_of Try.func28 (by kernel_rfl) rfl)
        (seq_stopsX (n - 1) (by omega) q8 b1 b2 b3 g br bl d 0 back lst w6 HSQ.out HDJ.out hB1 hB2 hB3 n8.1 n8.2.1 n8.2.2 n7.2.2.2.2.1 n7.2.2.2.2.2.1 n7.2.2.2.2.2.2) bx_t (bx_b (Nat.le_refl _)) (Below.refl _ _) (fun _ => rfl)
        (fun pre W => (pre.length ≤ S ∧ Boxed W q8 3 (.int .i64 (pre.length : Int))) ∧ BX w6.heap.size q8 w6 W ∧ Below q4 w W)
        (fun c pre W => (c = .ret ∧ ∃ p x, pre = p ++ [x] ∧ lst[p.length]? ≠ some x) ∨ (c = .exit 2 ∧ (pre.length = S + 1 ∧ Boxed W q8 3 (.int .i64 (pre.length : Int))) ∧ BX w6.heap.size q8 w6 W ∧ Below q4 w W))
      case hI => exact OwnFrom.and (OwnFrom.and (ownFrom_pure _ (fun pre : List Nat => pre.length ≤ S)) (Own.from (boxed_own q8 3 (fun pre : List Nat => .int .i64 (pre.length : Int))) _)) (OwnFrom.and (ownFrom_bx (Nat.le_refl _) (Nat.le_refl _)) (ownFrom_below y0 (Nat.le_trans y0 hB6.size)))
      case hIx =>
        intro c s X Y row hs hg hr
        rcases hs with h | ⟨h, ⟨h2, h3⟩, h4, h5⟩
        · exact .inl h
        · exact .inr ⟨h, ⟨h2, (Own.from (boxed_own q8 3 (fun pre : List Nat => .int .i64 (pre.length : Int))) _) s X Y row h3 hg hr⟩, (ownFrom_bx (Nat.le_refl _) (Nat.le_refl _)) s X Y row h4 hg hr, (ownFrom_below y0 (Nat.le_trans y0 hB6.size)) s X Y row h5 hg hr⟩
      case h0 => exact ⟨⟨Nat.zero_le _, f5⟩, BX.refl _ _ _, hB6⟩
      case hassign =>
        intro l x W K hK
        gi_wp2
        exact hK
      case hbody =>
        rintro l pre x W ⟨⟨hp, hbx⟩, hbK, hB⟩ hlt2
        have c8 := hbx.cell
        have z8 := hbx.frozen
        have c4 := (f1.bx hbK ⟨f1.lt, n7.1⟩).cell 0 rfl
        have c5 := (f2.bx hbK ⟨f2.lt, n7.2.1⟩).cell 0 rfl
        have k6 := (f3.bx hbK ⟨f3.lt, n7.2.2.1⟩)
        have c6 := k6.cell 0 rfl
        have z6 := k6.frozen 0
        have c7 := (f4.bx hbK ⟨f4.lt, n7.2.2.2.1⟩).cell 0 rfl
        rw [hll] at hlt2
        have HW := Aside0.mk (And.intro hbx (And.intro hbK hB))
        have k1 : (pre.length : Int) < (j : Int) := by omega
        clear hbx hbK hB k6 f1 f2 f3 f4 f5 hB1 hB2 hB3 hB6
        have bxs : ∀ v : Value, BX w6.heap.size q8 W (W.setCell ⟨q8, 0, none⟩ v) := fun v => bx_set (BX.refl _ _ _) v
        have hlen : (pre ++ [x]).length = pre.length + 1 := by simp
        have done_ : KeepsFrom w6.heap.size W (W.setCell ⟨q8, 0, none⟩ (.int .i64 ((pre.length : Int) + 1))) ∧ Boxed (W.setCell ⟨q8, 0, none⟩ (.int .i64 ((pre.length : Int) + 1))) q8 3 (.int .i64 ((pre ++ [x]).length : Int)) ∧ BX w6.heap.size q8 w6 (W.setCell ⟨q8, 0, none⟩ (.int .i64 ((pre.length : Int) + 1))) ∧ Below q4 w (W.setCell ⟨q8, 0, none⟩ (.int .i64 ((pre.length : Int) + 1))) :=
          ⟨(KeepsOthers.setCell _ _ _).from _, by rw [hlen]; push_cast; exact HW.out.1.set _, HW.out.2.1.trans (bxs _), HW.out.2.2.setCell (p := ⟨q8, 0, none⟩) y8 _⟩
        have DN := Aside0.mk done_
        clear done_ bxs
        cases back
        · have hL : lst = List.range j := HLST.out
          have hexp : lst[pre.length]? = some pre.length := by rw [hL, List.getElem?_range (by omega)]
          have HE := Aside0.mk hexp
          clear hexp hL
          by_cases hx : (x : Int) = (pre.length : Int)
          · have hxx : ((x : Int) != (pre.length : Int)) = false := by rw [hx]; simp
            by_cases hm : (S : Int) < (pre.length : Int) + 1
            · gi_wp2_with (fail)
              exact ⟨DN.out.1, .inr ⟨rfl, ⟨by rw [hlen]; omega, DN.out.2.1⟩, DN.out.2.2.1, DN.out.2.2.2⟩⟩
            · gi_wp2_with (fail)
              exact ⟨DN.out.1, bx_set (BX.refl _ _ _) _, ⟨by rw [hlen]; omega, DN.out.2.1⟩, DN.out.2.2.1, DN.out.2.2.2⟩
          · have hxx : ((x : Int) != (pre.length : Int)) = true := by rw [bne_iff_ne]; exact hx
            gi_wp2_with (fail)
            exact ⟨(KeepsOthers.setCell _ _ _).from _, .inl ⟨rfl, pre, x, rfl, by rw [HE.out]; intro h; injection h with h; omega⟩⟩
        · have hL : lst = (List.range j).reverse := HLST.out
          have hexp : lst[pre.length]? = some (j - 1 - pre.length) := by rw [hL, List.getElem?_reverse (by simpa using hlt2), List.getElem?_range (by simp; omega)]; simp
          have HE := Aside0.mk hexp
          clear hexp hL
          by_cases hx : (x : Int) = (j : Int) - 1 - (pre.length : Int)
          · have hxx : ((x : Int) != (j : Int) - 1 - (pre.length : Int)) = false := by rw [hx]; simp
            by_cases hm : (S : Int) < (pre.length : Int) + 1
            · gi_wp2_with (fail)
              exact ⟨DN.out.1, .inr ⟨rfl, ⟨by rw [hlen]; omega, DN.out.2.1⟩, DN.out.2.2.1, DN.out.2.2.2⟩⟩
            · gi_wp2_with (fail)
              exact ⟨DN.out.1, bx_set (BX.refl _ _ _) _, ⟨by rw [hlen]; omega, DN.out.2.1⟩, DN.out.2.2.1, DN.out.2.2.2⟩
          · have hxx : ((x : Int) != (j : Int) - 1 - (pre.length : Int)) = true := by rw [bne_iff_ne]; exact hx
            gi_wp2_with (fail)
            exact ⟨(KeepsOthers.setCell _ _ _).from _, .inl ⟨rfl, pre, x, rfl, by rw [HE.out]; intro h; injection h with h; omega⟩⟩
      case hdone =>
        rintro D ys W hD rfl ⟨⟨hp, hbx⟩, hbK, hB⟩ hK
        have c8 := hbx.cell
        have c4 := (f1.bx hbK ⟨f1.lt, n7.1⟩).cell 0 rfl
        have k6 := (f3.bx hbK ⟨f3.lt, n7.2.2.1⟩)
        have c6 := k6.cell 0 rfl
        have z6 := k6.frozen 0
        have c7 := (f4.bx hbK ⟨f4.lt, n7.2.2.2.1⟩).cell 0 rfl
        have hdW := HDJ.out.bx hbK ⟨HDJ.out.head.lt, n7.2.2.2.2.1⟩ ⟨HDJ.out.rows.lt, n7.2.2.2.2.2.1⟩ ⟨HDJ.out.links.lt, n7.2.2.2.2.2.2⟩
        have HDW := Aside0.mk hdW
        have HW := Aside0.mk (And.intro hbx (And.intro hbK hB))
        have HK := Aside0.mk hK
        have HK6 := Aside0.mk k6
        have HDD := Aside0.mk hD
        have hle : d.lenOf 0 = (j : Int) := by have := HDR.out.lenOf (r := 0) rfl; rw [List.length_range] at this; exact this
        clear hbx hbK hB hdW hK k6 f1 f2 f3 f4 f5 hB1 hB2 hB3 hB6 hD
        rw [hll] at hp c8
        have hmin : (if (S : Int) + 1 < (j : Int) then (S : Int) + 1 else (j : Int)) = (j : Int) := if_neg (by omega)
        gi_wp2_with (fail)
        refine wpIn_wide.2 ?_
        obtain ⟨hw1, hw2⟩ := HW1.out
        refine wp_region_still_tail 14 (by kernel_rfl) (by kernel_rfl) ?_
        simp only [List.take_succ_cons, List.take_zero, List.drop_succ_cons, List.drop_zero]
        repeat still_step
        still_call ((dlen_any 0 g br bl d _ (HDW.out.below (below_drew (Below.refl _ _)))).mono (fun e w' h => ⟨h.1, h.2.symm⟩))
        repeat still_step
        refine wpStill_nil ?_
        go_wp2
        gi_wp2
        have hK' := (show ((W.setCell ⟨q6, 0, none⟩ (.bool true)).drew).heap[D]? = some (.deferred (some [])) from (KeepsOthers.setCell W ⟨q6, 0, none⟩ (.bool true)).same D _ HK.out rfl)
        refine ⟨by simp, .inl ⟨_, _, rfl, run_takeDeferred hK', ?_⟩⟩
        have k6' := (HK6.out.put 0 (.bool true) rfl).drew_
        have hc6 := cell_kept (k6'.cell 0 rfl) (grownBy_putObj' _ D (.deferred none)) (fun r e => by cases e; exact ⟨_, hK', rfl⟩)
        refine ⟨.bool true, ?_, rfl, ?_⟩
        · simp [results, Try.f3, go_sem, hc6]
        · have hb := below_drew (HW.out.2.2.setCell (p := ⟨q6, 0, none⟩) y6 (.bool true))
          have := hb.trans (belowK_b (n₀ := q4) (w := w6) (Nat.le_trans y0 HB6.out.size) _ D _ (.deferred none) HDD.out hK' rfl rfl)
          rw [HQ.out] at this
          exact this
      case hstop =>
        rintro D c pre W hD hpre (⟨rfl, p, x, rfl, hne⟩ | ⟨rfl, ⟨hp, hbx⟩, hbK, hB⟩) hK
        · obtain ⟨t, ht⟩ := hpre
          exact absurd (by rw [← ht]; simp) hne
        · have c8 := hbx.cell
          have c4 := (f1.bx hbK ⟨f1.lt, n7.1⟩).cell 0 rfl
          have k6 := (f3.bx hbK ⟨f3.lt, n7.2.2.1⟩)
          have c6 := k6.cell 0 rfl
          have z6 := k6.frozen 0
          have c7 := (f4.bx hbK ⟨f4.lt, n7.2.2.2.1⟩).cell 0 rfl
          have hdW := HDJ.out.bx hbK ⟨HDJ.out.head.lt, n7.2.2.2.2.1⟩ ⟨HDJ.out.rows.lt, n7.2.2.2.2.2.1⟩ ⟨HDJ.out.links.lt, n7.2.2.2.2.2.2⟩
          have HDW := Aside0.mk hdW
          have HW := Aside0.mk (And.intro hbx (And.intro hbK hB))
          have HK := Aside0.mk hK
          have HK6 := Aside0.mk k6
          have HDD := Aside0.mk hD
          have hle : d.lenOf 0 = (j : Int) := by have := HDR.out.lenOf (r := 0) rfl; rw [List.length_range] at this; exact this
          clear hbx hbK hB hdW hK k6 f1 f2 f3 f4 f5 hB1 hB2 hB3 hB6 hD
          have hle2 : pre.length ≤ j := by rw [← hll]; exact hpre.length_le
          rw [show ((pre.length : Nat) : Int) = (S : Int) + 1 from by omega] at c8
          rw [hp] at hle2
          have hmin : ((S : Int) + 1 == if (S : Int) + 1 < (j : Int) then (S : Int) + 1 else (j : Int)) = true := by
            by_cases h : (S : Int) + 1 < (j : Int)
            · rw [if_pos h]; simp
            · rw [if_neg h, beq_iff_eq]; omega
          gi_wp2_with (fail)
          refine wpIn_wide.2 ?_
          obtain ⟨hw1, hw2⟩ := HW1.out
          refine wp_region_still_tail 14 (by kernel_rfl) (by kernel_rfl) ?_
          simp only [List.take_succ_cons, List.take_zero, List.drop_succ_cons, List.drop_zero]
          repeat still_step
          still_call ((dlen_any 0 g br bl d _ (HDW.out.below (below_drew (Below.refl _ _)))).mono (fun e w' h => ⟨h.1, h.2.symm⟩))
          repeat still_step
          refine wpStill_nil ?_
          go_wp2
          all_goals gi_wp2
          all_goals (
            have hK' := (show ((W.setCell ⟨q6, 0, none⟩ (.bool true)).drew).heap[D]? = some (.deferred (some [])) from (KeepsOthers.setCell W ⟨q6, 0, none⟩ (.bool true)).same D _ HK.out rfl)
            refine ⟨by simp, .inl ⟨_, _, rfl, run_takeDeferred hK', ?_⟩⟩
            have k6' := (HK6.out.put 0 (.bool true) rfl).drew_
            have hc6 := cell_kept (k6'.cell 0 rfl) (grownBy_putObj' _ D (.deferred none)) (fun r e => by cases e; exact ⟨_, hK', rfl⟩)
            refine ⟨.bool true, ?_, rfl, ?_⟩
            · simp [results, Try.f3, go_sem, hc6]
            · have hb := below_drew (HW.out.2.2.setCell (p := ⟨q6, 0, none⟩) y6 (.bool true))
              have := hb.trans (belowK_b (n₀ := q4) (w := w6) (Nat.le_trans y0 HB6.out.size) _ D _ (.deferred none) HDD.out hK' rfl rfl)
              rw [HQ.out] at this
              exact this)
theorem stops_law (N stop : Int) (back : Bool) (W : World) (w0 : (Lit.int .u8 N).wf = true) (w1 : (Lit.int .u8 stop).wf = true) : Calls Try.prog 3 #[.int .u8 N, .int .u8 stop, .bool back] W fun e w' => e = .returned (.bool true) ∧ Below W.heap.size W w' :=
  callsIn_wide.1 (stops_in 5 (by omega) N stop back W (wf_u8 w0) (wf_u8 w1))
end Go.Proofs.Ytofapimappeppaa.Z

/- Going through a row, from one end on. -/
import Derived.RangeFuncNested
import Derived.RangeFuncBound
import Derived.RangeFuncCalls
import Derived.RangeFuncLeaves
import Derived.Shelf.Abstract
import Derived.Shelf.RegionOpen
import Derived.WalkKit
import Derived.OwnWalkIn
import Derived.TacticsInMore
import Derived.LoopNIn
import Derived.LoopIn
import Derived.Maps.AppendAt
import Derived.Test.YtifffmfbipjilaaDqs
namespace Go.Proofs.Ytifffmfbipjilaa.Z
open Go.RowKit Go.Shelf Go.Proofs.YtifffmfbipjilaaW.PrintWords
attribute [local go_sem] Oper.semAt_some
set_option linter.unusedVariables false
set_option linter.unusedSimpArgs false
/-- What is met from an end on. -/
structure Seq (d : Dq) (row : Int) (back : Bool) (lst : List Nat) : Prop where
  start : d.endOf row back = if lst = [] then (0, false) else (nth lst 0, true)
  step : ∀ (k x : Nat), lst[k]? = some x → ∃ lk, d.links[x]? = some lk ∧ (if back then lk.prev else lk.next) = nth lst (k + 1)
  nd : lst.Nodup
theorem nth_rev {l : List Nat} {k : Int} : nth l.reverse k = nth l (l.length - 1 - k) := by
  unfold nth
  by_cases h0 : 0 ≤ k
  · rw [if_pos h0]
    by_cases h1 : k < l.length
    · rw [if_pos (by omega), List.getElem?_reverse (by omega)]
      congr 2
      congr 1
      omega
    · rw [if_neg (by omega), List.getElem?_eq_none (by simp; omega)]
      rfl
  · rw [if_neg h0]
    by_cases h1 : 0 ≤ (l.length : Int) - 1 - k
    · rw [if_pos h1, List.getElem?_eq_none (by omega)]
      rfl
    · rw [if_neg h1]
theorem DR.seq {d : Dq} {L : List (List Nat)} (h : DR d L) {r : Nat} {l : List Nat} (hl : L[r]? = some l) (back : Bool) : Seq d r back (if back then l.reverse else l) := by
  refine ⟨?_, ?_, ?_⟩
  · by_cases hne : l = []
    · subst hne
      rw [h.endOf_nil hl back]
      cases back <;> rfl
    · rw [h.endOf hl back hne]
      cases back
      · show (nth l 0, true) = if l = [] then (0, false) else (nth l 0, true)
        rw [if_neg hne]
      · show (nth l (l.length - 1), true) = if l.reverse = [] then (0, false) else (nth l.reverse 0, true)
        rw [if_neg (fun e => hne (List.reverse_eq_nil_iff.1 e)), nth_rev]
        congr 2
        omega
  · intro k x hk
    cases back with
    | false =>
      have hk' : l[k]? = some x := hk
      exact ⟨_, h.lk r l k x hl hk', rfl⟩
    | true =>
      have hk' : l.reverse[k]? = some x := hk
      have hkl : k < l.length := by have := (List.getElem?_eq_some_iff.1 hk').1; simpa using this
      rw [List.getElem?_reverse hkl] at hk'
      refine ⟨_, h.lk r l _ x hl hk', ?_⟩
      show nth l (((l.length - 1 - k : Nat) : Int) - 1) = nth l.reverse (k + 1)
      rw [nth_rev]
      congr 1
      omega
  · cases back
    · exact h.nd r l hl
    · show l.reverse.Nodup
      exact List.pairwise_reverse.2 ((h.nd r l hl).imp (fun h => Ne.symm h))
theorem DR.seq_out {d : Dq} {L : List (List Nat)} (h : DR d L) {r : Int} (hr : ¬ (0 ≤ r ∧ r < L.length)) (back : Bool) : Seq d r back [] := by
  refine ⟨?_, (fun k x hk => by simp at hk), List.nodup_nil⟩
  unfold Dq.endOf
  by_cases h0 : 0 ≤ r
  · rw [if_pos h0, List.getElem?_eq_none (by rw [h.rl]; omega)]; rfl
  · rw [if_neg h0]; rfl
theorem Blk.belowN {n₀ : Nat} {w w1 : World} {b T : Nat} {l : List Value} (h : Blk w b T l) (hb : Below n₀ w w1) (hl : b < n₀) : Blk w1 b T l := (hb.block b hl).trans h
theorem DqAt.belowN {n₀ : Nat} {w W : World} {g br bl : Nat} {d : Dq} (h : DqAt w g br bl d) (k : Below n₀ w W) (h1 : g < n₀) (h2 : br < n₀) (h3 : bl < n₀) : DqAt W g br bl d := ⟨h.head.belowN k h1, h.rows.belowN k h2, h.links.belowN k h3, h.ne1, h.ne2, h.ne3⟩
theorem nth_none {l : List Nat} {k : Nat} (h : l.length ≤ k) : nth l k = -1 := by
  unfold nth; rw [if_pos (by omega), Int.toNat_natCast, List.getElem?_eq_none h]; rfl
/-- How many are still to come, read off the number at hand. -/
def left (l : List Nat) (v : Value) : Nat := if 0 ≤ intOf v then l.length - l.idxOf (intOf v).toNat else 0
theorem left_at {l : List Nat} (hn : l.Nodup) {k x : Nat} (h : l[k]? = some x) : left l (.int .i64 (nth l k)) = l.length - k := by
  obtain ⟨hk, rfl⟩ := List.getElem?_eq_some_iff.1 h
  rw [nth_some h]
  unfold left
  rw [if_pos (by show (0 : Int) ≤ (l[k] : Int); omega)]
  show l.length - l.idxOf ((l[k] : Int)).toNat = _
  rw [Int.toNat_natCast, List.Nodup.idxOf_getElem hn k hk]
theorem left_less {l : List Nat} (hn : l.Nodup) {k x : Nat} (h : l[k]? = some x) : left l (.int .i64 (nth l (k + 1))) < left l (.int .i64 (nth l k)) := by
  rw [left_at hn h]
  obtain ⟨hk, _⟩ := List.getElem?_eq_some_iff.1 h
  by_cases h2 : k + 1 < l.length
  · have := left_at hn (List.getElem?_eq_getElem h2)
    rw [show ((k + 1 : Nat) : Int) = (k : Int) + 1 from by omega] at this
    rw [this]; omega
  · have := nth_none (l := l) (k := k + 1) (by omega)
    rw [show ((k + 1 : Nat) : Int) = (k : Int) + 1 from by omega] at this
    rw [this]
    show 0 < l.length - k
    omega
/-- Whatever lay below n₀ lies as it lay, but for one block. -/
structure BX (n₀ nx : Nat) (w W : World) : Prop where
  size : w.heap.size ≤ W.heap.size
  block : ∀ b, b < n₀ → b ≠ nx → W.heap[b]? = w.heap[b]?
theorem BX.refl (n₀ nx : Nat) (w : World) : BX n₀ nx w w := ⟨Nat.le_refl _, fun _ _ _ => rfl⟩
theorem BX.trans {n₀ nx : Nat} {w W V : World} (h : BX n₀ nx w W) (k : BX n₀ nx W V) : BX n₀ nx w V := ⟨Nat.le_trans h.size k.size, fun b h1 h2 => (k.block b h1 h2).trans (h.block b h1 h2)⟩
theorem BX.of_below {n₀ nx : Nat} {w W : World} (h : Below n₀ w W) : BX n₀ nx w W := ⟨h.size, fun b h1 _ => h.block b h1⟩
theorem Blk.bx {n₀ nx : Nat} {w w1 : World} {b T : Nat} {l : List Value} (h : Blk w b T l) (hb : BX n₀ nx w w1) (hl : b < n₀ ∧ b ≠ nx) : Blk w1 b T l := (hb.block b hl.1 hl.2).trans h
theorem DqAt.bx {n₀ nx : Nat} {w W : World} {g br bl : Nat} {d : Dq} (h : DqAt w g br bl d) (k : BX n₀ nx w W) (h1 : g < n₀ ∧ g ≠ nx) (h2 : br < n₀ ∧ br ≠ nx) (h3 : bl < n₀ ∧ bl ≠ nx) : DqAt W g br bl d := ⟨h.head.bx k h1, h.rows.bx k h2, h.links.bx k h3, h.ne1, h.ne2, h.ne3⟩
set_option maxHeartbeats 8000000 in
set_option maxRecDepth 100000 in
/-- The iterator over a row: each member once, from its end on. -/
theorem all1_in (n : Nat) (hn : 2 ≤ n) (l b1 b2 b3 n₀ nx : Nat) (g br bl : Nat) (d : Dq) (row : Int) (back : Bool) (lst : List Nat) (J Jx : List Nat → World → Prop)
    (hY : ∀ (pre : List Nat) (x : Nat) (W : World), J pre W → pre.length < lst.length → YieldAt Fence.wide (n - 1) Try.prog l #[.int .i64 (x : Int)] W fun e W' =>
      (e = .returned (.bool true) ∧ J (pre ++ [x]) W' ∧ BX n₀ nx W W') ∨ (e = .returned (.bool false) ∧ Jx (pre ++ [x]) W'))
    (W : World) (hq : Seq d row back lst) (hd : DqAt W g br bl d) (hB1 : Blk W b1 72 [.pointer (some ⟨g, 0, none⟩)]) (hB2 : Blk W b2 3 [.int .i64 row]) (hB3 : Blk W b3 4 [.bool back])
    (k1 : b1 < n₀ ∧ b1 ≠ nx) (k2 : b2 < n₀ ∧ b2 ≠ nx) (k3 : b3 < n₀ ∧ b3 ≠ nx) (k4 : g < n₀ ∧ g ≠ nx) (k5 : br < n₀ ∧ br ≠ nx) (k6 : bl < n₀ ∧ bl ≠ nx) (h0 : J [] W) :
    CallsIn Fence.wide n Try.prog 67 #[.func (.yield l) #[] #[], .pointer (some ⟨b1, 0, none⟩), .pointer (some ⟨b2, 0, none⟩), .pointer (some ⟨b3, 0, none⟩)] W fun e W' => (∃ v, e = .returned v) ∧
      ((∃ ys, ys = lst ∧ J ys W') ∨ (∃ pre, pre <+: lst ∧ Jx pre W')) := by
  have c1 := hB1.cell 0 rfl
  have c2 := hB2.cell 0 rfl
  have c3 := hB3.cell 0 rfl
  have HD := Aside0.mk hd
  have HQ := Aside0.mk hq
  have HK := Aside0.mk (And.intro k1 (And.intro k2 k3))
  clear hd hq
  refine callsIn_of_wp Try.func67 rfl trivial ?_ rfl
  simp only [Try.ntmps67, List.size_toArray, List.length_cons, List.length_nil, Nat.reduceAdd, Nat.reduceSub, Array.replicate_succ, Array.replicate_zero, List.push_toArray, List.append_toArray, List.nil_append, List.cons_append]
  gi_wp2_with (fail)
  refine ⟨trivial, (fun h => by cases h), ?_⟩
  refine (callsIn_wide.2 (end_any row back g br bl d _ HD.out)).mono ?_
  rintro e w' ⟨he, rfl⟩
  rw [HQ.out.start] at he
  by_cases hne : lst = []
  · rw [if_pos hne] at he
    subst he
    gi_wp2
    gi_loopw [5] (fun p wr => p = .int .i64 0 ∧ wr = W) (fun _ _ => 0)
    case atStart => exact ⟨rfl, rfl⟩
    case round =>
      obtain ⟨rfl, rfl⟩ := hrel
      gi_wp2
      refine ⟨(fun _ h => (by cases h)), ?_⟩
      gi_wp2
      go_end0
      exact ⟨⟨_, rfl⟩, .inl ⟨[], hne.symm, h0⟩⟩
  · rw [if_neg hne] at he
    subst he
    have HNE := Aside0.mk hne
    clear hne
    gi_wp2_with (fail)
    gi_loopw [5] (fun p wr => ∃ k : Nat, k ≤ lst.length ∧ p = .int .i64 (nth lst k) ∧ J (lst.take k) wr ∧ BX n₀ nx W wr) (fun p _ => left lst p)
    case atStart => exact ⟨0, Nat.zero_le _, rfl, h0, BX.refl _ _ _⟩
    case round =>
      obtain ⟨k, hk, rfl, hJ1, hb1⟩ := hrel
      by_cases hlt : k < lst.length
      · have hx : lst[k]? = some lst[k] := List.getElem?_eq_getElem hlt
        obtain ⟨x, hX⟩ : ∃ x, lst[k] = x := ⟨_, rfl⟩
        rw [hX] at hx
        have hnx : nth lst k = (x : Int) := nth_some hx
        have hM : left lst (.int .i64 (nth lst (k + 1))) < left lst (.int .i64 (x : Int)) := hnx ▸ left_less HQ.out.nd hx
        obtain ⟨lk, hlk, hnext⟩ := HQ.out.step k x hx
        obtain ⟨fn, tmps, assign, body, hy, hR⟩ := hY (lst.take k) x wr hJ1 (by rw [List.length_take]; omega)
        have htk : lst.take k ++ [x] = lst.take (k + 1) := by rw [List.take_add_one, hx]; rfl
        rw [htk] at hR
        rw [hnx]
        clear hnx
        have HL := Aside0.mk hlk
        have HN := Aside0.mk hnext
        have HX := Aside0.mk hx
        have HT := Aside0.mk htk
        have HHT := Aside0.mk hX
        have xge : (0 : Int) ≤ (x : Int) := by omega
        have xne : (x : Int) ≠ -1 := by omega
        clear hlk hnext hx htk hX
        gi_wp2_with (fail)
        refine ⟨(fun h => by cases h), hR.mono ?_⟩
        rintro e W3 (⟨rfl, hJ3, hk3⟩ | ⟨rfl, hJx3⟩)
        · have hb3 := hb1.trans hk3
          have r3 := (hB3.bx hb3 HK.out.2.2).cell 0 rfl
          have r1 := (hB1.bx hb3 HK.out.1).cell 0 rfl
          have hd3 := HD.out.bx hb3 k4 k5 k6
          obtain ⟨hg0, hg1, _, fz⟩ := hd3.heads
          obtain ⟨l0, l1, l2⟩ := hd3.link HL.out
          have hxl : x < d.links.length := (List.getElem?_eq_some_iff.1 HL.out).1
          have HB := Aside0.mk hb3
          clear hb3 hb1 hk3 hd3
          cases back with
          | false =>
            rw [show lk.next = nth lst (k + 1) from HN.out] at l2
            gi_wp2_with (fail)
            go_roundw
            case rel => exact ⟨k + 1, hlt, by push_cast; rfl, hJ3, HB.out⟩
            case measure => exact hM
          | true =>
            rw [show lk.prev = nth lst (k + 1) from HN.out] at l1
            gi_wp2_with (fail)
            go_roundw
            case rel => exact ⟨k + 1, hlt, by push_cast; rfl, hJ3, HB.out⟩
            case measure => exact hM
        · gi_wp2_with (fail)
          go_end0
          exact ⟨⟨_, rfl⟩, .inr ⟨lst.take (k + 1), List.take_prefix _ _, hJx3⟩⟩
      · have he : nth lst k = -1 := nth_none (by omega)
        rw [he]
        gi_wp2_with (fail)
        refine ⟨(fun _ h => (by cases h)), ?_⟩
        gi_wp2_with (fail)
        go_end0
        exact ⟨⟨_, rfl⟩, .inl ⟨lst.take k, List.take_of_length_le (by omega), hJ1⟩⟩
end Go.Proofs.Ytifffmfbipjilaa.Z

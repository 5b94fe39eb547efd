/- Rows that are alike. -/
import Derived.Test.YtofapimappeppaaDqk
namespace Go.Proofs.Ytofapimappeppaa.Z
open Go.RowKit Go.Proofs.YtofapimappeppaaW.PrintWords Go.Proofs.YtofapimappeppaaW.PrintLast Go.Proofs.YtofapimappeppaaW.PrintMore
attribute [local go_sem] max2_int min2_int max_two min_two max_three min_three max_four min_four
set_option linter.unusedVariables false
set_option linter.unusedSimpArgs false
set_option maxHeartbeats 8000000 in
set_option maxRecDepth 100000 in
theorem equal_true (A B : Option Addr) (c c' : Nat) (l : List Int) (w : World) (hA : (Kd.int .i64).C w A l.length l) (hB : (Kd.int .i64).C w B l.length l) (hl : l.length ≤ 1000000) :
    Calls Try.prog 33 #[.slice A l.length c, .slice B l.length c'] w fun e w' => e = .returned (.bool true) ∧ Below w.heap.size w w' := by
  have HA := Aside0.mk hA
  have HB := Aside0.mk hB
  clear hA hB
  go_enter Try.func33, Try.ntmps33
  go_wp2_with (fail)
  go_loopw [13] (fun i wr => ∃ q : Nat, q ≤ l.length ∧ i = .int .i64 q ∧ Below w.heap.size w wr) (fun i _ => l.length - (intOf i).toNat)
  case atStart => exact ⟨0, Nat.zero_le _, rfl, Below.refl _ _⟩
  case round =>
    obtain ⟨q, hq, rfl, hb⟩ := hrel
    have HBB := Aside0.mk hb
    clear hb
    by_cases hlt : q < l.length
    · have hlt' : (q : Int) < (l.length : Int) := by omega
      obtain ⟨a, rfl⟩ : ∃ a, A = some a := by obtain ⟨a, h, _⟩ := HA.out.2.2 (by omega); exact ⟨a, h⟩
      obtain ⟨b, rfl⟩ : ∃ a, B = some a := by obtain ⟨a, h, _⟩ := HB.out.2.2 (by omega); exact ⟨a, h⟩
      obtain ⟨x, hx⟩ : ∃ x, l[q]? = some x := ⟨_, List.getElem?_eq_getElem hlt⟩
      have e1 := int_came (Kd.C_below HA.out HBB.out) hx
      have e2 := int_came (Kd.C_below HB.out HBB.out) hx
      have hxx : (x != x) = false := by simp
      clear hx
      go_wp2_with (fail)
      go_quiet (fail)
      go_wp2_with (fail)
      exact ⟨⟨q + 1, by omega, by go_num, pw_below_drewN HBB.out _⟩, by simp [intOf]; omega⟩
    · go_wp2_with (fail)
      go_ret
      exact ⟨rfl, HBB.out⟩
theorem add_nought (a : Addr) : a.add 0 = a := by cases a; simp [Addr.add]
theorem equal_n (A B : Option Addr) (c c' : Nat) (l : List Nat) (w : World) (hA : (Kd.int .i64).C w A (ofN l).length (ofN l)) (hB : (Kd.int .i64).C w B (ofN l).length (ofN l)) (hl : l.length ≤ 1000000) :
    Calls Try.prog 33 #[.slice A l.length c, .slice B l.length c'] w fun e w' => e = .returned (.bool true) ∧ Below w.heap.size w w' := by
  have := equal_true A B c c' (ofN l) w hA hB (by rw [ofN_len]; exact hl)
  rwa [ofN_len] at this
/-- What a row tells, whatever row. -/
theorem DR.seq_m {d : Dq} {L : List (List Nat)} (h : DR d L) (r : Int) (back : Bool) : Seq d r back (rowL L r back) := by
  unfold rowL
  by_cases c : 0 ≤ r ∧ r < L.length
  · obtain ⟨r', rfl⟩ : ∃ k : Nat, r = k := ⟨r.toNat, by omega⟩
    have hl : L[r']? = some L[r'] := List.getElem?_eq_getElem (by omega)
    rw [if_pos c.1, Int.toNat_natCast, hl]
    exact h.seq hl back
  · have := h.seq_out c back
    by_cases h0 : 0 ≤ r
    · rw [if_pos h0, List.getElem?_eq_none (by omega)]; exact this
    · rw [if_neg h0]; exact this
theorem rowL_rev (L : List (List Nat)) (r : Int) : rowL L r true = (rowL L r false).reverse := by
  unfold rowL
  split
  · cases L[r.toNat]? <;> simp
  · rfl
theorem DR.len_m {d : Dq} {L : List (List Nat)} (h : DR d L) (r : Int) : d.lenOf r = (rowL L r false).length := by
  unfold rowL
  by_cases c : 0 ≤ r ∧ r < L.length
  · obtain ⟨r', rfl⟩ : ∃ k : Nat, r = k := ⟨r.toNat, by omega⟩
    have hl : L[r']? = some L[r'] := List.getElem?_eq_getElem (by omega)
    rw [if_pos c.1, Int.toNat_natCast, hl]
    exact h.lenOf hl
  · unfold Dq.lenOf
    by_cases h0 : 0 ≤ r
    · rw [if_pos h0, if_pos h0, List.getElem?_eq_none (by rw [h.rl]; omega), List.getElem?_eq_none (by omega)]; rfl
    · rw [if_neg h0, if_neg h0]; rfl
theorem rowL_mem {L : List (List Nat)} {r : Int} {P : List Nat → Prop} (h0 : P []) (h : ∀ l ∈ L, P l) : P (rowL L r false) := by
  unfold rowL
  split
  · cases hl : L[r.toNat]? with
    | none => exact h0
    | some l => exact h l (List.mem_of_getElem? hl)
  · exact h0
set_option maxHeartbeats 8000000 in
set_option maxRecDepth 100000 in
theorem like_ok (n g br bl base gx room : Nat) (d : Dq) (L : List (List Nat)) (w : World) (hd : DqAt w g br bl d) (hdr : DR d L) (hx : RefAt w base gx L room) (hn : L.length = n) (h8 : n ≤ 8) :
    Calls Try.prog 24 #[.pointer (some ⟨g, 0, none⟩), .pointer (some ⟨gx, 0, none⟩), .int .i64 n] w fun e w' => e = .returned (.bool true) ∧ Below w.heap.size w w' := by
  have hll : ∀ l ∈ L, l.length ≤ 1024 := fun l hl => by
    obtain ⟨r, hr⟩ := List.mem_iff_getElem?.1 hl
    exact Nat.le_trans (hdr.len hr) hdr.room
  obtain ⟨bL, c, vs, pad, hx⟩ := hx
  have HD := Aside0.mk hd
  have HDR := Aside0.mk hdr
  have HX := Aside0.mk hx
  have HLL := Aside0.mk hll
  have HN := Aside0.mk hn
  clear hd hdr hx hll hn
  go_enter Try.func24, Try.ntmps24
  go_wp2_with (fail)
  go_loopw [7] (fun i wr => ∃ k : Nat, k ≤ n + 2 ∧ i = .int .i64 ((k : Int) - 1) ∧ Below w.heap.size w wr) (fun i _ => (n + 1 - intOf i).toNat)
  case atStart => exact ⟨0, by omega, rfl, Below.refl _ _⟩
  case round =>
    obtain ⟨k, hk, rfl, hb⟩ := hrel
    obtain ⟨r, hr⟩ : ∃ r : Int, r = (k : Int) - 1 := ⟨_, rfl⟩
    rw [← hr]
    have r1 : -1 ≤ r := by omega
    have HBB := Aside0.mk hb
    have HR := Aside0.mk hr
    clear hb hr
    by_cases hlt : r ≤ (n : Int)
    · obtain ⟨l, hl⟩ : ∃ l, l = rowL L r false := ⟨_, rfl⟩
      have hlb : l.length ≤ 1024 := by rw [hl]; exact rowL_mem (P := fun l => l.length ≤ 1024) (by simp) HLL.out
      have hlt8 : r ≤ 8 := by omega
      have HL := Aside0.mk hl
      clear hl
      go_wp2_with (fail)
      refine (rrow_m r false base gx bL c vs pad L room _ (HX.out.below HBB.out) HLL.out (by rw [HN.out]; exact h8)).mono ?_
      rintro e w1 ⟨v1, rfl, hR1, hb1⟩
      rw [← HL.out] at hR1
      obtain ⟨A1, c1, rfl⟩ := Kd.R_slice hR1
      rw [ofN_len]
      have HC1 := Aside0.mk (Kd.R_reads' hR1).2.2
      have HB1 := Aside0.mk (below_step HBB.out hb1)
      clear hR1 hb1
      go_wp2_with (fail)
      refine (all_any (some ⟨g, 0, none⟩) r false _).mono ?_
      rintro e w2 ⟨b1, b2, b3, rfl, hb2, q1, q2, q3⟩
      have HQ := Aside0.mk (And.intro q1 (And.intro q2 q3))
      have HC2 := Aside0.mk (Kd.C_below HC1.out hb2)
      have HB2 := Aside0.mk (below_step HB1.out hb2)
      clear hb2 q1 q2 q3 HC1 HB1
      go_wp2_with (fail)
      refine (collect_row b1 b2 b3 g br bl d r false l (by omega) _ (by rw [HL.out]; exact HDR.out.seq_m r false) (HD.out.below HB2.out) HQ.out.1 HQ.out.2.1 HQ.out.2.2).mono ?_
      rintro e w3 ⟨v3, rfl, hR3, hb3⟩
      obtain ⟨A3, c3, rfl⟩ := Kd.R_slice hR3
      rw [ofN_len]
      have HC3 := Aside0.mk (Kd.C_below HC2.out hb3)
      have HD3 := Aside0.mk (Kd.R_reads' hR3).2.2
      have HB3 := Aside0.mk (below_step HB2.out hb3)
      clear hb3 hR3 HC2 HB2 HQ
      go_wp2_with (fail)
      refine (equal_n A3 A1 c3 c1 l _ HD3.out HC3.out (by omega)).mono ?_
      rintro e w4 ⟨rfl, hb4⟩
      have HC4 := Aside0.mk (Kd.C_below HC3.out hb4)
      have HB4 := Aside0.mk (below_step HB3.out hb4)
      clear hb4 HC3 HD3 HB3
      go_wp2_with (fail)
      refine (all_any (some ⟨g, 0, none⟩) r true _).mono ?_
      rintro e w5 ⟨b1, b2, b3, rfl, hb5, q1, q2, q3⟩
      have HQ := Aside0.mk (And.intro q1 (And.intro q2 q3))
      have HC5 := Aside0.mk (Kd.C_below HC4.out hb5)
      have HB5 := Aside0.mk (below_step HB4.out hb5)
      clear hb5 q1 q2 q3 HC4 HB4
      go_wp2_with (fail)
      refine (collect_row b1 b2 b3 g br bl d r true l.reverse (by simp; omega) _ (by rw [HL.out, ← rowL_rev]; exact HDR.out.seq_m r true) (HD.out.below HB5.out) HQ.out.1 HQ.out.2.1 HQ.out.2.2).mono ?_
      rintro e w6 ⟨v6, rfl, hR6, hb6⟩
      obtain ⟨A6, c6, rfl⟩ := Kd.R_slice hR6
      rw [ofN_len]
      have HC6 := Aside0.mk (Kd.C_below HC5.out hb6)
      have HE6 := Aside0.mk (Kd.R_reads' hR6).2.2
      have HB6 := Aside0.mk (below_step HB5.out hb6)
      clear hb6 hR6 HC5 HB5 HQ
      go_wp2_with (fail)
      refine (rrow_m r true base gx bL c vs pad L room _ (HX.out.below HB6.out) HLL.out (by rw [HN.out]; exact h8)).mono ?_
      rintro e w7 ⟨v7, rfl, hR7, hb7⟩
      rw [rowL_rev, ← HL.out] at hR7
      obtain ⟨A7, c7, rfl⟩ := Kd.R_slice hR7
      rw [ofN_len]
      have HC7 := Aside0.mk (Kd.C_below HC6.out hb7)
      have HE7 := Aside0.mk (Kd.C_below HE6.out hb7)
      have HF7 := Aside0.mk (Kd.R_reads' hR7).2.2
      have HB7 := Aside0.mk (below_step HB6.out hb7)
      clear hb7 hR7 HC6 HE6 HB6
      go_wp2_with (fail)
      have heq := equal_n A6 A7 c6 c7 l.reverse w7 HE7.out HF7.out (by simp; omega)
      rw [List.length_reverse] at heq
      refine heq.mono ?_
      clear heq
      rintro e w8 ⟨rfl, hb8⟩
      have HC8 := Aside0.mk (Kd.C_below HC7.out hb8)
      have HB8 := Aside0.mk (below_step HB7.out hb8)
      clear hb8 HC7 HE7 HF7 HB7
      go_wp2_with (fail)
      refine (dlen_any r g br bl d _ (HD.out.below HB8.out)).mono ?_
      rintro e w' ⟨he, rfl⟩
      rw [HDR.out.len_m, ← HL.out] at he
      subst he
      go_wp2_with (fail)
      refine (front_any r g br bl _ _ (HD.out.below HB8.out)).mono ?_
      rintro e w' ⟨he, rfl⟩
      rw [(HDR.out.seq_m r false).start, ← HL.out] at he
      by_cases hne : l = []
      · rw [if_pos hne] at he
        subst he
        have HNE := Aside0.mk hne
        have hl0 : l.length = 0 := by rw [hne]; rfl
        rw [hl0]
        clear hne
        go_wp2_with (fail)
        refine (back_any r g br bl _ _ (HD.out.below HB8.out)).mono ?_
        rintro e w' ⟨he, rfl⟩
        rw [(HDR.out.seq_m r true).start, rowL_rev, ← HL.out, HNE.out, List.reverse_nil, if_pos rfl] at he
        subst he
        clear hl0
        go_wp2_with (fail)
        exact ⟨⟨k + 1, by have := HR.out; omega, by have := HR.out; go_num, HB8.out⟩, by have := HR.out; simp [intOf]; omega⟩
      · rw [if_neg hne] at he
        have hpos : 0 < l.length := List.length_pos_iff.2 hne
        have hpos' : (0 : Int) < (l.length : Int) := by omega
        obtain ⟨x, hx0⟩ : ∃ x, l[0]? = some x := ⟨_, List.getElem?_eq_getElem hpos⟩
        obtain ⟨y, hy0⟩ : ∃ y, l[l.length - 1]? = some y := ⟨_, List.getElem?_eq_getElem (by omega)⟩
        obtain ⟨a1, rfl⟩ : ∃ a, A1 = some a := by obtain ⟨a, h, _⟩ := HC8.out.2.2 (by rw [ofN_len]; omega); exact ⟨a, h⟩
        have e1 : w8.cell? a1 = some (.int .i64 (x : Int)) := by have := int_came HC8.out (ofN_at hx0); rwa [add_nought] at this
        have e2 := int_came HC8.out (ofN_at hy0)
        have hx1 : nth l 0 = (x : Int) := nth_some hx0
        have hy1 : nth l.reverse 0 = (y : Int) := by
          rw [nth_rev, show (l.length : Int) - 1 - 0 = ((l.length - 1 : Nat) : Int) from by omega]
          exact nth_some hy0
        have hxx : ((x : Int) != (x : Int)) = false := by simp
        have hyy : ((y : Int) != (y : Int)) = false := by simp
        have ew : IntKind.i64.wrap ((l.length : Int) - 1) = (l.length : Int) - 1 := IntWalk.i64_in _ (by omega)
        have et : ((l.length : Int) - 1).toNat = l.length - 1 := by omega
        have e0 : (0 : Int) ≤ (l.length : Int) - 1 := by omega
        have e0' : (1 : Int) ≤ (l.length : Int) := by omega
        have e0'' : (l.length : Int) - 1 < (l.length : Int) := by omega
        have HNE := Aside0.mk hne
        rw [hx1] at he
        subst he
        have HY1 := Aside0.mk hy1
        clear hne hx0 hy0 hx1 hy1
        go_wp2_with (fail)
        refine (back_any r g br bl _ _ (HD.out.below HB8.out)).mono ?_
        rintro e w' ⟨he, rfl⟩
        rw [(HDR.out.seq_m r true).start, rowL_rev, ← HL.out, if_neg (fun h => HNE.out (List.reverse_eq_nil_iff.1 h)), HY1.out] at he
        subst he
        go_wp2_with (fail)
        exact ⟨⟨k + 1, by have := HR.out; omega, by have := HR.out; go_num, HB8.out⟩, by have := HR.out; simp [intOf]; omega⟩
    · go_wp2_with (fail)
      go_ret
      exact ⟨rfl, HBB.out⟩
end Go.Proofs.Ytofapimappeppaa.Z

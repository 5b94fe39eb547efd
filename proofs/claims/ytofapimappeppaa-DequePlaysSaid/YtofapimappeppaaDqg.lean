/- The document's Row. -/
import Derived.Test.YtofapimappeppaaDqf
namespace Go.Proofs.Ytofapimappeppaa.Z
open Go.RowKit Go.Proofs.YtofapimappeppaaW.PrintWords Go.Proofs.YtofapimappeppaaW.PrintLast Go.Proofs.YtofapimappeppaaW.PrintMore
attribute [local go_sem] max2_int min2_int max_two min_two max_three min_three max_four min_four
set_option linter.unusedVariables false
set_option linter.unusedSimpArgs false
theorem rrow_out (row : Int) (back : Bool) (base gx bL c : Nat) (vs pad : List Value) (L : List (List Nat)) (room : Nat) (w : World) (hx : RefX w base gx bL c vs pad L room) (hr : ¬ (0 ≤ row ∧ row < L.length)) :
    Calls Try.prog 32 #[.pointer (some ⟨gx, 0, none⟩), .int .i64 row, .bool back] w fun e w' => e = .returned (.slice none 0 0) ∧ w = w' := by
  obtain ⟨h0, h1, _, _⟩ := hx.heads
  clear hx
  by_cases c1 : row < 0
  · clear hr
    go_enter Try.func32, Try.ntmps32
    go_wp2_with (fail)
    go_ret
    exact ⟨rfl, rfl⟩
  · have d1 : decide (row < 0) = false := decide_eq_false c1
    have c2 : (L.length : Int) ≤ row := by omega
    clear hr c1
    go_enter Try.func32, Try.ntmps32
    go_wp2_with (fail)
    go_ret
    exact ⟨rfl, rfl⟩
set_option maxHeartbeats 8000000 in
set_option maxRecDepth 100000 in
theorem rrow_fwd (row : Nat) (base gx bL c : Nat) (vs pad : List Value) (L : List (List Nat)) (room : Nat) (w : World) (hx : RefX w base gx bL c vs pad L room) (l : List Nat) (hl : L[row]? = some l) (hll : l.length ≤ 1024) (h8 : L.length ≤ 8) :
    Calls Try.prog 32 #[.pointer (some ⟨gx, 0, none⟩), .int .i64 row, .bool false] w fun e w' => ∃ v, e = .returned v ∧ (Kd.int .i64).R 3 w' w.heap.size (fun _ => True) v (ofN l) ∧ Below w.heap.size w w' := by
  have hrl : row < L.length := (List.getElem?_eq_some_iff.1 hl).1
  have r0 : (0 : Int) ≤ (row : Int) := by omega
  have r1 : (row : Int) < (L.length : Int) := by omega
  have r2 : decide (L.length ≤ row) = false := decide_eq_false (by omega)
  have r3 : decide ((row : Int) < 0) = false := decide_eq_false (by omega)
  have HX := Aside0.mk hx
  have HL := Aside0.mk hl
  obtain ⟨h0, h1, _, _⟩ := hx.heads
  clear hx hl
  go_enter Try.func32, Try.ntmps32
  go_wp2_with (fail)
  clear h0 h1
  go_loopw [7, 8] (fun v i wr => ∃ q : Nat, q ≤ l.length ∧ i = .int .i64 q ∧ (Kd.int .i64).R 3 wr w.heap.size (fun _ => True) v (ofN (l.take q)) ∧ Below w.heap.size w wr) (fun _ i _ => l.length - (intOf i).toNat)
  case atStart => exact ⟨0, Nat.zero_le _, rfl, Kd.R_nil _ _ _ _ _, Below.refl _ _⟩
  case round =>
    obtain ⟨q, hq, rfl, hR, hb⟩ := hrel
    have HXQ := Aside0.mk (HX.out.below hb)
    obtain ⟨h0, h1, _, _⟩ := HXQ.out.heads
    obtain ⟨v0, A, n, _, _, hc, _, hm⟩ := HXQ.out.at HL.out
    have HR := Aside0.mk hR
    have HB := Aside0.mk hb
    have HM := Aside0.mk hm
    obtain ⟨A', c', hv⟩ := Kd.R_slice hR
    rw [ofN_len, List.length_take, Nat.min_eq_left hq] at hv
    subst hv
    clear hR hb hm
    by_cases hlt : q < l.length
    · have hlt' : (q : Int) < (l.length : Int) := by omega
      obtain ⟨x, hxq⟩ : ∃ x, l[q]? = some x := ⟨_, List.getElem?_eq_getElem hlt⟩
      obtain ⟨gr, rfl, hcx⟩ := HM.out q x hxq
      have htk : ofN (l.take (q + 1)) = ofN (l.take q) ++ [(x : Int)] := by rw [List.take_add_one, hxq]; exact ofN_snoc _ _
      have HTK := Aside0.mk htk
      clear hxq htk
      go_wp2_with (at_builtin; refine Kd.R_append (Kd.int .i64) (w0 := w) w.heap.size rfl (.tmp 46) (.tmp 57) 34 3 (.int .i64 0) 8 rfl Try.underlying34 (by kernel_rfl) rfl (by decide) (by omega) _ (ofN (l.take q)) (x : Int) [.int .i64 (x : Int)] (fun _ => True) (fun _ => False) rfl rfl rfl (fun _ hk => hk.elim) (fun _ _ => trivial) HR.out HB.out HB.out.size (by rw [ofN_len, List.length_take]; omega) ?_; intro v8 w8 hR8 hB8 hg8 _; have HR8 := Aside0.mk hR8; have HB8 := Aside0.mk hB8; clear hR8 hB8 hg8)
      go_roundw
      case rel => exact ⟨q + 1, by omega, by go_num, by rw [HTK.out]; exact HR8.out, HB8.out⟩
      case measure => simp [intOf]; omega
    · obtain rfl : q = l.length := by omega
      go_wp2_with (fail)
      go_ret
      exact ⟨_, rfl, by have := HR.out; rw [List.take_length] at this; exact this, HB.out⟩
theorem R_one (x : Int) (base : Nat) (W : World) (hb : base ≤ W.heap.size) : (Kd.int .i64).R 3 (W.alloc (.cells #[.int .i64 x] 3)) base (fun _ => True) (.slice (some ⟨W.heap.size, 0, none⟩) 1 1) [x] :=
  Kd.R_of_own (by have := own_lit W base 3 .i64 [x] hb (by simp); exact this) (fun _ _ => trivial)
set_option maxHeartbeats 8000000 in
set_option maxRecDepth 100000 in
theorem rrow_back (row : Nat) (base gx bL c : Nat) (vs pad : List Value) (L : List (List Nat)) (room : Nat) (w : World) (hx : RefX w base gx bL c vs pad L room) (l : List Nat) (hl : L[row]? = some l) (hll : l.length ≤ 1024) (h8 : L.length ≤ 8) :
    Calls Try.prog 32 #[.pointer (some ⟨gx, 0, none⟩), .int .i64 row, .bool true] w fun e w' => ∃ v, e = .returned v ∧ (Kd.int .i64).R 3 w' w.heap.size (fun _ => True) v (ofN l.reverse) ∧ Below w.heap.size w w' := by
  have hrl : row < L.length := (List.getElem?_eq_some_iff.1 hl).1
  have r0 : (0 : Int) ≤ (row : Int) := by omega
  have r1 : (row : Int) < (L.length : Int) := by omega
  have r2 : decide (L.length ≤ row) = false := decide_eq_false (by omega)
  have r3 : decide ((row : Int) < 0) = false := decide_eq_false (by omega)
  have HX := Aside0.mk hx
  have HL := Aside0.mk hl
  obtain ⟨h0, h1, _, _⟩ := hx.heads
  clear hx hl
  go_enter Try.func32, Try.ntmps32
  go_wp2_with (fail)
  clear h0 h1
  go_loopw [7, 8] (fun v i wr => ∃ q : Nat, q ≤ l.length ∧ i = .int .i64 q ∧ (Kd.int .i64).R 3 wr w.heap.size (fun _ => True) v (ofN (l.take q).reverse) ∧ Below w.heap.size w wr) (fun _ i _ => l.length - (intOf i).toNat)
  case atStart => exact ⟨0, Nat.zero_le _, rfl, Kd.R_nil _ _ _ _ _, Below.refl _ _⟩
  case round =>
    obtain ⟨q, hq, rfl, hR, hb⟩ := hrel
    have HXQ := Aside0.mk (HX.out.below hb)
    obtain ⟨h0, h1, _, _⟩ := HXQ.out.heads
    obtain ⟨v0, A, n, _, _, hc, _, hm⟩ := HXQ.out.at HL.out
    have HR := Aside0.mk hR
    have HB := Aside0.mk hb
    have HM := Aside0.mk hm
    obtain ⟨A', c', hv⟩ := Kd.R_slice hR
    rw [ofN_len, List.length_reverse, List.length_take, Nat.min_eq_left hq] at hv
    subst hv
    clear hR hb hm
    by_cases hlt : q < l.length
    · have hlt' : (q : Int) < (l.length : Int) := by omega
      obtain ⟨x, hxq⟩ : ∃ x, l[q]? = some x := ⟨_, List.getElem?_eq_getElem hlt⟩
      obtain ⟨gr, rfl, hcx⟩ := HM.out q x hxq
      have htk : ofN (l.take (q + 1)).reverse = [(x : Int)] ++ ofN (l.take q).reverse := by rw [List.take_add_one, hxq]; simp [ofN]
      have HTK := Aside0.mk htk
      have HC := Aside0.mk (Kd.R_reads' (Kd.R_alloc HR.out (.cells #[.int .i64 (x : Int)] 3))).2.2
      have hb2 := HB.out.size
      have HB2 := Aside0.mk (below_alloc HB.out (.cells #[.int .i64 (x : Int)] 3))
      have HR1 := Aside0.mk (R_one (x : Int) w.heap.size wr hb2)
      clear hxq htk hb2
      go_wp2_with (at_builtin; refine Kd.R_append_row (Value.int .i64) (0 : Int) (h1 := fun _ => rfl) (w0 := w) w.heap.size rfl (.tmp 43) (.tmp 44) 34 3 (.int .i64 0) 8 rfl Try.underlying34 (by kernel_rfl) rfl (by decide) _ [(x : Int)] (ofN (l.take q).reverse) A' q c' (fun _ => True) rfl rfl (fun _ _ => trivial) HR1.out (by have := HC.out; rw [ofN_len, List.length_reverse, List.length_take, Nat.min_eq_left hq] at this; exact this) HB2.out HB2.out.size (by simp only [List.length_singleton]; omega) ?_; intro v8 w8 hR8 hB8 hg8 _; have HR8 := Aside0.mk hR8; have HB8 := Aside0.mk hB8; clear hR8 hB8 hg8)
      exact ⟨⟨q + 1, by omega, by go_num, by rw [HTK.out]; exact HR8.out, HB8.out⟩, by simp [intOf]; omega⟩
    · obtain rfl : q = l.length := by omega
      go_wp2_with (fail)
      go_ret
      exact ⟨_, rfl, by have := HR.out; rw [List.take_length] at this; exact this, HB.out⟩
/-- Row, of whatever row. -/
def rowL (L : List (List Nat)) (row : Int) (back : Bool) : List Nat := if 0 ≤ row then (match L[row.toNat]? with | none => [] | some l => if back then l.reverse else l) else []
theorem rrow_m (row : Int) (back : Bool) (base gx bL c : Nat) (vs pad : List Value) (L : List (List Nat)) (room : Nat) (w : World) (hx : RefX w base gx bL c vs pad L room) (hll : ∀ l ∈ L, l.length ≤ 1024) (h8 : L.length ≤ 8) :
    Calls Try.prog 32 #[.pointer (some ⟨gx, 0, none⟩), .int .i64 row, .bool back] w fun e w' => ∃ v, e = .returned v ∧ (Kd.int .i64).R 3 w' w.heap.size (fun _ => True) v (ofN (rowL L row back)) ∧ Below w.heap.size w w' := by
  unfold rowL
  by_cases h : 0 ≤ row ∧ row < L.length
  · obtain ⟨r, rfl⟩ : ∃ k : Nat, row = k := ⟨row.toNat, by omega⟩
    have hl : L[r]? = some L[r] := List.getElem?_eq_getElem (by omega)
    rw [if_pos h.1, Int.toNat_natCast, hl]
    cases back
    · exact rrow_fwd r base gx bL c vs pad L room w hx _ hl (hll _ (List.mem_of_getElem? hl)) h8
    · exact rrow_back r base gx bL c vs pad L room w hx _ hl (hll _ (List.mem_of_getElem? hl)) h8
  · refine (rrow_out row back base gx bL c vs pad L room w hx h).mono fun e w' ⟨he, hw⟩ => ⟨_, he, ?_, hw ▸ Below.refl _ _⟩
    by_cases h0 : 0 ≤ row
    · rw [if_pos h0, List.getElem?_eq_none (by omega)]; exact Kd.R_nil _ _ _ _ _
    · rw [if_neg h0]; exact Kd.R_nil _ _ _ _ _
end Go.Proofs.Ytofapimappeppaa.Z

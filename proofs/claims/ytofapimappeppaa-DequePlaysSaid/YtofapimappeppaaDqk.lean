/- The document's Push and Remove, of whatever is asked for. -/
import Derived.Test.YtofapimappeppaaDqh
namespace Go.Proofs.Ytofapimappeppaa.Z
open Go.RowKit Go.Proofs.YtofapimappeppaaW.PrintWords Go.Proofs.YtofapimappeppaaW.PrintLast Go.Proofs.YtofapimappeppaaW.PrintMore
attribute [local go_sem] max2_int min2_int max_two min_two max_three min_three max_four min_four
set_option linter.unusedVariables false
set_option linter.unusedSimpArgs false
set_option maxHeartbeats 8000000 in
set_option maxRecDepth 100000 in
theorem rpush_arg (r i : Int) (base gx bL c : Nat) (vs pad : List Value) (L : List (List Nat)) (room : Nat) (w : World) (hx : RefX w base gx bL c vs pad L room) (h : ¬ (0 ≤ r ∧ r < L.length ∧ 0 ≤ i ∧ i < room)) :
    Calls Try.prog 22 #[.pointer (some ⟨gx, 0, none⟩), .int .i64 r, .int .i64 i] w fun e w' => e = .returned (.int .i64 1) ∧ w = w' := by
  obtain ⟨h0, h1, f0, f1⟩ := hx.heads
  clear hx
  by_cases c1 : r < 0
  · clear h
    go_enter Try.func22, Try.ntmps22
    go_wp2_with (fail)
    go_ret
    exact ⟨rfl, rfl⟩
  · have d1 : decide (r < 0) = false := decide_eq_false c1
    by_cases c2 : (L.length : Int) ≤ r
    · clear h c1
      go_enter Try.func22, Try.ntmps22
      go_wp2_with (fail)
      go_ret
      exact ⟨rfl, rfl⟩
    · have d2 : decide ((L.length : Int) ≤ r) = false := decide_eq_false c2
      by_cases c3 : i < 0
      · clear h c1 c2
        go_enter Try.func22, Try.ntmps22
        go_wp2_with (fail)
        go_ret
        exact ⟨rfl, rfl⟩
      · have d3 : decide (i < 0) = false := decide_eq_false c3
        have c4 : (room : Int) ≤ i := by omega
        clear h c1 c2 c3
        go_enter Try.func22, Try.ntmps22
        go_wp2_with (fail)
        go_ret
        exact ⟨rfl, rfl⟩
set_option maxHeartbeats 8000000 in
set_option maxRecDepth 100000 in
theorem rpush_busy (r i r2 : Nat) (base gx bL c : Nat) (vs pad : List Value) (L : List (List Nat)) (room : Nat) (w : World) (hx : RefX w base gx bL c vs pad L room) (hr : r < L.length) (hi : i < room) (hf : L.findIdx? (fun l => decide ((i : Int) ∈ ofN l)) = some r2) (hroom : room ≤ 1024) (hll : ∀ l ∈ L, l.length ≤ 1024) (h8 : L.length ≤ 8) :
    Calls Try.prog 22 #[.pointer (some ⟨gx, 0, none⟩), .int .i64 r, .int .i64 i] w fun e w' => e = .returned (.int .i64 10) ∧ w = w' := by
  have r0 : (0 : Int) ≤ (r : Int) := by omega
  have r1 : (r : Int) < (L.length : Int) := by omega
  have i0 : (0 : Int) ≤ (i : Int) := by omega
  have i1 : (i : Int) < (room : Int) := by omega
  obtain ⟨h0, h1, f0, f1⟩ := hx.heads
  have HX := Aside0.mk hx
  have HLL := Aside0.mk hll
  have HF := Aside0.mk hf
  clear hx hll hf
  go_enter Try.func22, Try.ntmps22
  go_wp2_with (fail)
  refine (rwhere_m i base gx bL c vs pad L room _ HX.out h8 HLL.out (r2 : Int) (by rw [HF.out])).mono ?_
  rintro e w' ⟨rfl, rfl⟩
  go_wp2_with (fail)
  go_ret
  exact ⟨rfl, rfl⟩
theorem findIdx_row (L : List (List Nat)) (i : Nat) : L.findIdx? (fun l => decide ((i : Int) ∈ ofN l)) = rowOf L i := by
  unfold rowOf
  congr 1
  funext l
  rw [decide_eq_decide]
  exact ofN_mem
theorem rowOf_none {L : List (List Nat)} {i : Nat} (h : rowOf L i = none) : isIn L i = false := by
  rw [Bool.eq_false_iff]
  intro hi
  obtain ⟨r, l, hl, hm⟩ := isIn_iff.1 hi
  have := List.findIdx?_eq_none_iff.1 h l (List.mem_of_getElem? hl)
  simp [hm] at this
theorem rowOf_some {L : List (List Nat)} {i r : Nat} (h : rowOf L i = some r) : ∃ l, L[r]? = some l ∧ i ∈ l := by
  obtain ⟨hr, hm, _⟩ := List.findIdx?_eq_some_iff_getElem.1 h
  exact ⟨_, List.getElem?_eq_getElem hr, of_decide_eq_true hm⟩
theorem RefX.lower {w : World} {base base' gx bL c : Nat} {vs pad : List Value} {L : List (List Nat)} {room : Nat} (h : RefX w base gx bL c vs pad L room) (hb : base' ≤ base) : RefX w base' gx bL c vs pad L room :=
  ⟨h.head, h.rows, h.cap, ⟨h.hd.len, fun r v l hv hl => Kd.R_lower (h.hd.row r v l hv hl) hb, h.hd.apart⟩, Nat.le_trans hb h.lo.1, Nat.le_trans hb h.lo.2⟩
/-- The document's rows, of whatever headers. -/
def RefAt (w : World) (base gx : Nat) (L : List (List Nat)) (room : Nat) : Prop := ∃ bL c vs pad, RefX w base gx bL c vs pad L room
theorem rpush_m (r i : Int) (base gx : Nat) (L : List (List Nat)) (room : Nat) (w : World) (hx : RefAt w base gx L room) (hroom : room ≤ 1024) (hll : ∀ l ∈ L, l.length ≤ 1024) (h8 : L.length ≤ 8) (W0 : World) (hbase : base = W0.heap.size) (hB0 : Below base W0 w) (hbw : base ≤ w.heap.size) :
    Calls Try.prog 22 #[.pointer (some ⟨gx, 0, none⟩), .int .i64 r, .int .i64 i] w fun e w' => e = .returned (.int .i64 (DPush L room r i).1) ∧ RefAt w' base gx (DPush L room r i).2 room ∧ Below base W0 w' ∧ KT [3, 34] w w' := by
  obtain ⟨bL, c, vs, pad, hx⟩ := hx
  unfold DPush
  by_cases h : 0 ≤ r ∧ r < L.length ∧ 0 ≤ i ∧ i < room
  · rw [if_pos h]
    obtain ⟨r', rfl⟩ : ∃ k : Nat, r = k := ⟨r.toNat, by omega⟩
    obtain ⟨i', rfl⟩ : ∃ k : Nat, i = k := ⟨i.toNat, by omega⟩
    simp only [Int.toNat_natCast]
    cases hf : rowOf L i' with
    | none =>
      have hn := rowOf_none hf
      have hl : L[r']? = some L[r'] := List.getElem?_eq_getElem (by omega)
      rw [hn, if_neg (by simp), show L.getD r' [] = L[r'] from by rw [List.getD_eq_getElem?_getD, hl]; rfl]
      exact (rpush_ok r' i' base gx bL c vs pad L room w hx _ hl (by omega) hn hroom hll h8 W0 hbase hB0 hbw).mono fun e w' ⟨he, vs', hx', hb'⟩ => ⟨he, ⟨bL, c, vs', pad, hx'⟩, hb'⟩
    | some r2 =>
      obtain ⟨l, hl, hm⟩ := rowOf_some hf
      rw [isIn_iff.2 ⟨r2, l, hl, hm⟩, if_pos rfl]
      exact (rpush_busy r' i' r2 base gx bL c vs pad L room w hx (by omega) (by omega) ((findIdx_row L i').trans hf) hroom hll h8).mono fun e w' ⟨he, hw⟩ => ⟨he, ⟨bL, c, vs, pad, hw ▸ hx⟩, hw ▸ hB0, hw ▸ KT.refl _ _⟩
  · rw [if_neg h]
    exact (rpush_arg r i base gx bL c vs pad L room w hx h).mono fun e w' ⟨he, hw⟩ => ⟨he, ⟨bL, c, vs, pad, hw ▸ hx⟩, hw ▸ hB0, hw ▸ KT.refl _ _⟩
set_option maxHeartbeats 8000000 in
set_option maxRecDepth 100000 in
theorem rremove_arg (i : Int) (base gx bL c : Nat) (vs pad : List Value) (L : List (List Nat)) (room : Nat) (w : World) (hx : RefX w base gx bL c vs pad L room) (h : ¬ (0 ≤ i ∧ i < room)) :
    Calls Try.prog 23 #[.pointer (some ⟨gx, 0, none⟩), .int .i64 i] w fun e w' => e = .returned (.int .i64 1) ∧ w = w' := by
  obtain ⟨h0, h1, f0, f1⟩ := hx.heads
  clear hx
  by_cases c1 : i < 0
  · clear h
    go_enter Try.func23, Try.ntmps23
    go_wp2_with (fail)
    go_ret
    exact ⟨rfl, rfl⟩
  · have d1 : decide (i < 0) = false := decide_eq_false c1
    have c4 : (room : Int) ≤ i := by omega
    clear h c1
    go_enter Try.func23, Try.ntmps23
    go_wp2_with (fail)
    go_ret
    exact ⟨rfl, rfl⟩
set_option maxHeartbeats 8000000 in
set_option maxRecDepth 100000 in
theorem rremove_none (i : Nat) (base gx bL c : Nat) (vs pad : List Value) (L : List (List Nat)) (room : Nat) (w : World) (hx : RefX w base gx bL c vs pad L room) (hi : i < room) (hroom : room ≤ 1024) (hf : rowOf L i = none) (hll : ∀ l ∈ L, l.length ≤ 1024) (h8 : L.length ≤ 8) :
    Calls Try.prog 23 #[.pointer (some ⟨gx, 0, none⟩), .int .i64 i] w fun e w' => e = .returned (.int .i64 3) ∧ w = w' := by
  have i0 : (0 : Int) ≤ (i : Int) := by omega
  have i1 : (i : Int) < (room : Int) := by omega
  obtain ⟨h0, h1, f0, f1⟩ := hx.heads
  have HX := Aside0.mk hx
  have HLL := Aside0.mk hll
  have HF := Aside0.mk hf
  clear hx hll hf
  go_enter Try.func23, Try.ntmps23
  go_wp2_with (fail)
  refine (rwhere_m i base gx bL c vs pad L room _ HX.out h8 HLL.out (-1) (by rw [findIdx_row, HF.out])).mono ?_
  rintro e w' ⟨rfl, rfl⟩
  go_wp2_with (fail)
  go_ret
  exact ⟨rfl, rfl⟩
set_option maxHeartbeats 8000000 in
set_option maxRecDepth 100000 in
theorem rremove_ok (i r : Nat) (base gx bL c : Nat) (vs pad : List Value) (L : List (List Nat)) (room : Nat) (w : World) (hx : RefX w base gx bL c vs pad L room) (hi : i < room) (hroom : room ≤ 1024) (l : List Nat) (hl : L[r]? = some l) (hf : rowOf L i = some r) (hll : ∀ l ∈ L, l.length ≤ 1024) (h8 : L.length ≤ 8) (W0 : World) (hbase : base = W0.heap.size) (hB0 : Below base W0 w) (hbw : base ≤ w.heap.size) :
    Calls Try.prog 23 #[.pointer (some ⟨gx, 0, none⟩), .int .i64 i] w fun e w' => e = .returned (.int .i64 0) ∧ ∃ vs', RefX w' base gx bL c vs' pad (L.set r (l.filter (fun x => decide (x ≠ i)))) room ∧ Below base W0 w' ∧ KT [3, 34] w w' := by
  have hrl : r < L.length := (List.getElem?_eq_some_iff.1 hl).1
  have r0 : (0 : Int) ≤ (r : Int) := by omega
  have r1 : (r : Int) < (L.length : Int) := by omega
  have i0 : (0 : Int) ≤ (i : Int) := by omega
  have i1 : (i : Int) < (room : Int) := by omega
  have hlen := hll l (List.mem_of_getElem? hl)
  obtain ⟨h0, h1, f0, f1⟩ := hx.heads
  have HX := Aside0.mk hx
  have HLL := Aside0.mk hll
  have HF := Aside0.mk hf
  have HL := Aside0.mk hl
  have HB0 := Aside0.mk hB0
  clear hx hll hf hl hB0
  go_enter Try.func23, Try.ntmps23
  go_wp2_with (fail)
  refine (rwhere_m i base gx bL c vs pad L room _ HX.out h8 HLL.out (r : Int) (by rw [findIdx_row, HF.out])).mono ?_
  rintro e w' ⟨rfl, rfl⟩
  go_wp2_with (fail)
  clear h0 h1 f0 f1
  go_loopw [6, 7] (fun v p wr => ∃ q : Nat, q ≤ l.length ∧ p = .int .i64 q ∧ (Kd.int .i64).R 3 wr w.heap.size (fun _ => True) v (ofN ((l.take q).filter (fun x => decide (x ≠ i)))) ∧ Below w.heap.size w wr) (fun _ p _ => l.length - (intOf p).toNat)
  case atStart => exact ⟨0, Nat.zero_le _, rfl, Kd.R_nil _ _ _ _ _, Below.refl _ _⟩
  case round =>
    obtain ⟨q, hq, rfl, hR, hb⟩ := hrel
    have HXQ := Aside0.mk (HX.out.below hb)
    obtain ⟨h0, h1, _, f1⟩ := HXQ.out.heads
    obtain ⟨v0, A, n, _, _, hc, _, hm⟩ := HXQ.out.at HL.out
    have HR := Aside0.mk hR
    have HB := Aside0.mk hb
    have HM := Aside0.mk hm
    obtain ⟨A', c', hv⟩ := Kd.R_slice hR
    have hfl : ((l.take q).filter (fun x => decide (x ≠ i))).length ≤ q := Nat.le_trans (List.length_filter_le _ _) (by rw [List.length_take]; omega)
    rw [ofN_len] at hv
    obtain ⟨F, hF⟩ : ∃ F, F = (l.take q).filter (fun x => decide (x ≠ i)) := ⟨_, rfl⟩
    rw [← hF] at hfl hv HR
    have HFF := Aside0.mk hF
    subst hv
    clear hR hb hm hF
    by_cases hlt : q < l.length
    · have hlt' : (q : Int) < (l.length : Int) := by omega
      obtain ⟨x, hxq⟩ : ∃ x, l[q]? = some x := ⟨_, List.getElem?_eq_getElem hlt⟩
      obtain ⟨gr, rfl, hcx⟩ := HM.out q x hxq
      by_cases hxi : x = i
      · have hb : ((x : Int) != (i : Int)) = false := by rw [hxi]; simp
        have htk : (l.take (q + 1)).filter (fun x => decide (x ≠ i)) = F := by rw [List.take_add_one, hxq, List.filter_append, ← HFF.out]; simp [hxi]
        have HTK := Aside0.mk htk
        clear hxq htk hxi
        go_wp2_with (fail)
        go_roundw
        case rel => exact ⟨q + 1, by omega, by go_num, by rw [HTK.out]; exact HR.out, HB.out⟩
        case measure => simp [intOf]; omega
      · have hb : ((x : Int) != (i : Int)) = true := by rw [bne_iff_ne]; omega
        have htk : ofN ((l.take (q + 1)).filter (fun x => decide (x ≠ i))) = ofN F ++ [(x : Int)] := by rw [List.take_add_one, hxq, List.filter_append, ← HFF.out]; simp [hxi, ofN_snoc]
        have HTK := Aside0.mk htk
        clear hxq htk hxi
        go_wp2_with (at_builtin; refine Kd.R_append (Kd.int .i64) (w0 := w) w.heap.size rfl (.tmp 47) (.tmp 58) 34 3 (.int .i64 0) 8 rfl Try.underlying34 (by kernel_rfl) rfl (by decide) (by omega) _ (ofN F) (x : Int) [.int .i64 (x : Int)] (fun _ => True) (fun _ => False) rfl rfl rfl (fun _ hk => hk.elim) (fun _ _ => trivial) HR.out HB.out HB.out.size (by rw [ofN_len]; omega) ?_; intro v8 w8 hR8 hB8 hg8 _; have HR8 := Aside0.mk hR8; have HB8 := Aside0.mk hB8; clear hR8 hB8 hg8)
        go_roundw
        case rel => exact ⟨q + 1, by omega, by go_num, by rw [HTK.out]; exact HR8.out, HB8.out⟩
        case measure => simp [intOf]; omega
    · obtain rfl : q = l.length := by omega
      obtain ⟨v2, A2, n2, hv2, hvr2, hc2, _, _⟩ := HX.out.at HL.out
      have HV2 := Aside0.mk hvr2
      clear hv2 hvr2 hc2
      go_wp2_with (fail)
      go_ret
      have hF2 : F = l.filter (fun x => decide (x ≠ i)) := by have := HFF.out; rw [List.take_length] at this; exact this
      rw [← hF2]
      have hsz := HB.out.size
      exact ⟨rfl, _, RefX.stored HX.out HV2.out (Kd.R_lower HR.out hbw) (grown_of_below HB.out _) (by
        rcases Kd.R_base2 HR.out with h | ⟨b, h, hle⟩
        · exact .inl h
        · exact .inr (.inr ⟨b, h, hle⟩)) HXQ.out.head HXQ.out.rows, (below_then HB0.out hbw (HB.out)).setCell (p := ⟨bL, r, none⟩) HX.out.lo.2 _, ((KT.refl [3, 34] w).below HB.out).set (p := ⟨bL, r, none⟩) HXQ.out.rows (by simp) _⟩
theorem filter_erase {l : List Nat} {i : Nat} (h : l.Nodup) : l.filter (fun x => decide (x ≠ i)) = l.erase i := by
  rw [List.Nodup.erase_eq_filter h]
  congr 1
  funext x
  by_cases h : x = i <;> simp [h]
theorem rremove_m (i : Int) (base gx : Nat) (L : List (List Nat)) (room : Nat) (w : World) (hx : RefAt w base gx L room) (hroom : room ≤ 1024) (hll : ∀ l ∈ L, l.length ≤ 1024 ∧ l.Nodup) (h8 : L.length ≤ 8) (W0 : World) (hbase : base = W0.heap.size) (hB0 : Below base W0 w) (hbw : base ≤ w.heap.size) :
    Calls Try.prog 23 #[.pointer (some ⟨gx, 0, none⟩), .int .i64 i] w fun e w' => e = .returned (.int .i64 (DRemove L room i).1) ∧ RefAt w' base gx (DRemove L room i).2 room ∧ Below base W0 w' ∧ KT [3, 34] w w' := by
  obtain ⟨bL, c, vs, pad, hx⟩ := hx
  unfold DRemove
  by_cases h : 0 ≤ i ∧ i < room
  · rw [if_pos h]
    obtain ⟨i', rfl⟩ : ∃ k : Nat, i = k := ⟨i.toNat, by omega⟩
    simp only [Int.toNat_natCast]
    cases hf : rowOf L i' with
    | none =>
      exact (rremove_none i' base gx bL c vs pad L room w hx (by omega) hroom hf (fun l hl => (hll l hl).1) h8).mono fun e w' ⟨he, hw⟩ => ⟨he, ⟨bL, c, vs, pad, hw ▸ hx⟩, hw ▸ hB0, hw ▸ KT.refl _ _⟩
    | some r =>
      obtain ⟨l, hl, hm⟩ := rowOf_some hf
      dsimp only
      rw [show L.getD r [] = l from by rw [List.getD_eq_getElem?_getD, hl]; rfl, ← filter_erase (hll l (List.mem_of_getElem? hl)).2]
      exact (rremove_ok i' r base gx bL c vs pad L room w hx (by omega) hroom l hl hf (fun l hl => (hll l hl).1) h8 W0 hbase hB0 hbw).mono fun e w' ⟨he, vs', hx', hb'⟩ => ⟨he, ⟨bL, c, vs', pad, hx'⟩, hb'⟩
  · rw [if_neg h]
    exact (rremove_arg i base gx bL c vs pad L room w hx h).mono fun e w' ⟨he, hw⟩ => ⟨he, ⟨bL, c, vs, pad, hw ▸ hx⟩, hw ▸ hB0, hw ▸ KT.refl _ _⟩
end Go.Proofs.Ytofapimappeppaa.Z

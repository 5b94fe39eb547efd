/- The document's New, Push, Remove. -/
import Derived.Test.YtofapimappeppaaDqg
import Derived.Deep.RegionLaw
namespace Go.Proofs.Ytofapimappeppaa.Z
open Go.RowKit Go.Proofs.YtofapimappeppaaW.PrintWords Go.Proofs.YtofapimappeppaaW.PrintLast Go.Proofs.YtofapimappeppaaW.PrintMore
attribute [local go_sem] max2_int min2_int max_two min_two max_three min_three max_four min_four
set_option linter.unusedVariables false
set_option linter.unusedSimpArgs false
def nilK : Kd Unit := Kd.scalar (fun _ => Value.slice none 0 0) (fun _ => rfl)
theorem R_blk {w : World} {e base n : Nat} {v : Value} (h : nilK.R e w base (fun _ => True) v (List.replicate n ())) (hn : 0 < n) : ∃ g cap pad, v = .slice (some ⟨g, 0, none⟩) n cap ∧ base ≤ g ∧ n ≤ cap ∧ Blk w g e (List.replicate n (.slice none 0 0) ++ pad) := by
  obtain ⟨_, inner, ho, hr⟩ := h
  have hi : inner = List.replicate n (.slice none 0 0) := by
    have hl := hr.1
    simp only [List.length_replicate, nilK, Kd.scalar, Nat.mul_one] at hl
    apply List.ext_getElem?
    intro j
    by_cases hj : j < n
    · have h2 := hr.2 j () (by simp [hj])
      have h3 : (inner.drop (j * 1)).take 1 = [.slice none 0 0] := h2
      rw [Nat.mul_one] at h3
      have h4 : ((inner.drop j).take 1)[0]? = some (.slice none 0 0) := by rw [h3]; rfl
      rw [List.getElem?_take, if_pos (by omega), List.getElem?_drop, Nat.add_zero] at h4
      rw [h4]; simp [hj]
    · rw [List.getElem?_eq_none (by omega), List.getElem?_eq_none (by simp; omega)]
  subst hi
  rw [List.length_replicate] at ho
  rcases ho.2 with ⟨_, h0⟩ | ⟨g, cap, cur, hv, hb, hblk, hnc, _, hsz, htk⟩
  · omega
  · refine ⟨g, cap, cur.toList.drop n, hv, hb, hnc, ?_⟩
    have e1 : List.take (n * 1) cur.toList = List.replicate n (.slice none 0 0) := htk
    rw [Nat.mul_one] at e1
    show w.heap[g]? = some (.cells (List.replicate n (Value.slice none 0 0) ++ cur.toList.drop n).toArray e (0, 0))
    rw [← e1, List.take_append_drop]
    simpa using hblk
set_option maxHeartbeats 8000000 in
set_option maxRecDepth 100000 in
theorem rnew_ok (n m : Nat) (h1 : 1 ≤ n) (h2 : n ≤ 8) (w : World) :
    Calls Try.prog 21 #[.int .i64 n, .int .i64 m] w fun e w' => ∃ gx bL c pad, e = .returned (.pointer (some ⟨gx, 0, none⟩)) ∧ RefX w' w.heap.size gx bL c (List.replicate n (.slice none 0 0)) pad (List.replicate n []) m ∧ Below w.heap.size w w' := by
  go_enter Try.func21, Try.ntmps21
  go_wp2_with (fail)
  obtain ⟨gx, hgx⟩ : ∃ g, g = w.heap.size := ⟨_, rfl⟩
  have hB0 := Blk.new w 69 [.slice none 0 0, .int .i64 (m : Int)]
  have hb0 := below_alloc (Below.refl _ w) (.cells #[.slice none 0 0, .int .i64 (m : Int)] 69)
  rw [← hgx] at hB0
  rw [← hgx]
  have hlo : w.heap.size ≤ gx := by omega
  have HB0 := Aside0.mk hB0
  have HBB := Aside0.mk hb0
  clear hgx hB0 hb0
  go_loopw [6] (fun i wr => ∃ (k : Nat) (v : Value), k ≤ n ∧ i = .int .i64 k ∧ Blk wr gx 69 [v, .int .i64 (m : Int)] ∧ nilK.R 34 wr w.heap.size (fun _ => True) v (List.replicate k ()) ∧ Below w.heap.size w wr) (fun i _ => n - (intOf i).toNat)
  case atStart => exact ⟨0, .slice none 0 0, Nat.zero_le _, rfl, HB0.out, Kd.R_nil _ _ _ _ _, HBB.out⟩
  case round =>
    clear HB0 HBB
    obtain ⟨k, v, hk, rfl, hB, hR, hb⟩ := hrel
    obtain ⟨A, c, hv⟩ := Kd.R_slice hR
    rw [List.length_replicate] at hv
    subst hv
    have c0 := hB.cell 0 rfl
    have c1 := hB.cell 1 rfl
    have f0 := hB.frozen 0
    have HB := Aside0.mk hB
    have HR := Aside0.mk hR
    have HBB := Aside0.mk hb
    clear hB hR hb
    by_cases hlt : k < n
    · have hlt' : (k : Int) < (n : Int) := by omega
      have hkp : List.replicate (k + 1) () = List.replicate k () ++ [()] := List.replicate_succ'
      have HKP := Aside0.mk hkp
      clear hkp
      go_wp2_with (at_builtin; refine Kd.R_append nilK (w0 := w) w.heap.size rfl (.tmp 19) (.tmp 20) 67 34 (.slice none 0 0) 24 rfl Try.underlying67 (by kernel_rfl) rfl (by decide) (by omega) _ (List.replicate k ()) () [.slice none 0 0] (fun _ => True) (fun _ => False) rfl rfl rfl (fun _ hk => hk.elim) (fun _ _ => trivial) HR.out HBB.out HBB.out.size (by rw [List.length_replicate]; omega) ?_; intro v8 w8 hR8 hB8 hg8 _; have hBX := Blk.grown HB.out HR.out (by decide) hg8; have c8 := hBX.cell 0 rfl; have f8 := hBX.frozen 0; have HBX := Aside0.mk hBX; have HR8 := Aside0.mk hR8; have HB8 := Aside0.mk hB8; clear hR8 hB8 hg8 hBX; obtain ⟨A8, d8, hv8⟩ := Kd.R_slice HR8.out; rw [List.length_append, List.length_replicate] at hv8; simp only [List.length_singleton] at hv8; subst hv8)
      exact ⟨⟨k + 1, _, by omega, by go_num, HBX.out.put 0 _ rfl, by rw [HKP.out]; exact Kd.R_set HR8.out HBX.out (by intro q hq; simp [nilK, Kd.scalar] at hq; subst hq; decide) 0 _, HB8.out.setCell (p := ⟨gx, 0, none⟩) hlo _⟩, by simp [intOf]; omega⟩
    · obtain rfl : k = n := by omega
      go_wp2_with (fail)
      go_ret
      obtain ⟨g, cap, pad, hv, hg, hc, hblk⟩ := R_blk HR.out (by omega)
      injection hv with hv1 _ hv2
      subst hv1 hv2
      exact ⟨gx, g, _, pad, rfl, ⟨by simpa using HB.out, hblk, by simpa using hc, by rw [List.map_replicate]; exact Hdrs.nil _ _ _ _ _, hlo, hg⟩, HBB.out⟩
theorem findIdx_not {L : List (List Nat)} {i : Nat} (h : isIn L i = false) : L.findIdx? (fun l => decide ((i : Int) ∈ ofN l)) = none := by
  rw [List.findIdx?_eq_none_iff]
  intro l hl
  rw [decide_eq_false_iff_not, ofN_mem]
  intro hm
  obtain ⟨r, hr⟩ := List.mem_iff_getElem?.1 hl
  rw [isIn_iff.2 ⟨r, l, hr, hm⟩] at h
  cases h
/-- A new header is stored at row r. -/
theorem RefX.stored {w w1 : World} {base gx bL c : Nat} {vs pad : List Value} {L : List (List Nat)} {room r : Nat} {v v1 : Value} {l1 : List Nat} (hx : RefX w base gx bL c vs pad L room) (hvr : vs[r]? = some v) (hR : (Kd.int .i64).R 3 w1 base (fun _ => True) v1 (ofN l1)) (hg : w.grownBy w1 v.ownBlock)
    (ho : v1.ownBlock = none ∨ v1.ownBlock = v.ownBlock ∨ ∃ b, v1.ownBlock = some b ∧ w.heap.size ≤ b) (hhd : Blk w1 gx 69 [.slice (some ⟨bL, 0, none⟩) L.length c, .int .i64 room]) (hrw : Blk w1 bL 34 (vs ++ pad)) :
    RefX (w1.setCell ⟨bL, r, none⟩ v1) base gx bL c (vs.set r v1) pad (L.set r l1) room := by
  have hr : r < vs.length := (List.getElem?_eq_some_iff.1 hvr).1
  refine ⟨?_, ?_, by rw [List.length_set]; exact hx.cap, ?_, hx.lo⟩
  · rw [List.length_set]
    exact hhd.far (hhd.ne hrw (by decide)) _
  · exact hrw.put r v1 (by rw [List.set_append, if_pos hr])
  · rw [List.map_set]
    exact (hx.hd.put hvr hR hg ho).set_ (p := ⟨bL, r, none⟩) hrw (by decide) _
set_option maxHeartbeats 8000000 in
set_option maxRecDepth 100000 in
theorem rpush_ok (r i : Nat) (base gx bL c : Nat) (vs pad : List Value) (L : List (List Nat)) (room : Nat) (w : World) (hx : RefX w base gx bL c vs pad L room) (l : List Nat) (hl : L[r]? = some l) (hi : i < room) (hn : isIn L i = false) (hroom : room ≤ 1024) (hll : ∀ l ∈ L, l.length ≤ 1024) (h8 : L.length ≤ 8) (W0 : World) (hbase : base = W0.heap.size) (hB0 : Below base W0 w) (hbw : base ≤ w.heap.size) :
    Calls Try.prog 22 #[.pointer (some ⟨gx, 0, none⟩), .int .i64 r, .int .i64 i] w fun e w' => e = .returned (.int .i64 0) ∧ ∃ vs', RefX w' base gx bL c vs' pad (L.set r (l ++ [i])) room ∧ Below base W0 w' ∧ KT [3, 34] w w' := by
  have hrl : r < L.length := (List.getElem?_eq_some_iff.1 hl).1
  have r0 : (0 : Int) ≤ (r : Int) := by omega
  have r1 : (r : Int) < (L.length : Int) := by omega
  have i0 : (0 : Int) ≤ (i : Int) := by omega
  have i1 : (i : Int) < (room : Int) := by omega
  obtain ⟨h0, h1, f0, f1⟩ := hx.heads
  obtain ⟨v, A, n, hv, hvr, hc, hR, hm⟩ := hx.at hl
  have HX := Aside0.mk hx
  have HL := Aside0.mk hl
  have hlen := hll l (List.mem_of_getElem? hl)
  have HLL := Aside0.mk hll
  have HN := Aside0.mk hn
  have HV := Aside0.mk hvr
  have HVV := Aside0.mk hv
  have HR := Aside0.mk hR
  have HB0 := Aside0.mk hB0
  clear hx hl hll hn hvr hv hR hm hB0
  go_enter Try.func22, Try.ntmps22
  go_wp2_with (fail)
  refine (rwhere_m i base gx bL c vs pad L room _ HX.out h8 HLL.out (-1) (by rw [findIdx_not HN.out])).mono ?_
  rintro e w' ⟨rfl, rfl⟩
  go_wp2_with (fail)
  have q0 := (HX.out.head.alloc (.cells #[.int .i64 (i : Int)] 3)).cell 0 rfl
  have q1 := (HX.out.rows.alloc (.cells #[.int .i64 (i : Int)] 3)).cell r (by rw [List.getElem?_append_left (List.getElem?_eq_some_iff.1 HV.out).1]; exact HV.out)
  rw [HVV.out] at q1
  go_region_law (first | (refine Kd.R_append_step (Kd.int .i64) (w0 := W0) base rfl (.tmp 45) (.tmp 47) 34 3 (.int .i64 0) 8 rfl Try.underlying34 (by kernel_rfl) rfl (by decide) (by omega) _ (ofN l) (i : Int) [.int .i64 (i : Int)] (fun _ => True) (fun _ => False) rfl rfl rfl (fun _ hk => hk.elim) (fun _ _ => trivial) (Kd.R_drew HR.out) (below_drew HB0.out) hbw (by rw [ofN_len]; omega) ?_; intro v1 w1 hR1 hB1 hg1 ho1; have hrows := HX.out.rows.drew_.grown (Kd.R_drew HR.out) (by decide) hg1; have k1 := hrows.cell r (by rw [List.getElem?_append_left (List.getElem?_eq_some_iff.1 HV.out).1]; exact HV.out); have k2 := hrows.frozen r; have hhead := HX.out.head.drew_.grown (Kd.R_drew HR.out) (by decide) hg1; have k3 := hhead.cell 0 rfl; have HHD := Aside0.mk hhead; clear hhead; rw [HVV.out] at k1; have HR1 := Aside0.mk hR1; have HG1 := Aside0.mk hg1; have HO1 := Aside0.mk ho1; have HB1 := Aside0.mk hB1; have HRW := Aside0.mk hrows; clear hR1 hg1 ho1 hB1 hrows; obtain ⟨A1, n1, hv1⟩ := Kd.R_slice HR1.out; rw [List.length_append, ofN_len] at hv1; simp only [List.length_singleton] at hv1; subst hv1))
  all_goals
    go_wp2_with (fail)
    go_ret
    exact ⟨rfl, vs.set r (.slice A1 (l.length + 1) n1), RefX.stored (HX.out.kp (Kp.drew_ (Kp.refl [] w)) (by simp)) HV.out (by rw [ofN_snoc]; exact HR1.out) (by rw [HVV.out]; exact HG1.out) (by rw [HVV.out]; exact .inr HO1.out) HHD.out HRW.out, HB1.out.setCell (p := ⟨bL, r, none⟩) HX.out.lo.2 _, ((KT.refl [3, 34] w).drew.grown (Kd.R_drew HR.out) (by simp) HG1.out).set (p := ⟨bL, r, none⟩) HRW.out (by simp) _⟩
end Go.Proofs.Ytofapimappeppaa.Z

/- DequePlays. -/
import Derived.Test.YtofapimappeppaaDql
import Derived.Deep.CutBlock
import Derived.Deep.RegionHeld3
namespace Go.Proofs.Ytofapimappeppaa.Z
open Go.RowKit Go.Proofs.YtofapimappeppaaW.PrintWords Go.Proofs.YtofapimappeppaaW.PrintLast Go.Proofs.YtofapimappeppaaW.PrintMore
attribute [local go_sem] max2_int min2_int max_two min_two max_three min_three max_four min_four
set_option linter.unusedVariables false
set_option linter.unusedSimpArgs false
theorem RefAt.kt {ts : List Nat} {w W : World} {base gx room : Nat} {L : List (List Nat)} (h : RefAt w base gx L room) {S : List Nat} (k : Kp S w W) (hS : ∀ b, b ∈ S → ∃ T l, Blk w b T l ∧ T ≠ 3 ∧ T ≠ 69 ∧ T ≠ 34) : RefAt W base gx L room := by
  obtain ⟨bL, c, vs, pad, hx⟩ := h
  exact ⟨bL, c, vs, pad, hx.kp k hS⟩
theorem RefAt.below {w W : World} {base gx room : Nat} {L : List (List Nat)} (h : RefAt w base gx L room) (k : Below w.heap.size w W) : RefAt W base gx L room := by
  obtain ⟨bL, c, vs, pad, hx⟩ := h
  exact ⟨bL, c, vs, pad, hx.below k⟩
theorem RefAt.dq {w W : World} {base gx room g br bl : Nat} {L : List (List Nat)} {d : Dq} (h : RefAt w base gx L room) (hd : DqAt w g br bl d) (k : Kp [br, bl] w W) : RefAt W base gx L room :=
  h.kt (ts := []) k (by
    simp only [List.mem_cons, List.not_mem_nil, or_false]
    rintro b (rfl | rfl)
    · exact ⟨_, _, hd.rows, by decide, by decide, by decide⟩
    · exact ⟨_, _, hd.links, by decide, by decide, by decide⟩)
theorem DR.bounds {d : Dq} {L : List (List Nat)} (h : DR d L) : ∀ l ∈ L, l.length ≤ 1024 ∧ l.Nodup := fun l hl => by
  obtain ⟨r, hr⟩ := List.mem_iff_getElem?.1 hl
  exact ⟨Nat.le_trans (h.len hr) h.room, h.nd r l hr⟩
theorem DR.where_ref {d : Dq} {L : List (List Nat)} (h : DR d L) (i : Int) : d.whereOf i = match L.findIdx? (fun l => decide (i ∈ ofN l)) with | none => -1 | some r => (r : Int) := by
  by_cases h0 : 0 ≤ i
  · obtain ⟨i', rfl⟩ : ∃ k : Nat, i = k := ⟨i.toNat, by omega⟩
    rw [findIdx_row]; exact whereOf_m h i'
  · have : L.findIdx? (fun l => decide (i ∈ ofN l)) = none := by
      rw [List.findIdx?_eq_none_iff]
      intro l _
      rw [decide_eq_false_iff_not]
      intro hm
      obtain ⟨x, _, e⟩ := List.mem_map.1 hm
      omega
    rw [this]
    unfold Dq.whereOf
    rw [if_neg h0]
theorem rwhere_at (i : Int) (base gx : Nat) (L : List (List Nat)) (room : Nat) (w : World) (hx : RefAt w base gx L room) (h8 : L.length ≤ 8) (hl : ∀ l ∈ L, l.length ≤ 1024) (r0 : Int) (hr0 : r0 = match L.findIdx? (fun l => decide (i ∈ ofN l)) with | none => -1 | some r => (r : Int)) :
    Calls Try.prog 25 #[.pointer (some ⟨gx, 0, none⟩), .int .i64 i] w fun e w' => e = .returned (.int .i64 r0) ∧ w = w' := by
  obtain ⟨bL, c, vs, pad, hx⟩ := hx
  exact rwhere_m i base gx bL c vs pad L room w hx h8 hl r0 hr0
set_option maxHeartbeats 8000000 in
set_option maxRecDepth 100000 in
theorem plays_ok (N M : Int) (A : Option Addr) (cap : Nat) (acts : List Act) (w : World) (hN : 0 ≤ N ∧ N < 256) (hM : 0 ≤ M ∧ M < 256) (hC : Act.kd.C w A acts.length acts) (hcap : acts.length ≤ cap) (hmax : cap ≤ maxLen) (hok : ∀ x ∈ acts, x.ok) : Calls Try.prog 6 #[.int .u8 N, .int .u8 M, .slice A acts.length cap] w fun e w' => e = .returned (.bool true) ∧ Below w.heap.size w w' := by
 unfold maxLen at hmax
 have HC := Aside0.mk hC
 have HOK := Aside0.mk hok
 clear hC hok
 obtain ⟨n, hn⟩ : ∃ n : Nat, 1 + N % 8 = (n : Int) := ⟨(1 + N % 8).toNat, by omega⟩
 obtain ⟨m, hm⟩ : ∃ m : Nat, 1 + M % 20 = (m : Int) := ⟨(1 + M % 20).toNat, by omega⟩
 have hn1 : 1 ≤ n := by omega
 have hn8 : n ≤ 8 := by omega
 have hm1 : 1 ≤ m := by omega
 have hm20 : m ≤ 20 := by omega
 go_enter Try.func6, Try.ntmps6
 go_wp2_with (fail)
 refine (dawake_ok _).mono ?_
 rintro e w2 ⟨rfl, hb2⟩
 have HB := Aside0.mk hb2
 clear hb2
 go_wp2_with (fail)
 refine (dnew_ok n m (by omega) (by omega) (by omega) (by omega) _).mono ?_
 rintro e w3 ⟨g, br, bl, rfl, hs, hg, hbr, hbl, hb3⟩
 have HS := Aside0.mk hs
 have H0 := Aside0.mk (DR.new n m (by omega))
 have HB3 := Aside0.mk (below_step HB.out hb3)
 have y1 : w.heap.size ≤ br := Nat.le_trans HB.out.size hbr
 have y2 : w.heap.size ≤ bl := Nat.le_trans HB.out.size hbl
 clear hs hb3 HB hg hbr hbl hn hm
 go_wp2_with (fail)
 refine (rnew_ok n m hn1 hn8 _).mono ?_
 rintro e w4 ⟨gx, bL, c, pad, rfl, hx, hb4⟩
 have HX := Aside0.mk (show RefAt w4 w.heap.size gx (List.replicate n []) m from ⟨bL, c, _, pad, hx.lower HB3.out.size⟩)
 have HS4 := Aside0.mk (HS.out.below hb4)
 have HB4 := Aside0.mk (below_step HB3.out hb4)
 clear hx hb4 HS HB3
 go_wp2_with (fail)
 go_loopw [39] (fun i wr => ∃ (k : Nat) (d : Dq) (L : List (List Nat)), k ≤ acts.length ∧ i = .int .i64 k ∧ DqAt wr g br bl d ∧ DR d L ∧ d.links.length = m ∧ L.length = n ∧ RefAt wr w.heap.size gx L m ∧ Below w.heap.size w wr) (fun i _ => acts.length - (intOf i).toNat)
 case atStart => exact ⟨0, _, _, by omega, rfl, HS4.out, H0.out, by simp, by simp, HX.out, HB4.out⟩
 case round =>
  clear HS4 H0 HX HB4
  obtain ⟨k, d, L, hk, rfl, hd, hdr, hdl, hLn, hx, hbk⟩ := hrel
  have HD := Aside0.mk hd
  have HDR := Aside0.mk hdr
  have HDL := Aside0.mk hdl
  have HX := Aside0.mk hx
  have HBK := Aside0.mk hbk
  have HLN := Aside0.mk hLn
  clear hd hdr hdl hx hbk hLn
  by_cases hlt : k < acts.length
  · have hlt' : (k : Int) < (acts.length : Int) := by omega
    obtain ⟨ad, rfl⟩ : ∃ ad, A = some ad := by
      obtain ⟨ad, h, _⟩ := HC.out.2.2 (by omega)
      exact ⟨ad, h⟩
    obtain ⟨x, hx⟩ : ∃ x, acts[k]? = some x := ⟨_, List.getElem?_eq_getElem hlt⟩
    have hxok := HOK.out x (List.mem_of_getElem? hx)
    obtain ⟨e0, e1, e2⟩ := Act.came (Kd.C_below HC.out HBK.out) hx
    have hdo := wf_u8 hxok.1
    clear hx hxok
    by_cases h60 : k < 60
    · have h60' : (k : Int) < 60 := by omega
      by_cases hdo3 : x.do_ % 5 < 3
      · go_upto_region 14 with (fail)
        obtain ⟨gq, hgq⟩ : ∃ g, g = wr.heap.size := ⟨_, rfl⟩
        have hbox := Blk.new wr 48 [.int .u8 x.do_, .int .i64 x.row, .int .i64 x.i]
        have hd5 := HD.out.below (below_alloc (Below.refl _ wr) (.cells #[.int .u8 x.do_, .int .i64 x.row, .int .i64 x.i] 48))
        have hx5 := HX.out.below (below_alloc (Below.refl _ wr) (.cells #[.int .u8 x.do_, .int .i64 x.row, .int .i64 x.i] 48))
        have hb5 := HBK.out.alloc HBK.out.size (.cells #[.int .u8 x.do_, .int .i64 x.row, .int .i64 x.i] 48)
        have hbox : Blk (wr.alloc (.cells #[.int .u8 x.do_, .int .i64 x.row, .int .i64 x.i] 48)) wr.heap.size 48 [.int .u8 x.do_, .int .i64 x.row, .int .i64 x.i] := hbox
        rw [← hgq] at hbox ⊢
        clear hgq e0 e1 e2
        generalize (wr.alloc (.cells #[.int .u8 x.do_, .int .i64 x.row, .int .i64 x.i] 48)) = w5 at *
        have HBX := Aside0.mk hbox
        have HD5 := Aside0.mk hd5
        have HX5 := Aside0.mk hx5
        have HB5 := Aside0.mk hb5
        have q1 := hbox.cell 1 rfl
        have q2 := hbox.cell 2 rfl
        clear hbox hd5 hx5 hb5 HD HX HBK
        have nbq : ¬ (gq = br ∨ gq = bl) := by rintro (h | h) <;> subst h <;> first | exact (HBX.out.ne HD5.out.rows (by decide)) rfl | exact (HBX.out.ne HD5.out.links (by decide)) rfl
        go_region_held3 (fun w' => w'.cell? ⟨gq, 1, none⟩ = some (.int .i64 x.row) ∧ w'.cell? ⟨gq, 2, none⟩ = some (.int .i64 x.i)) (first | exact ⟨by assumption, by assumption⟩ | go_keep) (first
          | (go_at_call 10; refine (push_m x.row x.i g br bl d L _ (HD5.out.below (below_drew (Below.refl _ _))) HDR.out).mono ?_; rintro e w6 ⟨rfl, d6, hd6, hdr6, hl6, hk6⟩; have hbx6 := hk6.blk HBX.out.drew_ (by simp only [List.mem_cons, List.not_mem_nil, or_false]; exact nbq); have p1 := hbx6.cell 1 rfl; have p2 := hbx6.cell 2 rfl; have HX6 := Aside0.mk (RefAt.dq (HX5.out.below (below_drew (Below.refl _ _))) (HD5.out.below (below_drew (Below.refl _ _))) hk6); have HD6 := Aside0.mk hd6; have HDR6 := Aside0.mk hdr6; have HL6 := Aside0.mk hl6; have HBX6 := Aside0.mk hbx6; have HB6 := Aside0.mk (kp2_to hk6 (below_drew HB5.out) y1 y2 HB5.out.size); clear hd6 hdr6 hl6 hk6 hbx6)
          | (go_at_call 22; refine (rpush_m x.row x.i w.heap.size gx L m _ HX6.out (by omega) (fun l hl => (HDR.out.bounds l hl).1) (by rw [HLN.out]; exact hn8) w rfl HB6.out HB6.out.size).mono ?_; rintro e w7 ⟨rfl, hx7, hb7, hk7⟩; have hbx7 := hk7.blk _ _ _ HBX6.out (by decide); have s1 := hbx7.cell 1 rfl; have s2 := hbx7.cell 2 rfl; have HX7 := Aside0.mk hx7; have HD7 := Aside0.mk (HD6.out.kt hk7 (by decide) (by decide) (by decide)); have HBX7 := Aside0.mk hbx7; have HB7 := Aside0.mk hb7; clear hx7 hb7 hk7 hbx7))
        rw [HDL.out]
        have hdr7 := HDR6.out
        rw [HDL.out] at hdr7
        have hl7 := DPush_len L m x.row x.i
        obtain ⟨e7, he7⟩ : ∃ e, e = (DPush L m x.row x.i).1 := ⟨_, rfl⟩
        obtain ⟨L7, hL7⟩ : ∃ l, l = (DPush L m x.row x.i).2 := ⟨_, rfl⟩
        have hx7 := HX7.out
        rw [← hL7] at hdr7 hl7 hx7
        rw [← he7]
        have HX8 := Aside0.mk hx7
        have HDR7 := Aside0.mk hdr7
        have HLN7 := Aside0.mk (hl7.trans HLN.out)
        have HL7 := Aside0.mk (HL6.out.trans HDL.out)
        clear he7 hL7 hdr7 hl7 hx7 HX7 HDR6 HL6 HX6 HD6 HBX6 HB6 HBX HD5 HX5 HB5 q1 q2 p1 p2 HDR HDL HLN
        go_upto_region 16 with (fail)
        go_region_held3 (fun w' => w'.cell? ⟨gq, 1, none⟩ = some (.int .i64 x.row) ∧ w'.cell? ⟨gq, 2, none⟩ = some (.int .i64 x.i)) (first | exact ⟨by assumption, by assumption⟩ | go_keep) (first
          | (go_at_call 24; refine (like_ok n g br bl w.heap.size gx m d6 L7 _ (HD7.out.below (below_drew (Below.refl _ _))) HDR7.out (HX8.out.below (below_drew (Below.refl _ _))) HLN7.out hn8).mono ?_; rintro e w8 ⟨rfl, hb8⟩; have hbx8 := HBX7.out.drew_.below hb8; have t1 := hbx8.cell 1 rfl; have t2 := hbx8.cell 2 rfl; have HBX8 := Aside0.mk hbx8; have HD8 := Aside0.mk ((HD7.out.below (below_drew (Below.refl _ _))).below hb8); have HX9 := Aside0.mk ((HX8.out.below (below_drew (Below.refl _ _))).below hb8); have HB8 := Aside0.mk (below_step (below_drew HB7.out) hb8); clear hbx8 hb8)
          | (go_at_call 14; refine (where_any x.i g br bl d6 _ HD8.out).mono ?_; rintro e w' ⟨rfl, rfl⟩)
          | (go_at_call 25; refine (rwhere_at x.i w.heap.size gx L7 m _ HX9.out (by rw [HLN7.out]; exact hn8) (fun l hl => (HDR7.out.bounds l hl).1) (d6.whereOf x.i) (HDR7.out.where_ref x.i)).mono ?_; rintro e w' ⟨rfl, rfl⟩))
        go_wp2_with (fail)
        exact ⟨⟨k + 1, d6, L7, by omega, by go_num, HD8.out, HDR7.out, HL7.out, HLN7.out, HX9.out, HB8.out⟩, by simp [intOf]; omega⟩
      · go_upto_region 15 with (fail)
        obtain ⟨gq, hgq⟩ : ∃ g, g = wr.heap.size := ⟨_, rfl⟩
        have hbox := Blk.new wr 48 [.int .u8 x.do_, .int .i64 x.row, .int .i64 x.i]
        have hd5 := HD.out.below (below_alloc (Below.refl _ wr) (.cells #[.int .u8 x.do_, .int .i64 x.row, .int .i64 x.i] 48))
        have hx5 := HX.out.below (below_alloc (Below.refl _ wr) (.cells #[.int .u8 x.do_, .int .i64 x.row, .int .i64 x.i] 48))
        have hb5 := HBK.out.alloc HBK.out.size (.cells #[.int .u8 x.do_, .int .i64 x.row, .int .i64 x.i] 48)
        have hbox : Blk (wr.alloc (.cells #[.int .u8 x.do_, .int .i64 x.row, .int .i64 x.i] 48)) wr.heap.size 48 [.int .u8 x.do_, .int .i64 x.row, .int .i64 x.i] := hbox
        rw [← hgq] at hbox ⊢
        clear hgq e0 e1 e2
        generalize (wr.alloc (.cells #[.int .u8 x.do_, .int .i64 x.row, .int .i64 x.i] 48)) = w5 at *
        have HBX := Aside0.mk hbox
        have HD5 := Aside0.mk hd5
        have HX5 := Aside0.mk hx5
        have HB5 := Aside0.mk hb5
        have q1 := hbox.cell 1 rfl
        have q2 := hbox.cell 2 rfl
        clear hbox hd5 hx5 hb5 HD HX HBK
        have nbq : ¬ (gq = br ∨ gq = bl) := by rintro (h | h) <;> subst h <;> first | exact (HBX.out.ne HD5.out.rows (by decide)) rfl | exact (HBX.out.ne HD5.out.links (by decide)) rfl
        go_region_held3 (fun w' => w'.cell? ⟨gq, 1, none⟩ = some (.int .i64 x.row) ∧ w'.cell? ⟨gq, 2, none⟩ = some (.int .i64 x.i)) (first | exact ⟨by assumption, by assumption⟩ | go_keep) (first
          | (go_at_call 18; refine (remove_m x.i g br bl d L _ (HD5.out.below (below_drew (Below.refl _ _))) HDR.out).mono ?_; rintro e w6 ⟨rfl, d6, hd6, hdr6, hl6, hk6⟩; have hbx6 := hk6.blk HBX.out.drew_ (by simp only [List.mem_cons, List.not_mem_nil, or_false]; exact nbq); have p1 := hbx6.cell 1 rfl; have p2 := hbx6.cell 2 rfl; have HX6 := Aside0.mk (RefAt.dq (HX5.out.below (below_drew (Below.refl _ _))) (HD5.out.below (below_drew (Below.refl _ _))) hk6); have HD6 := Aside0.mk hd6; have HDR6 := Aside0.mk hdr6; have HL6 := Aside0.mk hl6; have HBX6 := Aside0.mk hbx6; have HB6 := Aside0.mk (kp2_to hk6 (below_drew HB5.out) y1 y2 HB5.out.size); clear hd6 hdr6 hl6 hk6 hbx6)
          | (go_at_call 23; refine (rremove_m x.i w.heap.size gx L m _ HX6.out (by omega) HDR.out.bounds (by rw [HLN.out]; exact hn8) w rfl HB6.out HB6.out.size).mono ?_; rintro e w7 ⟨rfl, hx7, hb7, hk7⟩; have hbx7 := hk7.blk _ _ _ HBX6.out (by decide); have s1 := hbx7.cell 1 rfl; have s2 := hbx7.cell 2 rfl; have HX7 := Aside0.mk hx7; have HD7 := Aside0.mk (HD6.out.kt hk7 (by decide) (by decide) (by decide)); have HBX7 := Aside0.mk hbx7; have HB7 := Aside0.mk hb7; clear hx7 hb7 hk7 hbx7))
        rw [HDL.out]
        have hdr7 := HDR6.out
        rw [HDL.out] at hdr7
        have hl7 := DRemove_len L m x.i
        obtain ⟨e7, he7⟩ : ∃ e, e = (DRemove L m x.i).1 := ⟨_, rfl⟩
        obtain ⟨L7, hL7⟩ : ∃ l, l = (DRemove L m x.i).2 := ⟨_, rfl⟩
        have hx7 := HX7.out
        rw [← hL7] at hdr7 hl7 hx7
        rw [← he7]
        have HX8 := Aside0.mk hx7
        have HDR7 := Aside0.mk hdr7
        have HLN7 := Aside0.mk (hl7.trans HLN.out)
        have HL7 := Aside0.mk (HL6.out.trans HDL.out)
        clear he7 hL7 hdr7 hl7 hx7 HX7 HDR6 HL6 HX6 HD6 HBX6 HB6 HBX HD5 HX5 HB5 q1 q2 p1 p2 HDR HDL HLN
        go_upto_region 16 with (fail)
        go_region_held3 (fun w' => w'.cell? ⟨gq, 1, none⟩ = some (.int .i64 x.row) ∧ w'.cell? ⟨gq, 2, none⟩ = some (.int .i64 x.i)) (first | exact ⟨by assumption, by assumption⟩ | go_keep) (first
          | (go_at_call 24; refine (like_ok n g br bl w.heap.size gx m d6 L7 _ (HD7.out.below (below_drew (Below.refl _ _))) HDR7.out (HX8.out.below (below_drew (Below.refl _ _))) HLN7.out hn8).mono ?_; rintro e w8 ⟨rfl, hb8⟩; have hbx8 := HBX7.out.drew_.below hb8; have t1 := hbx8.cell 1 rfl; have t2 := hbx8.cell 2 rfl; have HBX8 := Aside0.mk hbx8; have HD8 := Aside0.mk ((HD7.out.below (below_drew (Below.refl _ _))).below hb8); have HX9 := Aside0.mk ((HX8.out.below (below_drew (Below.refl _ _))).below hb8); have HB8 := Aside0.mk (below_step (below_drew HB7.out) hb8); clear hbx8 hb8)
          | (go_at_call 14; refine (where_any x.i g br bl d6 _ HD8.out).mono ?_; rintro e w' ⟨rfl, rfl⟩)
          | (go_at_call 25; refine (rwhere_at x.i w.heap.size gx L7 m _ HX9.out (by rw [HLN7.out]; exact hn8) (fun l hl => (HDR7.out.bounds l hl).1) (d6.whereOf x.i) (HDR7.out.where_ref x.i)).mono ?_; rintro e w' ⟨rfl, rfl⟩))
        go_wp2_with (fail)
        exact ⟨⟨k + 1, d6, L7, by omega, by go_num, HD8.out, HDR7.out, HL7.out, HLN7.out, HX9.out, HB8.out⟩, by simp [intOf]; omega⟩
    · have h60' : ¬ (k : Int) < 60 := by omega
      go_wp2_with (fail)
      go_ret
      exact ⟨rfl, HBK.out.alloc HBK.out.size _⟩
  · go_wp2_with (fail)
    go_ret
    exact ⟨rfl, HBK.out⟩
theorem plays_law (a0 a1 : Int) (A : Option Addr) (cap : Nat) (l : List Act) (W : World) (w0 : (Lit.int .u8 a0).wf = true) (w1 : (Lit.int .u8 a1).wf = true) (hC : Act.kd.C W A l.length l) (hcap : l.length ≤ cap) (hmax : cap ≤ maxLen) (hok : ∀ x ∈ l, x.ok) : Calls Try.prog 6 #[.int .u8 a0, .int .u8 a1, .slice A l.length cap] W fun e w' => e = .returned (.bool true) ∧ Below W.heap.size W w' :=
  plays_ok a0 a1 A cap l W (wf_u8 w0) (wf_u8 w1) hC hcap hmax hok
end Go.Proofs.Ytofapimappeppaa.Z

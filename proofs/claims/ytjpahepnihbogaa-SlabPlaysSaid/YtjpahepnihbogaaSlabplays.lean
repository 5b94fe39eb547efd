/- SlabPlays. -/
import Derived.Test.YtjpahepnihbogaaSlabpx
namespace Go.Proofs.Ytjpahepnihbogaa.Z
open Go.RowKit Go.Proofs.YtjpahepnihbogaaW.PrintWords Go.Proofs.YtjpahepnihbogaaW.PrintLast Go.Proofs.YtjpahepnihbogaaW.PrintMore
attribute [local go_sem] max2_int min2_int max_two min_two max_three min_three max_four min_four
set_option linter.unusedVariables false
set_option linter.unusedSimpArgs false
structure Act where
  do_ : Int
  q : Rq
  which : Int
  h : Int
def Act.enc (a : Act) : List Value := [.int .u8 a.do_, .int .u64 a.q.t, .int .i64 a.q.tier, .int .i64 a.q.coh, .int .i64 a.q.dl, .int .i64 a.q.ar, .int .u16 a.which, .int .u64 a.h]
def Act.kd : Kd Act := fk Act.enc 8 (fun _ => rfl) (fun x u hu => by simp [Act.enc] at hu; rcases hu with rfl | rfl | rfl | rfl | rfl | rfl | rfl | rfl <;> rfl)
abbrev Act.ok (a : Act) : Prop := (Lit.int .u8 a.do_).wf = true ∧ (Lit.int .u64 a.q.t).wf = true ∧ (Lit.int .i64 a.q.tier).wf = true ∧ (Lit.int .i64 a.q.coh).wf = true ∧ (Lit.int .i64 a.q.dl).wf = true ∧ (Lit.int .i64 a.q.ar).wf = true ∧ (Lit.int .u16 a.which).wf = true ∧ (Lit.int .u64 a.h).wf = true
theorem Act.came {w : World} {ad : Addr} {n : Nat} {xs : List Act} (h : Act.kd.C w (some ad) n xs) {i : Nat} {x : Act} (hx : xs[i]? = some x) :
    w.cell? (ad.add (i * 8)) = some (.int .u8 x.do_) ∧ w.cell? ⟨(ad.add (i * 8)).block, (ad.add (i * 8)).off + 1, none⟩ = some (.int .u64 x.q.t) ∧ w.cell? ⟨(ad.add (i * 8)).block, (ad.add (i * 8)).off + 2, none⟩ = some (.int .i64 x.q.tier) ∧ w.cell? ⟨(ad.add (i * 8)).block, (ad.add (i * 8)).off + 3, none⟩ = some (.int .i64 x.q.coh) ∧ w.cell? ⟨(ad.add (i * 8)).block, (ad.add (i * 8)).off + 4, none⟩ = some (.int .i64 x.q.dl) ∧ w.cell? ⟨(ad.add (i * 8)).block, (ad.add (i * 8)).off + 5, none⟩ = some (.int .i64 x.q.ar) ∧ w.cell? ⟨(ad.add (i * 8)).block, (ad.add (i * 8)).off + 6, none⟩ = some (.int .u16 x.which) ∧ w.cell? ⟨(ad.add (i * 8)).block, (ad.add (i * 8)).off + 7, none⟩ = some (.int .u64 x.h) :=
  have k := fk_came h hx
  ⟨k.1 _ rfl, k.2 0 _ rfl, k.2 1 _ rfl, k.2 2 _ rfl, k.2 3 _ rfl, k.2 4 _ rfl, k.2 5 _ rfl, k.2 6 _ rfl⟩
set_option maxHeartbeats 8000000 in
set_option maxRecDepth 100000 in
theorem slabPlays_body (rm : Int) (A : Option Addr) (cap : Nat) (acts : List Act) (w : World) (hrm : (Lit.int .u16 rm).wf = true) (hC : Act.kd.C w A acts.length acts) (hlc : acts.length ≤ cap) (hcap : cap ≤ maxLen) (hok : ∀ x ∈ acts, x.ok) :
    Calls Try.prog 5 #[.int .u16 rm, .slice A acts.length cap] w fun e w' => e = .returned (.bool true) ∧ Below w.heap.size w w' := by
  unfold maxLen at hcap
  have hr := wf_u16 hrm
  obtain ⟨n, hn, hn1, hn2⟩ : ∃ n : Nat, 1 + rm % 40 = (n : Int) ∧ 1 ≤ n ∧ n ≤ 40 := ⟨(1 + rm % 40).toNat, by omega, by omega, by omega⟩
  have HC := Aside0.mk hC
  have HOK := Aside0.mk hok
  obtain ⟨hr1, hr2⟩ := hr
  clear hC hok hrm
  go_enter Try.func5, Try.ntmps5
  go_wp2_with (fail)
  refine (awake_ok _).mono ?_
  rintro e w1 ⟨rfl, hb⟩
  have HB := Aside0.mk hb
  have HC1 := Aside0.mk (Kd.C_below HC.out hb)
  have HN := Aside0.mk (new_ok (n : Int) (by omega) (by omega) w1)
  clear hb HC
  go_wp2_with (fail)
  refine HN.out.mono ?_
  rintro e w2 ⟨g, gc, rfl, hs, hg1, hg2, hb2⟩
  rw [Int.toNat_natCast] at hs
  have HS2 := Aside0.mk (And.intro hs (And.intro hg1 (And.intro hg2 hb2)))
  clear hs hg1 hg2 hb2 HN
  go_wp2_with (fail)
  refine (rnew_ok n (by omega) w2).mono ?_
  rintro e w3 ⟨gx, vq, vt, vn, vf, rfl, hns, hgx, hb3⟩
  obtain ⟨bq, cq, hvq, _⟩ := Kd.R_form hns.rq (by simp; omega)
  rw [List.length_replicate] at hvq
  subst hvq
  have HX : Aside0 (∀ W vT T, Below w3.heap.size w3 W → (Kd.int .u64).R 30 W w3.heap.size (fun _ => True) vT T → 0 < T.length → (∀ x ∈ T, 0 ≤ x ∧ x < 18446744073709551616) → PX w1 W w2.heap.size w3.heap.size g gc gx (.slice (some ⟨bq, 0, none⟩) n cq) vt vn vT ⟨List.replicate n Cel.nil, -1, 0, 0⟩ [] 0 (Slb.rs ⟨List.replicate n Cel.nil, -1, 0, 0⟩ []) T) := by
    refine ⟨fun W vT T hW hR h1 h2 => ?_⟩
    obtain ⟨hs, hg1, hg2, hb2⟩ := HS2.out
    have hrs : RSAt w3 w2.heap.size (fun b => b < w3.heap.size) gx (.slice (some ⟨bq, 0, none⟩) n cq) vt vn vf (Slb.rs ⟨List.replicate n Cel.nil, -1, 0, 0⟩ []) := by
      rw [rs_new]
      exact ⟨hns.head, hns.rq, hns.tk, Kd.R_mono (Kd.R_bound hns.tn) (fun k hk => hk.2.2.1), Fr.of_R hns.fr, by simp, by simp, hgx⟩
    have hbw : Below w2.heap.size w2 W := hb3.trans (hW.mono hb3.size)
    refine ⟨hs.kp (Kp.of_below (S := []) hbw) (by simp) (by simp), Wf.new n (by omega), ⟨vf, hrs.below hW⟩, hR, ⟨hs.head.lt, hs.body.lt⟩, ⟨hg1, hg2⟩, fun b hb => ?_, h2, h1, hb2.trans (hbw.mono hb2.size), hb2.size, hb3.size, hW.size⟩
    rcases mem_rown.1 hb with rfl | hb | hb | hb
    · exact ⟨hgx, hns.head.lt⟩
    · exact ⟨Kd.R_base hns.rq b hb, Kd.R_lt hns.rq b hb⟩
    · exact ⟨Kd.R_base hns.tk b hb, Kd.R_lt hns.tk b hb⟩
    · exact ⟨Kd.R_base hns.tn b hb, Kd.R_lt hns.tn b hb⟩
  clear hns hgx hb3 HS2
  go_wp2_with (fail)
  have HT := Aside0.mk (HX.out _ _ [0] (below_alloc (Below.refl _ w3) (.cells #[.int .u64 0] 30)) (R_one 30 w3 w3.heap.size 0 (Nat.le_refl _)) (by simp) (by simp))
  clear HX
  obtain ⟨M0, hM0⟩ : ∃ M, M = w2.heap.size := ⟨_, rfl⟩
  obtain ⟨M1, hM1⟩ : ∃ M, M = w3.heap.size := ⟨_, rfl⟩
  rw [← hM0, ← hM1] at HT
  rw [← hM1]
  clear hM0 hM1
  generalize (w3.alloc (Obj.cells #[Value.int IntKind.u64 0] 30)) = W3 at *
  obtain ⟨L, hLa⟩ : ∃ L, L = acts.length := ⟨_, rfl⟩
  rw [← hLa] at HC1 hlc
  rw [← hLa]
  have HLA := Aside0.mk hLa
  clear hLa hn
  go_loopw [9, 38] (fun vT i wr => ∃ (k : Nat) (s : Slb) (ch : List Nat) (T : List Int), k ≤ L ∧ i = .int .i64 k ∧ PX w1 wr M0 M1 g gc gx (.slice (some ⟨bq, 0, none⟩) n cq) vt vn vT s ch k (s.rs ch) T ∧ s.cells.length = n ∧ T.length ≤ k + 1) (fun _ i _ => L - (intOf i).toNat)
  case atStart => exact ⟨0, _, [], [0], Nat.zero_le _, rfl, HT.out, by simp, by simp⟩
  case round =>
    clear HT
    obtain ⟨k, s, ch, T, hk, rfl, hP, hsn, hTk⟩ := hrel
    by_cases hlt : k < L
    · have hlt' : (k : Int) < (L : Int) := by omega
      have k0 : (0 : Int) ≤ (k : Int) := by omega
      obtain ⟨ad, rfl⟩ : ∃ ad, A = some ad := by
        obtain ⟨ad, h, _⟩ := HC1.out.2.2 (by have := HC1.out.1; omega)
        exact ⟨ad, h⟩
      obtain ⟨x, hx⟩ : ∃ x, acts[k]? = some x := ⟨_, List.getElem?_eq_getElem (by rw [← HLA.out]; exact hlt)⟩
      have hxok := HOK.out x (List.mem_of_getElem? hx)
      obtain ⟨e0, e1, e2, e3, e4, e5, e6, e7⟩ := Act.came (Kd.C_below HC1.out hP.bel) hx
      have hdo := wf_u8 hxok.1
      have hwh := wf_u16 hxok.2.2.2.2.2.2.1
      have hhh := wf_u64 hxok.2.2.2.2.2.2.2
      have HP := Aside0.mk (And.intro hP (And.intro hsn hTk))
      clear hx hxok hP hsn hTk
      by_cases h80 : k < 100
      · have h80' : (k : Int) < 100 := by omega
        have hkb : (k : Int) + 1 ≤ 1024 := by omega
        have hT0 := HP.out.1.tn
        obtain ⟨bT, cT, hv, _⟩ := Kd.R_form HP.out.1.tl hT0
        obtain ⟨m, hm⟩ : ∃ m, m = T.length := ⟨_, rfl⟩
        rw [← hm] at hv hT0
        subst hv
        have HMM := Aside0.mk hm
        clear hm
        go_upto_region 13 with (fail)
        obtain ⟨gq, hgq⟩ : ∃ q, q = wr.heap.size := ⟨_, rfl⟩
        have hbox : Blk (wr.alloc (.cells #[.int .u8 x.do_, .int .u64 x.q.t, .int .i64 x.q.tier, .int .i64 x.q.coh, .int .i64 x.q.dl, .int .i64 x.q.ar, .int .u16 x.which, .int .u64 x.h] 49)) wr.heap.size 49 x.enc := Blk.new wr 49 x.enc
        have hp5 := HP.out.1.below (below_alloc (Below.refl _ wr) (.cells #[.int .u8 x.do_, .int .u64 x.q.t, .int .i64 x.q.tier, .int .i64 x.q.coh, .int .i64 x.q.dl, .int .i64 x.q.ar, .int .u16 x.which, .int .u64 x.h] 49))
        rw [← hgq] at hbox
        rw [← hgq]
        have HLE := Aside0.mk HP.out.2
        clear hgq e0 e1 e2 e3 e4 e5 e6 e7 HP
        generalize (wr.alloc (.cells #[.int .u8 x.do_, .int .u64 x.q.t, .int .i64 x.q.tier, .int .i64 x.q.coh, .int .i64 x.q.dl, .int .i64 x.q.ar, .int .u16 x.which, .int .u64 x.h] 49)) = w5 at *
        have b0 := hbox.cell 0 rfl
        have b1 := hbox.cell 1 rfl
        have b2 := hbox.cell 2 rfl
        have b3 := hbox.cell 3 rfl
        have b4 := hbox.cell 4 rfl
        have b5 := hbox.cell 5 rfl
        have b6 := hbox.cell 6 rfl
        have b7 := hbox.cell 7 rfl
        have HQ := Aside0.mk (And.intro hp5 hbox)
        clear hp5 hbox
        have hd1 : 0 ≤ x.do_ % 6 ∧ x.do_ % 6 < 6 := by omega
        go_upto_region 14 with (fail)
        go_cut [56] from 47 (fun s56 wx => s56 = .bool (decide (x.do_ % 6 = 2 ∨ x.do_ % 6 = 3)) ∧ wx = w5)
        case first =>
          by_cases q2 : x.do_ % 6 = 2
          · have p2 : (x.do_ % 6 == 2) = true := by simp [q2]
            have HD : Aside0 (decide (x.do_ % 6 = 2 ∨ x.do_ % 6 = 3) = true) := ⟨by simp [q2]⟩
            clear q2 hd1
            go_wp2_with (fail)
            go_meet
            case rel => exact ⟨by rw [HD.out], rfl⟩
          · by_cases q3 : x.do_ % 6 = 3
            · have p2 : (x.do_ % 6 == 2) = false := by simp [q2]
              have p3 : (x.do_ % 6 == 3) = true := by simp [q3]
              have HD : Aside0 (decide (x.do_ % 6 = 2 ∨ x.do_ % 6 = 3) = true) := ⟨by simp [q3]⟩
              clear q2 q3 hd1
              go_wp2_with (fail)
              go_meet
              case rel => exact ⟨by rw [HD.out], rfl⟩
            · have p2 : (x.do_ % 6 == 2) = false := by simp [q2]
              have p3 : (x.do_ % 6 == 3) = false := by simp [q3]
              have HD : Aside0 (decide (x.do_ % 6 = 2 ∨ x.do_ % 6 = 3) = false) := ⟨by simp [q2, q3]⟩
              clear q2 q3 hd1
              go_wp2_with (fail)
              go_meet
              case rel => exact ⟨by rw [HD.out], rfl⟩
        obtain ⟨rfl, rfl⟩ := hcut
        have hdu : ∃ u, u = decide (x.do_ % 6 = 2 ∨ x.do_ % 6 = 3) := ⟨_, rfl⟩
        obtain ⟨u, hu⟩ := hdu
        rw [← hu]
        clear hu
        go_upto_if 56 with (fail)
        go_cut [12] from 57 (fun s12 wx => ∃ hv : Int, s12 = .int .u64 hv ∧ 0 ≤ hv ∧ hv < 18446744073709551616 ∧ wx = wc)
        case first =>
          cases u with
          | true =>
            obtain ⟨j, hj⟩ : ∃ j : Nat, x.which % (m : Int) = (j : Int) := ⟨(x.which % (m : Int)).toNat, by have := Int.emod_nonneg x.which (b := (m : Int)) (by omega); omega⟩
            have hjm : j < m := by have := Int.emod_lt_of_pos x.which (b := (m : Int)) (by omega); omega
            obtain ⟨y, hy⟩ : ∃ y, T[j]? = some y := ⟨_, List.getElem?_eq_getElem (by rw [← HMM.out]; exact hjm)⟩
            have y0 := R_int_cell HQ.out.1.tl hy
            have HY := Aside0.mk (HQ.out.1.th y (List.mem_of_getElem? hy))
            have jm : (j : Int) < (m : Int) := by omega
            have j0 : (0 : Int) ≤ (j : Int) := by omega
            have m0 : (0 : Int) < (m : Int) := by omega
            clear hy
            go_wp2_with (fail)
            go_meet
            case rel => exact ⟨y, rfl, HY.out.1, HY.out.2, rfl⟩
          | false =>
            have HH := Aside0.mk hhh
            go_wp2_with (fail)
            go_meet
            case rel => exact ⟨x.h, rfl, HH.out.1, HH.out.2, rfl⟩
        case rest =>
          obtain ⟨hv, rfl, hv0, hv1, rfl⟩ := hcut
          have HVB := Aside0.mk (And.intro hv0 hv1)
          go_upto_block 2 with (fail)
          go_cut [9, 13, 14, 15, 16, 17, 18, 19] from 69 (fun s9 s13 s14 s15 s16 s17 s18 s19 wx => ∃ (s : Slb) (ch : List Nat) (T : List Int), PX w1 wx M0 M1 g gc gx (.slice (some ⟨bq, 0, none⟩) n cq) vt vn s9 s ch (k + 1) (s.rs ch) T ∧ s.cells.length = n ∧ T.length ≤ k + 2)
          case first =>
            by_cases q01 : x.do_ % 6 = 0 ∨ x.do_ % 6 = 1
            · rcases q01 with q | q
              · have p0 : (x.do_ % 6 == 0) = true := by rw [q]; rfl
                clear q hd1
                cases hnx : s.next ch with
                | some i =>
                  obtain ⟨c, hc, hct, hc0, hc1⟩ := HQ.out.1.wf.some hnx
                  have htw := take_wf x.q g gc i s ch k c _ HQ.out.1.sl HQ.out.1.wf (by omega) hnx hc
                  have hwt := HQ.out.1.wf.taken x.q hnx hc
                  obtain ⟨fs, hfs, hrt⟩ := rs_next x.q HQ.out.1.wf hnx hc
                  have hil : i < n := by have := (List.getElem?_eq_some_iff.1 hc).1; have := HLE.out.1; omega
                  have htn : (s.rs ch).turns[i]? = some c.turns := by simp [Slb.rs, List.getElem?_map, hc]
                  have HTW := Aside0.mk (And.intro htw (And.intro hwt (And.intro hfs (And.intro hrt htn))))
                  have HCB := Aside0.mk (And.intro hc0 (And.intro hc1 hil))
                  clear htw hwt hfs hrt hnx hc hct hc0 hc1 hil htn
                  go_wp2_with (fail)
                  refine HTW.out.1.mono ?_
                  rintro e w6 ⟨rfl, hs6, hk6⟩
                  have hbx6 := hk6.blk HQ.out.2 (by
                    intro hm
                    simp only [List.mem_cons, List.not_mem_nil, or_false] at hm
                    rcases hm with e | e
                    · exact blk_ne HQ.out.2 HQ.out.1.sl.head (by decide) e
                    · exact blk_ne HQ.out.2 HQ.out.1.sl.body (by decide) e)
                  have d1 := hbx6.cell 1 rfl
                  have d2 := hbx6.cell 2 rfl
                  have d3 := hbx6.cell 3 rfl
                  have d4 := hbx6.cell 4 rfl
                  have d5 := hbx6.cell 5 rfl
                  have HP6 := Aside0.mk (HQ.out.1.slab hk6 hs6 HTW.out.2.1)
                  clear hs6 hk6 hbx6
                  obtain ⟨vf6, hr6⟩ := HP6.out.rs
                  have hdr := rtake_ok x.q M0 gx i (fun b => b < M1) (.slice (some ⟨bq, 0, none⟩) n cq) vt vn vf6 (s.rs ch) fs c.turns w6 hr6 (by have := HLE.out.1; simp only [Slb.rs, List.length_map]; omega) HTW.out.2.2.1 (by have := HLE.out.1; have := HCB.out.2.2; simp only [Slb.rs, List.length_map]; omega) HTW.out.2.2.2.2 HCB.out.1 (by have := HCB.out.2.1; omega)
                  have HDR := Aside0.mk hdr
                  clear hdr hr6
                  go_wp2_with (fail)
                  refine HDR.out.mono ?_
                  rintro e w7 ⟨rfl, ⟨vf7, hr7⟩, hk7⟩
                  have hp7 := HP6.out.doc hk7 ⟨vf7, hr7⟩
                  rw [← HTW.out.2.2.2.1] at hp7
                  have n7 := hp7.n1
                  have HP7 := Aside0.mk hp7
                  have hh0 : (((c.turns + 1) * 4294967296 + (i : Int)) != ((c.turns + 1) * 4294967296 + (i : Int))) = false := by simp
                  have HV : Aside0 (0 ≤ (c.turns + 1) * 4294967296 + (i : Int) ∧ (c.turns + 1) * 4294967296 + (i : Int) < 18446744073709551616) := ⟨by have := HCB.out; omega⟩
                  clear hp7 hk7 hr7 d1 d2 d3 d4 d5
                  have h8 : (T.length + 1) * 8 ≤ 140737488355328 := by have := HLE.out.2; omega
                  generalize (c.turns + 1) * 4294967296 + (i : Int) = hd at *
                  go_wp2_with (at_builtin; refine Kd.R_append (Kd.int .u64) (w0 := w7) M1 rfl (.tmp 133) (.tmp 135) 47 30 (.int .u64 0) 8 rfl Try.underlying47 (by kernel_rfl) rfl (by decide) (by omega) _ T hd [.int .u64 hd] (fun _ => True) (fun _ => False) rfl rfl rfl (fun _ hk => hk.elim) (fun _ _ => trivial) HP7.out.tl (Below.refl _ _) n7 h8 ?_; intro v8 w8 hR8 hB8 hg8 ho8; have HP8 := Aside0.mk (HP7.out.told hg8 hR8 HV.out); clear hR8 hB8 hg8 ho8)
                  go_meet
                  case rel => exact ⟨_, _, T ++ [hd], HP8.out, by rw [Slb.taken_cells, List.length_set]; exact HLE.out.1, by have := HLE.out.2; rw [List.length_append, List.length_singleton]; omega⟩
                | none =>
                  obtain ⟨hfe, hfd, hfs⟩ := rs_full HQ.out.1.wf hnx
                  have htf := take_full x.q g gc s wc HQ.out.1.sl HQ.out.1.wf.room hfd hfs
                  have HTW := Aside0.mk (And.intro htf hfe)
                  clear htf hfe hfd hfs hnx
                  go_wp2_with (fail)
                  refine HTW.out.1.mono ?_
                  rintro e w6 ⟨rfl, hb6⟩
                  have hbx6 := HQ.out.2.below hb6
                  have d1 := hbx6.cell 1 rfl
                  have d2 := hbx6.cell 2 rfl
                  have d3 := hbx6.cell 3 rfl
                  have d4 := hbx6.cell 4 rfl
                  have d5 := hbx6.cell 5 rfl
                  have HP6 := Aside0.mk (HQ.out.1.below hb6)
                  clear hb6 hbx6
                  obtain ⟨vf6, hr6⟩ := HP6.out.rs
                  have hdr := rtake_full x.q M0 gx (fun b => b < M1) (.slice (some ⟨bq, 0, none⟩) n cq) vt vn vf6 (s.rs ch) w6 hr6 HTW.out.2
                  have HDR := Aside0.mk hdr
                  clear hdr hr6
                  go_wp2_with (fail)
                  refine HDR.out.mono ?_
                  rintro e w7 ⟨rfl, hb7⟩
                  have hp7 := HP6.out.below hb7
                  have n7 := hp7.n1
                  have HP7 := Aside0.mk hp7
                  clear hp7 hb7 d1 d2 d3 d4 d5
                  have h8 : (T.length + 1) * 8 ≤ 140737488355328 := by have := HLE.out.2; omega
                  go_wp2_with (at_builtin; refine Kd.R_append (Kd.int .u64) (w0 := w7) M1 rfl (.tmp 133) (.tmp 135) 47 30 (.int .u64 0) 8 rfl Try.underlying47 (by kernel_rfl) rfl (by decide) (by omega) _ T 0 [.int .u64 0] (fun _ => True) (fun _ => False) rfl rfl rfl (fun _ hk => hk.elim) (fun _ _ => trivial) HP7.out.tl (Below.refl _ _) n7 h8 ?_; intro v8 w8 hR8 hB8 hg8 ho8; have HP8 := Aside0.mk (HP7.out.told hg8 hR8 (by omega)); clear hR8 hB8 hg8 ho8)
                  go_meet
                  case rel => exact ⟨s, ch, T ++ [0], { HP8.out with wf := HP8.out.wf.mono (Nat.le_succ k) }, HLE.out.1, by have := HLE.out.2; rw [List.length_append, List.length_singleton]; omega⟩
              · have p0 : (x.do_ % 6 == 0) = false := by rw [q]; rfl
                have p1 : (x.do_ % 6 == 1) = true := by rw [q]; rfl
                clear q hd1
                cases hnx : s.next ch with
                | some i =>
                  obtain ⟨c, hc, hct, hc0, hc1⟩ := HQ.out.1.wf.some hnx
                  have htw := take_wf x.q g gc i s ch k c _ HQ.out.1.sl HQ.out.1.wf (by omega) hnx hc
                  have hwt := HQ.out.1.wf.taken x.q hnx hc
                  obtain ⟨fs, hfs, hrt⟩ := rs_next x.q HQ.out.1.wf hnx hc
                  have hil : i < n := by have := (List.getElem?_eq_some_iff.1 hc).1; have := HLE.out.1; omega
                  have htn : (s.rs ch).turns[i]? = some c.turns := by simp [Slb.rs, List.getElem?_map, hc]
                  have HTW := Aside0.mk (And.intro htw (And.intro hwt (And.intro hfs (And.intro hrt htn))))
                  have HCB := Aside0.mk (And.intro hc0 (And.intro hc1 hil))
                  clear htw hwt hfs hrt hnx hc hct hc0 hc1 hil htn
                  go_wp2_with (fail)
                  refine HTW.out.1.mono ?_
                  rintro e w6 ⟨rfl, hs6, hk6⟩
                  have hbx6 := hk6.blk HQ.out.2 (by
                    intro hm
                    simp only [List.mem_cons, List.not_mem_nil, or_false] at hm
                    rcases hm with e | e
                    · exact blk_ne HQ.out.2 HQ.out.1.sl.head (by decide) e
                    · exact blk_ne HQ.out.2 HQ.out.1.sl.body (by decide) e)
                  have d1 := hbx6.cell 1 rfl
                  have d2 := hbx6.cell 2 rfl
                  have d3 := hbx6.cell 3 rfl
                  have d4 := hbx6.cell 4 rfl
                  have d5 := hbx6.cell 5 rfl
                  have HP6 := Aside0.mk (HQ.out.1.slab hk6 hs6 HTW.out.2.1)
                  clear hs6 hk6 hbx6
                  obtain ⟨vf6, hr6⟩ := HP6.out.rs
                  have hdr := rtake_ok x.q M0 gx i (fun b => b < M1) (.slice (some ⟨bq, 0, none⟩) n cq) vt vn vf6 (s.rs ch) fs c.turns w6 hr6 (by have := HLE.out.1; simp only [Slb.rs, List.length_map]; omega) HTW.out.2.2.1 (by have := HLE.out.1; have := HCB.out.2.2; simp only [Slb.rs, List.length_map]; omega) HTW.out.2.2.2.2 HCB.out.1 (by have := HCB.out.2.1; omega)
                  have HDR := Aside0.mk hdr
                  clear hdr hr6
                  go_wp2_with (fail)
                  refine HDR.out.mono ?_
                  rintro e w7 ⟨rfl, ⟨vf7, hr7⟩, hk7⟩
                  have hp7 := HP6.out.doc hk7 ⟨vf7, hr7⟩
                  rw [← HTW.out.2.2.2.1] at hp7
                  have n7 := hp7.n1
                  have HP7 := Aside0.mk hp7
                  have hh0 : (((c.turns + 1) * 4294967296 + (i : Int)) != ((c.turns + 1) * 4294967296 + (i : Int))) = false := by simp
                  have HV : Aside0 (0 ≤ (c.turns + 1) * 4294967296 + (i : Int) ∧ (c.turns + 1) * 4294967296 + (i : Int) < 18446744073709551616) := ⟨by have := HCB.out; omega⟩
                  clear hp7 hk7 hr7 d1 d2 d3 d4 d5
                  have h8 : (T.length + 1) * 8 ≤ 140737488355328 := by have := HLE.out.2; omega
                  generalize (c.turns + 1) * 4294967296 + (i : Int) = hd at *
                  go_wp2_with (at_builtin; refine Kd.R_append (Kd.int .u64) (w0 := w7) M1 rfl (.tmp 133) (.tmp 135) 47 30 (.int .u64 0) 8 rfl Try.underlying47 (by kernel_rfl) rfl (by decide) (by omega) _ T hd [.int .u64 hd] (fun _ => True) (fun _ => False) rfl rfl rfl (fun _ hk => hk.elim) (fun _ _ => trivial) HP7.out.tl (Below.refl _ _) n7 h8 ?_; intro v8 w8 hR8 hB8 hg8 ho8; have HP8 := Aside0.mk (HP7.out.told hg8 hR8 HV.out); clear hR8 hB8 hg8 ho8)
                  go_meet
                  case rel => exact ⟨_, _, T ++ [hd], HP8.out, by rw [Slb.taken_cells, List.length_set]; exact HLE.out.1, by have := HLE.out.2; rw [List.length_append, List.length_singleton]; omega⟩
                | none =>
                  obtain ⟨hfe, hfd, hfs⟩ := rs_full HQ.out.1.wf hnx
                  have htf := take_full x.q g gc s wc HQ.out.1.sl HQ.out.1.wf.room hfd hfs
                  have HTW := Aside0.mk (And.intro htf hfe)
                  clear htf hfe hfd hfs hnx
                  go_wp2_with (fail)
                  refine HTW.out.1.mono ?_
                  rintro e w6 ⟨rfl, hb6⟩
                  have hbx6 := HQ.out.2.below hb6
                  have d1 := hbx6.cell 1 rfl
                  have d2 := hbx6.cell 2 rfl
                  have d3 := hbx6.cell 3 rfl
                  have d4 := hbx6.cell 4 rfl
                  have d5 := hbx6.cell 5 rfl
                  have HP6 := Aside0.mk (HQ.out.1.below hb6)
                  clear hb6 hbx6
                  obtain ⟨vf6, hr6⟩ := HP6.out.rs
                  have hdr := rtake_full x.q M0 gx (fun b => b < M1) (.slice (some ⟨bq, 0, none⟩) n cq) vt vn vf6 (s.rs ch) w6 hr6 HTW.out.2
                  have HDR := Aside0.mk hdr
                  clear hdr hr6
                  go_wp2_with (fail)
                  refine HDR.out.mono ?_
                  rintro e w7 ⟨rfl, hb7⟩
                  have hp7 := HP6.out.below hb7
                  have n7 := hp7.n1
                  have HP7 := Aside0.mk hp7
                  clear hp7 hb7 d1 d2 d3 d4 d5
                  have h8 : (T.length + 1) * 8 ≤ 140737488355328 := by have := HLE.out.2; omega
                  go_wp2_with (at_builtin; refine Kd.R_append (Kd.int .u64) (w0 := w7) M1 rfl (.tmp 133) (.tmp 135) 47 30 (.int .u64 0) 8 rfl Try.underlying47 (by kernel_rfl) rfl (by decide) (by omega) _ T 0 [.int .u64 0] (fun _ => True) (fun _ => False) rfl rfl rfl (fun _ hk => hk.elim) (fun _ _ => trivial) HP7.out.tl (Below.refl _ _) n7 h8 ?_; intro v8 w8 hR8 hB8 hg8 ho8; have HP8 := Aside0.mk (HP7.out.told hg8 hR8 (by omega)); clear hR8 hB8 hg8 ho8)
                  go_meet
                  case rel => exact ⟨s, ch, T ++ [0], { HP8.out with wf := HP8.out.wf.mono (Nat.le_succ k) }, HLE.out.1, by have := HLE.out.2; rw [List.length_append, List.length_singleton]; omega⟩
            · by_cases q24 : x.do_ % 6 = 2 ∨ x.do_ % 6 = 4
              · have p0 : (x.do_ % 6 == 0) = false := by rw [beq_eq_false_iff_ne]; omega
                have p1 : (x.do_ % 6 == 1) = false := by rw [beq_eq_false_iff_ne]; omega
                clear q01
                rcases q24 with q | q
                · have p2 : (x.do_ % 6 == 2) = true := by rw [q]; rfl
                  clear q hd1
                  cases hat : s.at hv with
                  | some ic =>
                    obtain ⟨i, c⟩ := ic
                    have hc := (Slb.at_spec hat hv0).1
                    have hra : (s.rs ch).at hv = some i := by rw [rs_at, hat]; rfl
                    have hfr := frees_len HQ.out.1.wf
                    have hgo := (HQ.out.1.wf.gone hc (Slb.at_spec hat hv0).2.1).1
                    have hfw := free_wf hv g gc i s ch k c _ HQ.out.1.sl HQ.out.1.wf (by omega) hv0 hv1 hat
                    have HFW := Aside0.mk (And.intro hfw (And.intro hgo (And.intro hra (And.intro hc hfr))))
                    clear hfw hgo hra hc hfr hat
                    go_wp2_with (fail)
                    refine HFW.out.1.mono ?_
                    rintro e w6 ⟨rfl, hs6, hk6⟩
                    have HP6 := Aside0.mk (HQ.out.1.slab hk6 hs6 HFW.out.2.1)
                    clear hs6 hk6
                    obtain ⟨vf6, hr6⟩ := HP6.out.rs
                    have hdr := rdrop_ok hv M0 gx i (fun b => b < M1) (.slice (some ⟨bq, 0, none⟩) n cq) vt vn vf6 (s.rs ch) w6 hr6 (by have := HLE.out.1; simp only [Slb.rs, List.length_map]; omega) (by have := HLE.out.1; simp only [Slb.rs, List.length_map]; omega) (by have := HLE.out.1; have := HFW.out.2.2.2.2.2; simp only [Slb.rs, ints, List.length_map]; omega) hv0 hv1 HFW.out.2.2.1
                    have HDR := Aside0.mk hdr
                    clear hdr hr6
                    go_wp2_with (fail)
                    refine HDR.out.mono ?_
                    rintro e w7 ⟨rfl, ⟨vf7, hr7⟩, hk7⟩
                    have hp7 := HP6.out.doc hk7 ⟨vf7, hr7⟩
                    rw [← rs_gone HFW.out.2.2.2.1] at hp7
                    have HP7 := Aside0.mk hp7
                    clear hp7 hk7 hr7
                    go_wp2_with (fail)
                    go_meet
                    case rel => exact ⟨s.gone i c, i :: ch, T, { HP7.out with wf := HP7.out.wf.mono (Nat.le_succ k) }, by show (s.cells.set i _).length = n; rw [List.length_set]; exact HLE.out.1, by have := HLE.out.2; omega⟩
                  | none =>
                    have hra : (s.rs ch).at hv = none := by rw [rs_at, hat]; rfl
                    have hfs := free_stale hv g gc s _ HQ.out.1.sl hv0 hv1 (HQ.out.1.wf.turns32 (by omega)) hat
                    obtain ⟨vf6, hr6⟩ := HQ.out.1.rs
                    have hdr := rdrop_stale hv M0 gx (fun b => b < M1) (.slice (some ⟨bq, 0, none⟩) n cq) vt vn vf6 (s.rs ch) wc hr6 (by have := HLE.out.1; simp only [Slb.rs, List.length_map]; omega) (by have := HLE.out.1; simp only [Slb.rs, List.length_map]; omega) hv0 hv1 hra
                    have HFW := Aside0.mk (And.intro hfs hdr)
                    clear hfs hdr hra hat hr6
                    go_wp2_with (fail)
                    refine HFW.out.1.mono ?_
                    rintro e w6 ⟨rfl, rfl⟩
                    go_wp2_with (fail)
                    refine HFW.out.2.mono ?_
                    rintro e w7 ⟨rfl, rfl⟩
                    go_wp2_with (fail)
                    go_meet
                    case rel => exact ⟨s, ch, T, { HQ.out.1 with wf := HQ.out.1.wf.mono (Nat.le_succ k) }, HLE.out.1, by have := HLE.out.2; omega⟩
                · have p2 : (x.do_ % 6 == 2) = false := by rw [q]; rfl
                  have p4 : (x.do_ % 6 == 4) = true := by rw [q]; rfl
                  clear q hd1
                  cases hat : s.at hv with
                  | some ic =>
                    obtain ⟨i, c⟩ := ic
                    have hc := (Slb.at_spec hat hv0).1
                    have hra : (s.rs ch).at hv = some i := by rw [rs_at, hat]; rfl
                    have hfr := frees_len HQ.out.1.wf
                    have hgo := (HQ.out.1.wf.gone hc (Slb.at_spec hat hv0).2.1).1
                    have hfw := free_wf hv g gc i s ch k c _ HQ.out.1.sl HQ.out.1.wf (by omega) hv0 hv1 hat
                    have HFW := Aside0.mk (And.intro hfw (And.intro hgo (And.intro hra (And.intro hc hfr))))
                    clear hfw hgo hra hc hfr hat
                    go_wp2_with (fail)
                    refine HFW.out.1.mono ?_
                    rintro e w6 ⟨rfl, hs6, hk6⟩
                    have HP6 := Aside0.mk (HQ.out.1.slab hk6 hs6 HFW.out.2.1)
                    clear hs6 hk6
                    obtain ⟨vf6, hr6⟩ := HP6.out.rs
                    have hdr := rdrop_ok hv M0 gx i (fun b => b < M1) (.slice (some ⟨bq, 0, none⟩) n cq) vt vn vf6 (s.rs ch) w6 hr6 (by have := HLE.out.1; simp only [Slb.rs, List.length_map]; omega) (by have := HLE.out.1; simp only [Slb.rs, List.length_map]; omega) (by have := HLE.out.1; have := HFW.out.2.2.2.2.2; simp only [Slb.rs, ints, List.length_map]; omega) hv0 hv1 HFW.out.2.2.1
                    have HDR := Aside0.mk hdr
                    clear hdr hr6
                    go_wp2_with (fail)
                    refine HDR.out.mono ?_
                    rintro e w7 ⟨rfl, ⟨vf7, hr7⟩, hk7⟩
                    have hp7 := HP6.out.doc hk7 ⟨vf7, hr7⟩
                    rw [← rs_gone HFW.out.2.2.2.1] at hp7
                    have HP7 := Aside0.mk hp7
                    clear hp7 hk7 hr7
                    go_wp2_with (fail)
                    go_meet
                    case rel => exact ⟨s.gone i c, i :: ch, T, { HP7.out with wf := HP7.out.wf.mono (Nat.le_succ k) }, by show (s.cells.set i _).length = n; rw [List.length_set]; exact HLE.out.1, by have := HLE.out.2; omega⟩
                  | none =>
                    have hra : (s.rs ch).at hv = none := by rw [rs_at, hat]; rfl
                    have hfs := free_stale hv g gc s _ HQ.out.1.sl hv0 hv1 (HQ.out.1.wf.turns32 (by omega)) hat
                    obtain ⟨vf6, hr6⟩ := HQ.out.1.rs
                    have hdr := rdrop_stale hv M0 gx (fun b => b < M1) (.slice (some ⟨bq, 0, none⟩) n cq) vt vn vf6 (s.rs ch) wc hr6 (by have := HLE.out.1; simp only [Slb.rs, List.length_map]; omega) (by have := HLE.out.1; simp only [Slb.rs, List.length_map]; omega) hv0 hv1 hra
                    have HFW := Aside0.mk (And.intro hfs hdr)
                    clear hfs hdr hra hat hr6
                    go_wp2_with (fail)
                    refine HFW.out.1.mono ?_
                    rintro e w6 ⟨rfl, rfl⟩
                    go_wp2_with (fail)
                    refine HFW.out.2.mono ?_
                    rintro e w7 ⟨rfl, rfl⟩
                    go_wp2_with (fail)
                    go_meet
                    case rel => exact ⟨s, ch, T, { HQ.out.1 with wf := HQ.out.1.wf.mono (Nat.le_succ k) }, HLE.out.1, by have := HLE.out.2; omega⟩
              · have p0 : (x.do_ % 6 == 0) = false := by rw [beq_eq_false_iff_ne]; omega
                have p1 : (x.do_ % 6 == 1) = false := by rw [beq_eq_false_iff_ne]; omega
                have p2 : (x.do_ % 6 == 2) = false := by rw [beq_eq_false_iff_ne]; omega
                have p4 : (x.do_ % 6 == 4) = false := by rw [beq_eq_false_iff_ne]; omega
                clear q01 q24 hd1
                have HVV := Aside0.mk (And.intro hv0 hv1)
                have hlr : (s.rs ch).reqs.length = n := by simp only [Slb.rs, List.length_map]; exact HLE.out.1
                have hrat : ∀ V vf, RSAt V M0 (fun b => b < M1) gx (.slice (some ⟨bq, 0, none⟩) n cq) vt vn vf (s.rs ch) → Calls Try.prog 17 #[.pointer (some ⟨gx, 0, none⟩), .int .u64 hv] V fun e w' => e = .returned (.int .i64 (((s.at hv).map (fun p => (p.1 : Int))).getD (-1))) ∧ V = w' := fun V vf hV => by
                  have := rat_any hv M0 gx _ _ vt vn vf (s.rs ch) V hV (by rw [hlr]; omega) (by rw [hlr]; omega) hv0 hv1
                  rw [rs_at, Option.map_map] at this
                  exact this
                cases hat : s.at hv with
                | some ic =>
                  obtain ⟨i, c⟩ := ic
                  rw [hat] at hrat
                  have hc := (Slb.at_spec hat hv0).1
                  have hil : i < n := by have := (List.getElem?_eq_some_iff.1 hc).1; have := HLE.out.1; omega
                  have hgo := get_ok hv g gc i s c _ HQ.out.1.sl hv0 hv1 (HQ.out.1.wf.turns32 (by omega)) hat
                  have hqi : (s.rs ch).reqs[i]? = some c.q := by simp [Slb.rs, List.getElem?_map, hc]
                  have HGO := Aside0.mk (And.intro hgo (And.intro hrat hqi))
                  have i0 : (0 : Int) ≤ (i : Int) := by omega
                  have i1 : (i : Int) < (n : Int) := by omega
                  have z0 : (c.q.t != c.q.t) = false := by simp
                  have z1 : (c.q.tier != c.q.tier) = false := by simp
                  have z2 : (c.q.coh != c.q.coh) = false := by simp
                  have z3 : (c.q.dl != c.q.dl) = false := by simp
                  have z4 : (c.q.ar != c.q.ar) = false := by simp
                  clear hgo hrat hqi hat hc hil hlr
                  go_wp2_with (fail)
                  refine HGO.out.1.mono ?_
                  rintro e w6 ⟨rfl, hb6⟩
                  unfold Rq.val
                  have hp6 := HQ.out.1.below hb6
                  obtain ⟨vf6, hr6⟩ := hp6.rs
                  have HP6 := Aside0.mk (And.intro hp6 hr6)
                  clear hp6 hr6 hb6
                  go_wp2_with (fail)
                  have hwa := below_alloc (Below.refl _ w6) (.cells #[.int .u64 c.q.t, .int .i64 c.q.tier, .int .i64 c.q.coh, .int .i64 c.q.dl, .int .i64 c.q.ar] 35)
                  have hr7 := HP6.out.2.below hwa
                  have hp7 := HP6.out.1.below hwa
                  have hbz : Blk (w6.alloc (.cells #[.int .u64 c.q.t, .int .i64 c.q.tier, .int .i64 c.q.coh, .int .i64 c.q.dl, .int .i64 c.q.ar] 35)) w6.heap.size 35 c.q.enc := Blk.new w6 35 c.q.enc
                  refine (HGO.out.2.1 _ vf6 hr7).mono ?_
                  rintro e w7 ⟨rfl, rfl⟩
                  simp only [Option.map_some, Option.getD_some]
                  clear hwa
                  generalize (w6.alloc (.cells #[.int .u64 c.q.t, .int .i64 c.q.tier, .int .i64 c.q.coh, .int .i64 c.q.dl, .int .i64 c.q.ar] 35)) = wA at *
                  generalize w6.heap.size = gz at *
                  have f9 := hr7.head.cell 0 rfl
                  have f0 : wA.cell? ⟨bq, i * 5, none⟩ = some (.int .u64 c.q.t) := R_fk_cell hr7.rq HGO.out.2.2 0 _ rfl
                  have f1 := R_fk_cell hr7.rq HGO.out.2.2 1 _ rfl
                  have f2 := R_fk_cell hr7.rq HGO.out.2.2 2 _ rfl
                  have f3 := R_fk_cell hr7.rq HGO.out.2.2 3 _ rfl
                  have f4 := R_fk_cell hr7.rq HGO.out.2.2 4 _ rfl
                  have k0_ := hbz.cell 0 rfl
                  have k1_ := hbz.cell 1 rfl
                  have k2_ := hbz.cell 2 rfl
                  have k3_ := hbz.cell 3 rfl
                  have k4_ := hbz.cell 4 rfl
                  have HP7 := Aside0.mk hp7
                  have t0 : decide ((i : Int) < 0) = false := decide_eq_false (by omega)
                  have t1 : decide (0 ≤ (i : Int)) = true := decide_eq_true (by omega)
                  clear hr7 hp7 hbz HP6 hdo hwh hhh hv0 hv1 hr1 hr2 hlc hcap
                  go_wp2_with (fail)
                  go_quiet (fail)
                  clear f0 f1 f2 f3 f4 f9 k0_ k1_ k2_ k3_ k4_
                  have HP8 := Aside0.mk (HP7.out.below (pw_below_drewN (Below.refl _ _) nq))
                  go_wp2_with (fail)
                  go_meet
                  case rel => exact ⟨s, ch, T, { HP8.out with wf := HP8.out.wf.mono (Nat.le_succ k) }, HLE.out.1, by have := HLE.out.2; omega⟩
                | none =>
                  rw [hat] at hrat
                  have hgo := get_stale hv g gc s _ HQ.out.1.sl hv0 hv1 (HQ.out.1.wf.turns32 (by omega)) hat
                  have HGO := Aside0.mk (And.intro hgo hrat)
                  clear hgo hrat hat hlr
                  go_wp2_with (fail)
                  refine HGO.out.1.mono ?_
                  rintro e w6 ⟨rfl, hb6⟩
                  have hp6 := HQ.out.1.below hb6
                  obtain ⟨vf6, hr6⟩ := hp6.rs
                  have HP6 := Aside0.mk (And.intro hp6 hr6)
                  clear hp6 hr6 hb6
                  go_wp2_with (fail)
                  refine (HGO.out.2 _ vf6 (HP6.out.2.below (below_alloc (Below.refl _ w6) _))).mono ?_
                  rintro e w7 ⟨rfl, rfl⟩
                  simp only [Option.map_none, Option.getD_none]
                  go_wp2_with (fail)
                  go_quiet (fail)
                  have HP7 := Aside0.mk ((HP6.out.1.below (below_alloc (Below.refl _ w6) (.cells #[.int .u64 0, .int .i64 0, .int .i64 0, .int .i64 0, .int .i64 0] 35))).below (pw_below_drewN (Below.refl _ _) nq))
                  go_wp2_with (fail)
                  go_meet
                  case rel => exact ⟨s, ch, T, { HP7.out with wf := HP7.out.wf.mono (Nat.le_succ k) }, HLE.out.1, by have := HLE.out.2; omega⟩
          case rest =>
            clear HQ HLE
            obtain ⟨s, ch, T, hP, hsn, hTk⟩ := hcut
            obtain ⟨vf6, hr6⟩ := hP.rs
            have hfl := frees_len hP.wf
            have hle : (((s.rs ch).reqs.length : Int) - ((s.rs ch).free.length : Int)) = s.len := by
              have := hfl.1
              simp only [Slb.rs, ints, List.length_map]
              omega
            have hr := rlen_ok M0 gx (fun b => b < M1) (.slice (some ⟨bq, 0, none⟩) n cq) vt vn vf6 (s.rs ch) wc hr6 (by simp only [Slb.rs, List.length_map]; omega) (by have := hfl.2; simp only [Slb.rs, ints, List.length_map]; omega)
            rw [hle] at hr
            have hle2 : (s.len != s.len) = false := by simp
            have hnn : ((n : Int) != (n : Int)) = false := by simp
            have hl := len_any g gc s wc hP.sl
            have hrm : ∀ V, SlabAt V g gc s → Calls Try.prog 19 #[.pointer (some ⟨g, 0, none⟩)] V fun e w' => e = .returned (.int .i64 n) ∧ V = w' := fun V hV => by
              have := room_any g gc s V hV
              rwa [hsn] at this
            have HH := Aside0.mk (And.intro hl (And.intro hr (And.intro hrm (And.intro hP (And.intro hsn hTk)))))
            clear hl hr hrm hP hsn hTk hr6 hfl hle
            go_wp2_with (fail)
            refine HH.out.1.mono ?_
            rintro e w6 ⟨rfl, rfl⟩
            go_wp2_with (fail)
            refine HH.out.2.1.mono ?_
            rintro e w7 ⟨rfl, hb7⟩
            have HP7 := Aside0.mk (HH.out.2.2.2.1.below hb7)
            clear hb7
            go_wp2_with (fail)
            refine (HH.out.2.2.1 _ HP7.out.sl).mono ?_
            rintro e w8 ⟨rfl, rfl⟩
            go_wp2_with (fail)
            exact ⟨⟨k + 1, s, ch, T, by omega, by go_num, HP7.out, HH.out.2.2.2.2.1, by have := HH.out.2.2.2.2.2; omega⟩, by simp [intOf]; omega⟩
      · have h80' : ¬ (k : Int) < 100 := by omega
        have HBF := Aside0.mk (HP.out.1.below (below_alloc (Below.refl _ wr) (.cells x.enc.toArray 49))).bel
        go_wp2_with (fail)
        go_ret
        exact ⟨rfl, HB.out.trans (HBF.out.mono HB.out.size)⟩
    · obtain rfl : k = L := by omega
      have HBF := Aside0.mk hP.bel
      clear hP
      go_wp2_with (fail)
      go_ret
      exact ⟨rfl, HB.out.trans (HBF.out.mono HB.out.size)⟩
end Go.Proofs.Ytjpahepnihbogaa.Z

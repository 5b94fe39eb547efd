/- TierqDues. -/
import Derived.Test.YtifffmfbipjilaaTqb
namespace Go.Proofs.Ytifffmfbipjilaa.Z
open Go.RowKit Go.Proofs.YtifffmfbipjilaaW.PrintWords Go.Proofs.YtifffmfbipjilaaW.PrintLast Go.Proofs.YtifffmfbipjilaaW.PrintMore
attribute [local go_sem] max2_int min2_int max_two min_two max_three min_three max_four min_four
set_option linter.unusedVariables false
set_option maxRecDepth 100000
set_option linter.unusedSimpArgs false
theorem and7 (n : Int) : bits BinOp.and .i64 n 7 = n % 8 := by
  have h7 : (BitVec.ofInt 64 7).toNat = 2 ^ 3 - 1 := by decide
  have key : (BitVec.ofInt 64 n &&& BitVec.ofInt 64 7).toNat = (n % ((2 ^ 64 : Nat) : Int)).toNat % 2 ^ 3 := by
    rw [BitVec.toNat_and, BitVec.toNat_ofInt, h7, Nat.and_two_pow_sub_one_eq_mod]
  show IntKind.i64.wrap ((BitVec.ofInt 64 n &&& BitVec.ofInt 64 7).toNat : Nat) = n % 8
  rw [key, IntKind.wrap_i64]
  omega
/-- What has come: k requests of k tickets. -/
structure DP (k : Nat) (R : List (List It)) : Prop where
  tot : R.flatten.length = k
  lt : ∀ x ∈ R.flatten, 0 ≤ x.2.t ∧ x.2.t < k ∧ -9223372036854775808 ≤ x.2.dl
  nd : (R.flatten.map (·.2.t)).Nodup
def dueN (R : List (List It)) (now : Int) : List It := R.flatten.filter fun y => y.2.dl ≤ now
theorem DP.new (n : Nat) : DP 0 (List.replicate n []) := by
  have h : (List.replicate n ([] : List It)).flatten = [] := by simp
  exact ⟨by rw [h]; rfl, fun x hx => (by rw [h] at hx; cases hx), by rw [h]; exact List.nodup_nil⟩
theorem DP.put {k r : Nat} {R : List (List It)} {l : List It} {x : It} (h : DP k R) (hl : R[r]? = some l) (ht : x.2.t = k) (hd : -9223372036854775808 ≤ x.2.dl) : DP (k + 1) (R.set r (l ++ [x])) := by
  have p := perm_put (y := x) hl
  refine ⟨by rw [p.length_eq, List.length_append, h.tot]; rfl, fun y hy => ?_, ?_⟩
  · rcases List.mem_append.1 (p.mem_iff.1 hy) with hy | hy
    · have := h.lt y hy; omega
    · rw [List.mem_singleton] at hy
      subst hy
      omega
  · rw [(p.map _).nodup_iff, List.map_append, List.nodup_append]
    refine ⟨h.nd, by simp, fun a ha b hb e => ?_⟩
    obtain ⟨y, hy, rfl⟩ := List.mem_map.1 ha
    have := h.lt y hy
    simp only [List.map_cons, List.map_nil, List.mem_singleton] at hb
    omega
theorem dueN_put {r : Nat} {R : List (List It)} {l : List It} {x : It} {now : Int} (hl : R[r]? = some l) : (dueN (R.set r (l ++ [x])) now).length = (dueN R now).length + (if x.2.dl ≤ now then 1 else 0) := by
  have p := (perm_put (y := x) hl).filter (fun y => decide (y.2.dl ≤ now))
  unfold dueN
  rw [p.length_eq, List.filter_append, List.length_append]
  congr 1
  by_cases h : x.2.dl ≤ now
  · rw [if_pos h, List.filter_cons_of_pos (by simpa using h)]; rfl
  · rw [if_neg h, List.filter_cons_of_neg (by simpa using h)]; rfl
def it2 (x y : It) : Prop := x.2.dl < y.2.dl ∨ (x.2.dl = y.2.dl ∧ x.2.t < y.2.t)
theorem pw_it2 : ∀ {D : List It}, D.Pairwise itlt → (D.map (·.2.t)).Nodup → D.Pairwise it2
  | [], _, _ => List.Pairwise.nil
  | x :: D, h, hn => by
    obtain ⟨h1, h2⟩ := List.pairwise_cons.1 h
    rw [List.map_cons, List.nodup_cons] at hn
    refine List.pairwise_cons.2 ⟨fun y hy => ?_, pw_it2 h2 hn.2⟩
    have h3 := h1 y hy
    have h4 : x.2.t ≠ y.2.t := fun e => hn.1 (List.mem_map.2 ⟨y, hy, e.symm⟩)
    unfold itlt at h3
    unfold it2
    omega
theorem due_gone {R : List (List It)} {now : Int} {x : It} {D : List It} (h : (dueN R now).Perm (x :: D)) : x.2.dl ≤ now ∧ ∃ (r k : Nat) (l : List It), R[r]? = some l ∧ l[k]? = some x ∧ (dueN (R.set r (l.eraseIdx k)) now).Perm D ∧ (R.set r (l.eraseIdx k)).flatten.length + 1 = R.flatten.length := by
  have hx := h.mem_iff.2 List.mem_cons_self
  obtain ⟨h1, h2⟩ := List.mem_filter.1 hx
  have h2 : x.2.dl ≤ now := by simpa using h2
  obtain ⟨r, k, l, h3, h4⟩ := rows_at h1
  have p := perm_take h3 h4
  have q := p.filter (fun y => decide (y.2.dl ≤ now))
  rw [List.filter_cons_of_pos (by simpa using h2)] at q
  refine ⟨h2, r, k, l, h3, h4, List.Perm.cons_inv (q.symm.trans h), ?_⟩
  have := p.length_eq
  rw [List.length_cons] at this
  omega
set_option maxHeartbeats 8000000 in
set_option maxRecDepth 100000 in
theorem tierqDues_body (A : Option Addr) (cap : Nat) (l : List Rq) (now : Int) (w : World) (hC : Rq.kd.C w A l.length l) (hlc : l.length ≤ cap) (hcap : cap ≤ maxLen) (hok : ∀ x ∈ l, x.ok) (hn : (Lit.int .i64 now).wf = true) :
    Calls Try.prog 5 #[.slice A l.length cap, .int .i64 now] w fun e w' => e = .returned (.bool true) ∧ Below w.heap.size w w' := by
  unfold maxLen at hcap
  obtain ⟨n0, n1⟩ := wf_i64 hn
  have HC := Aside0.mk hC
  have HO := Aside0.mk (fun x hx => (wf_i64 (hok x hx).2.2.2.1).1 : ∀ x ∈ l, -9223372036854775808 ≤ x.dl)
  clear hC hok hn
  go_enter Try.func5, Try.ntmps5
  go_wp2_with (fail)
  refine (awake_ok _).mono ?_
  rintro e w1 ⟨rfl, hb⟩
  have HB := Aside0.mk hb
  have HC1 := Aside0.mk (Kd.C_below HC.out hb)
  clear hb HC
  go_wp2_with (fail)
  refine (a_new 8 64 (by omega) (by omega) (by omega) (by omega) w1).mono ?_
  rintro e w2 ⟨a, rfl, hA⟩
  have HA := Aside0.mk hA
  clear hA
  go_upto_block 0 with (fail)
  go_cut [7] from 24 (fun s7 wx => ∃ (k : Nat) (R : List (List It)), s7 = .int .i64 ((dueN R now).length : Int) ∧ k ≤ 50 ∧ TQA w1 wx a 8 64 k R ∧ DP k R)
  case first =>
    go_wp2_with (fail)
    go_loopw [7, 26] (fun s7 i wr => ∃ (k : Nat) (R : List (List It)), s7 = .int .i64 ((dueN R now).length : Int) ∧ k ≤ l.length ∧ k ≤ 50 ∧ i = .int .i64 k ∧ TQA w1 wr a 8 64 k R ∧ DP k R) (fun _ i _ => l.length - (intOf i).toNat)
    case atStart => exact ⟨0, _, by simp [dueN], Nat.zero_le _, Nat.zero_le _, rfl, HA.out, DP.new _⟩
    case round =>
      clear HA
      obtain ⟨k, R, rfl, hk, hk50, rfl, hR, hP⟩ := hrel
      have HR := Aside0.mk (And.intro hR hP)
      clear hR hP
      by_cases hlt : k < l.length
      · have hlt' : (k : Int) < (l.length : Int) := by omega
        obtain ⟨ad, rfl⟩ := C_ad HC1.out (by omega)
        obtain ⟨x, hKx⟩ : ∃ x, l[k]? = some x := ⟨_, List.getElem?_eq_getElem hlt⟩
        have hxd := HO.out x (List.mem_of_getElem? hKx)
        obtain ⟨e0, e1, e2, e3, e4⟩ := Rq.came (Kd.C_below HC1.out HR.out.1.bel) hKx
        clear hKx
        by_cases h50 : k < 50
        · have h50' : (k : Int) < 50 := by omega
          have h7 := and7 x.tier
          obtain ⟨r, hr⟩ : ∃ r : Nat, x.tier % 8 = r := ⟨(x.tier % 8).toNat, by omega⟩
          rw [hr] at h7
          have hr8 : r < 8 := by omega
          have HXD := Aside0.mk hxd
          clear hr hxd
          go_upto_region 9 with (fail)
          have hbx : Blk (wr.alloc (.cells #[.int .u64 x.t, .int .i64 x.tier, .int .i64 x.coh, .int .i64 x.dl, .int .i64 x.ar] 33)) wr.heap.size 33 x.enc := Blk.new wr _ x.enc
          have hal := below_alloc (Below.refl _ wr) (.cells #[.int .u64 x.t, .int .i64 x.tier, .int .i64 x.coh, .int .i64 x.dl, .int .i64 x.ar] 33)
          have hsz : wr.heap.size ≤ wr.heap.size := Nat.le_refl _
          obtain ⟨gb, hgb⟩ : ∃ g, g = wr.heap.size := ⟨_, rfl⟩
          rw [← hgb] at hbx
          rw [← hgb]
          have HGB := Aside0.mk hgb
          have HAL := Aside0.mk hal
          clear hgb hal e0 e1 e2 e3 e4 hsz
          generalize (wr.alloc (.cells #[.int .u64 x.t, .int .i64 x.tier, .int .i64 x.coh, .int .i64 x.dl, .int .i64 x.ar] 33)) = W3 at *
          have b1 := hbx.cell 1 rfl
          have b0 := hbx.cell 0 rfl
          have bf : ∀ j, W3.frozen? ⟨gb, j, none⟩ = false := fun j => hbx.frozen j
          have HBX := Aside0.mk hbx
          clear hbx
          go_upto_region 11 with (fail)
          have hb4 : Below wr.heap.size wr ((W3.setCell ⟨gb, 1, none⟩ (.int .i64 r)).setCell ⟨gb, 0, none⟩ (.int .u64 k)) := (HAL.out.setCell (p := ⟨gb, 1, none⟩) (Nat.le_of_eq HGB.out.symm) _).setCell (p := ⟨gb, 0, none⟩) (Nat.le_of_eq HGB.out.symm) _
          have hx4 : Blk ((W3.setCell ⟨gb, 1, none⟩ (.int .i64 r)).setCell ⟨gb, 0, none⟩ (.int .u64 k)) gb 33 (Rq.enc ⟨k, r, x.coh, x.dl, x.ar⟩) := (HBX.out.put 1 _ rfl).put 0 _ rfl
          have hA4 := HR.out.1.below hb4
          clear b0 b1 bf hb4
          generalize ((W3.setCell ⟨gb, 1, none⟩ (.int .i64 r)).setCell ⟨gb, 0, none⟩ (.int .u64 k)) = W4 at *
          have b0 := hx4.cell 0 rfl
          have b1 := hx4.cell 1 rfl
          have b2 := hx4.cell 2 rfl
          have b3 := hx4.cell 3 rfl
          have b4 := hx4.cell 4 rfl
          have hrl : r < R.length := by have := hA4.rows; omega
          obtain ⟨lr, hlr⟩ : ∃ lr, R[r]? = some lr := ⟨_, List.getElem?_eq_getElem hrl⟩
          have H4 := Aside0.mk (And.intro hA4 (And.intro hx4 hlr))
          clear hA4 hx4 hlr hrl
          go_wp2_with (fail)
          refine (a_put ⟨k, r, x.coh, x.dl, x.ar⟩ H4.out.1 (by omega) rfl H4.out.2.2 (by rw [HR.out.2.tot]; omega)).mono ?_
          rintro e w5 ⟨h, rfl, hA5, k5⟩
          have hx5 := H4.out.1.kr k5 _ _ H4.out.2.1
          clear b0 b1 b2 b3 b4
          have b3 := hx5.cell 3 rfl
          have hN := dueN_put (now := now) (x := (h, ⟨k, r, x.coh, x.dl, x.ar⟩)) H4.out.2.2
          have H5 := Aside0.mk (And.intro hA5 (And.intro (HR.out.2.put H4.out.2.2 (x := (h, ⟨k, r, x.coh, x.dl, x.ar⟩)) rfl HXD.out) hN))
          have hdn : (dueN R now).length ≤ 50 := by
            have h1 : (R.flatten.filter fun y => decide (y.2.dl ≤ now)).length ≤ R.flatten.length := List.length_filter_le _ _
            have h2 := HR.out.2.tot
            show (R.flatten.filter fun y => decide (y.2.dl ≤ now)).length ≤ 50
            omega
          clear hA5 hx5 k5 hN
          by_cases hd : x.dl ≤ now
          · have hd' : decide (x.dl ≤ now) = true := decide_eq_true hd
            go_wp2_with (fail)
            refine ⟨⟨k + 1, _, ?_, by omega, by omega, by go_num, H5.out.1, H5.out.2.1⟩, by simp [intOf]; omega⟩
            have h1 := H5.out.2.2
            rw [if_pos hd] at h1
            rw [h1]
            go_num
          · have hd' : decide (x.dl ≤ now) = false := decide_eq_false hd
            go_wp2_with (fail)
            refine ⟨⟨k + 1, _, ?_, by omega, by omega, by go_num, H5.out.1, H5.out.2.1⟩, by simp [intOf]; omega⟩
            have h1 := H5.out.2.2
            rw [if_neg (by show ¬ (x.dl ≤ now); omega)] at h1
            rw [h1]
            rfl
        · have h50' : ¬ (k : Int) < 50 := by omega
          go_wp2_with (fail)
          go_meet
          case rel => exact ⟨k, R, rfl, hk50, HR.out.1.below (below_alloc (Below.refl _ _) _), HR.out.2⟩
      · go_wp2_with (fail)
        go_meet
        case rel => exact ⟨k, R, rfl, hk50, HR.out.1, HR.out.2⟩
  case rest =>
    clear HA
    obtain ⟨k, R, rfl, hk50, hR, hP⟩ := hcut
    have HLN := a_len hR
    rw [hP.tot] at HLN
    have HLN := Aside0.mk HLN
    have HR := Aside0.mk (And.intro hR hP)
    clear hR hP
    obtain ⟨u, hu⟩ : ∃ u, u = (dueN R now).length := ⟨_, rfl⟩
    rw [← hu]
    have HU := Aside0.mk hu
    clear hu
    go_wp2_with (fail)
    refine HLN.out.mono ?_
    rintro e w3 ⟨rfl, rfl⟩
    have hbx : Blk (wc.alloc (.cells #[.int .u64 0, .int .i64 0, .int .i64 0, .int .i64 (-9223372036854775808), .int .i64 0] 33)) wc.heap.size 33 (Rq.enc ⟨0, 0, 0, -9223372036854775808, 0⟩) := Blk.new wc _ _
    have hR4 := HR.out.1.below (below_alloc (Below.refl _ wc) (.cells #[.int .u64 0, .int .i64 0, .int .i64 0, .int .i64 (-9223372036854775808), .int .i64 0] 33))
    have HX := Aside0.mk (And.intro hR4 hbx)
    clear hR4 hbx
    go_wp2_with (fail)
    generalize (wc.alloc (.cells #[.int .u64 0, .int .i64 0, .int .i64 0, .int .i64 (-9223372036854775808), .int .i64 0] 33)) = W4 at *
    have hg13 : w1.heap.size ≤ wc.heap.size := HR.out.1.bel.size
    generalize wc.heap.size = g13 at *
    obtain ⟨D, hDp, hDs, hD⟩ := a_due now HX.out.1
    have hDt : (D.map (·.2.t)).Nodup := by
      rw [(hDp.map _).nodup_iff]
      exact List.Nodup.sublist (List.Sublist.map _ List.filter_sublist) HR.out.2.nd
    have hDl : D.length = u := by rw [HU.out]; exact hDp.length_eq
    have hDk : D.length ≤ k := by
      rw [hDp.length_eq, ← HR.out.2.tot]
      exact List.length_filter_le _ _
    have hDm : ∀ x ∈ D, 0 ≤ x.2.t ∧ x.2.t < 50 ∧ -9223372036854775808 ≤ x.2.dl := fun x hx => by
      have := HR.out.2.lt x (List.mem_filter.1 (hDp.mem_iff.1 hx)).1
      omega
    have HD := Aside0.mk (And.intro (pw_it2 hDs hDt) (And.intro hDp hDm))
    clear hDs hDt hDp hDm
    refine hD.mono ?_
    rintro e w5 ⟨v, rfl, hv, hbv⟩
    obtain ⟨Av, cv, hve⟩ := Kd.R_slice hv
    subst hve
    rw [List.length_map] at hv ⊢
    have hlts := HX.out.1.lts
    have hv := Kd.R_mono (Kd.R_bound hv) (ok' := fun b => b ≠ a.ba ∧ b ≠ a.bh) (fun b hb => ⟨fun e => by have := hb.2.1; omega, fun e => by have := hb.2.1; omega⟩)
    have HV := Aside0.mk (And.intro hv (And.intro (HX.out.1.below hbv) (HX.out.2.below hbv)))
    obtain ⟨W4s, hW4s⟩ : ∃ z, z = W4.heap.size := ⟨_, rfl⟩
    rw [← hW4s] at HV
    clear hlts hv hbv hD HX hW4s
    rw [hDl] at HV ⊢
    rw [hDl] at hDk
    have HDL := Aside0.mk hDl
    clear hDl
    go_wp2_with (fail)
    go_loopw [62] (fun i wr => ∃ (j : Nat) (R : List (List It)) (q : Rq), j ≤ u ∧ i = .int .i64 j ∧ TQA w1 wr a 8 64 k R ∧ (dueN R now).Perm (D.drop j) ∧ R.flatten.length + j = k ∧ Blk wr g13 33 q.enc ∧ (j = 0 → q = ⟨0, 0, 0, -9223372036854775808, 0⟩) ∧ (∀ i, j = i + 1 → ∃ x, D[i]? = some x ∧ x.2 = q) ∧ (Kd.int .u64).R 29 wr W4s (fun b => b ≠ a.ba ∧ b ≠ a.bh) (.slice Av u cv) (D.map (·.1))) (fun i _ => u - (intOf i).toNat)
    case atStart => exact ⟨0, R, _, Nat.zero_le _, rfl, HV.out.2.1, HD.out.2.1.symm, HR.out.2.tot, HV.out.2.2, fun _ => rfl, fun i h => (by omega), HV.out.1⟩
    case round =>
      clear HV HR HU HLN
      obtain ⟨j, R, q, hj, rfl, hR, hP, hRl, hx, hq0, hq1, hH⟩ := hrel
      by_cases hlt : j < u
      · have hlt' : (j : Int) < (u : Int) := by omega
        have hjb : (j : Int) + 1 ≤ 1024 := by omega
        have hjD : j < D.length := by rw [HDL.out]; exact hlt
        obtain ⟨x, hxj⟩ : ∃ x, D[j]? = some x := ⟨_, List.getElem?_eq_getElem hjD⟩
        obtain ⟨av, hav⟩ := C_ad (Kd.R_reads' hH).2.2 (by rw [List.length_map]; omega)
        subst hav
        have c1 := int_came (Kd.R_reads' hH).2.2 (i := j) (x := x.1) (by rw [List.getElem?_map, hxj]; rfl)
        have hdrop : D.drop j = x :: D.drop (j + 1) := by
          rw [List.drop_eq_getElem_cons hjD]
          rw [List.getElem?_eq_getElem hjD] at hxj
          injection hxj with hxj
          rw [hxj]
        rw [hdrop] at hP
        obtain ⟨hxn, r, kk, lr, h1, h2, h3, h4⟩ := due_gone hP
        obtain ⟨x0, x1, x2⟩ := HD.out.2.2 x (List.mem_of_getElem? hxj)
        have hlast : (j = 0 ∧ q.dl = -9223372036854775808) ∨ (0 < j ∧ (q.dl < x.2.dl ∨ (q.dl = x.2.dl ∧ q.t < x.2.t))) := by
          by_cases h0 : j = 0
          · exact .inl ⟨h0, by rw [hq0 h0]⟩
          · obtain ⟨i, rfl⟩ : ∃ i, j = i + 1 := ⟨j - 1, by omega⟩
            obtain ⟨y, hy, rfl⟩ := hq1 i rfl
            have hiD : i < D.length := by omega
            have := List.pairwise_iff_getElem.1 HD.out.1 i (i + 1) hiD hjD (by omega)
            rw [List.getElem?_eq_getElem hiD] at hy
            rw [List.getElem?_eq_getElem hjD] at hxj
            injection hy with hy
            injection hxj with hxj
            rw [hy, hxj] at this
            exact .inr ⟨by omega, this⟩
        have HR := Aside0.mk (And.intro hR (And.intro hH (And.intro h1 (And.intro h2 (And.intro h3 (And.intro h4 (And.intro hx hxj)))))))
        have HRL := Aside0.mk hRl
        clear hR hH h1 h2 h3 h4 hP hx hxj hdrop hq0 hq1 hRl
        obtain ⟨xh, ⟨qt, qr, qc, qd, qa⟩⟩ := x
        dsimp only at c1 hxn x0 x1 x2 hlast
        have HLT := Aside0.mk hlast
        clear hlast
        go_wp2_with (fail)
        refine (a_take HR.out.1 (by omega) HR.out.2.2.1 HR.out.2.2.2.1).mono ?_
        rintro e w6 ⟨rfl, hA6, k6⟩
        unfold Rq.val
        dsimp only
        have hal := below_alloc (Below.refl _ w6) (.cells #[.int .u64 qt, .int .i64 qr, .int .i64 qc, .int .i64 qd, .int .i64 qa] 33)
        have h16 : Blk (w6.alloc (.cells #[.int .u64 qt, .int .i64 qr, .int .i64 qc, .int .i64 qd, .int .i64 qa] 33)) w6.heap.size 33 (Rq.enc ⟨qt, qr, qc, qd, qa⟩) := Blk.new w6 _ _
        have h13 := (HR.out.1.kr k6 _ _ HR.out.2.2.2.2.2.2.1).below hal
        have hA7 := hA6.below hal
        have hH7 := KQ.row HR.out.2.1 (k6.trans (KQ.of_below hal)) (by decide) (fun b hb => hb)
        have H7 := Aside0.mk (And.intro hA7 (And.intro hH7 (And.intro h13 h16)))
        clear hA6 k6 hal h16 h13 hA7 hH7 c1
        go_upto_region 23 with (fail)
        generalize (w6.alloc (.cells #[.int .u64 qt, .int .i64 qr, .int .i64 qc, .int .i64 qd, .int .i64 qa] 33)) = W7 at *
        generalize w6.heap.size = g16 at *
        have h13 := H7.out.2.2.1
        have h16 := H7.out.2.2.2
        have y0 := h13.cell 0 rfl
        have y1 := h13.cell 1 rfl
        have y2 := h13.cell 2 rfl
        have y3 := h13.cell 3 rfl
        have y4 := h13.cell 4 rfl
        have z0 := h16.cell 0 rfl
        have z1 := h16.cell 1 rfl
        have z2 := h16.cell 2 rfl
        have z3 := h16.cell 3 rfl
        have z4 := h16.cell 4 rfl
        have yf : ∀ j, W7.frozen? ⟨g13, j, none⟩ = false := fun j => h13.frozen j
        clear h13 h16
        have d1 : decide (now < qd) = false := decide_eq_false (by omega)
        have fin : ∀ {W' : World}, Kp [g13] W7 W' → Blk W' g13 33 (Rq.enc ⟨qt, qr, qc, qd, qa⟩) → ∃ (j' : Nat) (R : List (List It)) (q : Rq), j' ≤ u ∧ Value.int IntKind.i64 ((j : Int) + 1) = .int .i64 j' ∧ TQA w1 W' a 8 64 k R ∧ (dueN R now).Perm (D.drop j') ∧ R.flatten.length + j' = k ∧ Blk W' g13 33 q.enc ∧ (j' = 0 → q = ⟨0, 0, 0, -9223372036854775808, 0⟩) ∧ (∀ i, j' = i + 1 → ∃ x, D[i]? = some x ∧ x.2 = q) ∧ (Kd.int .u64).R 29 W' W4s (fun b => b ≠ a.ba ∧ b ≠ a.bh) (.slice (some av) u cv) (D.map (·.1)) := by
          intro W' kp hb'
          have hle := HR.out.2.2.2.2.2.1
          have hle2 := HRL.out
          refine ⟨j + 1, _, ⟨qt, qr, qc, qd, qa⟩, by omega, by go_num, H7.out.1.box H7.out.2.2.1 hg13 kp, HR.out.2.2.2.2.1, by omega, hb', fun h => (by omega), fun i hi => ?_, R_kp rfl H7.out.2.1 kp (fun b hb => ⟨_, _, (by rw [List.mem_singleton] at hb; subst hb; exact H7.out.2.2.1), by decide⟩)⟩
          obtain rfl : i = j := by omega
          exact ⟨_, HR.out.2.2.2.2.2.2.2, rfl⟩
        have HF := Aside0.mk @fin
        clear fin
        have close : ∀ {W' : World}, W' = (((((W7.setCell ⟨g13, 0, none⟩ (.int .u64 qt)).setCell ⟨g13, 1, none⟩ (.int .i64 qr)).setCell ⟨g13, 2, none⟩ (.int .i64 qc)).setCell ⟨g13, 3, none⟩ (.int .i64 qd)).setCell ⟨g13, 4, none⟩ (.int .i64 qa)) → Kp [g13] W7 W' ∧ Blk W' g13 33 (Rq.enc ⟨qt, qr, qc, qd, qa⟩) := by
          rintro _ rfl
          constructor
          · repeat (with_reducible apply Kp.set_; (· exact .inl (by simp)))
            exact Kp.refl _ _
          · exact ((((H7.out.2.2.1.put 0 _ rfl).put 1 _ rfl).put 2 _ rfl).put 3 _ rfl).put 4 _ rfl
        have HCL := Aside0.mk @close
        clear close
        have hcase : (decide ((0 : Int) < (j : Int)) = false ∧ decide (qd < q.dl) = false ∧ (qd == q.dl) = false) ∨ (decide ((0 : Int) < (j : Int)) = false ∧ decide (qd < q.dl) = false ∧ qd = q.dl) ∨ (decide ((0 : Int) < (j : Int)) = true ∧ decide (qd < q.dl) = false ∧ (qd == q.dl) = false) ∨ (decide ((0 : Int) < (j : Int)) = true ∧ decide (qd < q.dl) = false ∧ qd = q.dl ∧ decide (qt ≤ q.t) = false) := by
          rcases HLT.out with ⟨hj0, hql⟩ | ⟨hj0, hql | ⟨hql, hqt⟩⟩
          · by_cases he : qd = q.dl
            · exact .inr (.inl ⟨decide_eq_false (by omega), decide_eq_false (by omega), he⟩)
            · exact .inl ⟨decide_eq_false (by omega), decide_eq_false (by omega), by rw [beq_eq_false_iff_ne]; exact he⟩
          · exact .inr (.inr (.inl ⟨decide_eq_true (by omega), decide_eq_false (by omega), by rw [beq_eq_false_iff_ne]; omega⟩))
          · exact .inr (.inr (.inr ⟨decide_eq_true (by omega), decide_eq_false (by omega), hql.symm, decide_eq_false (by omega)⟩))
        have HQ := Aside0.mk y3
        obtain ⟨q0, q1, q2, q3, q4⟩ := q
        dsimp only at y0 y1 y2 y3 y4 hcase
        clear HLT
        rcases hcase with ⟨f1, f2, f3⟩ | ⟨f1, f2, f3⟩ | ⟨f1, f2, f3⟩ | ⟨f1, f2, f3, f4⟩
        · go_wp2_with (fail)
          all_goals first | exact ⟨HF.out (HCL.out rfl).1 (HCL.out rfl).2, by simp [intOf]; omega⟩ | (exfalso; have g := of_decide_eq_false f1; omega)
        · subst f3
          go_wp2_with (fail)
          all_goals first | exact ⟨HF.out (HCL.out rfl).1 (HCL.out rfl).2, by simp [intOf]; omega⟩ | (exfalso; have g := of_decide_eq_false f1; omega) | (exfalso; have g := of_decide_eq_false f4; omega)
        · go_wp2_with (fail)
          all_goals first | exact ⟨HF.out (HCL.out rfl).1 (HCL.out rfl).2, by simp [intOf]; omega⟩ | (exfalso; have g := of_decide_eq_false f1; omega)
        · subst f3
          go_wp2_with (fail)
          all_goals first | exact ⟨HF.out (HCL.out rfl).1 (HCL.out rfl).2, by simp [intOf]; omega⟩ | (exfalso; have g := of_decide_eq_false f1; omega) | (exfalso; have g := of_decide_eq_false f4; omega)
      · obtain rfl : j = u := by omega
        have hd0 : D.drop j = [] := List.drop_eq_nil_of_le (by rw [HDL.out]; exact Nat.le_refl _)
        rw [hd0] at hP
        have hf : dueN R now = [] := List.Perm.eq_nil hP
        have HLN2 := a_len hR
        have hRl2 : R.flatten.length = k - j := by omega
        rw [hRl2] at HLN2
        obtain ⟨D2, hD1, _, hD⟩ := a_due now hR
        have hD1 : D2.Perm (dueN R now) := hD1
        rw [hf] at hD1
        have hD0 : D2 = [] := List.Perm.eq_nil hD1
        subst hD0
        have HF := Aside0.mk (And.intro HLN2 (And.intro hD hR.bel))
        have hsub : (((k - j : Nat) : Int) == (k : Int) - (j : Int)) = true := by rw [beq_iff_eq]; omega
        clear HLN2 hD hD1 hP hR hH hf hd0 hx hq0 hq1 hRl hRl2
        go_wp2_with (fail)
        refine HF.out.1.mono ?_
        rintro e w5 ⟨rfl, rfl⟩
        go_wp2_with (fail)
        refine HF.out.2.1.mono ?_
        rintro e w5 ⟨v, rfl, hv, hbv⟩
        obtain ⟨Ad, cd, rfl⟩ := Kd.R_slice hv
        have HE := Aside0.mk hbv
        clear hv hbv
        go_wp2_with (fail)
        go_ret
        exact ⟨rfl, HB.out.trans ((HF.out.2.2.trans (HE.out.mono HF.out.2.2.size)).mono HB.out.size)⟩
end Go.Proofs.Ytifffmfbipjilaa.Z

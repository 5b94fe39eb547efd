/- The document's slab: Take, Drop. -/
import Derived.Test.YtifffmfbipjilaaSlabr
namespace Go.Proofs.Ytifffmfbipjilaa.Z
open Go.RowKit Go.Proofs.YtifffmfbipjilaaW Go.Proofs.YtifffmfbipjilaaW.PrintWords
set_option linter.unusedVariables false
set_option linter.unusedSimpArgs false
theorem i_came {k : IntKind} {w : World} {ad : Addr} {n : Nat} {xs : List Int} (h : (Kd.int k).C w (some ad) n xs) {i : Nat} {x : Int} (hx : xs[i]? = some x) : w.cell? (ad.add i) = some (.int k x) := by
  have hi : i < xs.length := (List.getElem?_eq_some_iff.1 hx).1
  obtain ⟨hn, _, hc⟩ := h
  obtain ⟨ad', e, hc⟩ := hc (by omega)
  obtain rfl : ad = ad' := by injection e
  obtain ⟨c, hcl, hK, hcc⟩ := hc i x hx
  obtain rfl : c = [.int k x] := hK
  have := hcc 0 _ rfl
  rwa [Nat.add_zero, show (Kd.int k).sz = 1 from rfl, Nat.mul_one] at this
theorem Fr.tail {w : World} {base T c : Nat} {ad : Addr} {x : Int} {l : List Int} (h : Fr w base T (.slice (some ad) (x :: l).length c) (x :: l)) :
    Fr w base T (if c = 1 then .slice (some ad) 0 0 else .slice (some ⟨ad.block, ad.off + 1, none⟩) l.length (c - 1)) l := by
  obtain ⟨A, c', hv, hlc, hC, hb⟩ := h.ex
  injection hv with e1 _ e3
  subst e1 e3
  by_cases hc : c = 1
  · rw [if_pos hc]
    have hl : l = [] := by
      subst hc
      exact List.eq_nil_of_length_eq_zero (by simp only [List.length_cons] at hlc; omega)
    subst hl
    exact ⟨some ad, 0, rfl, Nat.le_refl _, ⟨rfl, by simp, fun h => absurd h (by simp)⟩, fun _ _ h => absurd h (by simp)⟩
  · rw [if_neg hc]
    have h1 := Kd.C_drop (m := 1) (c := c) hC (by simp) hlc
    rw [if_neg hc] at h1
    refine ⟨some ⟨ad.block, ad.off + 1, none⟩, c - 1, rfl, by simp only [List.length_cons] at hlc; omega, h1, fun ad' hA hp => ?_⟩
    injection hA with hA
    subst hA
    exact hb ad rfl (by simp)
theorem RSAt.refree {w : World} {base gx : Nat} {okn : Nat → Prop} {vq vt vn vf v' : Value} {r : RS} {l' : List Int} (h : RSAt w base okn gx vq vt vn vf r) (hf : Fr w base 3 v' l') :
    RSAt (w.setCell ⟨gx, 3, none⟩ v') base okn gx vq vt vn v' { r with free := l' } := by
  have k : Kp [gx] w (w.setCell ⟨gx, 3, none⟩ v') := (Kp.refl [gx] w).set (.inl (by simp)) v'
  have hS : ∀ b ∈ [gx], ∃ t l, Blk w b t l ∧ t = 97 := fun b hb => by
    rw [List.mem_singleton] at hb
    subst hb
    exact ⟨_, _, h.head, rfl⟩
  have hS' : ∀ T, T ≠ 97 → ∀ b ∈ [gx], ∃ t l, Blk w b t l ∧ t ≠ T := fun T hT b hb => by
    obtain ⟨t, l, h1, h2⟩ := hS b hb
    exact ⟨t, l, h1, fun e => hT (e ▸ h2)⟩
  exact ⟨h.head.put 3 v' rfl, R_kp rfl h.rq k (hS' _ (by decide)), R_kp rfl h.tk k (hS' _ (by decide)), R_kp rfl h.tn k (hS' _ (by decide)), hf.kp k (hS' _ (by decide)), h.lt_, h.ln, h.hb⟩
theorem typed_blk {α : Type} {d : Kd α} {w : World} {e base g n c : Nat} {ok : Nat → Prop} {xs : List α} (h : d.R e w base ok (.slice (some ⟨g, 0, none⟩) n c) xs) : ∃ l, Blk w g e l := by
  obtain ⟨cells, hc⟩ := Kd.R_typed h g rfl
  exact ⟨cells.toList, by simpa [Blk] using hc⟩
theorem RSAt.laid {w : World} {base gx bq bt n cq ct i : Nat} {okn : Nat → Prop} {vn vf : Value} {r : RS} (q : Rq) (h : RSAt w base okn gx (.slice (some ⟨bq, 0, none⟩) n cq) (.slice (some ⟨bt, 0, none⟩) n ct) vn vf r) (hi : i < r.reqs.length) :
    RSAt ((((((w.setCell ⟨bq, i * 5, none⟩ (.int .u64 q.t)).setCell ⟨bq, i * 5 + 1, none⟩ (.int .i64 q.tier)).setCell ⟨bq, i * 5 + 2, none⟩ (.int .i64 q.coh)).setCell ⟨bq, i * 5 + 3, none⟩ (.int .i64 q.dl)).setCell ⟨bq, i * 5 + 4, none⟩ (.int .i64 q.ar)).setCell ⟨bt, i, none⟩ (.bool true)) base okn gx (.slice (some ⟨bq, 0, none⟩) n cq) (.slice (some ⟨bt, 0, none⟩) n ct) vn vf ⟨r.reqs.set i q, r.taken.set i true, r.turns, r.free⟩ ∧
    Kp [bq, bt] w ((((((w.setCell ⟨bq, i * 5, none⟩ (.int .u64 q.t)).setCell ⟨bq, i * 5 + 1, none⟩ (.int .i64 q.tier)).setCell ⟨bq, i * 5 + 2, none⟩ (.int .i64 q.coh)).setCell ⟨bq, i * 5 + 3, none⟩ (.int .i64 q.dl)).setCell ⟨bq, i * 5 + 4, none⟩ (.int .i64 q.ar)).setCell ⟨bt, i, none⟩ (.bool true)) := by
  obtain ⟨lq, hq⟩ := typed_blk h.rq
  obtain ⟨lt, ht⟩ := typed_blk h.tk
  obtain ⟨x, hx⟩ : ∃ x, r.reqs[i]? = some x := ⟨_, List.getElem?_eq_getElem hi⟩
  have k1 : Kp [bq] w (((((w.setCell ⟨bq, i * 5, none⟩ (.int .u64 q.t)).setCell ⟨bq, i * 5 + 1, none⟩ (.int .i64 q.tier)).setCell ⟨bq, i * 5 + 2, none⟩ (.int .i64 q.coh)).setCell ⟨bq, i * 5 + 3, none⟩ (.int .i64 q.dl)).setCell ⟨bq, i * 5 + 4, none⟩ (.int .i64 q.ar)) :=
    (((((Kp.refl [bq] w).set (.inl (by simp)) _).set (.inl (by simp)) _).set (.inl (by simp)) _).set (.inl (by simp)) _).set (.inl (by simp)) _
  have s1 : ∀ T, T ≠ 60 → ∀ b ∈ [bq], ∃ t l, Blk w b t l ∧ t ≠ T := fun T hT b hb => by
    rw [List.mem_singleton] at hb
    subst hb
    exact ⟨_, _, hq, fun e => hT e.symm⟩
  have f0 : Rq.kd.R 60 (w.setCell ⟨bq, i * 5, none⟩ (.int .u64 q.t)) base (fun _ => True) (.slice (some ⟨bq, 0, none⟩) n cq) (r.reqs.set i { x with t := q.t }) := (R_fset (j := 0) (x' := { x with t := q.t }) (v := .int .u64 q.t) h.rq hx (by omega) rfl).1
  have f1 := (R_fset (j := 1) (x' := { x with t := q.t, tier := q.tier }) (v := .int .i64 q.tier) f0 (List.getElem?_set_self hi) (by omega) rfl).1
  have f2 := (R_fset (j := 2) (x' := { x with t := q.t, tier := q.tier, coh := q.coh }) (v := .int .i64 q.coh) f1 (List.getElem?_set_self (by simpa using hi)) (by omega) rfl).1
  have f3 := (R_fset (j := 3) (x' := { x with t := q.t, tier := q.tier, coh := q.coh, dl := q.dl }) (v := .int .i64 q.dl) f2 (List.getElem?_set_self (by simpa using hi)) (by omega) rfl).1
  have f4 := (R_fset (j := 4) (x' := q) (v := .int .i64 q.ar) f3 (List.getElem?_set_self (by simpa using hi)) (by omega) rfl).1
  simp only [List.set_set] at f4
  have g1 := R_kp rfl h.tk k1 (s1 _ (by decide))
  have g2 := Kd.R_putn g1 (i : Int) true
  rw [Int.toNat_natCast] at g2
  obtain ⟨lq5, hq5⟩ := typed_blk f4
  obtain ⟨lt5, ht5⟩ := typed_blk g1
  have k2 := (Kp.refl [bt] (((((w.setCell ⟨bq, i * 5, none⟩ (.int .u64 q.t)).setCell ⟨bq, i * 5 + 1, none⟩ (.int .i64 q.tier)).setCell ⟨bq, i * 5 + 2, none⟩ (.int .i64 q.coh)).setCell ⟨bq, i * 5 + 3, none⟩ (.int .i64 q.dl)).setCell ⟨bq, i * 5 + 4, none⟩ (.int .i64 q.ar))).set (p := ⟨bt, i, none⟩) (.inl (by simp)) (.bool true)
  have s2 : ∀ T, T ≠ 4 → ∀ b ∈ [bt], ∃ t l, Blk (((((w.setCell ⟨bq, i * 5, none⟩ (.int .u64 q.t)).setCell ⟨bq, i * 5 + 1, none⟩ (.int .i64 q.tier)).setCell ⟨bq, i * 5 + 2, none⟩ (.int .i64 q.coh)).setCell ⟨bq, i * 5 + 3, none⟩ (.int .i64 q.dl)).setCell ⟨bq, i * 5 + 4, none⟩ (.int .i64 q.ar)) b t l ∧ t ≠ T := fun T hT b hb => by
    rw [List.mem_singleton] at hb
    subst hb
    exact ⟨_, _, ht5, fun e => hT e.symm⟩
  refine ⟨⟨?_, R_kp rfl f4 k2 (s2 _ (by decide)), g2, R_kp rfl (R_kp rfl h.tn k1 (s1 _ (by decide))) k2 (s2 _ (by decide)), (h.fr.kp k1 (s1 _ (by decide))).kp k2 (s2 _ (by decide)), by simpa using h.lt_, by simpa using h.ln, h.hb⟩, ?_⟩
  · refine k2.blk (k1.blk h.head ?_) ?_
    · rw [List.mem_singleton]; exact fun e => blk_ne hq h.head (by decide) e.symm
    · rw [List.mem_singleton]; exact fun e => blk_ne ht h.head (by decide) e.symm
  · exact (k1.mono (by simp)).trans (k2.mono (by simp))
theorem RSAt.counted {w : World} {base gx bn n cn i : Nat} {okn : Nat → Prop} {vq vt vf : Value} {r : RS} (t : Int) (h : RSAt w base okn gx vq vt (.slice (some ⟨bn, 0, none⟩) n cn) vf r) :
    RSAt (w.setCell ⟨bn, i, none⟩ (.int .u64 t)) base okn gx vq vt (.slice (some ⟨bn, 0, none⟩) n cn) vf ⟨r.reqs, r.taken, r.turns.set i t, r.free⟩ ∧ Kp [bn] w (w.setCell ⟨bn, i, none⟩ (.int .u64 t)) := by
  obtain ⟨ln, hn⟩ := typed_blk h.tn
  have k2 := (Kp.refl [bn] w).set (p := ⟨bn, i, none⟩) (.inl (by simp)) (.int .u64 t)
  have s2 : ∀ T, T ≠ 28 → ∀ b ∈ [bn], ∃ t l, Blk w b t l ∧ t ≠ T := fun T hT b hb => by
    rw [List.mem_singleton] at hb
    subst hb
    exact ⟨_, _, hn, fun e => hT e.symm⟩
  have g2 := Kd.R_putn h.tn (i : Int) t
  rw [Int.toNat_natCast] at g2
  exact ⟨⟨k2.blk h.head (by rw [List.mem_singleton]; exact fun e => blk_ne hn h.head (by decide) e.symm), R_kp rfl h.rq k2 (s2 _ (by decide)), R_kp rfl h.tk k2 (s2 _ (by decide)), g2, h.fr.kp k2 (s2 _ (by decide)), h.lt_, by simpa using h.ln, h.hb⟩, k2⟩
set_option maxHeartbeats 4000000 in
theorem rtake_full (q : Rq) (base gx : Nat) (okn : Nat → Prop) (vq vt vn vf : Value) (r : RS) (w : World) (hs : RSAt w base okn gx vq vt vn vf r) (hf : r.free = []) :
    Calls Try.prog 43 #[.pointer (some ⟨gx, 0, none⟩), q.val] w fun e w' => e = .returned (.tuple #[.int .u64 0, .int .i64 4]) ∧ Below w.heap.size w w' := by
  obtain ⟨A, c, hv, _⟩ := hs.fr.ex
  rw [hf] at hv
  subst hv
  have hb := below_alloc (Below.refl _ w) (.cells #[.int .u64 q.t, .int .i64 q.tier, .int .i64 q.coh, .int .i64 q.dl, .int .i64 q.ar] 60)
  have c3 := (hs.below hb).head.cell 3 rfl
  have HB := Aside0.mk hb
  unfold Rq.val
  clear hs hf hb
  go_enter Try.func43, Try.ntmps43
  go_wp2_with (fail)
  go_ret2
  exact ⟨rfl, HB.out⟩
set_option maxHeartbeats 8000000 in
set_option maxRecDepth 100000 in
theorem rtake_ok (q : Rq) (base gx i : Nat) (okn : Nat → Prop) (vq vt vn vf : Value) (r : RS) (fs : List Int) (t : Int) (w : World) (hs : RSAt w base okn gx vq vt vn vf r) (hn : r.reqs.length ≤ 1024) (hf : r.free = (i : Int) :: fs) (hi : i < r.reqs.length) (ht : r.turns[i]? = some t) (t0 : 0 ≤ t) (t1 : t < 4294967295) :
    Calls Try.prog 43 #[.pointer (some ⟨gx, 0, none⟩), q.val] w fun e w' => e = .returned (.tuple #[.int .u64 ((t + 1) * 4294967296 + i), .int .i64 0]) ∧ (∃ vf', RSAt w' base okn gx vq vt vn vf' ⟨r.reqs.set i q, r.taken.set i true, r.turns.set i (t + 1), fs⟩) ∧ Kp (rown gx vq vt vn) w w' := by
  obtain ⟨bq, bt, bn, cq, ct, cn, rfl, rfl, rfl⟩ := hs.lens (by omega)
  obtain ⟨A, c, rfl, hfc, hC, hfb⟩ := hs.fr.ex
  rw [hf] at hfc hC hfb
  obtain ⟨ad, rfl, hcell⟩ := hC.2.2 (by simp)
  have hb := below_alloc (Below.refl _ w) (.cells #[.int .u64 q.t, .int .i64 q.tier, .int .i64 q.coh, .int .i64 q.dl, .int .i64 q.ar] 60)
  have hbox : Blk (w.alloc (.cells #[.int .u64 q.t, .int .i64 q.tier, .int .i64 q.coh, .int .i64 q.dl, .int .i64 q.ar] 60)) w.heap.size 60 q.enc := Blk.new w 60 q.enc
  have hs1 := hs.below hb
  have hC1 := Kd.C_below hC hb
  have l1 := Kd.R_lt hs.rq bq rfl
  have l2 := Kd.R_lt hs.tk bt rfl
  have l3 := Kd.R_lt hs.tn bn rfl
  have l4 := hs.head.lt
  have nq : bq ≠ bt ∧ bq ≠ bn ∧ bt ≠ bn ∧ bq ≠ gx ∧ bt ≠ gx ∧ bn ≠ gx := by
    obtain ⟨e1, h1⟩ := Kd.R_typed hs.rq bq rfl
    obtain ⟨e2, h2⟩ := Kd.R_typed hs.tk bt rfl
    obtain ⟨e3, h3⟩ := Kd.R_typed hs.tn bn rfl
    exact ⟨blk_ne h1 h2 (by decide), blk_ne h1 h3 (by decide), blk_ne h2 h3 (by decide), blk_ne h1 hs.head (by decide), blk_ne h2 hs.head (by decide), blk_ne h3 hs.head (by decide)⟩
  obtain ⟨n1, n2, n3, n4, n5, n6⟩ := nq
  have HB := Aside0.mk hb
  have HF := Aside0.mk hf
  obtain ⟨gq, hgq⟩ : ∃ gq, gq = w.heap.size := ⟨_, rfl⟩
  rw [← hgq] at hbox l1 l2 l3 l4
  have c00 : (w.alloc (.cells #[.int .u64 q.t, .int .i64 q.tier, .int .i64 q.coh, .int .i64 q.dl, .int .i64 q.ar] 60)).cell? ad = some (.int .i64 i) := by
    have := i_came hC1 (i := 0) (x := (i : Int)) rfl
    rwa [show ad.add 0 = ad from rfl] at this
  have c3 := hs1.head.cell 3 rfl
  have q0 := hbox.cell 0 rfl
  unfold Rq.val
  obtain ⟨n, hN⟩ : ∃ n, n = r.reqs.length := ⟨_, rfl⟩
  rw [← hN] at hn hi ⊢
  rw [hf] at c3
  have HN := Aside0.mk hN
  have z1 : ∀ j, (w.alloc (.cells #[.int .u64 q.t, .int .i64 q.tier, .int .i64 q.coh, .int .i64 q.dl, .int .i64 q.ar] 60)).frozen? ⟨gx, j, none⟩ = false := fun j => hs1.head.frozen j
  have i0 : (0 : Int) ≤ (i : Int) := by omega
  have i1 : (i : Int) < (n : Int) := by omega
  have i2 : (n : Int) ≤ 1024 := by omega
  clear hs hC hb hN hf hfb hcell hC1
  go_enter Try.func43, Try.ntmps43
  go_upto_region 1 with (fail)
  rw [← hgq]
  have HG := Aside0.mk hgq
  clear hgq
  generalize (w.alloc (.cells #[.int .u64 q.t, .int .i64 q.tier, .int .i64 q.coh, .int .i64 q.dl, .int .i64 q.ar] 60)) = W at *
  have hfr := hs1.fr
  rw [HF.out] at hfr
  have hs5 := hs1.refree hfr.tail
  have HFC := Aside0.mk hfc
  clear hfr hfc
  go_upto_region 4 with (fail)
  go_cut [] from 19 (fun wx => ∃ v', Kp [gx] W wx ∧ RSAt wx base okn gx (.slice (some ⟨bq, 0, none⟩) n cq) (.slice (some ⟨bt, 0, none⟩) n ct) (.slice (some ⟨bn, 0, none⟩) n cn) v' { r with free := fs })
  case first =>
    have HK : Aside0 (∀ v, Kp [gx] W (W.setCell ⟨gx, 3, none⟩ v)) := ⟨fun v => (Kp.refl [gx] W).set (.inl (by simp)) v⟩
    by_cases hc1 : c = 1
    · subst hc1
      have hfl : fs = [] := by have := HFC.out; simpa using this
      subst hfl
      rw [if_pos rfl, ← HN.out] at hs5
      have HS5 := Aside0.mk hs5
      clear hs5
      go_wp2_with (fail)
      go_meet
      case rel => exact ⟨_, HK.out _, HS5.out⟩
    · rw [if_neg hc1, ← HN.out] at hs5
      have HS5 := Aside0.mk hs5
      clear hs5
      go_wp2_with (fail)
      go_meet
      case rel => exact ⟨_, HK.out _, HS5.out⟩
  case rest =>
    clear hs5
    obtain ⟨v', hk, hs5⟩ := hcut
    have hbox5 := hk.blk hbox (by rw [List.mem_singleton]; omega)
    have c0 := hs5.head.cell 0 rfl
    have c1 := hs5.head.cell 1 rfl
    have q0 := hbox5.cell 0 rfl
    have q1 := hbox5.cell 1 rfl
    have q2 := hbox5.cell 2 rfl
    have q3 := hbox5.cell 3 rfl
    have q4 := hbox5.cell 4 rfl
    have z0 : ∀ j, wc.frozen? ⟨bq, j, none⟩ = false := fun j => R_s_frozen hs5.rq j
    have z2 : ∀ j, wc.frozen? ⟨bt, j, none⟩ = false := fun j => R_s_frozen hs5.tk j
    have lh := hs5.head.lt
    have lq := Kd.R_lt hs5.rq bq rfl
    have lt2 := Kd.R_lt hs5.tk bt rfl
    obtain ⟨x, hx⟩ : ∃ x, r.reqs[i]? = some x := ⟨_, List.getElem?_eq_getElem (by rw [← HN.out]; exact hi)⟩
    obtain ⟨b, hbx⟩ : ∃ b, r.taken[i]? = some b := ⟨_, List.getElem?_eq_getElem (by rw [hs5.lt_]; show i < r.reqs.length; rw [← HN.out]; exact hi)⟩
    have y0 : wc.cell? ⟨bq, i * 5, none⟩ = some (.int .u64 x.t) := R_fk_cell hs5.rq hx 0 _ rfl
    have y1 := R_fk_cell hs5.rq hx 1 _ rfl
    have y2 := R_fk_cell hs5.rq hx 2 _ rfl
    have y3 := R_fk_cell hs5.rq hx 3 _ rfl
    have y4 := R_fk_cell hs5.rq hx 4 _ rfl
    have y5 := R_bool_cell hs5.tk hbx
    have HS5 := Aside0.mk hs5
    have HK5 := Aside0.mk hk
    clear hs5 hk hx hbx hbox5
    have n7 : bq ≠ gq := by omega
    have n8 : bt ≠ gq := by omega
    go_upto_region 5 with (fail)
    go_cut [] from 27 (fun wx => Kp [gx, bq, bt] wc wx ∧ RSAt wx base okn gx (.slice (some ⟨bq, 0, none⟩) n cq) (.slice (some ⟨bt, 0, none⟩) n ct) (.slice (some ⟨bn, 0, none⟩) n cn) v' ⟨r.reqs.set i q, r.taken.set i true, r.turns, fs⟩)
    case first =>
      go_region_held3 (fun w' => w'.cell? ⟨gx, 0, none⟩ = some (.slice (some ⟨bq, 0, none⟩) n cq) ∧ w'.cell? ⟨gx, 1, none⟩ = some (.slice (some ⟨bt, 0, none⟩) n ct) ∧ w'.cell? ⟨gq, 0, none⟩ = some (.int .u64 q.t) ∧ w'.cell? ⟨gq, 1, none⟩ = some (.int .i64 q.tier) ∧ w'.cell? ⟨gq, 2, none⟩ = some (.int .i64 q.coh) ∧ w'.cell? ⟨gq, 3, none⟩ = some (.int .i64 q.dl) ∧ w'.cell? ⟨gq, 4, none⟩ = some (.int .i64 q.ar)) (go_keep) (fail)
      have hl := RSAt.laid q HS5.out (i := i) (by show i < r.reqs.length; rw [← HN.out]; exact hi)
      have HL := Aside0.mk (And.intro (hl.1.below (below_drew (Below.refl _ _))) hl.2.drew_)
      clear hl
      go_wp2_with (fail)
      go_meet
      case rel => exact ⟨HL.out.2.mono (by simp), HL.out.1⟩
    case rest =>
      obtain ⟨hk6, hs6⟩ := hcut
      have c2 := hs6.head.cell 2 rfl
      have x3 := R_int_cell hs6.tn ht
      have z3 : ∀ j, wc.frozen? ⟨bn, j, none⟩ = false := fun j => R_s_frozen hs6.tn j
      have hc := RSAt.counted (i := i) (t + 1) hs6
      have HC := Aside0.mk (And.intro hk6 hc)
      clear hk6 hs6 hc
      go_wp2_with (fail)
      go_ret2
      refine ⟨rfl, ⟨_, HC.out.2.1⟩, ?_⟩
      have k1 : Kp (rown gx (.slice (some ⟨bq, 0, none⟩) n cq) (.slice (some ⟨bt, 0, none⟩) n ct) (.slice (some ⟨bn, 0, none⟩) n cn)) w W := Kp.of_below HB.out
      refine ((k1.trans (HK5.out.mono ?_)).trans (HC.out.1.mono ?_)).trans (HC.out.2.2.mono ?_)
      all_goals (intro b hb; simp [rown, Value.ownBlock] at hb ⊢; omega)
end Go.Proofs.Ytifffmfbipjilaa.Z

/- The document's Turns. -/
import Derived.Test.YtahmogobaanklaaSwr
namespace Go.Proofs.Ytahmogobaanklaa.Z
open Go.RowKit Go.Proofs.YtahmogobaanklaaW.PrintWords Go.Proofs.YtahmogobaanklaaW.PrintLast Go.Proofs.YtahmogobaanklaaW.PrintMore
attribute [local go_sem] max2_int min2_int max_two min_two max_three min_three max_four min_four unary_neg_float
set_option linter.unusedVariables false
set_option linter.unusedSimpArgs false
theorem area3 (a b p : Pt) : area [a, b, p] = crs (a.sub p) (b.sub p) := by
  have e : area [a, b, p] = 0 + crs a b + crs b p + crs p a := by simp [area, sumE, step_]
  rw [e]
  unfold crs Pt.sub
  simp only [Int.sub_mul, Int.mul_sub]
  rw [Int.mul_comm p.v b.u, Int.mul_comm p.v p.u, Int.mul_comm p.u a.v, Int.mul_comm p.v a.u, Int.mul_comm b.v p.u]
  omega
theorem blk3_C {w : World} {b : Nat} {l : List Pt} (h : Blk w b 40 (flat Pt.enc l)) (hl : l.length ≤ 1000) : Pt.kd.C w (some ⟨b, 0, none⟩) l.length l := by
  have := R_of_blk (f := Pt.enc) (k := 2) (l := l) (hk := fun _ => rfl) (h1 := fun x u hu => by simp [Pt.enc] at hu; rcases hu with rfl | rfl <;> rfl) (base := 0) h (Nat.zero_le _) (by unfold maxLen; omega)
  exact (Kd.R_reads' this).2.2
theorem two_boxes (W : World) (T : Nat) (l1 l2 : List Value) : Blk ((W.alloc (.cells l1.toArray T)).alloc (.cells l2.toArray T)).drew W.heap.size T l1 ∧ Blk ((W.alloc (.cells l1.toArray T)).alloc (.cells l2.toArray T)).drew (W.heap.size + 1) T l2 := by
  have h2 := Blk.new (W.alloc (.cells l1.toArray T)) T l2
  rw [World.size_alloc] at h2
  exact ⟨((Blk.new W T l1).alloc _).drew_, h2.drew_⟩
set_option maxHeartbeats 8000000 in
set_option maxRecDepth 100000 in
theorem rturns_ok (A : Option Addr) (c : Nat) (l : List Pt) (p : Pt) (w : World) (hC : Pt.kd.C w A l.length l) (h : PWay l) (hp : p.le 4194304) :
    Calls Try.prog 18 #[.slice A l.length c, .agg #[.int .i64 p.u, .int .i64 p.v]] w fun e w' => e = .returned (.int .i64 (turns p l)) ∧ Below w.heap.size w w' := by
  have hlen := h.1
  have hsum : ∀ k, k ≤ l.length → (sumE (trn p) l k).natAbs ≤ 200 := fun k hk => by
    have h0 := sumE_le (f := trn p) (l := l) (B := 1) (fun a ha b hb => trn0_le _ _) k hk
    have := h.1
    omega
  have HC := Aside0.mk hC
  have HH := Aside0.mk h
  have HP := Aside0.mk hp
  have HS := Aside0.mk hsum
  clear hC h hp hsum
  go_enter Try.func18, Try.ntmps18
  go_wp2_with (fail)
  have hB0 := Blk.new w 40 [.int .i64 p.u, .int .i64 p.v]
  have hb0 := below_alloc (Below.refl _ w) (.cells #[.int .i64 p.u, .int .i64 p.v] 40)
  have hB0 : Blk (w.alloc (.cells #[.int .i64 p.u, .int .i64 p.v] 40)) w.heap.size 40 [.int .i64 p.u, .int .i64 p.v] := hB0
  generalize (w.alloc (.cells #[.int .i64 p.u, .int .i64 p.v] 40)) = W at *
  obtain ⟨b, hb⟩ : ∃ b, b = w.heap.size := ⟨_, rfl⟩
  rw [← hb] at hB0 ⊢
  clear hb
  have HB0 := Aside0.mk hB0
  have HBW := Aside0.mk hb0
  clear hB0 hb0
  go_loopw [5, 6] (fun f i wr => ∃ k : Nat, k ≤ l.length ∧ i = .int .i64 k ∧ f = .int .i64 (sumE (trn p) l k) ∧ Below w.heap.size w wr ∧ Blk wr b 40 [.int .i64 p.u, .int .i64 p.v]) (fun _ i _ => l.length - (intOf i).toNat)
  case atStart => exact ⟨0, Nat.zero_le _, rfl, rfl, HBW.out, HB0.out⟩
  case round =>
    clear HB0 HBW
    obtain ⟨k, hk, rfl, rfl, hbw, hB⟩ := hrel
    have HB := Aside0.mk hbw
    have HBB := Aside0.mk hB
    clear hbw hB
    by_cases hlt : k < l.length
    · have hlt' : (k : Int) < (l.length : Int) := by omega
      obtain ⟨ad, rfl⟩ : ∃ ad, A = some ad := by
        obtain ⟨ad, h, _⟩ := HC.out.2.2 (by omega)
        exact ⟨ad, h⟩
      obtain ⟨j, hjd⟩ : ∃ j, j = (k + 1) % l.length := ⟨_, rfl⟩
      have hjl : j < l.length := by rw [hjd]; exact Nat.mod_lt _ (by omega)
      obtain ⟨x, hx⟩ : ∃ x, l[k]? = some x := ⟨_, List.getElem?_eq_getElem hlt⟩
      obtain ⟨y, hy⟩ : ∃ y, l[j]? = some y := ⟨_, List.getElem?_eq_getElem hjl⟩
      obtain ⟨c1, c2⟩ := Pt.came (Kd.C_below HC.out HB.out) hx
      obtain ⟨c3, c4⟩ := Pt.came (Kd.C_below HC.out HB.out) hy
      have hmod : ((k : Int) + 1) % (l.length : Int) = (j : Int) := by rw [hjd]; push_cast; rfl
      have hst := step_at hx (hjd ▸ hy)
      have hcs : sumE (trn p) l (k + 1) = sumE (trn p) l k + trn p x y := by rw [sumE, hst]
      have hb0 := HS.out k (by omega)
      have HXL := Aside0.mk (HH.out.2 x (List.mem_of_getElem? hx))
      have HYL := Aside0.mk (HH.out.2 y (List.mem_of_getElem? hy))
      have HCS := Aside0.mk hcs
      obtain ⟨S, hS⟩ : ∃ S, S = sumE (trn p) l k := ⟨_, rfl⟩
      rw [← hS] at hb0 HCS ⊢
      have p0 : (0 : Int) < (l.length : Int) := by omega
      have hjl' : (j : Int) < (l.length : Int) := by omega
      have q5 : -200 ≤ S := by omega
      have q6 : S ≤ 200 := by omega
      have HX := Aside0.mk hx
      have HY := Aside0.mk hy
      clear hx hy hjd hst hcs hS hb0
      go_upto_region 5 with (fail)
      go_cut [7, 8] from 16 to 27 (fun u v wx => ∃ b1 b2 : Nat, u = .pointer (some ⟨b1, 0, none⟩) ∧ v = .pointer (some ⟨b2, 0, none⟩) ∧ Blk wx b1 40 [.int .i64 x.u, .int .i64 x.v] ∧ Blk wx b2 40 [.int .i64 y.u, .int .i64 y.v] ∧ Blk wx b 40 [.int .i64 p.u, .int .i64 p.v] ∧ Below w.heap.size w wx)
      case first =>
        have hsz := HB.out.size
        have hso : ∀ V, Below w.heap.size w V → V.cell? (ad.add (k * 2)) = some (.int .i64 x.u) ∧ V.cell? ⟨(ad.add (k * 2)).block, (ad.add (k * 2)).off + 1, none⟩ = some (.int .i64 x.v) ∧ V.cell? (ad.add (j * 2)) = some (.int .i64 y.u) ∧ V.cell? ⟨(ad.add (j * 2)).block, (ad.add (j * 2)).off + 1, none⟩ = some (.int .i64 y.v) := fun V hV =>
          ⟨(Pt.came (Kd.C_below HC.out hV) HX.out).1, (Pt.came (Kd.C_below HC.out hV) HX.out).2, (Pt.came (Kd.C_below HC.out hV) HY.out).1, (Pt.came (Kd.C_below HC.out hV) HY.out).2⟩
        have SOF := Aside0.mk hso
        have z1 : IntKind.i64.wrap ((k : Int) + 1) = (k : Int) + 1 := IntWalk.i64_in _ (by omega)
        have z2 : ((k : Int) + 1).tmod (l.length : Int) = (j : Int) := by rw [Int.tmod_eq_emod_of_nonneg (by omega)]; exact hmod
        have z3 : IntKind.i64.wrap (j : Int) = (j : Int) := IntWalk.i64_in _ (by omega)
        have z4 : ((l.length : Int) == 0) = false := by rw [beq_eq_false_iff_ne]; omega
        have z5 : ¬ (l.length = 0) := by omega
        have z6 : ¬ ((l.length : Int) = 0) := by omega
        clear hso
        go_region_held3 (fun V => V.cell? (ad.add (k * 2)) = some (.int .i64 x.u) ∧ V.cell? ⟨(ad.add (k * 2)).block, (ad.add (k * 2)).off + 1, none⟩ = some (.int .i64 x.v) ∧ V.cell? (ad.add (j * 2)) = some (.int .i64 y.u) ∧ V.cell? ⟨(ad.add (j * 2)).block, (ad.add (j * 2)).off + 1, none⟩ = some (.int .i64 y.v)) (first | (refine SOF.out _ ?_; (repeat (first | exact HB.out | refine below_drew ?_ | refine below_alloc ?_ _ | refine Below.setCell ?_ (by simp; omega) _)); done) | go_keep) (first | fail)
        all_goals
          go_wp2_with (fail)
          go_meet
          have t1 := two_boxes wr 40 [.int .i64 x.u, .int .i64 x.v] [.int .i64 y.u, .int .i64 y.v]
          have t2 := two_boxes wr 40 [.int .i64 y.u, .int .i64 y.v] [.int .i64 x.u, .int .i64 x.v]
          first
            | exact ⟨_, _, rfl, rfl, t1.1, t1.2, ((HBB.out.alloc _).alloc _).drew_, below_drew (below_alloc (below_alloc HB.out _) _)⟩
            | exact ⟨_, _, rfl, rfl, t2.2, t2.1, ((HBB.out.alloc _).alloc _).drew_, below_drew (below_alloc (below_alloc HB.out _) _)⟩
      case rest =>
        obtain ⟨b1, b2, rfl, rfl, hx1, hx2, hx3, hbw⟩ := hcut
        have e1 := hx1.cell 0 rfl
        have e2 := hx1.cell 1 rfl
        have e3 := hx2.cell 0 rfl
        have e4 := hx2.cell 1 rfl
        have e5 := hx3.cell 0 rfl
        have e6 := hx3.cell 1 rfl
        have H1 := Aside0.mk hx1
        have H2 := Aside0.mk hx2
        have H3 := Aside0.mk hx3
        have HW := Aside0.mk hbw
        clear hx1 hx2 hx3 hbw HB HBB c1 c2 c3 c4 hmod
        go_wp2_with (fail)
        have hblk : Blk (wc.alloc (.cells #[.int .i64 x.u, .int .i64 x.v, .int .i64 y.u, .int .i64 y.v, .int .i64 p.u, .int .i64 p.v] 40)) wc.heap.size 40 (flat Pt.enc [x, y, p]) := Blk.new wc 40 (flat Pt.enc [x, y, p])
        refine (rarea_ok _ 3 [x, y, p] _ (blk3_C hblk (by simp)) ⟨by simp, by
          intro q hq
          simp only [List.mem_cons, List.not_mem_nil, or_false] at hq
          rcases hq with rfl | rfl | rfl
          · exact HXL.out
          · exact HYL.out
          · exact HP.out⟩).mono ?_
        rintro e wd ⟨rfl, hbd⟩
        rw [area3]
        have hal := below_alloc (Below.refl _ wc) (.cells #[.int .i64 x.u, .int .i64 x.v, .int .i64 y.u, .int .i64 y.v, .int .i64 p.u, .int .i64 p.v] 40)
        have H1' := (H1.out.below hal).below hbd
        have H2' := (H2.out.below hal).below hbd
        have H3' := (H3.out.below hal).below hbd
        have hw' := below_step (below_alloc HW.out _) hbd
        clear hblk hal hbd e1 e2 e3 e4 e5 e6 H1 H2 H3 HW
        have e1 := H1'.cell 0 rfl
        have e2 := H1'.cell 1 rfl
        have e3 := H2'.cell 0 rfl
        have e4 := H2'.cell 1 rfl
        have e5 := H3'.cell 0 rfl
        have e6 := H3'.cell 1 rfl
        have H3 := Aside0.mk H3'
        have HW := Aside0.mk hw'
        clear H1' H2' H3' hw'
        obtain ⟨D, hD⟩ : ∃ D, D = crs (x.sub p) (y.sub p) := ⟨_, rfl⟩
        rw [← hD]
        have HD := Aside0.mk hD
        clear hD
        by_cases ca : x.v ≤ p.v
        · have d1 : decide (x.v ≤ p.v) = true := decide_eq_true ca
          have d2 : decide (p.v < x.v) = false := decide_eq_false (by omega)
          by_cases cb : p.v < y.v
          · have d3 : decide (p.v < y.v) = true := decide_eq_true cb
            by_cases cD : 0 < D
            · have ht : trn p x y = 1 := by unfold trn trn0; rw [← HD.out]; rw [if_pos ⟨by show x.v - p.v ≤ 0; omega, by show 0 < y.v - p.v; omega, cD⟩]
              rw [ht] at HCS
              clear ht
              go_wp2_with (fail)
              go_roundw
              case rel => exact ⟨k + 1, by omega, by go_num, by rw [HCS.out] <;> first | rfl | rw [Int.add_zero] | (congr 1; omega), HW.out, H3.out⟩
              case measure => simp [intOf]; omega
            · have nD : decide (0 < D) = false := decide_eq_false cD
              have ht : trn p x y = 0 := by unfold trn trn0; rw [← HD.out]; rw [if_neg (fun h => cD h.2.2), if_neg (fun h => by have h1 : 0 < x.v - p.v := h.1; omega)]
              rw [ht] at HCS
              clear ht
              go_wp2_with (fail)
              go_roundw
              case rel => exact ⟨k + 1, by omega, by go_num, by rw [HCS.out] <;> first | rfl | rw [Int.add_zero] | (congr 1; omega), HW.out, H3.out⟩
              case measure => simp [intOf]; omega
          · have d3 : decide (p.v < y.v) = false := decide_eq_false cb
            have ht : trn p x y = 0 := by unfold trn trn0; rw [← HD.out]; rw [if_neg (fun h => by have h1 : 0 < y.v - p.v := h.2.1; omega), if_neg (fun h => by have h1 : 0 < x.v - p.v := h.1; omega)]
            rw [ht] at HCS
            clear ht
            go_wp2_with (fail)
            go_roundw
            case rel => exact ⟨k + 1, by omega, by go_num, by rw [HCS.out] <;> first | rfl | rw [Int.add_zero] | (congr 1; omega), HW.out, H3.out⟩
            case measure => simp [intOf]; omega
        · have d1 : decide (x.v ≤ p.v) = false := decide_eq_false ca
          have d2 : decide (p.v < x.v) = true := decide_eq_true (by omega)
          have ca' : p.v < x.v := by omega
          by_cases cb : y.v ≤ p.v
          · have d3 : decide (y.v ≤ p.v) = true := decide_eq_true cb
            by_cases cD : D < 0
            · have ht : trn p x y = -1 := by unfold trn trn0; rw [← HD.out]; rw [if_neg (fun h => by have h1 : x.v - p.v ≤ 0 := h.1; omega), if_pos ⟨by show 0 < x.v - p.v; omega, by show y.v - p.v ≤ 0; omega, cD⟩]
              rw [ht] at HCS
              clear ht
              go_wp2_with (fail)
              go_roundw
              case rel => exact ⟨k + 1, by omega, by go_num, by rw [HCS.out] <;> first | rfl | rw [Int.add_zero] | (congr 1; omega), HW.out, H3.out⟩
              case measure => simp [intOf]; omega
            · have nD : decide (D < 0) = false := decide_eq_false cD
              have ht : trn p x y = 0 := by unfold trn trn0; rw [← HD.out]; rw [if_neg (fun h => by have h1 : x.v - p.v ≤ 0 := h.1; omega), if_neg (fun h => cD h.2.2)]
              rw [ht] at HCS
              clear ht
              go_wp2_with (fail)
              go_roundw
              case rel => exact ⟨k + 1, by omega, by go_num, by rw [HCS.out] <;> first | rfl | rw [Int.add_zero] | (congr 1; omega), HW.out, H3.out⟩
              case measure => simp [intOf]; omega
          · have d3 : decide (y.v ≤ p.v) = false := decide_eq_false cb
            have ht : trn p x y = 0 := by unfold trn trn0; rw [← HD.out]; rw [if_neg (fun h => by have h1 : x.v - p.v ≤ 0 := h.1; omega), if_neg (fun h => by have h1 : y.v - p.v ≤ 0 := h.2.1; omega)]
            rw [ht] at HCS
            clear ht
            go_wp2_with (fail)
            go_roundw
            case rel => exact ⟨k + 1, by omega, by go_num, by rw [HCS.out] <;> first | rfl | rw [Int.add_zero] | (congr 1; omega), HW.out, H3.out⟩
            case measure => simp [intOf]; omega
    · obtain rfl : k = l.length := by omega
      go_wp2_with (fail)
      go_ret
      exact ⟨rfl, HB.out⟩
end Go.Proofs.Ytahmogobaanklaa.Z

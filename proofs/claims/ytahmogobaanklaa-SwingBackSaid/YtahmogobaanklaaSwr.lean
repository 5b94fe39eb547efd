/- The document's Area, Far, Turns. -/
import Derived.Test.YtahmogobaanklaaSwf
import Derived.Deep.RegionHeld3
import Derived.Deep.CutBlock
namespace Go.Proofs.Ytahmogobaanklaa.Z
open Go.RowKit Go.Proofs.YtahmogobaanklaaW.PrintWords Go.Proofs.YtahmogobaanklaaW.PrintLast Go.Proofs.YtahmogobaanklaaW.PrintMore
attribute [local go_sem] max2_int min2_int max_two min_two max_three min_three max_four min_four unary_neg_float
set_option linter.unusedVariables false
set_option linter.unusedSimpArgs false
theorem Pt.came {w : World} {ad : Addr} {n : Nat} {xs : List Pt} (h : Pt.kd.C w (some ad) n xs) {i : Nat} {x : Pt} (hx : xs[i]? = some x) :
    w.cell? (ad.add (i * 2)) = some (.int .i64 x.u) ∧ w.cell? ⟨(ad.add (i * 2)).block, (ad.add (i * 2)).off + 1, none⟩ = some (.int .i64 x.v) :=
  have k := fk_came h hx
  ⟨k.1 _ rfl, k.2 0 _ rfl⟩
def PWay (l : List Pt) : Prop := l.length ≤ 200 ∧ ∀ p ∈ l, p.le 4194304
set_option maxHeartbeats 8000000 in
theorem rarea_ok (A : Option Addr) (c : Nat) (l : List Pt) (w : World) (hC : Pt.kd.C w A l.length l) (h : PWay l) :
    Calls Try.prog 16 #[.slice A l.length c] w fun e w' => e = .returned (.int .i64 (area l)) ∧ Below w.heap.size w w' := by
  have hlen := h.1
  have hsum : ∀ k, k ≤ l.length → (sumE crs l k).natAbs ≤ 200 * 35184372088832 := fun k hk => by
    have h0 := sumE_le (f := crs) (l := l) (B := 35184372088832) (fun a ha b hb => by
      have := crs_le (h.2 a ha) (h.2 b hb); omega) k hk
    exact Nat.le_trans h0 (Nat.mul_le_mul_right _ (Nat.le_trans hk h.1))
  have HC := Aside0.mk hC
  have HH := Aside0.mk h
  have HS := Aside0.mk hsum
  clear hC h hsum
  go_enter Try.func16, Try.ntmps16
  go_wp2_with (fail)
  go_loopw [3, 4] (fun s i wr => ∃ k : Nat, k ≤ l.length ∧ i = .int .i64 k ∧ s = .int .i64 (sumE crs l k) ∧ Below w.heap.size w wr) (fun _ i _ => l.length - (intOf i).toNat)
  case atStart => exact ⟨0, Nat.zero_le _, rfl, rfl, Below.refl _ _⟩
  case round =>
    obtain ⟨k, hk, rfl, rfl, hb⟩ := hrel
    have HB := Aside0.mk hb
    clear hb
    by_cases hlt : k < l.length
    · have hlt' : (k : Int) < (l.length : Int) := by omega
      obtain ⟨ad, rfl⟩ : ∃ ad, A = some ad := by
        obtain ⟨ad, h, _⟩ := HC.out.2.2 (by omega)
        exact ⟨ad, h⟩
      obtain ⟨j, hjd⟩ : ∃ j, j = (k + 1) % l.length := ⟨_, rfl⟩
      have hjl : j < l.length := by rw [hjd]; exact Nat.mod_lt _ (by omega)
      obtain ⟨x, hx⟩ : ∃ x, l[k]? = some x := ⟨_, List.getElem?_eq_getElem hlt⟩
      obtain ⟨y, hy⟩ : ∃ y, l[j]? = some y := ⟨_, List.getElem?_eq_getElem hjl⟩
      obtain ⟨c1, c2⟩ := Pt.came (Kd.C_below HC.out HB.out) hx
      obtain ⟨c3, c4⟩ := Pt.came (Kd.C_below HC.out HB.out) hy
      have hmod : ((k : Int) + 1) % (l.length : Int) = (j : Int) := by rw [hjd]; push_cast; rfl
      have hst := step_at hx (hjd ▸ hy)
      have hcs : sumE crs l (k + 1) = sumE crs l k + (x.u * y.v - x.v * y.u) := by rw [sumE, hst]; rfl
      have hb0 := HS.out k (by omega)
      have hxl := HH.out.2 x (List.mem_of_getElem? hx)
      have hyl := HH.out.2 y (List.mem_of_getElem? hy)
      have b1 := mul_le hxl.1 hyl.2
      have b2 := mul_le hxl.2 hyl.1
      have HCS := Aside0.mk hcs
      obtain ⟨S, hS⟩ : ∃ S, S = sumE crs l k := ⟨_, rfl⟩
      rw [← hS] at hb0 HCS ⊢
      have p0 : (0 : Int) < (l.length : Int) := by omega
      have hjl' : (j : Int) < (l.length : Int) := by omega
      have q1 : -17592186044416 ≤ x.u * y.v := by omega
      have q2 : x.u * y.v ≤ 17592186044416 := by omega
      have q3 : -17592186044416 ≤ x.v * y.u := by omega
      have q4 : x.v * y.u ≤ 17592186044416 := by omega
      have q5 : -7036874417766400 ≤ S := by omega
      have q6 : S ≤ 7036874417766400 := by omega
      have HX := Aside0.mk hx
      have HY := Aside0.mk hy
      clear hx hy hjd hst hcs hS hxl hyl b1 b2 hb0
      go_wp2_with (fail)
      have hsz := HB.out.size
      have hso : ∀ V, Below w.heap.size w V → V.cell? (ad.add (k * 2)) = some (.int .i64 x.u) ∧ V.cell? ⟨(ad.add (k * 2)).block, (ad.add (k * 2)).off + 1, none⟩ = some (.int .i64 x.v) ∧ V.cell? (ad.add (j * 2)) = some (.int .i64 y.u) ∧ V.cell? ⟨(ad.add (j * 2)).block, (ad.add (j * 2)).off + 1, none⟩ = some (.int .i64 y.v) := fun V hV =>
        ⟨(Pt.came (Kd.C_below HC.out hV) HX.out).1, (Pt.came (Kd.C_below HC.out hV) HX.out).2, (Pt.came (Kd.C_below HC.out hV) HY.out).1, (Pt.came (Kd.C_below HC.out hV) HY.out).2⟩
      have SOF := Aside0.mk hso
      have z1 : IntKind.i64.wrap ((k : Int) + 1) = (k : Int) + 1 := IntWalk.i64_in _ (by omega)
      have z2 : ((k : Int) + 1).tmod (l.length : Int) = (j : Int) := by rw [Int.tmod_eq_emod_of_nonneg (by omega)]; exact hmod
      have z3 : IntKind.i64.wrap (j : Int) = (j : Int) := IntWalk.i64_in _ (by omega)
      have z4 : ((l.length : Int) == 0) = false := by rw [beq_eq_false_iff_ne]; omega
      have z5 : ¬ (l.length = 0) := by omega
      have z6 : ¬ ((l.length : Int) = 0) := by omega
      clear hso
      go_region_held3 (fun V => V.cell? (ad.add (k * 2)) = some (.int .i64 x.u) ∧ V.cell? ⟨(ad.add (k * 2)).block, (ad.add (k * 2)).off + 1, none⟩ = some (.int .i64 x.v) ∧ V.cell? (ad.add (j * 2)) = some (.int .i64 y.u) ∧ V.cell? ⟨(ad.add (j * 2)).block, (ad.add (j * 2)).off + 1, none⟩ = some (.int .i64 y.v)) (first | (refine SOF.out _ ?_; (repeat (first | exact HB.out | refine below_drew ?_ | refine below_alloc ?_ _ | refine Below.setCell ?_ (by simp; omega) _)); done) | go_keep) (first | fail)
      all_goals
        clear z1 z2 z3 z4 z5 z6
        go_wp2_with (fail)
        go_roundw
        case rel => exact ⟨k + 1, by omega, by go_num, by rw [HCS.out], below_drew (below_alloc (below_alloc HB.out _) _)⟩
        case measure => simp [intOf]; omega
    · obtain rfl : k = l.length := by omega
      go_wp2_with (fail)
      go_ret
      exact ⟨rfl, HB.out⟩
set_option maxHeartbeats 8000000 in
theorem rfar_ok (A : Option Addr) (c : Nat) (l : List Pt) (p : Pt) (w : World) (hC : Pt.kd.C w A l.length l) (h : PWay l) (hp : p.le 4194304) :
    Calls Try.prog 17 #[.slice A l.length c, .agg #[.int .i64 p.u, .int .i64 p.v]] w fun e w' => e = .returned (.int .i64 (farL p l)) ∧ Below w.heap.size w w' := by
  have hlen := h.1
  have hbd : ∀ k, 0 ≤ farL p (l.take k) ∧ farL p (l.take k) ≤ (140737488355328 : Nat) := fun k =>
    farL_le _ 0 (by omega) (by omega) (fun q hq => by
      have hq' := h.2 q (List.mem_of_mem_take hq)
      have := sqr_le (Pt.sub_le hq' hp)
      omega)
  have HC := Aside0.mk hC
  have HH := Aside0.mk h
  have HP := Aside0.mk hp
  have HBD := Aside0.mk hbd
  clear hC h hp hbd
  go_enter Try.func17, Try.ntmps17
  go_wp2_with (fail)
  have hB0 := Blk.new w 40 [.int .i64 p.u, .int .i64 p.v]
  have hb0 := below_alloc (Below.refl _ w) (.cells #[.int .i64 p.u, .int .i64 p.v] 40)
  have hB0 : Blk (w.alloc (.cells #[.int .i64 p.u, .int .i64 p.v] 40)) w.heap.size 40 [.int .i64 p.u, .int .i64 p.v] := hB0
  generalize (w.alloc (.cells #[.int .i64 p.u, .int .i64 p.v] 40)) = W at *
  obtain ⟨b, hb⟩ : ∃ b, b = w.heap.size := ⟨_, rfl⟩
  rw [← hb] at hB0 ⊢
  clear hb
  have HB0 := Aside0.mk hB0
  have HBW := Aside0.mk hb0
  clear hB0 hb0
  go_loopw [5, 6] (fun f i wr => ∃ k : Nat, k ≤ l.length ∧ i = .int .i64 k ∧ f = .int .i64 (farL p (l.take k)) ∧ Below w.heap.size w wr ∧ Blk wr b 40 [.int .i64 p.u, .int .i64 p.v]) (fun _ i _ => l.length - (intOf i).toNat)
  case atStart => exact ⟨0, Nat.zero_le _, rfl, rfl, HBW.out, HB0.out⟩
  case round =>
    clear HB0 HBW
    obtain ⟨k, hk, rfl, rfl, hbw, hB⟩ := hrel
    have HB := Aside0.mk hbw
    have HBB := Aside0.mk hB
    have e0 := hB.cell 0 rfl
    have e1 := hB.cell 1 rfl
    clear hbw hB
    by_cases hlt : k < l.length
    · have hlt' : (k : Int) < (l.length : Int) := by omega
      obtain ⟨ad, rfl⟩ : ∃ ad, A = some ad := by
        obtain ⟨ad, h, _⟩ := HC.out.2.2 (by omega)
        exact ⟨ad, h⟩
      obtain ⟨x, hx⟩ : ∃ x, l[k]? = some x := ⟨_, List.getElem?_eq_getElem hlt⟩
      obtain ⟨c1, c2⟩ := Pt.came (Kd.C_below HC.out HB.out) hx
      have hxl := HH.out.2 x (List.mem_of_getElem? hx)
      have hpl := HP.out
      have hdl := Pt.sub_le hxl hpl
      have hst : farL p (l.take (k + 1)) = farS p (farL p (l.take k)) x := by
        rw [List.take_add_one, hx]; exact farL_snoc _ _ _
      have hb1 := (HBD.out k).1
      have hb2 := (HBD.out k).2
      obtain ⟨F, hF⟩ : ∃ F, F = farL p (l.take k) := ⟨_, rfl⟩
      have hsq := sqr_le hdl
      obtain ⟨S, hS⟩ : ∃ S, S = sqr (x.sub p) := ⟨_, rfl⟩
      unfold farS at hst
      rw [← hF, ← hS] at hst
      rw [← hF] at hb1 hb2 ⊢
      rw [← hS] at hsq
      have m1 := mul_le hdl.1 hdl.1
      have m2 := mul_le hdl.2 hdl.2
      unfold sqr at hS
      obtain ⟨a, ha⟩ : ∃ a, a = x.u - p.u := ⟨_, rfl⟩
      obtain ⟨d, hd⟩ : ∃ d, d = x.v - p.v := ⟨_, rfl⟩
      have ha' : (x.sub p).u = a := ha.symm
      have hd' : (x.sub p).v = d := hd.symm
      rw [ha', hd'] at hS
      rw [ha'] at m1
      rw [hd'] at m2
      have z1 : IntKind.i64.wrap (x.u - p.u) = a := by
        rw [← ha]; have := hdl.1; rw [ha'] at this; exact IntWalk.i64_in _ (by omega)
      have z2 : IntKind.i64.wrap (x.v - p.v) = d := by
        rw [← hd]; have := hdl.2; rw [hd'] at this; exact IntWalk.i64_in _ (by omega)
      have q1 : -140737488355328 ≤ a * a := by omega
      have q2 : a * a ≤ 140737488355328 := by omega
      have q3 : -140737488355328 ≤ d * d := by omega
      have q4 : d * d ≤ 140737488355328 := by omega
      have HST := Aside0.mk hst
      have HSS := Aside0.mk hS
      clear hst hx hxl hpl hdl m1 m2 hF ha hd ha' hd' hS hsq
      go_wp2_with (fail)
      go_quiet (fail)
      clear z1 z2
      by_cases hFS : F < a * a + d * d
      · go_wp2_with (fail)
        go_roundw
        case rel => exact ⟨k + 1, by omega, by go_num, by rw [HST.out, HSS.out, if_pos hFS], pw_below_drewN HB.out _, HBB.out.drewN_⟩
        case measure => simp [intOf]; omega
      · go_wp2_with (fail)
        go_roundw
        case rel => exact ⟨k + 1, by omega, by go_num, by rw [HST.out, HSS.out, if_neg (by omega)], pw_below_drewN HB.out _, HBB.out.drewN_⟩
        case measure => simp [intOf]; omega
    · have e : l.take k = l := List.take_of_length_le (by omega)
      rw [e]
      clear e
      go_wp2_with (fail)
      go_ret
      exact ⟨rfl, HB.out⟩
end Go.Proofs.Ytahmogobaanklaa.Z

/- The document's Spread. -/
import Derived.Test.YtfnnoecdpolbfaaTlcol
namespace Go.Proofs.Ytfnnoecdpolbfaa.Z
open Go.RowKit Go.Proofs.YtfnnoecdpolbfaaW.PrintWords Go.Proofs.YtfnnoecdpolbfaaW.PrintLast Go.Proofs.YtfnnoecdpolbfaaW.PrintMore
attribute [local go_sem] max2_int min2_int max_two min_two max_three min_three max_four min_four
set_option linter.unusedVariables false
set_option linter.unusedSimpArgs false
theorem row_neg (N : Int) (w : World) (hN : N < 0) :
    Calls Try.prog 30 #[.int .i64 N] w fun e w' => e = .returned (.int .i64 0) ∧ w = w' := by
  go_enter Try.func30, Try.ntmps30
  have h1 : ¬ 0 < N := by omega
  go_wp2_with (fail)
  go_loopw [0, 3] (fun v i wr => v = .int .i64 N ∧ i = .int .i64 0 ∧ wr = w) (fun v _ _ => (intOf v).toNat)
  case atStart => exact ⟨rfl, rfl, rfl⟩
  case round =>
    obtain ⟨rfl, rfl, rfl⟩ := hrel
    go_wp2_with (fail)
    go_ret
    exact ⟨rfl, rfl⟩
theorem row_any (o : Oc) (w : World) (ho : o.ok) :
    Calls Try.prog 30 #[.int .i64 o.so] w fun e w' => e = .returned (.int .i64 (rowF o : Nat)) ∧ w = w' := by
  have hso := wf_i64 ho.2.2.2.2.2
  by_cases h : o.so < 0
  · have e : rowF o = 0 := by unfold rowF; rw [show (max o.so 0).toNat = 0 by omega]; rfl
    rw [e]
    exact row_neg o.so w h
  · have e : ((max o.so 0).toNat : Int) = o.so := by omega
    have := row_ok (max o.so 0).toNat w (by omega)
    rw [e] at this
    exact this
theorem rowF_le (o : Oc) : rowF o ≤ 64 := lenF_le _ _
theorem mxR_le (l : List Oc) : mxR (l.map rowF) ≤ 65 := by
  induction l with
  | nil => simp [mxR]
  | cons a l ih => have := rowF_le a; simp only [List.map_cons, mxR]; omega
set_option maxHeartbeats 8000000 in
set_option maxRecDepth 100000 in
theorem rspread_ok (A : Option Addr) (c : Nat) (l : List Oc) (t : Int) (w : World) (hC : Oc.kd.C w A l.length l) (hl : l.length ≤ 1000) (hok : ∀ x ∈ l, x.ok) :
    Calls Try.prog 22 #[.slice A l.length c, .int .i64 t] w fun e w' => ∃ v, e = .returned v ∧ (Kd.int .i64).R 3 w' w.heap.size (fun _ => True) v (sprF t l) ∧ Below w.heap.size w w' := by
  rw [spr_cnts, show (l.filter fun o => isB o t 1) = ofB t 1 l from rfl]
  have HC := Aside0.mk hC
  have HOK := Aside0.mk hok
  clear hC hok
  go_enter Try.func22, Try.ntmps22
  go_wp2_with (fail)
  refine (rsome_ok A c l t 1 _ HC.out hl).mono ?_
  rintro e w1 ⟨v1, rfl, hR1, hb1⟩
  have hFo : ∀ x ∈ ofB t 1 l, x.ok := fun x hx => HOK.out x ((List.mem_filter.1 hx).1)
  have hFl : (ofB t 1 l).length ≤ 1000 := Nat.le_trans (List.length_filter_le _ _) hl
  obtain ⟨F, hF⟩ : ∃ F, F = ofB t 1 l := ⟨_, rfl⟩
  rw [← hF] at hR1 hFo hFl
  have HF := Aside0.mk hF
  clear hF
  obtain ⟨A1, c1, rfl⟩ := Kd.R_slice hR1
  have HR1 := Aside0.mk hR1
  have HB1 := Aside0.mk hb1
  have HFO := Aside0.mk hFo
  clear hR1 hb1 HC hFo HOK
  go_wp2_with (fail)
  go_loopw [7, 19] (fun m i wv => ∃ k : Nat, k ≤ F.length ∧ i = .int .i64 k ∧ m = .int .i64 ((mxR ((F.map rowF).take k) : Nat) - 1 : Int) ∧ Below w1.heap.size w1 wv) (fun _ i _ => F.length - (intOf i).toNat)
  case atStart => exact ⟨0, Nat.zero_le _, rfl, rfl, Below.refl _ _⟩
  case round =>
    obtain ⟨k, hk, rfl, rfl, hb⟩ := hrel
    have HB := Aside0.mk hb
    have hm65 : mxR ((F.map rowF).take k) ≤ 65 := by rw [← List.map_take]; exact mxR_le _
    clear hb
    by_cases hlt : k < F.length
    · have hlt' : (k : Int) < (F.length : Int) := by omega
      have hRk := Kd.R_below HR1.out HB.out
      obtain ⟨ad, rfl⟩ : ∃ ad, A1 = some ad := by
        obtain ⟨ad, h, _⟩ := (Kd.R_reads' hRk).2.2.2.2 (by omega)
        exact ⟨ad, h⟩
      obtain ⟨x, hx⟩ : ∃ x, F[k]? = some x := ⟨_, List.getElem?_eq_getElem hlt⟩
      obtain ⟨e0, e1, e2, e3, e4, e5⟩ := Oc.came (Kd.R_reads' hRk).2.2 hx
      have htk : mxR ((F.map rowF).take (k + 1)) = max (mxR ((F.map rowF).take k)) (rowF x + 1) := by rw [List.take_add_one, List.getElem?_map, hx]; exact mxR_snoc _ _
      have HX := Aside0.mk (And.intro htk (HFO.out x (List.mem_of_getElem? hx)))
      have hrx := rowF_le x
      have HB2 := Aside0.mk (HB.out.trans ((Below.refl _ wr).alloc HB.out.size (.cells #[.int .u64 x.tk, .int .i64 x.tier, .int .i64 x.co, .int .u8 x.why, .int .i64 x.at_, .int .i64 x.so] 49)))
      clear hx hRk htk
      go_wp2_with (fail)
      refine (row_any x _ HX.out.2).mono ?_
      rintro e w' ⟨rfl, rfl⟩
      go_wp2_with (fail)
      all_goals
        go_roundw
        case rel =>
          refine ⟨k + 1, by omega, by go_num, ?_, HB2.out⟩
          rw [HX.out.1]
          congr 1
          omega
        case measure => simp [intOf]; omega
    · have hlt' : ¬ (k : Int) < (F.length : Int) := by omega
      have hR1 := Kd.R_below HR1.out HB.out
      rw [show (F.map rowF).take k = F.map rowF from List.take_of_length_le (by rw [List.length_map]; omega)] at hm65 ⊢
      obtain ⟨M, hM⟩ : ∃ M, M = mxR (F.map rowF) := ⟨_, rfl⟩
      rw [← hM] at hm65 ⊢
      have HM := Aside0.mk hM
      have HR2 := Aside0.mk hR1
      have HB2 := Aside0.mk (HB1.out.trans (HB.out.mono HB1.out.size))
      have hwz : w.heap.size ≤ wr.heap.size := HB2.out.size
      clear hR1 HR1 HB1 HB hM
      generalize wr = W1 at *
      go_wp2_with (fail)
      go_loopw [5, 10] (fun v i wv => ∃ k : Nat, k ≤ M ∧ i = .int .i64 k ∧ (Kd.int .i64).R 3 wv W1.heap.size (fun _ => True) v ((List.range k).map fun j => (((F.map rowF).count j : Nat) : Int)) ∧ Below W1.heap.size W1 wv) (fun _ i _ => M - (intOf i).toNat)
      case atStart => exact ⟨0, Nat.zero_le _, rfl, Kd.R_nil _ _ _ _ _, Below.refl _ _⟩
      case round =>
        obtain ⟨k2, hk2, rfl, hR, hb⟩ := hrel
        obtain ⟨A3, c3, hv⟩ := Kd.R_slice hR
        rw [List.length_map, List.length_range] at hv
        subst hv
        have HR3 := Aside0.mk hR
        have HB3 := Aside0.mk hb
        clear hR hb
        by_cases hlt2 : k2 < M
        · have hlt2' : (k2 : Int) ≤ (M : Int) - 1 := by omega
          have htk : (List.range (k2 + 1)).map (fun j => (((F.map rowF).count j : Nat) : Int)) = (List.range k2).map (fun j => (((F.map rowF).count j : Nat) : Int)) ++ [((F.map rowF).count k2 : Int)] := by rw [List.range_succ, List.map_append]; rfl
          have HTK := Aside0.mk htk
          clear htk
          generalize wr = W2 at *
          go_wp2_with (fail)
          go_loopw [11, 36] (fun s i wv => ∃ j : Nat, j ≤ F.length ∧ i = .int .i64 j ∧ s = .int .i64 ((((F.map rowF).take j).count k2 : Nat) : Int) ∧ Below W2.heap.size W2 wv) (fun _ i _ => F.length - (intOf i).toNat)
          case atStart => exact ⟨0, Nat.zero_le _, rfl, rfl, Below.refl _ _⟩
          case round =>
            obtain ⟨j, hj, rfl, rfl, hb⟩ := hrel
            have HB4 := Aside0.mk hb
            have hcj : ((F.map rowF).take j).count k2 ≤ 1000 := by
              have := List.count_le_length (a := k2) (l := (F.map rowF).take j)
              rw [List.length_take] at this
              omega
            clear hb
            by_cases hltj : j < F.length
            · have hltj' : (j : Int) < (F.length : Int) := by omega
              have hRk := Kd.R_below (Kd.R_below HR2.out HB3.out) HB4.out
              obtain ⟨ad, rfl⟩ : ∃ ad, A1 = some ad := by
                obtain ⟨ad, h, _⟩ := (Kd.R_reads' hRk).2.2.2.2 (by omega)
                exact ⟨ad, h⟩
              obtain ⟨x, hx⟩ : ∃ x, F[j]? = some x := ⟨_, List.getElem?_eq_getElem hltj⟩
              obtain ⟨e0, e1, e2, e3, e4, e5⟩ := Oc.came (Kd.R_reads' hRk).2.2 hx
              have htj : (F.map rowF).take (j + 1) = (F.map rowF).take j ++ [rowF x] := by rw [List.take_add_one, List.getElem?_map, hx]; rfl
              have HX := Aside0.mk (And.intro htj (HFO.out x (List.mem_of_getElem? hx)))
              have HB5 := Aside0.mk (HB4.out.trans ((Below.refl _ wr).alloc HB4.out.size (.cells #[.int .u64 x.tk, .int .i64 x.tier, .int .i64 x.co, .int .u8 x.why, .int .i64 x.at_, .int .i64 x.so] 49)))
              clear hx hRk htj
              by_cases hrk : rowF x = k2
              · have hrk2 : ((rowF x : Nat) : Int) = (k2 : Int) := by omega
                have hct : ((F.map rowF).take (j + 1)).count k2 = ((F.map rowF).take j).count k2 + 1 := by rw [HX.out.1, List.count_append, hrk]; simp
                have HCT := Aside0.mk hct
                clear hct
                go_wp2_with (fail)
                refine (row_any x _ HX.out.2).mono ?_
                rintro e w' ⟨rfl, rfl⟩
                rw [hrk2]
                go_wp2_with (fail)
                go_roundw
                case rel => exact ⟨j + 1, by omega, by go_num, by rw [HCT.out]; push_cast; rfl, HB5.out⟩
                case measure => simp [intOf]; omega
              · have hrk2 : (((rowF x : Nat) : Int) == (k2 : Int)) = false := by simp; omega
                have hct : ((F.map rowF).take (j + 1)).count k2 = ((F.map rowF).take j).count k2 := by rw [HX.out.1, List.count_append, show List.count k2 [rowF x] = 0 from List.count_eq_zero.2 (by simp; omega)]; rfl
                have HCT := Aside0.mk hct
                clear hct
                go_wp2_with (fail)
                refine (row_any x _ HX.out.2).mono ?_
                rintro e w' ⟨rfl, rfl⟩
                go_wp2_with (fail)
                go_roundw
                case rel => exact ⟨j + 1, by omega, by go_num, by rw [HCT.out], HB5.out⟩
                case measure => simp [intOf]; omega
            · have hltj' : ¬ (j : Int) < (F.length : Int) := by omega
              rw [show (F.map rowF).take j = F.map rowF from List.take_of_length_le (by rw [List.length_map]; omega)] at hcj ⊢
              obtain ⟨C, hCc⟩ : ∃ C, C = (F.map rowF).count k2 := ⟨_, rfl⟩
              rw [← hCc] at HTK hcj ⊢
              have HR4 := Aside0.mk (Kd.R_below HR3.out HB4.out)
              have HB6 := Aside0.mk (HB3.out.trans (HB4.out.mono HB3.out.size))
              clear hCc HR3 HB3 HB4
              go_wp2_with (at_builtin; refine Kd.R_append (Kd.int .i64) (w0 := W1) W1.heap.size rfl (.tmp 48) (.tmp 50) 32 3 (.int .i64 0) 8 rfl Try.underlying32 (by kernel_rfl) rfl (by decide) (by omega) _ _ (C : Int) [.int .i64 (C : Int)] (fun _ => True) (fun _ => False) rfl rfl rfl (fun _ hk => hk.elim) (fun _ _ => trivial) HR4.out HB6.out HB6.out.size (by rw [List.length_map, List.length_range]; omega) ?_; intro v8 w8 hR8 hB8 hg8 _; have HR8 := Aside0.mk hR8; have HB8 := Aside0.mk hB8; clear hR8 hB8 hg8)
              go_roundw
              case rel => exact ⟨k2 + 1, by omega, by go_num, by rw [HTK.out]; exact HR8.out, HB8.out⟩
              case measure => simp [intOf]; omega
        · have hlt2' : ¬ (k2 : Int) ≤ (M : Int) - 1 := by omega
          have hkM : k2 = M := by omega
          have HKM := Aside0.mk hkM
          clear hkM
          go_wp2_with (fail)
          go_ret
          refine ⟨_, rfl, ?_, HB2.out.trans (HB3.out.mono HB2.out.size)⟩
          have := HR3.out
          unfold cntsF
          rw [← HF.out, ← HM.out, ← HKM.out]
          exact Kd.R_lower this hwz
end Go.Proofs.Ytfnnoecdpolbfaa.Z

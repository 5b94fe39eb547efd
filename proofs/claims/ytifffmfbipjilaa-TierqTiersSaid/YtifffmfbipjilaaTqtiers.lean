/- TierqTiers. -/
import Derived.Test.YtifffmfbipjilaaTq
import Derived.Test.YtifffmfbipjilaaTqtp
namespace Go.Proofs.Ytifffmfbipjilaa.Z
open Go.RowKit Go.Proofs.YtifffmfbipjilaaW.PrintWords Go.Proofs.YtifffmfbipjilaaW.PrintLast Go.Proofs.YtifffmfbipjilaaW.PrintMore
attribute [local go_sem] max2_int min2_int max_two min_two max_three min_three max_four min_four
set_option linter.unusedVariables false
set_option maxRecDepth 100000
set_option linter.unusedSimpArgs false
theorem C_someK {k : IntKind} {w : World} {A : Option Addr} {n : Nat} {l : List Int} (h : (Kd.int k).C w A n l) (hn : 0 < n) : ∃ ad, A = some ad := by
  obtain ⟨ad, e, _⟩ := h.2.2 (by have := h.1; omega)
  exact ⟨ad, e⟩
set_option maxHeartbeats 8000000 in
set_option maxRecDepth 100000 in
theorem tierqTiers_body (t : Int) (A : Option Addr) (cap : Nat) (l : List Int) (w : World) (ht : (Lit.int .u8 t).wf = true) (hC : (Kd.int .u8).C w A l.length l) (hlc : l.length ≤ cap) (hcap : cap ≤ maxLen) (hy : l.length * 1 ≤ 140737488351232) (hok : ∀ x ∈ l, (Lit.int .u8 x).wf = true) :
    Calls Try.prog 3 #[.int .u8 t, .slice A l.length cap] w fun e w' => e = .returned (.bool true) ∧ Below w.heap.size w w' := by
  unfold maxLen at hcap
  obtain ⟨m, hm, hm1, hm2⟩ : ∃ m : Nat, (if 60 < (l.length : Int) then (60 : Int) else (l.length : Int)) = m ∧ m ≤ l.length ∧ m ≤ 60 := by
    by_cases h : 60 < l.length
    · exact ⟨60, by rw [if_pos (by omega)]; rfl, by omega, by omega⟩
    · exact ⟨l.length, by rw [if_neg (by omega)], by omega, by omega⟩
  obtain ⟨K, hK⟩ : ∃ K, K = l.take m := ⟨_, rfl⟩
  have hKl : K.length = m := by rw [hK, List.length_take]; omega
  have hKb : ∀ x ∈ K, 0 ≤ x ∧ x < 256 := fun x hx => wf_u8 (hok x (List.mem_of_mem_take (hK ▸ hx)))
  have hC2 := Kd.C_take hC hm1
  rw [← hK, hKl] at hC2
  obtain ⟨t0, t1⟩ := wf_u8 ht
  obtain ⟨n, hn, hn8⟩ : ∃ n : Nat, t % 8 = n ∧ n < 8 := ⟨(t % 8).toNat, by omega, by omega⟩
  have HC := Aside0.mk hC2
  have HK := Aside0.mk (And.intro hKl hKb)
  clear hC hC2 hK hKl hok hy hKb
  go_enter Try.func3, Try.ntmps3
  go_wp2_with (fail)
  refine (awake_ok _).mono ?_
  rintro e w1 ⟨rfl, hb⟩
  have HB := Aside0.mk hb
  have HC1 := Aside0.mk (Kd.C_below HC.out hb)
  clear hb HC
  go_wp2_with (fail)
  obtain ⟨n', hn', hn1, hn8'⟩ : ∃ n' : Nat, (1 + (n : Int)) = n' ∧ 1 ≤ n' ∧ n' ≤ 8 := ⟨n + 1, by omega, by omega, by omega⟩
  rw [hn']
  clear hn' hn hn8 t0 t1 ht
  have hn0 : (n' : Int) ≠ 0 := by omega
  have hnz : ((n' : Int) == 0) = false := by rw [beq_eq_false_iff_ne]; omega
  have hnp : (0 : Int) < (n' : Int) := by omega
  refine (a_new n' 64 hn1 hn8' (by omega) (by omega) w1).mono ?_
  rintro e w2 ⟨a, rfl, hA⟩
  have HA := Aside0.mk hA
  clear hA
  go_wp2_with (fail)
  go_loopw [38] (fun i wr => ∃ (k : Nat) (R : List (List It)), k ≤ m ∧ i = .int .i64 k ∧ TQA w1 wr a n' 64 k R ∧ TP n' k R) (fun i _ => m - (intOf i).toNat)
  case atStart => exact ⟨0, _, Nat.zero_le _, rfl, HA.out, TP.new _⟩
  case round =>
    obtain ⟨k, R, hk, rfl, hR, hP⟩ := hrel
    by_cases hlt : k < m
    · have hlt' : (k : Int) < (m : Int) := by omega
      have hkb : (k : Int) + 1 ≤ 1024 := by omega
      obtain ⟨ad, rfl⟩ := C_someK HC1.out (by omega)
      obtain ⟨x, hKx⟩ : ∃ x, K[k]? = some x := ⟨_, List.getElem?_eq_getElem (by rw [HK.out.1]; exact hlt)⟩
      have c1 := int_came (Kd.C_below HC1.out hR.bel) hKx
      obtain ⟨x0, x1⟩ := HK.out.2 x (List.mem_of_getElem? hKx)
      have HR := Aside0.mk (And.intro hR hP)
      clear hR hP hKx
      obtain ⟨r, hr⟩ : ∃ r : Nat, x % (n' : Int) = r := ⟨(x % (n' : Int)).toNat, by have := Int.emod_nonneg x (b := (n' : Int)) (by omega); omega⟩
      have hrn : r < n' := by have := Int.emod_lt_of_pos x hnp; omega
      have hrl : r < R.length := by rw [HR.out.2.rl]; exact hrn
      obtain ⟨lr, hlr⟩ : ∃ lr, R[r]? = some lr := ⟨_, List.getElem?_eq_getElem hrl⟩
      have HL := Aside0.mk hlr
      have HRR := Aside0.mk hr
      clear hr hrl hlr
      go_wp2_with (fail)
      refine (a_put ⟨k, x % (n' : Int), 0, 0, 0⟩ HR.out.1 (by omega) HRR.out HL.out (by rw [HR.out.2.tot]; omega)).mono ?_
      rintro e w3 ⟨h, rfl, hA3⟩
      have HA3 := Aside0.mk (And.intro hA3 (HR.out.2.put HL.out (x := (h, ⟨k, x % (n' : Int), 0, 0, 0⟩)) rfl))
      clear hA3
      go_wp2_with (fail)
      exact ⟨⟨k + 1, _, by omega, by go_num, HA3.out.1, HA3.out.2⟩, by simp [intOf]; omega⟩
    · obtain rfl : k = m := by omega
      have HT := Aside0.mk (And.intro hR hP.start)
      clear hR hP HA hlt hk
      go_wp2_with (fail)
      go_loopw [12, 13, 60] (fun vt vk i wr => ∃ (j : Nat) (T tk : Int) (R : List (List It)), j ≤ k ∧ vt = .int .i64 T ∧ vk = .int .i64 tk ∧ i = .int .i64 j ∧ TQA w1 wr a n' 64 k R ∧ TT n' k j T tk R) (fun _ _ i _ => k - (intOf i).toNat)
      case atStart => exact ⟨0, _, _, _, Nat.zero_le _, rfl, rfl, rfl, HT.out.1, HT.out.2⟩
      case round =>
        clear HT
        obtain ⟨j, T, tk, R, hj, rfl, rfl, rfl, hR, hP⟩ := hrel
        by_cases hlt : j < k
        · have hlt' : (j : Int) < (k : Int) := by omega
          have hjb : (j : Int) + 1 ≤ 1024 := by omega
          have hne : R.flatten ≠ [] := fun e => by have := hP.tot; rw [e] at this; simp at this; omega
          obtain ⟨r, l', hl, hne', hb, hcall⟩ := a_first hR hne
          obtain ⟨x, l2, rfl⟩ := List.exists_cons_of_ne_nil hne'
          obtain ⟨h1, h2, h3, h4, h5⟩ := hP.take hl hb
          have hi := hR.item (by omega) hl List.mem_cons_self
          obtain ⟨xh, ⟨qt, qr, qc, qd, qa⟩⟩ := x
          obtain ⟨hqr, hx0, hx1⟩ := hi
          have hqr : qr = (r : Int) := hqr
          have h2 : 0 ≤ qt := h2
          have h3 : qt < k := h3
          have h4 : (r : Int) = T → tk < qt := h4
          have HC := Aside0.mk (And.intro hcall (And.intro hR (And.intro hl h5)))
          have HQR := Aside0.mk hqr
          have tb1 : decide ((r : Int) < T) = false := decide_eq_false (by omega)
          have hqb : qt ≤ 1024 := by omega
          clear hR hP hne hl hne' hb hcall h5 hqr
          go_wp2_with (fail)
          refine HC.out.1.mono ?_
          rintro e w3 ⟨rfl, rfl⟩
          go_wp2_with (fail)
          refine (a_head HC.out.2.1 (by omega) HC.out.2.2.1).mono ?_
          rintro e w3 ⟨rfl, rfl⟩
          go_wp2_with (fail)
          refine (a_take HC.out.2.1 (by omega) HC.out.2.2.1 (k := 0) rfl).mono ?_
          rintro e w4 ⟨rfl, hA4⟩
          unfold Rq.val
          dsimp only
          obtain rfl := HQR.out
          have hbx := Blk.new w4 33 [.int .u64 qt, .int .i64 r, .int .i64 qc, .int .i64 qd, .int .i64 qa]
          have hbx : Blk (w4.alloc (.cells #[.int .u64 qt, .int .i64 r, .int .i64 qc, .int .i64 qd, .int .i64 qa] 33)) w4.heap.size 33 [.int .u64 qt, .int .i64 r, .int .i64 qc, .int .i64 qd, .int .i64 qa] := hbx
          have hA5 := hA4.below (below_alloc (Below.refl _ w4) (.cells #[.int .u64 qt, .int .i64 r, .int .i64 qc, .int .i64 qd, .int .i64 qa] 33))
          have HA5 := Aside0.mk hA5
          clear hA4 hA5
          go_upto_region 19 with (fail)
          generalize (w4.alloc (.cells #[.int .u64 qt, .int .i64 r, .int .i64 qc, .int .i64 qd, .int .i64 qa] 33)) = W5 at *
          generalize w4.heap.size = gb at *
          have x0 := hbx.cell 0 rfl
          have x1 := hbx.cell 1 rfl
          have HC5 := Aside0.mk HC.out.2.2.2
          clear hbx
          by_cases hrT : (r : Int) = T
          · subst hrT
            have tb2 : decide (qt ≤ tk) = false := decide_eq_false (by have := h4 rfl; omega)
            clear h4
            go_wp2_with (fail)
            go_quiet (fail)
            have HA6 := Aside0.mk (HA5.out.below (pw_below_drewN (Below.refl _ W5) nq))
            go_wp2_with (fail)
            exact ⟨⟨j + 1, _, _, _, by omega, rfl, rfl, by go_num, HA6.out, HC5.out⟩, by simp [intOf]; omega⟩
          · have tb3 : ((r : Int) == T) = false := by rw [beq_eq_false_iff_ne]; exact hrT
            clear h4 hrT
            go_wp2_with (fail)
            go_quiet (fail)
            have HA6 := Aside0.mk (HA5.out.below (pw_below_drewN (Below.refl _ W5) nq))
            go_wp2_with (fail)
            exact ⟨⟨j + 1, _, _, _, by omega, rfl, rfl, by go_num, HA6.out, HC5.out⟩, by simp [intOf]; omega⟩
        · obtain rfl : j = k := by omega
          have hR0 : R.flatten.length = 0 := by have := hP.tot; omega
          have HLN := a_len hR
          rw [hR0] at HLN
          have HF := Aside0.mk (And.intro HLN hR.bel)
          clear hR hP hR0 HLN
          go_wp2_with (fail)
          refine HF.out.1.mono ?_
          rintro e w3 ⟨rfl, rfl⟩
          go_wp2_with (fail)
          go_ret
          exact ⟨rfl, HB.out.trans (HF.out.2.mono HB.out.size)⟩
end Go.Proofs.Ytifffmfbipjilaa.Z

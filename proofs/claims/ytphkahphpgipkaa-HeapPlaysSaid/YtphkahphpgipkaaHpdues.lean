/- HeapDues. -/
import Derived.Test.YtphkahphpgipkaaHpdp
namespace Go.Proofs.Ytphkahphpgipkaa.Z
open Go.RowKit Go.Proofs.YtphkahphpgipkaaW.PrintWords Go.Proofs.YtphkahphpgipkaaW.PrintLast Go.Proofs.YtphkahphpgipkaaW.PrintMore
attribute [local go_sem] max2_int min2_int max_two min_two max_three min_three max_four min_four
set_option linter.unusedVariables false
set_option linter.unusedSimpArgs false
theorem equal_n (A B : Option Addr) (c c' n : Nat) (l : List Int) (w : World) (hA : (Kd.int .i64).C w A n l) (hB : (Kd.int .i64).C w B n l) (hn : n ≤ 1000) :
    Calls Try.prog 12 #[.slice A n c, .slice B n c'] w fun e w' => e = .returned (.bool true) ∧ Below w.heap.size w w' := by
  obtain rfl : l.length = n := Kd.C_len hA
  exact equal_i A B c c' l w hA hB hn
theorem C_some {w : World} {A : Option Addr} {n : Nat} {l : List Int} (h : (Kd.int .i64).C w A n l) (hn : 0 < n) : ∃ ad, A = some ad := by
  obtain ⟨ad, e, _⟩ := h.2.2 (by have := h.1; omega)
  exact ⟨ad, e⟩
def dp (K : List Int) (j : Nat) : En := ⟨(K[j]?).getD 0, 0, j⟩
set_option maxHeartbeats 8000000 in
set_option maxRecDepth 100000 in
theorem heapDues_body (A : Option Addr) (cap : Nat) (l : List Int) (a b : Int) (w : World) (hC : (Kd.int .i64).C w A l.length l) (hlc : l.length ≤ cap) (hcap : cap ≤ maxLen) (hy : l.length * 8 ≤ 140737488351232) (hok : ∀ x ∈ l, (Lit.int .i64 x).wf = true) (hka : (Lit.int .i64 a).wf = true) (hkb : (Lit.int .i64 b).wf = true) :
    Calls Try.prog 3 #[.slice A l.length cap, .int .i64 a, .int .i64 b] w fun e w' => e = .returned (.bool true) ∧ Below w.heap.size w w' := by
  unfold maxLen at hcap
  obtain ⟨m, hm, hm1, hm2⟩ : ∃ m : Nat, (if 60 < (l.length : Int) then (60 : Int) else (l.length : Int)) = m ∧ m ≤ l.length ∧ m ≤ 60 := by
    by_cases h : 60 < l.length
    · exact ⟨60, by rw [if_pos (by omega)]; rfl, by omega, by omega⟩
    · exact ⟨l.length, by rw [if_neg (by omega)], by omega, by omega⟩
  obtain ⟨K, hK⟩ : ∃ K, K = l.take m := ⟨_, rfl⟩
  have hKl : K.length = m := by rw [hK, List.length_take]; omega
  have hC2 := Kd.C_take hC hm1
  rw [← hK, hKl] at hC2
  have hKok : ∀ x ∈ K, x ≤ 9223372036854775807 := fun x hx => by
    have := hok x (List.mem_of_mem_take (hK ▸ hx))
    simp [Lit.wf] at this
    omega
  have HC := Aside0.mk hC2
  have HK := Aside0.mk hKl
  have HOK := Aside0.mk hKok
  clear hC hC2 hK hKl hok hka hkb hy hKok
  go_enter Try.func3, Try.ntmps3
  go_wp2_with (fail)
  refine (awake_ok _).mono ?_
  rintro e w1 ⟨rfl, hb⟩
  have HB := Aside0.mk hb
  have HC1 := Aside0.mk (Kd.C_below HC.out hb)
  clear hb HC
  go_upto_if 25 with (fail)
  go_cut [1, 2] from 26 (fun x y wx => ∃ a b : Int, x = .int .i64 a ∧ y = .int .i64 b ∧ a ≤ b ∧ w1 = wx)
  case first =>
    by_cases hab : a > b
    · go_wp2_with (fail)
      go_meet
      case rel => exact ⟨b, a, rfl, rfl, by omega, rfl⟩
    · go_wp2_with (fail)
      go_meet
      case rel => exact ⟨a, b, rfl, rfl, by omega, rfl⟩
  case rest =>
  obtain ⟨a, b, rfl, rfl, hab, rfl⟩ := hcut
  have hn := m_new 60 (by omega) (by omega) w1
  rw [show ((60 : Nat) : Int) = 60 from rfl] at hn
  have HN := Aside0.mk hn
  have HAB := Aside0.mk hab
  clear hn hab
  go_wp2_with (fail)
  refine HN.out.mono ?_
  rintro e w2 ⟨g, ba, rfl, hM⟩
  have HM0 := Aside0.mk hM
  clear hM HN
  go_wp2_with (fail)
  go_loopw [34] (fun i wr => ∃ (k : Nat) (v : Value) (S : List En), k ≤ m ∧ i = .int .i64 k ∧ HM w1 wr g ba v S 60 ∧ PutI (dp K) k S) (fun i _ => m - (intOf i).toNat)
  case atStart => exact ⟨0, _, [], Nat.zero_le _, rfl, HM0.out, PutI.zero _⟩
  case round =>
    clear HM0
    obtain ⟨k, v, S, hk, rfl, hM, hP⟩ := hrel
    by_cases hlt : k < m
    · have hlt' : (k : Int) < (m : Int) := by omega
      have k0 : (0 : Int) ≤ (k : Int) := by omega
      have hkb : (k : Int) + 1 ≤ 1024 := by omega
      obtain ⟨ad, rfl⟩ := C_some HC1.out (by omega)
      obtain ⟨x, hx⟩ : ∃ x, K[k]? = some x := ⟨_, List.getElem?_eq_getElem (by rw [HK.out]; exact hlt)⟩
      have hdp : dp K k = ⟨x, 0, k⟩ := by simp [dp, hx]
      have c1 := i_came (Kd.C_below HC1.out hM.bel) hx
      have hput := m_put w1 g ba 60 v S (dp K k) wr hM (by rw [hdp]; simp; omega) (hP.new (fun j hj => by simp [dp]; omega))
      rw [hdp] at hput
      have HPU := Aside0.mk hput
      have HPI := Aside0.mk (And.intro hdp hP.succ)
      clear hput hdp hx hM hP
      go_wp2_with (fail)
      refine HPU.out.mono ?_
      rintro e w3 ⟨rfl, v', hM⟩
      have HM3 := Aside0.mk hM.hm
      clear hM HPU
      go_wp2_with (fail)
      refine ⟨⟨k + 1, v', _, by omega, by go_num, HM3.out, ?_⟩, by simp [intOf]; omega⟩
      have := HPI.out.2
      rw [HPI.out.1] at this
      exact this
    · obtain rfl : k = m := by omega
      have hall : dueL S 9223372036854775807 = S := due_all (fun e he => by
        obtain ⟨j, hj, rfl⟩ := (hP.mem e).1 he
        have hjl : j < K.length := by rw [HK.out]; exact hj
        have := HOK.out K[j] (List.getElem_mem hjl)
        simp only [dp, List.getElem?_eq_getElem hjl, Option.getD_some]
        exact this)
      obtain ⟨n1, hn1⟩ : ∃ n, n = (dueL S a).length := ⟨_, rfl⟩
      obtain ⟨n2, hn2⟩ : ∃ n, n = (dueL S b).length := ⟨_, rfl⟩
      have h12 : n1 ≤ n2 := by rw [hn1, hn2]; exact due_mono HAB.out
      have h23 : n2 ≤ k := by rw [hn2, ← hP.len]; exact due_len S b
      have h12' : (n1 : Int) ≤ (n2 : Int) := by omega
      have h23' : (n2 : Int) ≤ (k : Int) := by omega
      have HS := Aside0.mk (And.intro hM (And.intro hP (And.intro hall (And.intro hn1 hn2))))
      have HD1 := due_ok g ba 60 v S a wr hM.hs hM.srt
      clear hM hP hall hn1 hn2
      go_wp2_with (fail)
      refine HD1.mono ?_
      clear HD1
      rintro e w5 ⟨v5, rfl, hR5, hb5⟩
      have hM5 := HS.out.1.below hb5
      have hD2 := due_ok g ba 60 v S b w5 hM5.hs hM5.srt
      have HR5 := Aside0.mk hR5
      have HM5 := Aside0.mk hM5
      have HD2 := Aside0.mk hD2
      clear hR5 hb5 hM5 hD2
      go_wp2_with (fail)
      refine HD2.out.mono ?_
      clear HD2
      rintro e w6 ⟨v6, rfl, hR6, hb6⟩
      have hM6 := HM5.out.below hb6
      have hD3 := due_ok g ba 60 v S 9223372036854775807 w6 hM6.hs hM6.srt
      rw [HS.out.2.2.1] at hD3
      have HR5' := Aside0.mk (Kd.R_below HR5.out hb6)
      have HR6 := Aside0.mk hR6
      have HM6 := Aside0.mk hM6
      have HD3 := Aside0.mk hD3
      clear hR6 hb6 hM6 hD3 HR5 HM5
      go_wp2_with (fail)
      refine HD3.out.mono ?_
      clear HD3
      rintro e w7 ⟨v7, rfl, hR7, hb7⟩
      have hM7 := HM6.out.below hb7
      have hR5 := Kd.R_below HR5'.out hb7
      have hR6 := Kd.R_below HR6.out hb7
      obtain ⟨A1, c1, hv1⟩ := Kd.R_slice hR5
      obtain ⟨A2, c2, hv2⟩ := Kd.R_slice hR6
      obtain ⟨A3, c3, hv3⟩ := Kd.R_slice hR7
      rw [List.length_map, ← HS.out.2.2.2.1] at hv1
      rw [List.length_map, ← HS.out.2.2.2.2] at hv2
      rw [List.length_map, HS.out.2.1.len] at hv3
      subst hv1 hv2 hv3
      obtain ⟨e1, l1, hC5⟩ := Kd.R_reads' hR5
      obtain ⟨e2, l2, hC6⟩ := Kd.R_reads' hR6
      obtain ⟨e3, l3, hC7⟩ := Kd.R_reads' hR7
      have hT1 := Kd.C_take hC6 (m := n1) (by rw [← e2]; exact h12)
      have hT2 := Kd.C_take hC7 (m := n2) (by rw [← e3]; exact h23)
      rw [← e1] at hC5
      rw [← e2] at hC6
      rw [← e3] at hC7
      rw [List.length_take, ← e2, Nat.min_eq_left h12, ← List.map_take] at hT1
      rw [List.length_take, ← e3, Nat.min_eq_left h23, ← List.map_take] at hT2
      have ht1 : (dueL S b).take n1 = dueL S a := by rw [HS.out.2.2.2.1]; exact (due_take HS.out.1.srt HAB.out).symm
      have ht2 : S.take n2 = dueL S b := by rw [HS.out.2.2.2.2]; exact (due_pre HS.out.1.srt b).symm
      rw [ht1] at hT1
      rw [ht2] at hT2
      have HCC := Aside0.mk (And.intro hC5 (And.intro hC6 (And.intro hC7 (And.intro hT1 hT2))))
      have HM7 := Aside0.mk hM7
      clear hR5 hR6 hR7 e1 e2 e3 hC5 hC6 hC7 hT1 hT2 ht1 ht2 hM7 hb7 HR5' HR6 HM6 l1
      have l4 : n2 ≤ c3 := Nat.le_trans h23 l3
      have d1 : decide (n2 < n1) = false := decide_eq_false (by omega)
      have d2 : decide (k < n2) = false := decide_eq_false (by omega)
      go_wp2_with (fail)
      refine (equal_n A1 A2 c1 c2 n1 _ w7 HCC.out.1 HCC.out.2.2.2.1 (by omega)).mono ?_
      rintro e w8 ⟨rfl, hb8⟩
      have HM8 := Aside0.mk (HM7.out.below hb8)
      have HC8 := Aside0.mk (And.intro (Kd.C_below HCC.out.2.1 hb8) (And.intro (Kd.C_below HCC.out.2.2.2.2 hb8) (Kd.C_below HCC.out.2.2.1 hb8)))
      clear hb8 HCC HM7
      go_wp2_with (fail)
      refine (equal_n A2 A3 c2 c3 n2 _ w8 HC8.out.1 HC8.out.2.1 (by omega)).mono ?_
      rintro e w9 ⟨rfl, hb9⟩
      have HM9 := Aside0.mk (HM8.out.below hb9)
      have HC9 := Aside0.mk (And.intro (Kd.C_below HC8.out.2.2 hb9) (Kd.C_below HC1.out (HM8.out.below hb9).bel))
      clear hb9 HC8 HM8
      go_wp2_with (fail)
      clear l2 l3 l4 d1 d2
      go_loopw [92] (fun i wr => ∃ q : Nat, q ≤ k ∧ i = .int .i64 q ∧ w9 = wr) (fun i _ => k - (intOf i).toNat)
      case atStart => exact ⟨0, Nat.zero_le _, rfl, rfl⟩
      case round =>
        obtain ⟨q, hq, rfl, rfl⟩ := hrel
        by_cases hlq : q < k
        · have hlq' : (q : Int) < (k : Int) := by omega
          have q0 : (0 : Int) ≤ (q : Int) := by omega
          have hqb : (q : Int) + 1 ≤ 1024 := by omega
          obtain ⟨y, hyS⟩ : ∃ y, S[q]? = some y := ⟨_, List.getElem?_eq_getElem (by rw [HS.out.2.1.len]; exact hlq)⟩
          obtain ⟨j, hj, hyj⟩ := (HS.out.2.1.mem y).1 (List.mem_of_getElem? hyS)
          obtain ⟨x, hx⟩ : ∃ x, K[j]? = some x := ⟨_, List.getElem?_eq_getElem (by rw [HK.out]; exact hj)⟩
          have hdp : y = ⟨x, 0, j⟩ := by rw [hyj]; simp [dp, hx]
          subst hdp
          have hL : (S.map (·.i))[q]? = some (j : Int) := by simp [hyS]
          obtain ⟨ad3, rfl⟩ := C_some HC9.out.1 (by omega)
          obtain ⟨ad, rfl⟩ := C_some HC9.out.2 (by omega)
          have x1 := i_came HC9.out.1 hL
          have x2 := i_came HC9.out.2 hx
          have p1 := due_at HS.out.1.srt a q _ hyS
          have p2 := due_at HS.out.1.srt b q _ hyS
          rw [← HS.out.2.2.2.1] at p1
          rw [← HS.out.2.2.2.2] at p2
          dsimp only at p1 p2
          have j0 : (0 : Int) ≤ (j : Int) := by omega
          have j1 : (j : Int) < (k : Int) := by omega
          clear hL hx hyS hyj
          by_cases c1 : q < n1
          · have e1 : x ≤ a := p1.2 c1
            have e2 : q < n2 := by omega
            have e3 : x ≤ b := p2.2 e2
            have f1 : decide (x ≤ a) = true := decide_eq_true e1
            have f2 : decide (x ≤ b) = true := decide_eq_true e3
            have f3 : decide (q < n1) = true := decide_eq_true c1
            have f4 : decide (q < n2) = true := decide_eq_true e2
            clear p1 p2 e1 e3 c1 e2
            go_wp2_with (fail)
            exact ⟨⟨q + 1, by omega, by go_num, trivial⟩, by simp [intOf]; omega⟩
          · by_cases c2 : q < n2
            · have f1 : decide (x ≤ a) = false := decide_eq_false (fun h => c1 (p1.1 h))
              have f2 : decide (x ≤ b) = true := decide_eq_true (p2.2 c2)
              have f3 : decide (q < n1) = false := decide_eq_false c1
              have f4 : decide (q < n2) = true := decide_eq_true c2
              clear p1 p2 c1 c2
              go_wp2_with (fail)
              exact ⟨⟨q + 1, by omega, by go_num, trivial⟩, by simp [intOf]; omega⟩
            · have f1 : decide (x ≤ a) = false := decide_eq_false (fun h => c1 (p1.1 h))
              have f2 : decide (x ≤ b) = false := decide_eq_false (fun h => c2 (p2.1 h))
              have f3 : decide (q < n1) = false := decide_eq_false c1
              have f4 : decide (q < n2) = false := decide_eq_false c2
              clear p1 p2 c1 c2
              go_wp2_with (fail)
              exact ⟨⟨q + 1, by omega, by go_num, trivial⟩, by simp [intOf]; omega⟩
        · obtain rfl : q = k := by omega
          have hlen := len_set g ba 60 v S w9 HM9.out.hs
          rw [HS.out.2.1.len] at hlen
          have HLEN := Aside0.mk hlen
          clear hlen
          go_wp2_with (fail)
          refine HLEN.out.mono ?_
          rintro e w10 ⟨rfl, rfl⟩
          go_wp2_with (fail)
          go_ret
          exact ⟨rfl, HB.out.trans (HM9.out.bel.mono HB.out.size)⟩
end Go.Proofs.Ytphkahphpgipkaa.Z

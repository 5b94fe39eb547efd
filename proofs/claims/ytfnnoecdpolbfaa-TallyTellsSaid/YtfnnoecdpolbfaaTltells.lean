/- TallyTells: all that is told is the document's. -/
import Derived.Test.YtfnnoecdpolbfaaTlrs
namespace Go.Proofs.Ytfnnoecdpolbfaa.Z
open Go.RowKit Go.Proofs.YtfnnoecdpolbfaaW.PrintWords Go.Proofs.YtfnnoecdpolbfaaW.PrintLast Go.Proofs.YtfnnoecdpolbfaaW.PrintMore
attribute [local go_sem] max2_int min2_int max_two min_two max_three min_three max_four min_four
set_option linter.unusedVariables false
set_option linter.unusedSimpArgs false
def metF (s : Bool) (f : Int) (l : List Oc) : Bool := !s || l.any (fun o => decide (o.so = f))
theorem metF_snoc (s : Bool) (f : Int) (l : List Oc) (x : Oc) : metF s f (l ++ [x]) = (metF s f l || decide (x.so = f)) := by
  unfold metF
  rw [List.any_append]
  simp [Bool.or_assoc]
theorem drop_min (X : List Oc) (m : Int) : X.drop (min (max m 0) X.length).toNat = X.drop (max m 0).toNat := by
  by_cases h : max m 0 ≤ X.length
  · rw [show min (max m 0) (X.length : Int) = max m 0 by omega]
  · rw [List.drop_eq_nil_of_le (by omega), List.drop_eq_nil_of_le (by omega)]
set_option maxHeartbeats 8000000 in
set_option maxRecDepth 100000 in
theorem tallyTells_body (A : Option Addr) (cap : Nat) (l : List Oc) (t y m : Int) (w : World) (hC : Oc.kd.C w A l.length l) (hlc : l.length ≤ cap) (hcap : cap ≤ maxLen) (hok : ∀ x ∈ l, x.ok) (ht : (Lit.int .i64 t).wf = true) (hy : (Lit.int .u8 y).wf = true) (hm : (Lit.int .i64 m).wf = true) :
    Calls Try.prog 6 #[.slice A l.length cap, .int .i64 t, .int .u8 y, .int .i64 m] w fun e w' => e = .returned (.bool true) ∧ Below w.heap.size w w' := by
  have HC := Aside0.mk hC
  have HOK := Aside0.mk hok
  clear hC ht hy hm hok
  go_enter Try.func6, Try.ntmps6
  go_wp2_with (fail)
  refine (tawake_ok _).mono ?_
  rintro e w1 ⟨rfl, hb1⟩
  have HC1 := Aside0.mk (Kd.C_below HC.out hb1)
  have HB1 := Aside0.mk hb1
  clear hb1 HC
  go_wp2_with (fail)
  obtain ⟨X, hX⟩ : ∃ X, X = l.take 60 := ⟨_, rfl⟩
  have hXl : X.length ≤ 60 := by rw [hX, List.length_take]; omega
  have hXo : ∀ x ∈ X, x.ok := fun x hx => HOK.out x (List.mem_of_mem_take (by rw [← hX]; exact hx))
  refine (filled_ok A cap l X _ HC1.out hlc hX).mono ?_
  rintro e w2 ⟨g, v, rfl, hL, hR, hb2⟩
  obtain ⟨A2, c2, rfl⟩ := Kd.R_slice hR
  have HXO := Aside0.mk hXo
  have HS2 := Aside0.mk (And.intro hL (And.intro (Kd.R_reads' hR).2.2 (HB1.out.trans (hb2.mono HB1.out.size))))
  clear hX hL hR hb2 HB1 HC1 hXo
  go_wp2_with (fail)
  refine (rsome_ok A2 c2 X t y _ HS2.out.2.1 (by omega)).mono ?_
  rintro e w3 ⟨v3, rfl, hR3, hb3⟩
  obtain ⟨A3, c3, rfl⟩ := Kd.R_slice hR3
  rw [show (ofB t y X).length = cntB t y X from rfl]
  have hcl : cntB t y X ≤ X.length := List.length_filter_le _ _
  have HS3 := Aside0.mk (And.intro (HS2.out.1.below hb3) (And.intro (Kd.C_below HS2.out.2.1 hb3) (HS2.out.2.2.trans (hb3.mono HS2.out.2.2.size))))
  clear hR3 hb3 HS2
  go_wp2_with (fail)
  refine (longest_ok g _ X t _ HS3.out.1 (by omega)).mono ?_
  rintro e w4 ⟨rfl, hb4⟩
  have hll := lon_law t X
  obtain ⟨P, hP⟩ : ∃ P, P = ofB t 1 X := ⟨_, rfl⟩
  rw [show (X.filter fun o => isB o t 1) = P from hP.symm] at hll
  generalize hp : lonF t X = p at *
  obtain ⟨f, s⟩ := p
  have HS4 := Aside0.mk (And.intro (HS3.out.1.below hb4) (And.intro (Kd.C_below HS3.out.2.1 hb4) (HS3.out.2.2.trans (hb4.mono HS3.out.2.2.size))))
  have HLL := Aside0.mk (And.intro hll hP)
  clear hp hb4 HS3 hll hP
  go_wp2_with (fail)
  refine (rsome_ok A2 c2 X t 1 _ HS4.out.2.1 (by omega)).mono ?_
  rintro e w5 ⟨v5, rfl, hR5, hb5⟩
  rw [← HLL.out.2] at hR5
  obtain ⟨A5, c5, rfl⟩ := Kd.R_slice hR5
  have hPl : P.length ≤ 60 := by rw [HLL.out.2]; exact Nat.le_trans (List.length_filter_le _ _) hXl
  have hCP := (Kd.R_reads' hR5).2.2
  obtain ⟨N, hN⟩ : ∃ N, N = P.length := ⟨_, rfl⟩
  rw [← hN] at hPl hCP ⊢
  have HN := Aside0.mk hN
  clear hN
  have HS5 := Aside0.mk (And.intro (HS4.out.1.below hb5) (And.intro (Kd.C_below HS4.out.2.1 hb5) (HS4.out.2.2.trans (hb5.mono HS4.out.2.2.size))))
  have HCP := Aside0.mk hCP
  clear hCP
  obtain ⟨hl1, hl2, hl3⟩ := HLL.out.1
  try simp only at hl1 hl2 hl3
  have hle : ∀ x ∈ P, ¬ x.so > f := by
    cases s with
    | false => intro x hx; have : P = [] := by
                 by_cases e : P = []
                 · exact e
                 · have := hl1.2 e; cases this
               rw [this] at hx; cases hx
    | true => intro x hx; have := (hl3 rfl).1 x hx; omega
  have hmet : metF s f P = true := by
    cases s with
    | false => rfl
    | true =>
      obtain ⟨o, ho, e⟩ := (hl3 rfl).2
      unfold metF
      simp only [Bool.not_true, Bool.false_or, List.any_eq_true, decide_eq_true_eq]
      exact ⟨o, ho, e⟩
  have HLE := Aside0.mk (And.intro hle hmet)
  have h0 : s = false → N = 0 ∧ f = 0 := fun e => by
    subst e
    refine ⟨?_, hl2 rfl⟩
    rw [HN.out]
    by_cases e : P = []
    · rw [e]; rfl
    · have := hl1.2 e; cases this
  have h1 : s = true → 0 < N := fun e => by
    subst e
    rw [HN.out]
    exact List.length_pos_iff.2 (hl1.1 rfl)
  clear hl1 hl2 hl3 hle hmet hR5 hb5 HS4 HLL
  have hM : ∃ M : Nat → Bool, M 0 = !s ∧ (∀ k x, P[k]? = some x → M (k + 1) = (M k || decide (x.so = f))) ∧ M N = true := by
    refine ⟨fun k => metF s f (P.take k), by simp [metF], fun k x hx => ?_, by simp only [HN.out, List.take_length]; exact HLE.out.2⟩
    simp only []
    rw [List.take_add_one, hx]
    exact metF_snoc s f (P.take k) x
  obtain ⟨M, hM0, hMs, hMe⟩ := hM
  have HM := Aside0.mk (And.intro hMs hMe)
  clear hMs hMe
  cases s
  case' false =>
    obtain ⟨hp0, hf0⟩ := h0 rfl
    have hp1 : (N : Int) ≤ 0 := by omega
    have hf1 : (f != 0) = false := by rw [hf0]; rfl
    rw [Bool.not_false] at hM0
    clear h0 h1 hf0 hp0
  case' true =>
    have hp1 : (0 : Int) < (N : Int) := by have := h1 rfl; omega
    rw [Bool.not_true] at hM0
    clear h0 h1
  all_goals
    have HM0 := Aside0.mk hM0
    clear hM0
    go_wp2_with (fail)
    clear hp1
    go_loopw [15, 55] (fun b i wv => ∃ k : Nat, k ≤ N ∧ i = .int .i64 k ∧ b = .bool (M k) ∧ Below w5.heap.size w5 wv) (fun _ i _ => N - (intOf i).toNat)
    case atStart => exact ⟨0, Nat.zero_le _, rfl, by rw [HM0.out], Below.refl _ _⟩
    case round =>
      obtain ⟨k, hk, rfl, rfl, hb6⟩ := hrel
      have HB6 := Aside0.mk hb6
      clear hb6
      by_cases hlt : k < N
      · have hlt' : (k : Int) < (N : Int) := by omega
        obtain ⟨ad, rfl⟩ : ∃ ad, A5 = some ad := by
          obtain ⟨ad, h, _⟩ := HCP.out.2.2 (by omega)
          exact ⟨ad, h⟩
        obtain ⟨x, hx⟩ : ∃ x, P[k]? = some x := ⟨_, List.getElem?_eq_getElem (by have := HN.out; omega)⟩
        obtain ⟨e0, e1, e2, e3, e4, e5⟩ := Oc.came (Kd.C_below HCP.out HB6.out) hx
        have hgt := HLE.out.1 x (List.mem_of_getElem? hx)
        have hms := HM.out.1 k x hx
        have HB7 := Aside0.mk (HB6.out.trans ((Below.refl _ wr).alloc HB6.out.size (.cells #[.int .u64 x.tk, .int .i64 x.tier, .int .i64 x.co, .int .u8 x.why, .int .i64 x.at_, .int .i64 x.so] 49)))
        clear hx
        cases hMk : M k with
        | true =>
          rw [hMk, Bool.true_or] at hms
          have HMS := Aside0.mk hms
          clear hms hMk
          go_wp2_with (fail)
          first
            | done
            | (go_roundw; (case rel => exact ⟨k + 1, by omega, by go_num, by rw [HMS.out], HB7.out⟩); all_goals (simp [intOf] <;> omega))
        | false =>
          rw [hMk, Bool.false_or] at hms
          have HMS := Aside0.mk hms
          clear hms hMk
          by_cases hxf : x.so = f
          · have hxf1 : (x.so == f) = true := by simp [hxf]
            have HXF := Aside0.mk hxf
            clear hxf
            go_wp2_with (fail)
            first
              | done
              | (go_roundw; (case rel => exact ⟨k + 1, by omega, by go_num, by rw [HMS.out]; simp [HXF.out], HB7.out⟩); all_goals (simp [intOf] <;> omega))
          · have hxf1 : (x.so == f) = false := by simp [hxf]
            have HXF := Aside0.mk hxf
            clear hxf
            go_wp2_with (fail)
            first
              | done
              | (go_roundw; (case rel => exact ⟨k + 1, by omega, by go_num, by rw [HMS.out]; simp [HXF.out], HB7.out⟩); all_goals (simp [intOf] <;> omega))
      · have hlt' : ¬ (k : Int) < (N : Int) := by omega
        have hMk : M k = true := by rw [show k = N by omega]; exact HM.out.2
        rw [hMk]
        have HS6 := Aside0.mk (And.intro (HS5.out.1.below HB6.out) (And.intro (Kd.C_below HS5.out.2.1 HB6.out) (HS5.out.2.2.trans (HB6.out.mono HS5.out.2.2.size))))
        clear hMk HB6 HS5 HCP HM HM0 HLE
        go_wp2_with (fail)
        refine (len_ok g _ X _ HS6.out.1).mono ?_
        rintro e w7 ⟨rfl, rfl⟩
        go_wp2_with (fail)
        have hcq := count_ok g _ X t y _ HS6.out.1 (by omega)
        rw [cnt_why] at hcq
        refine hcq.mono ?_
        clear hcq
        rintro e w8 ⟨rfl, hb8⟩
        have HS8 := Aside0.mk (And.intro (HS6.out.1.below hb8) (And.intro (Kd.C_below HS6.out.2.1 hb8) (HS6.out.2.2.trans (hb8.mono HS6.out.2.2.size))))
        clear hb8 HS6
        go_wp2_with (fail)
        refine (spread_ok g _ X t _ HS8.out.1 (by omega) HXO.out).mono ?_
        rintro e w9 ⟨v9, rfl, hR9, hb9⟩
        obtain ⟨A9, c9, rfl⟩ := Kd.R_slice hR9
        have HC9 := Aside0.mk (Kd.R_reads' hR9).2.2
        have hZl : (sprF t X).length ≤ 65 := spr_len _ _
        have HS9 := Aside0.mk (And.intro (HS8.out.1.below hb9) (And.intro (Kd.C_below HS8.out.2.1 hb9) (HS8.out.2.2.trans (hb9.mono HS8.out.2.2.size))))
        clear hb9 hR9 HS8
        go_wp2_with (fail)
        refine (rspread_ok A2 c2 X t _ HS9.out.2.1 (by omega) HXO.out).mono ?_
        rintro e w10 ⟨v10, rfl, hR10, hb10⟩
        obtain ⟨A10, c10, rfl⟩ := Kd.R_slice hR10
        have HC10 := Aside0.mk (And.intro (Kd.R_reads' hR10).2.2 (Kd.C_below HC9.out hb10))
        have HS10 := Aside0.mk (And.intro (HS9.out.1.below hb10) (And.intro (Kd.C_below HS9.out.2.1 hb10) (HS9.out.2.2.trans (hb10.mono HS9.out.2.2.size))))
        clear hb10 hR10 HS9 HC9
        go_wp2_with (fail)
        refine (equal_i _ _ _ _ (sprF t X) _ HC10.out.2 HC10.out.1 (by omega)).mono ?_
        rintro e w11 ⟨rfl, hb11⟩
        have HS11 := Aside0.mk (And.intro (HS10.out.1.below hb11) (And.intro (Kd.C_below HS10.out.2.1 hb11) (HS10.out.2.2.trans (hb11.mono HS10.out.2.2.size))))
        clear hb11 HS10 HC10 hZl
        go_wp2_with (fail)
        obtain ⟨D, hD⟩ : ∃ D, D = X.drop (max m 0).toNat := ⟨_, rfl⟩
        have hDl : D.length ≤ 60 := by rw [hD, List.length_drop]; omega
        refine (since_ok g _ X D m _ HS11.out.1 (by omega) (by rw [drop_min]; exact hD)).mono ?_
        have HD := Aside0.mk hD
        clear hD
        rintro e w12 ⟨v12, rfl, hR12, hb12⟩
        obtain ⟨A12, c12, rfl⟩ := Kd.R_slice hR12
        have HC12 := Aside0.mk (Kd.R_reads' hR12).2.2
        have HS12 := Aside0.mk (And.intro (HS11.out.1.below hb12) (And.intro (Kd.C_below HS11.out.2.1 hb12) (HS11.out.2.2.trans (hb12.mono HS11.out.2.2.size))))
        clear hb12 hR12 HS11
        go_wp2_with (fail)
        refine (own_ok A12 c12 D _ HC12.out (by omega)).mono ?_
        rintro e w13 ⟨v13, rfl, hR13, hb13⟩
        obtain ⟨A13, c13, rfl⟩ := Kd.R_slice hR13
        have HC13 := Aside0.mk (Kd.R_reads' hR13).2.2
        have HS13 := Aside0.mk (And.intro (HS12.out.1.below hb13) (And.intro (Kd.C_below HS12.out.2.1 hb13) (HS12.out.2.2.trans (hb13.mono HS12.out.2.2.size))))
        clear hb13 hR13 HS12 HC12
        go_wp2_with (fail)
        have hrs := rsince_ok A2 c2 X m _ HS13.out.2.1 (by omega)
        rw [← HD.out] at hrs
        refine hrs.mono ?_
        clear hrs
        rintro e w14 ⟨v14, rfl, hR14, hb14⟩
        obtain ⟨A14, c14, rfl⟩ := Kd.R_slice hR14
        have HC14 := Aside0.mk (And.intro (Kd.R_reads' hR14).2.2 (Kd.C_below HC13.out hb14))
        have HS14 := Aside0.mk (And.intro (HS13.out.1.below hb14) (And.intro (Kd.C_below HS13.out.2.1 hb14) (HS13.out.2.2.trans (hb14.mono HS13.out.2.2.size))))
        clear hb14 hR14 HS13 HC13
        go_wp2_with (fail)
        refine (same_ok _ _ _ _ D _ HC14.out.2 HC14.out.1 (by omega)).mono ?_
        rintro e w15 ⟨rfl, hb15⟩
        have HS15 := Aside0.mk (And.intro (HS14.out.1.below hb15) (And.intro (Kd.C_below HS14.out.2.1 hb15) (HS14.out.2.2.trans (hb15.mono HS14.out.2.2.size))))
        clear hb15 HS14 HC14
        go_wp2_with (fail)
        refine (all_ok _ y _).mono ?_
        rintro e w16 ⟨b1, b2, rfl, hb16, hB1, hB2, -, -⟩
        have HBB := Aside0.mk (And.intro hB1 hB2)
        have HS16 := Aside0.mk (And.intro (HS15.out.1.below hb16) (And.intro (Kd.C_below HS15.out.2.1 hb16) (HS15.out.2.2.trans (hb16.mono HS15.out.2.2.size))))
        clear hb16 HS15 hB1 hB2
        go_wp2_with (fail)
        obtain ⟨E, hE⟩ : ∃ E, E = ofWhy y X := ⟨_, rfl⟩
        have hEl : E.length ≤ 60 := by rw [hE]; exact Nat.le_trans (List.length_filter_le _ _) hXl
        have hco := collect_oc b1 b2 g _ X y (by omega) _ HS16.out.1 HBB.out.1 HBB.out.2
        rw [← hE] at hco
        refine hco.mono ?_
        clear hco
        have HE := Aside0.mk hE
        clear hE
        rintro e w17 ⟨v17, rfl, hR17, hb17⟩
        obtain ⟨A17, c17, rfl⟩ := Kd.R_slice hR17
        have HC17 := Aside0.mk (Kd.R_reads' hR17).2.2
        have HS17 := Aside0.mk (And.intro (HS16.out.1.below hb17) (And.intro (Kd.C_below HS16.out.2.1 hb17) (HS16.out.2.2.trans (hb17.mono HS16.out.2.2.size))))
        clear hb17 hR17 HS16 HBB
        go_wp2_with (fail)
        refine (own_ok A17 c17 E _ HC17.out (by omega)).mono ?_
        rintro e w18 ⟨v18, rfl, hR18, hb18⟩
        obtain ⟨A18, c18, rfl⟩ := Kd.R_slice hR18
        have HC18 := Aside0.mk (Kd.R_reads' hR18).2.2
        have HS18 := Aside0.mk (And.intro (HS17.out.1.below hb18) (And.intro (Kd.C_below HS17.out.2.1 hb18) (HS17.out.2.2.trans (hb18.mono HS17.out.2.2.size))))
        clear hb18 hR18 HS17 HC17
        go_wp2_with (fail)
        have hrs := rsome_ok A2 c2 X (-1) y _ HS18.out.2.1 (by omega)
        rw [show ofB (-1) y X = E from HE.out.symm] at hrs
        refine hrs.mono ?_
        clear hrs
        rintro e w19 ⟨v19, rfl, hR19, hb19⟩
        obtain ⟨A19, c19, rfl⟩ := Kd.R_slice hR19
        have HC19 := Aside0.mk (And.intro (Kd.R_reads' hR19).2.2 (Kd.C_below HC18.out hb19))
        have HS19 := Aside0.mk (HS18.out.2.2.trans (hb19.mono HS18.out.2.2.size))
        clear hb19 hR19 HS18 HC18
        go_wp2_with (fail)
        refine (same_ok _ _ _ _ E _ HC19.out.2 HC19.out.1 (by omega)).mono ?_
        rintro e w20 ⟨rfl, hb20⟩
        have HS20 := Aside0.mk (HS19.out.trans (hb20.mono HS19.out.size))
        clear hb20 HS19 HC19
        go_wp2_with (fail)
        go_ret
        exact ⟨rfl, HS20.out⟩
end Go.Proofs.Ytfnnoecdpolbfaa.Z

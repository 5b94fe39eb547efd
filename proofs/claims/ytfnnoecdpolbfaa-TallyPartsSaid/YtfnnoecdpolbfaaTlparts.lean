/- TallyParts: what came since, and ahead of that. -/
import Derived.Test.YtfnnoecdpolbfaaTlaw
import Derived.Test.YtfnnoecdpolbfaaWApart
namespace Go.Proofs.Ytfnnoecdpolbfaa.Z
open Go.RowKit Go.Proofs.YtfnnoecdpolbfaaW.PrintWords Go.Proofs.YtfnnoecdpolbfaaW.PrintLast Go.Proofs.YtfnnoecdpolbfaaW.PrintMore
attribute [local go_sem] max2_int min2_int max_two min_two max_three min_three max_four min_four
set_option linter.unusedVariables false
set_option linter.unusedSimpArgs false
/-- Two logs side by side: the first and the rest. -/
structure Par (w3 w5 wr : World) (g1 g2 : Nat) (v1 v2 : Value) (l1 l2 : List Oc) : Prop where
  b1 : Blk wr g1 58 [v1]
  r1 : Oc.kd.R 26 wr g1 (fun _ => True) v1 l1
  b2 : Blk wr g2 58 [v2]
  r2 : Oc.kd.R 26 wr g1 (fun _ => True) v2 l2
  n1 : ∀ b, v1.ownBlock = some b → w5.heap.size ≤ b
  n2 : ∀ b, v2.ownBlock = some b → w5.heap.size ≤ b
  sep : ∀ b, v1.ownBlock = some b → v2.ownBlock ≠ some b
  fr : ∀ b, b < w5.heap.size → b ≠ g1 → b ≠ g2 → wr.heap[b]? = w5.heap[b]?
  size : w5.heap.size ≤ wr.heap.size
  low : Below g1 w3 wr
theorem R_same {α : Type} {d : Kd α} {e base : Nat} {w w1 : World} {v : Value} {xs : List α} (hE : d.E = []) (h : d.R e w base (fun _ => True) v xs) (hm : ∀ k, some k = v.ownBlock → k < w.heap.size → w1.heap[k]? = w.heap[k]?) : d.R e w1 base (fun _ => True) v xs :=
  Kd.R_mono (Kd.R_step (Kd.R_tight hE h) hm) (fun _ _ => trivial)
theorem Par.alloc {w3 w5 wr : World} {g1 g2 : Nat} {v1 v2 : Value} {l1 l2 : List Oc} (h : Par w3 w5 wr g1 g2 v1 v2 l1 l2) (hg : g1 ≤ w5.heap.size) (o : Obj) : Par w3 w5 (wr.alloc o) g1 g2 v1 v2 l1 l2 :=
  ⟨h.b1.alloc o, Kd.R_alloc h.r1 o, h.b2.alloc o, Kd.R_alloc h.r2 o, h.n1, h.n2, h.sep, fun b k1 k2 k3 => (Below.heap_alloc wr o b (Nat.lt_of_lt_of_le k1 h.size)).trans (h.fr b k1 k2 k3), by rw [World.size_alloc]; have := h.size; omega, h.low.alloc (Nat.le_trans hg h.size) o⟩
theorem Par.add1 {w3 w5 wr w' : World} {g1 g2 : Nat} {v1 v2 v' : Value} {l1 l2 l' : List Oc} (h : Par w3 w5 wr g1 g2 v1 v2 l1 l2) (hg : g1 < g2) (h2 : g2 < w5.heap.size)
    (k1 : Blk w' g1 58 [v']) (k2 : Oc.kd.R 26 w' g1 (fun _ => True) v' l') (k3 : Below g1 w3 w') (k4 : v'.ownBlock = v1.ownBlock ∨ ∃ b, v'.ownBlock = some b ∧ wr.heap.size ≤ b) (k5 : ∀ b, b < wr.heap.size → b ≠ g1 → some b ≠ v1.ownBlock → w'.heap[b]? = wr.heap[b]?) (k6 : wr.heap.size ≤ w'.heap.size) : Par w3 w5 w' g1 g2 v' v2 l' l2 := by
  have hsz := h.size
  refine ⟨k1, k2, ?_, ?_, ?_, h.n2, ?_, ?_, by omega, k3⟩
  · exact (k5 g2 (by omega) (by omega) (fun e => by have := h.n1 g2 e.symm; omega)).trans h.b2
  · refine R_same rfl h.r2 (fun k hk hl => k5 k hl (fun e => by subst e; have := h.n2 _ hk.symm; omega) (fun e => h.sep k e.symm hk.symm))
  · intro b hb
    rcases k4 with k4 | ⟨b', e, hb'⟩
    · exact h.n1 b (k4 ▸ hb)
    · rw [e] at hb; injection hb with hb; omega
  · intro b hb hb2
    rcases k4 with k4 | ⟨b', e, hb'⟩
    · exact h.sep b (k4 ▸ hb) hb2
    · rw [e] at hb
      injection hb with hb
      have := Kd.R_lt h.r2 b hb2
      omega
  · exact fun b j1 j2 j3 => (k5 b (by omega) j2 (fun e => by have := h.n1 b e.symm; omega)).trans (h.fr b j1 j2 j3)
theorem Par.add2 {w3 w5 wr w' : World} {g1 g2 : Nat} {v1 v2 v' : Value} {l1 l2 l' : List Oc} (h : Par w3 w5 wr g1 g2 v1 v2 l1 l2) (hg : g1 < g2) (h2 : g2 < w5.heap.size)
    (k1 : Blk w' g2 58 [v']) (k2 : Oc.kd.R 26 w' g1 (fun _ => True) v' l') (k3 : Below g1 w3 w') (k4 : v'.ownBlock = v2.ownBlock ∨ ∃ b, v'.ownBlock = some b ∧ wr.heap.size ≤ b) (k5 : ∀ b, b < wr.heap.size → b ≠ g2 → some b ≠ v2.ownBlock → w'.heap[b]? = wr.heap[b]?) (k6 : wr.heap.size ≤ w'.heap.size) : Par w3 w5 w' g1 g2 v1 v' l1 l' := by
  have hsz := h.size
  refine ⟨?_, ?_, k1, k2, h.n1, ?_, ?_, ?_, by omega, k3⟩
  · exact (k5 g1 (by omega) (by omega) (fun e => by have := h.n2 g1 e.symm; omega)).trans h.b1
  · refine R_same rfl h.r1 (fun k hk hl => k5 k hl (fun e => by subst e; have := h.n1 _ hk.symm; omega) (fun e => h.sep k hk.symm e.symm))
  · intro b hb
    rcases k4 with k4 | ⟨b', e, hb'⟩
    · exact h.n2 b (k4 ▸ hb)
    · rw [e] at hb; injection hb with hb; omega
  · intro b hb hb2
    rcases k4 with k4 | ⟨b', e, hb'⟩
    · exact h.sep b hb (k4 ▸ hb2)
    · rw [e] at hb2
      injection hb2 with hb2
      have := Kd.R_lt h.r1 b hb
      omega
  · exact fun b j1 j2 j3 => (k5 b (by omega) j3 (fun e => by have := h.n2 b e.symm; omega)).trans (h.fr b j1 j2 j3)
theorem cnt_leq (t y : Int) (l : List Oc) : cntB t y l ≤ l.length := List.length_filter_le _ _
theorem new_okV (w : World) : Calls Try.prog 11 #[] w fun e w' => e = .returned (.pointer (some ⟨w.heap.size, 0, none⟩)) ∧ Blk w' w.heap.size 58 [.slice none 0 0] ∧ Below w.heap.size w w' := by
  go_enter Try.func11, Try.ntmps11
  go_wp2
  go_ret
  exact ⟨rfl, Blk.new w 58 [.slice none 0 0], below_alloc (Below.refl _ w) _⟩
set_option maxHeartbeats 8000000 in
set_option maxRecDepth 100000 in
theorem tallyParts_body (A : Option Addr) (cap : Nat) (l : List Oc) (at_ t y : Int) (w : World) (hC : Oc.kd.C w A l.length l) (hlc : l.length ≤ cap) (hcap : cap ≤ maxLen) (hok : ∀ x ∈ l, x.ok) (hat : (Lit.int .u8 at_).wf = true) (ht : (Lit.int .i64 t).wf = true) (hy : (Lit.int .u8 y).wf = true) :
    Calls Try.prog 4 #[.slice A l.length cap, .int .u8 at_, .int .i64 t, .int .u8 y] w fun e w' => e = .returned (.bool true) ∧ Below w.heap.size w w' := by
  have HC := Aside0.mk hC
  have hat := wf_u8 hat
  obtain ⟨ha0, ha1⟩ := hat
  clear hC ht hy hok
  go_enter Try.func4, Try.ntmps4
  go_wp2_with (fail)
  refine (tawake_ok _).mono ?_
  rintro e w1 ⟨rfl, hb1⟩
  have HC1 := Aside0.mk (Kd.C_below HC.out hb1)
  have HB1 := Aside0.mk hb1
  clear hb1 HC
  go_wp2_with (fail)
  obtain ⟨X, hX⟩ : ∃ X, X = l.take 60 := ⟨_, rfl⟩
  have hXl : X.length ≤ 60 := by rw [hX, List.length_take]; omega
  refine (filled_ok A cap l X _ HC1.out hlc hX).mono ?_
  rintro e w2 ⟨g, v, rfl, hL, hR, hb2⟩
  obtain ⟨A2, c2, rfl⟩ := Kd.R_slice hR
  have HL := Aside0.mk hL
  have HB2 := Aside0.mk (HB1.out.trans (hb2.mono HB1.out.size))
  have hm0 : (at_ % ((X.length : Int) + 1)) ≥ 0 := Int.emod_nonneg _ (by omega)
  have hm1 : (at_ % ((X.length : Int) + 1)) < (X.length : Int) + 1 := Int.emod_lt_of_pos _ (by omega)
  obtain ⟨k, hk⟩ : ∃ k : Nat, at_ % ((X.length : Int) + 1) = (k : Int) := ⟨(at_ % ((X.length : Int) + 1)).toNat, by omega⟩
  rw [hk] at hm0 hm1
  clear hX hL hR hb2 HB1 HC1
  go_wp2_with (fail)
  rw [hk]
  clear hk
  refine (new_okV _).mono ?_
  rintro e w3 ⟨rfl, hL1, hb3⟩
  have HL3 := Aside0.mk (HL.out.below hb3)
  obtain ⟨g1, hg1⟩ : ∃ g1, g1 = w2.heap.size := ⟨_, rfl⟩
  rw [← hg1] at hL1 ⊢
  have HL1 := Aside0.mk hL1
  have HG1 := Aside0.mk hg1
  have HB3 := Aside0.mk hb3
  have hlt1 : g1 < w3.heap.size := hL1.lt
  clear hL1 hg1 hb3
  go_wp2_with (fail)
  refine (new_okV _).mono ?_
  rintro e w4 ⟨rfl, hL2, hb4⟩
  obtain ⟨g2, hg2⟩ : ∃ g2, g2 = w3.heap.size := ⟨_, rfl⟩
  rw [← hg2] at hL2 ⊢
  have HL1 := Aside0.mk (HL1.out.below hb4)
  have HL4 := Aside0.mk (HL3.out.below hb4)
  have HL2 := Aside0.mk hL2
  have hlt2 : g2 < w4.heap.size := hL2.lt
  have hlt3 : g1 < g2 := by omega
  have HB4 := Aside0.mk (show Below g1 w2 w4 by rw [HG1.out]; exact HB3.out.trans (hb4.mono HB3.out.size))
  have HLG := Aside0.mk HL.out
  clear hL2 hb4 hg2 HL3 HB3 HL
  go_wp2_with (fail)
  refine (since_ok g _ X X 0 _ HL4.out (by omega) (by rw [show (min (max (0 : Int) 0) X.length).toNat = 0 by omega]; rfl)).mono ?_
  rintro e w5 ⟨v5, rfl, hR5, hb5⟩
  obtain ⟨A5, c5, rfl⟩ := Kd.R_slice hR5
  obtain ⟨-, -, hC5⟩ := Kd.R_reads' hR5
  have hlt5 : g2 < w5.heap.size := Nat.lt_of_lt_of_le hlt2 hb5.size
  have hlow : Below g1 w2 w5 := HB4.out.trans (hb5.mono (by omega))
  have hP : Par w2 w5 w5 g1 g2 (.slice none 0 0) (.slice none 0 0) [] [] := ⟨HL1.out.below hb5, Kd.R_nil _ _ _ _ _, HL2.out.below hb5, Kd.R_nil _ _ _ _ _, fun _ h => (by cases h), fun _ h => (by cases h), fun _ h => (by cases h), fun _ _ _ _ => rfl, Nat.le_refl _, hlow⟩
  have hgl : LogAt w2 w1.heap.size g X := HLG.out
  have hCf : ∀ V, (∀ b, b < w5.heap.size → b ≠ g1 → b ≠ g2 → V.heap[b]? = w5.heap[b]?) → Oc.kd.C V A5 X.length X := fun V hV => by
    refine (Kd.R_reads' (R_same (w1 := V) rfl hR5 (fun k hk hl => hV k hl ?_ ?_))).2.2
    · intro e; have := Kd.R_base hR5 k hk.symm; omega
    · intro e; have := Kd.R_base hR5 k hk.symm; omega
  have HP := Aside0.mk hP
  have HCF := Aside0.mk hCf
  clear hP hCf hlow hC5 hR5 hb5 hgl HB4 HL1 HL2 HL4
  go_wp2_with (fail)
  go_loopw [34] (fun i wv => ∃ (j : Nat) (v1 v2 : Value), j ≤ X.length ∧ i = .int .i64 j ∧ Par w2 w5 wv g1 g2 v1 v2 ((X.take k).take j) ((X.take j).drop k)) (fun i _ => X.length - (intOf i).toNat)
  case atStart => exact ⟨0, _, _, Nat.zero_le _, rfl, by simpa using HP.out⟩
  case round =>
    obtain ⟨j, v1, v2, hj, rfl, hP⟩ := hrel
    have HP := Aside0.mk hP
    clear hP
    by_cases hlt : j < X.length
    · have hltj : (j : Int) < (X.length : Int) := by omega
      obtain ⟨ad, rfl⟩ : ∃ ad, A5 = some ad := by
        obtain ⟨ad, h, _⟩ := (HCF.out wr HP.out.fr).2.2 (by omega)
        exact ⟨ad, h⟩
      obtain ⟨x, hx⟩ : ∃ x, X[j]? = some x := ⟨_, List.getElem?_eq_getElem hlt⟩
      obtain ⟨e0, e1, e2, e3, e4, e5⟩ := Oc.came (HCF.out wr HP.out.fr) hx
      have HX := Aside0.mk hx
      clear hx
      have hN := HP.out.alloc (by omega) (.cells #[.int .u64 x.tk, .int .i64 x.tier, .int .i64 x.co, .int .u8 x.why, .int .i64 x.at_, .int .i64 x.so] 26)
      have hbox : Blk (wr.alloc (.cells #[.int .u64 x.tk, .int .i64 x.tier, .int .i64 x.co, .int .u8 x.why, .int .i64 x.at_, .int .i64 x.so] 26)) wr.heap.size 26 x.enc := Blk.new wr 26 x.enc
      go_upto_region 9 with (fail)
      obtain ⟨gq, hgq⟩ : ∃ g, g = wr.heap.size := ⟨_, rfl⟩
      rw [← hgq] at hbox ⊢
      clear hgq e0 e1 e2 e3 e4 e5 HP
      generalize (wr.alloc (.cells #[.int .u64 x.tk, .int .i64 x.tier, .int .i64 x.co, .int .u8 x.why, .int .i64 x.at_, .int .i64 x.so] 26)) = W at *
      have x0 := hbox.cell 0 rfl
      have x1 := hbox.cell 1 rfl
      have x2 := hbox.cell 2 rfl
      have x3 := hbox.cell 3 rfl
      have x4 := hbox.cell 4 rfl
      have x5 := hbox.cell 5 rfl
      have HN := Aside0.mk hN
      clear hN hbox
      by_cases hjk : j < k
      · have hjk' : (j : Int) < (k : Int) := by omega
        go_wp2_with (fail)
        refine (add_okV g1 g1 v1 _ x w2 _ (Nat.le_refl _) HN.out.b1 HN.out.r1 HN.out.low (by have := HN.out.size; omega) (by rw [List.length_take, List.length_take]; omega)).mono ?_
        rintro e w7 ⟨rfl, v', k1, k2, k3, k4, k5, k6⟩
        have HP7 := Aside0.mk (HN.out.add1 hlt3 hlt5 k1 k2 k3 k4 k5 k6)
        clear k1 k2 k3 k4 k5 k6 HN
        go_wp2_with (fail)
        go_roundw
        case rel =>
          refine ⟨j + 1, v', v2, by omega, by go_num, ?_⟩
          have a1 : (X.take k).take (j + 1) = (X.take k).take j ++ [x] := by rw [List.take_add_one, List.getElem?_take, if_pos hjk, HX.out]; rfl
          have a2 : (X.take (j + 1)).drop k = (X.take j).drop k := by rw [List.drop_eq_nil_of_le (by rw [List.length_take]; omega), List.drop_eq_nil_of_le (by rw [List.length_take]; omega)]
          rw [a1, a2]
          exact HP7.out
        case measure => simp [intOf]; omega
      · have hjk' : ¬ (j : Int) < (k : Int) := by omega
        go_wp2_with (fail)
        refine (add_okV g2 g1 v2 _ x w2 _ (Nat.le_of_lt hlt3) HN.out.b2 HN.out.r2 HN.out.low (by have := HN.out.size; omega) (by rw [List.length_drop, List.length_take]; omega)).mono ?_
        rintro e w7 ⟨rfl, v', k1, k2, k3, k4, k5, k6⟩
        have HP7 := Aside0.mk (HN.out.add2 hlt3 hlt5 k1 k2 k3 k4 k5 k6)
        clear k1 k2 k3 k4 k5 k6 HN
        go_wp2_with (fail)
        go_roundw
        case rel =>
          refine ⟨j + 1, v1, v', by omega, by go_num, ?_⟩
          have a1 : (X.take k).take (j + 1) = (X.take k).take j := (List.take_of_length_le (by rw [List.length_take]; omega)).trans (List.take_of_length_le (by rw [List.length_take]; omega)).symm
          have a2 : (X.take (j + 1)).drop k = (X.take j).drop k ++ [x] := by rw [List.take_add_one, HX.out, List.drop_append_of_le_length (by rw [List.length_take]; omega)]; rfl
          rw [a1, a2]
          exact HP7.out
        case measure => simp [intOf]; omega
    · have hltj : ¬ (j : Int) < (X.length : Int) := by omega
      have hP := HP.out
      rw [show (X.take k).take j = X.take k from List.take_of_length_le (by rw [List.length_take]; omega), show X.take j = X from List.take_of_length_le (by omega)] at hP
      have hlow := hP.low
      have hL1 : LogAt wr g1 g1 (X.take k) := ⟨Nat.le_refl _, v1, hP.b1, hP.r1⟩
      have hL2 : LogAt wr g1 g2 (X.drop k) := ⟨Nat.le_of_lt hlt3, v2, hP.b2, hP.r2⟩
      have hL : LogAt wr w1.heap.size g X := HLG.out.below (by have := HG1.out; rw [← this]; exact hlow)
      have HL := Aside0.mk hL
      have HL1 := Aside0.mk hL1
      have HL2 := Aside0.mk hL2
      have HB := Aside0.mk (HB2.out.trans (hlow.mono (by have := HB2.out.size; have := HG1.out; omega)))
      clear hP hlow hL1 hL2 hL HP HLG HB2 HCF
      go_wp2_with (fail)
      obtain ⟨D, hD⟩ : ∃ D, D = X.drop k := ⟨_, rfl⟩
      obtain ⟨F, hF⟩ : ∃ F, F = X.take k := ⟨_, rfl⟩
      have hDl : D.length ≤ 60 := by rw [hD, List.length_drop]; omega
      have hFl : (F.length : Int) = k := by rw [hF, List.length_take]; omega
      have hcp := cnt_parts t y X k
      rw [← hD, ← hF] at hcp
      rw [← hD] at HL2
      rw [← hF] at HL1
      have hcA := cnt_leq t y F
      have hcB := cnt_leq t y D
      have hFl6 : F.length ≤ 60 := by omega
      refine (since_ok g _ X D k _ HL.out (by omega) (by rw [show (min (max (k : Int) 0) X.length).toNat = k by omega]; exact hD)).mono ?_
      have HCP := Aside0.mk (And.intro hcp hFl)
      clear hD hF hcp hFl
      rintro e w6 ⟨v6, rfl, hR6, hb6⟩
      obtain ⟨A6, c6, rfl⟩ := Kd.R_slice hR6
      have HC6 := Aside0.mk (Kd.R_reads' hR6).2.2
      have HS6 := Aside0.mk (And.intro (HL.out.below hb6) (And.intro (HL1.out.below hb6) (And.intro (HL2.out.below hb6) (HB.out.trans (hb6.mono HB.out.size)))))
      clear hR6 hb6 HL HL1 HL2 HB
      go_wp2_with (fail)
      refine (own_ok A6 c6 D _ HC6.out (by omega)).mono ?_
      rintro e w7 ⟨v7, rfl, hR7, hb7⟩
      obtain ⟨A7, c7, rfl⟩ := Kd.R_slice hR7
      have HC7 := Aside0.mk (Kd.R_reads' hR7).2.2
      have HS7 := Aside0.mk (And.intro (HS6.out.1.below hb7) (And.intro (HS6.out.2.1.below hb7) (And.intro (HS6.out.2.2.1.below hb7) (HS6.out.2.2.2.trans (hb7.mono HS6.out.2.2.2.size)))))
      clear hR7 hb7 HS6 HC6
      go_wp2_with (fail)
      refine (since_ok g2 _ D D 0 _ HS7.out.2.2.1 (by omega) (by rw [show (min (max (0 : Int) 0) D.length).toNat = 0 by omega]; rfl)).mono ?_
      rintro e w8 ⟨v8, rfl, hR8, hb8⟩
      obtain ⟨A8, c8, rfl⟩ := Kd.R_slice hR8
      have HC8 := Aside0.mk (Kd.R_reads' hR8).2.2
      have HC7' := Aside0.mk (Kd.C_below HC7.out hb8)
      have HS8 := Aside0.mk (And.intro (HS7.out.1.below hb8) (And.intro (HS7.out.2.1.below hb8) (And.intro (HS7.out.2.2.1.below hb8) (HS7.out.2.2.2.trans (hb8.mono HS7.out.2.2.2.size)))))
      clear hR8 hb8 HS7 HC7
      go_wp2_with (fail)
      refine (own_ok A8 c8 D _ HC8.out (by omega)).mono ?_
      rintro e w9 ⟨v9, rfl, hR9, hb9⟩
      obtain ⟨A9, c9, rfl⟩ := Kd.R_slice hR9
      have HC9 := Aside0.mk (Kd.R_reads' hR9).2.2
      have HC7 := Aside0.mk (Kd.C_below HC7'.out hb9)
      have HS9 := Aside0.mk (And.intro (HS8.out.1.below hb9) (And.intro (HS8.out.2.1.below hb9) (And.intro (HS8.out.2.2.1.below hb9) (HS8.out.2.2.2.trans (hb9.mono HS8.out.2.2.2.size)))))
      clear hR9 hb9 HS8 HC8 HC7'
      go_wp2_with (fail)
      refine (same_ok _ _ _ _ D _ HC7.out HC9.out (by omega)).mono ?_
      rintro e w10 ⟨rfl, hb10⟩
      have HS10 := Aside0.mk (And.intro (HS9.out.1.below hb10) (And.intro (HS9.out.2.1.below hb10) (And.intro (HS9.out.2.2.1.below hb10) (HS9.out.2.2.2.trans (hb10.mono HS9.out.2.2.2.size)))))
      clear hb10 HS9 HC7 HC9
      go_wp2_with (fail)
      refine (len_ok g1 _ F _ HS10.out.2.1).mono ?_
      rintro e w11 ⟨rfl, rfl⟩
      rw [HCP.out.2]
      go_wp2_with (fail)
      have hcq := count_ok g1 _ F t y _ HS10.out.2.1 (by omega)
      rw [cnt_why] at hcq
      refine hcq.mono ?_
      clear hcq
      rintro e w12 ⟨rfl, hb12⟩
      have HS12 := Aside0.mk (And.intro (HS10.out.1.below hb12) (And.intro (HS10.out.2.2.1.below hb12) (HS10.out.2.2.2.trans (hb12.mono HS10.out.2.2.2.size))))
      clear hb12 HS10
      go_wp2_with (fail)
      have hcq := count_ok g2 _ D t y _ HS12.out.2.1 (by omega)
      rw [cnt_why] at hcq
      refine hcq.mono ?_
      clear hcq
      rintro e w13 ⟨rfl, hb13⟩
      have HS13 := Aside0.mk (And.intro (HS12.out.1.below hb13) (HS12.out.2.2.trans (hb13.mono HS12.out.2.2.size)))
      clear hb13 HS12
      go_wp2_with (fail)
      have hcq := count_ok g _ X t y _ HS13.out.1 (by omega)
      rw [cnt_why] at hcq
      refine hcq.mono ?_
      clear hcq
      rintro e w14 ⟨rfl, hb14⟩
      have HS14 := Aside0.mk (HS13.out.2.trans (hb14.mono HS13.out.2.size))
      clear hb14 HS13
      have hfin : ((cntB t y F : Int) + (cntB t y D : Int)) = (cntB t y X : Int) := by rw [← HCP.out.1]; push_cast; rfl
      go_wp2_with (fail)
      go_ret
      exact ⟨rfl, HS14.out⟩
end Go.Proofs.Ytfnnoecdpolbfaa.Z

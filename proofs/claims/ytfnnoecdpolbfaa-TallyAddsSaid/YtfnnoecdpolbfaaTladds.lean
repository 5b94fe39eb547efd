/- TallyAdds: what is counted adds up. -/
import Derived.Test.YtfnnoecdpolbfaaTlaw
namespace Go.Proofs.Ytfnnoecdpolbfaa.Z
open Go.RowKit Go.Proofs.YtfnnoecdpolbfaaW.PrintWords Go.Proofs.YtfnnoecdpolbfaaW.PrintLast Go.Proofs.YtfnnoecdpolbfaaW.PrintMore
attribute [local go_sem] max2_int min2_int max_two min_two max_three min_three max_four min_four
set_option linter.unusedVariables false
set_option linter.unusedSimpArgs false
theorem and7 (x : Int) : 0 ≤ bits BinOp.and .i64 x 7 ∧ bits BinOp.and .i64 x 7 < 8 := by
  have h : ∃ m : Nat, m ≤ 7 ∧ bits BinOp.and .i64 x 7 = IntKind.i64.wrap (m : Int) := by
    refine ⟨(BitVec.ofInt IntKind.i64.bits x &&& BitVec.ofInt IntKind.i64.bits 7).toNat, ?_, rfl⟩
    rw [BitVec.toNat_and]
    exact Nat.le_trans Nat.and_le_right (by decide)
  obtain ⟨m, hm, h⟩ := h
  rw [h]
  have : m = 0 ∨ m = 1 ∨ m = 2 ∨ m = 3 ∨ m = 4 ∨ m = 5 ∨ m = 6 ∨ m = 7 := by omega
  rcases this with rfl | rfl | rfl | rfl | rfl | rfl | rfl | rfl <;> decide +kernel
def normO (x : Oc) : Oc := ⟨x.tk, bits BinOp.and .i64 x.tier 7, x.co, 1 + x.why % 6, x.at_, x.so⟩
def Nrm (x : Oc) : Prop := 0 ≤ x.tier ∧ x.tier < 8 ∧ 1 ≤ x.why ∧ x.why < 7
theorem nrm_normO {x : Oc} (h : x.ok) : Nrm (normO x) := by
  have h1 := and7 x.tier
  have h2 := wf_u8 h.2.2.2.1
  refine ⟨h1.1, h1.2, ?_, ?_⟩
  · show 1 ≤ 1 + x.why % 6
    omega
  · show 1 + x.why % 6 < 7
    omega
theorem wfI {a : Int} (h0 : -9223372036854775808 ≤ a) (h1 : a ≤ 9223372036854775807) : (Lit.int .i64 a).wf = true := by
  simp [Lit.wf, IntKind.min, IntKind.max, IntKind.signed, IntKind.bits]
  omega
theorem wfB {a : Int} (h0 : 0 ≤ a) (h1 : a ≤ 255) : (Lit.int .u8 a).wf = true := by
  simp [Lit.wf, IntKind.min, IntKind.max, IntKind.signed, IntKind.bits]
  omega
theorem ok_normO {x : Oc} (h : x.ok) : (normO x).ok := by
  have h1 := nrm_normO h
  obtain ⟨k1, k2, k3, k4⟩ := h1
  exact ⟨h.1, wfI (by omega) (by omega), h.2.2.1, wfB (by omega) (by omega), h.2.2.2.2.1, h.2.2.2.2.2⟩
/-- Of a tier, and a why of at most j. -/
def cwF (t j : Int) (l : List Oc) : Nat := (l.filter fun o => decide (o.tier = t) && decide (o.why ≤ j)).length
/-- Of a tier below t. -/
def ctF (t : Int) (l : List Oc) : Nat := (l.filter fun o => decide (o.tier < t)).length
theorem filter_cons_len {α : Type} (p : α → Bool) (x : α) (l : List α) : ((x :: l).filter p).length = (l.filter p).length + if p x then 1 else 0 := by
  by_cases h : p x <;> simp [List.filter, h]
theorem cw_zero {l : List Oc} (h : ∀ x ∈ l, Nrm x) (t : Int) : cwF t 0 l = 0 := by
  unfold cwF
  rw [List.length_eq_zero_iff, List.filter_eq_nil_iff]
  intro x hx
  have := h x hx
  unfold Nrm at this
  simp
  omega
theorem cw_step {l : List Oc} (h : ∀ x ∈ l, Nrm x) (t j : Int) (ht : 0 ≤ t) (hj : 0 ≤ j) : cwF t j l + cntB t (j + 1) l = cwF t (j + 1) l := by
  induction l with
  | nil => rfl
  | cons x l ih =>
    have ih := ih (fun y hy => h y (List.mem_cons_of_mem _ hy))
    have hx := h x (List.mem_cons_self)
    unfold cwF cntB at *
    rw [filter_cons_len, filter_cons_len, filter_cons_len, ← ih]
    have e : (if (decide (x.tier = t) && decide (x.why ≤ j)) = true then 1 else 0) + (if isB x t (j + 1) = true then 1 else 0) = (if (decide (x.tier = t) && decide (x.why ≤ j + 1)) = true then 1 else 0) := by
      unfold isB
      by_cases h1 : x.tier = t
      · by_cases h2 : x.why ≤ j
        · simp [h1, h2, show ¬ t < 0 by omega, show ¬ j + 1 = 0 by omega, show ¬ x.why = j + 1 by omega, show x.why ≤ j + 1 by omega]
        · by_cases h3 : x.why = j + 1
          · simp [h1, h3, show ¬ t < 0 by omega, show ¬ j + 1 = 0 by omega, show ¬ j + 1 ≤ j by omega]
          · simp [h1, h2, h3, show ¬ t < 0 by omega, show ¬ j + 1 = 0 by omega, show ¬ x.why ≤ j + 1 by omega]
      · simp [h1, show ¬ t < 0 by omega]
    omega
theorem cw_all {l : List Oc} (h : ∀ x ∈ l, Nrm x) (t : Int) (ht : 0 ≤ t) : cwF t 6 l = cntB t 0 l := by
  unfold cwF cntB
  congr 1
  refine List.filter_congr fun x hx => ?_
  have := h x hx
  unfold Nrm at this
  unfold isB
  simp [show ¬ t < 0 by omega, show x.why ≤ 6 by omega]
theorem ct_zero {l : List Oc} (h : ∀ x ∈ l, Nrm x) : ctF 0 l = 0 := by
  unfold ctF
  rw [List.length_eq_zero_iff, List.filter_eq_nil_iff]
  intro x hx
  have := h x hx
  unfold Nrm at this
  simp
  omega
theorem ct_step (l : List Oc) (t : Int) (ht : 0 ≤ t) : ctF t l + cntB t 0 l = ctF (t + 1) l := by
  induction l with
  | nil => rfl
  | cons x l ih =>
    unfold ctF cntB at *
    rw [filter_cons_len, filter_cons_len, filter_cons_len, ← ih]
    have e : (if (decide (x.tier < t)) = true then 1 else 0) + (if isB x t 0 = true then 1 else 0) = (if (decide (x.tier < t + 1)) = true then 1 else 0) := by
      unfold isB
      by_cases h1 : x.tier = t
      · simp [h1, show ¬ t < 0 by omega, show t < t + 1 by omega]
      · by_cases h2 : x.tier < t
        · simp [h1, h2, show ¬ t < 0 by omega, show x.tier < t + 1 by omega]
        · simp [h1, h2, show ¬ t < 0 by omega, show ¬ x.tier < t + 1 by omega]
    omega
theorem ct_all {l : List Oc} (h : ∀ x ∈ l, Nrm x) : ctF 8 l = l.length := by
  unfold ctF
  rw [List.filter_eq_self.2]
  intro x hx
  have := h x hx
  unfold Nrm at this
  simp
  omega
theorem cnt_all (l : List Oc) : cntB (-1) 0 l = l.length := by
  unfold cntB
  rw [List.filter_eq_self.2]
  intro x hx
  simp [isB]
theorem cnt_le (t y : Int) (l : List Oc) : cntB t y l ≤ l.length := List.length_filter_le _ _
theorem cw_le (t y : Int) (l : List Oc) : cwF t y l ≤ l.length := List.length_filter_le _ _
theorem ct_le (t : Int) (l : List Oc) : ctF t l ≤ l.length := List.length_filter_le _ _
theorem spr_nat (t : Int) (l : List Oc) : ∀ x ∈ sprF t l, 0 ≤ x := by
  rw [spr_cnts]
  intro x hx
  unfold cntsF at hx
  obtain ⟨k, _, rfl⟩ := List.mem_map.1 hx
  omega
theorem sum_take_le {l : List Int} (h : ∀ x ∈ l, 0 ≤ x) (k : Nat) : 0 ≤ (l.take k).sum ∧ (l.take k).sum ≤ l.sum := by
  induction l generalizing k with
  | nil => simp
  | cons a l ih =>
    have ha := h a (List.mem_cons_self)
    have ih := fun k => ih (fun y hy => h y (List.mem_cons_of_mem _ hy)) k
    cases k with
    | zero => have := (ih l.length).2; have h3 := (ih l.length).1; rw [List.take_length] at h3; simp; omega
    | succ k => have := ih k; simp; omega
set_option maxHeartbeats 8000000 in
set_option maxRecDepth 100000 in
theorem tallyAdds_body (A : Option Addr) (cap : Nat) (l : List Oc) (w : World) (hC : Oc.kd.C w A l.length l) (hlc : l.length ≤ cap) (hcap : cap ≤ maxLen) (hy : l.length * 48 ≤ 140737488351232) (hok : ∀ x ∈ l, x.ok) :
    Calls Try.prog 3 #[.slice A l.length cap] w fun e w' => e = .returned (.bool true) ∧ Below w.heap.size w w' := by
  have HC := Aside0.mk hC
  have HOK := Aside0.mk hok
  clear hC hok
  go_enter Try.func3, Try.ntmps3
  go_wp2_with (fail)
  refine (tawake_ok _).mono ?_
  rintro e w1 ⟨rfl, hb1⟩
  have HC1 := Aside0.mk (Kd.C_below HC.out hb1)
  have HB1 := Aside0.mk hb1
  clear hb1 HC
  go_wp2_with (fail)
  go_loopw [3, 19] (fun v i wr => ∃ k : Nat, k ≤ l.length ∧ i = .int .i64 k ∧ Oc.kd.R 26 wr w1.heap.size (fun _ => True) v ((l.map normO).take k) ∧ Below w1.heap.size w1 wr) (fun _ i _ => l.length - (intOf i).toNat)
  case atStart => exact ⟨0, Nat.zero_le _, rfl, Kd.R_nil _ _ _ _ _, Below.refl _ _⟩
  case round =>
    obtain ⟨k, hk, rfl, hR, hb⟩ := hrel
    have HR := Aside0.mk hR
    have HB := Aside0.mk hb
    obtain ⟨A', c', hv⟩ := Kd.R_slice hR
    rw [List.length_take, List.length_map, Nat.min_eq_left hk] at hv
    subst hv
    clear hR hb
    by_cases hlt : k < l.length
    · have hlt' : (k : Int) < (l.length : Int) := by omega
      obtain ⟨ad, rfl⟩ : ∃ ad, A = some ad := by
        obtain ⟨ad, h, _⟩ := HC1.out.2.2 (by omega)
        exact ⟨ad, h⟩
      obtain ⟨x, hx⟩ : ∃ x, l[k]? = some x := ⟨_, List.getElem?_eq_getElem hlt⟩
      obtain ⟨e0, e1, e2, e3, e4, e5⟩ := Oc.came (Kd.C_below HC1.out HB.out) hx
      have h2 := wf_u8 (HOK.out x (List.mem_of_getElem? hx)).2.2.2.1
      have h20 := h2.1
      have h21 := h2.2
      have htk : (l.map normO).take (k + 1) = (l.map normO).take k ++ [normO x] := by rw [List.take_add_one, List.getElem?_map, hx]; rfl
      go_upto_region 8 with (fail)
      have hbox := Blk.new wr 26 (normO x).enc
      have hbox : Blk (wr.alloc (.cells #[.int .u64 x.tk, .int .i64 (bits BinOp.and .i64 x.tier 7), .int .i64 x.co, .int .u8 (1 + x.why % 6), .int .i64 x.at_, .int .i64 x.so] 26)) wr.heap.size 26 (normO x).enc := hbox
      have hR2 := Kd.R_alloc HR.out (.cells #[.int .u64 x.tk, .int .i64 (bits BinOp.and .i64 x.tier 7), .int .i64 x.co, .int .u8 (1 + x.why % 6), .int .i64 x.at_, .int .i64 x.so] 26)
      have hB2 := HB.out.alloc HB.out.size (.cells #[.int .u64 x.tk, .int .i64 (bits BinOp.and .i64 x.tier 7), .int .i64 x.co, .int .u8 (1 + x.why % 6), .int .i64 x.at_, .int .i64 x.so] 26)
      obtain ⟨gq, hgq⟩ : ∃ g, g = wr.heap.size := ⟨_, rfl⟩
      rw [← hgq] at hbox ⊢
      clear hgq e0 e1 e2 e3 e4 e5
      generalize (wr.alloc (.cells #[.int .u64 x.tk, .int .i64 (bits BinOp.and .i64 x.tier 7), .int .i64 x.co, .int .u8 (1 + x.why % 6), .int .i64 x.at_, .int .i64 x.so] 26)) = W at *
      have x0 := hbox.cell 0 rfl
      have x1 := hbox.cell 1 rfl
      have x2 := hbox.cell 2 rfl
      have x3 := hbox.cell 3 rfl
      have x4 := hbox.cell 4 rfl
      have x5 := hbox.cell 5 rfl
      have HR2 := Aside0.mk hR2
      have HB2 := Aside0.mk hB2
      have HTK := Aside0.mk htk
      clear hR2 hB2 hbox hx htk
      generalize hN : normO x = N at *
      clear hN
      go_wp2_with (at_builtin; refine Kd.R_append Oc.kd (w0 := w1) w1.heap.size rfl (.tmp 32) (.tmp 34) 22 26 (.agg #[.int .u64 0, .int .i64 0, .int .i64 0, .int .u8 0, .int .i64 0, .int .i64 0]) 48 rfl Try.underlying22 (by kernel_rfl) rfl (by decide) (by omega) _ ((l.map normO).take k) N N.enc (fun _ => True) (fun _ => False) rfl rfl rfl (fun _ hk => hk.elim) (fun _ _ => trivial) HR2.out HB2.out HB2.out.size (by rw [List.length_take, List.length_map]; omega) ?_; intro v8 w8 hR8 hB8 hg8 _; have HR8 := Aside0.mk hR8; have HB8 := Aside0.mk hB8; clear hR8 hB8 hg8)
      go_roundw
      case rel => exact ⟨k + 1, by omega, by go_num, by rw [HTK.out]; exact HR8.out, HB8.out⟩
      case measure => simp [intOf]; omega
    · obtain rfl : k = l.length := by omega
      rw [show (l.map normO).take l.length = l.map normO by rw [← List.length_map (f := normO), List.take_length]] at HR
      have hnm : ∀ x ∈ l.map normO, Nrm x := fun x hx => by
        obtain ⟨y, hy, rfl⟩ := List.mem_map.1 hx
        exact nrm_normO (HOK.out y hy)
      have hno : ∀ x ∈ l.map normO, x.ok := fun x hx => by
        obtain ⟨y, hy, rfl⟩ := List.mem_map.1 hx
        exact ok_normO (HOK.out y hy)
      have HNM := Aside0.mk hnm
      have HNO := Aside0.mk hno
      obtain ⟨S, hS⟩ : ∃ S, S = l.map normO := ⟨_, rfl⟩
      have hSl : S.length = l.length := by rw [hS, List.length_map]
      rw [← hS] at HR HNM HNO
      have HSL := Aside0.mk hSl
      rw [← hSl] at hlc hy HR HC1 hk hlt ⊢
      clear hSl
      clear hS hnm hno
      obtain ⟨_, hc', hCS⟩ := Kd.R_reads' HR.out
      have HCS := Aside0.mk hCS
      have hbS : Below w.heap.size w wr := HB1.out.trans (HB.out.mono HB1.out.size)
      have HBS := Aside0.mk hbS
      clear hCS hbS HR HB HC1 HB1
      go_wp2_with (fail)
      obtain ⟨X, hX⟩ : ∃ X, X = S.take 60 := ⟨_, rfl⟩
      have hXl : X.length ≤ 60 := by rw [hX, List.length_take]; omega
      have hXN : ∀ x ∈ X, Nrm x := fun x hx => HNM.out x (List.mem_of_mem_take (by rw [← hX]; exact hx))
      refine (filled_ok A' c' S X _ HCS.out hc' hX).mono ?_
      rintro e w2 ⟨g, v, rfl, hL, hR, hb2⟩
      obtain ⟨A2, c2, rfl⟩ := Kd.R_slice hR
      have HL := Aside0.mk hL
      have HXN := Aside0.mk hXN
      have hXO : ∀ x ∈ X, x.ok := fun x hx => HNO.out x (List.mem_of_mem_take (by rw [← hX]; exact hx))
      have HXO := Aside0.mk hXO
      have HB2 := Aside0.mk (HBS.out.trans (hb2.mono HBS.out.size))
      clear hXO hX hL hR hb2 hXN HBS HCS HNM hc'
      go_wp2_with (fail)
      go_loopw [8, 42] (fun s i wv => ∃ t : Nat, t ≤ 8 ∧ i = .int .i64 t ∧ s = .int .i64 (ctF (t : Int) X : Nat) ∧ Below w2.heap.size w2 wv) (fun _ i _ => 8 - (intOf i).toNat)
      case atStart => exact ⟨0, Nat.zero_le _, rfl, by rw [show ((0 : Nat) : Int) = 0 from rfl, ct_zero HXN.out]; rfl, Below.refl _ _⟩
      case round =>
        obtain ⟨t, ht, rfl, rfl, hb3⟩ := hrel
        have HB3 := Aside0.mk hb3
        have hct := ct_le t X
        clear hb3
        by_cases hlt : t < 8
        · have hlt' : (t : Int) < 8 := by omega
          have hcs := ct_step X t (by omega)
          have HCS2 := Aside0.mk hcs
          clear hcs
          go_wp2_with (fail)
          go_loopw [11, 45] (fun s i wv => ∃ j : Nat, j ≤ 6 ∧ i = .int .u8 j ∧ s = .int .i64 (cwF (t : Int) (j : Int) X : Nat) ∧ Below w2.heap.size w2 wv) (fun _ i _ => 6 - (intOf i).toNat)
          case atStart => exact ⟨0, Nat.zero_le _, rfl, by rw [show ((0 : Nat) : Int) = 0 from rfl, cw_zero HXN.out]; rfl, HB3.out⟩
          case round =>
            obtain ⟨j, hj, rfl, rfl, hb4⟩ := hrel
            have HB4 := Aside0.mk hb4
            have hcw := cw_le t j X
            clear hb4
            by_cases hltj : j < 6
            · have hltj' : (j : Int) < 6 := by omega
              have hcs := cw_step HXN.out t j (by omega) (by omega)
              have hc3 := cnt_le t (j + 1) X
              have HCS3 := Aside0.mk hcs
              clear hcs
              go_wp2_with (fail)
              refine (count_ok g _ X t (j + 1) _ (HL.out.below HB4.out) (by omega)).mono ?_
              rintro e w5 ⟨rfl, hb5⟩
              rw [cnt_why]
              have HB5 := Aside0.mk (HB4.out.trans (hb5.mono HB4.out.size))
              clear hb5 HB4
              go_wp2_with (fail)
              go_roundw
              case rel => exact ⟨j + 1, by omega, by go_num, by rw [show ((j + 1 : Nat) : Int) = (j : Int) + 1 from rfl, ← HCS3.out]; push_cast; rfl, HB5.out⟩
              case measure => simp [intOf]; omega
            · have e6 : cwF (t : Int) (j : Int) X = cntB t 0 X := by rw [show (j : Int) = 6 by omega]; exact cw_all HXN.out t (by omega)
              have hltj' : ¬ (j : Int) < 6 := by omega
              have hcl := cnt_le t 0 X
              rw [e6] at hcw ⊢
              clear e6
              go_wp2_with (fail)
              refine (count_ok g _ X t 0 _ (HL.out.below HB4.out) (by omega)).mono ?_
              rintro e w5 ⟨rfl, hb5⟩
              rw [cnt_why]
              have HB5 := Aside0.mk (HB4.out.trans (hb5.mono HB4.out.size))
              clear hb5 HB4
              go_wp2_with (fail)
              go_roundw
              case rel => exact ⟨t + 1, by omega, by go_num, by rw [show ((t + 1 : Nat) : Int) = (t : Int) + 1 from rfl, ← HCS2.out]; push_cast; rfl, HB5.out⟩
              case measure => simp [intOf]; omega
        · have e8 : ctF (t : Int) X = X.length := by rw [show (t : Int) = 8 by omega]; exact ct_all HXN.out
          have hlt' : ¬ (t : Int) < 8 := by omega
          rw [e8] at hct ⊢
          clear e8
          go_wp2_with (fail)
          refine (spread_ok g _ X (-1) _ (HL.out.below HB3.out) (by omega) HXO.out).mono ?_
          rintro e w5 ⟨v5, rfl, hR5, hb5⟩
          have hL5 := (HL.out.below HB3.out).below hb5
          have hB5 := HB2.out.trans ((HB3.out.trans (hb5.mono HB3.out.size)).mono HB2.out.size)
          have hnn := spr_nat (-1) X
          have hsm := spr_sum (-1) X
          obtain ⟨Z, hZ⟩ : ∃ Z, Z = sprF (-1) X := ⟨_, rfl⟩
          rw [← hZ] at hR5 hnn hsm
          obtain ⟨A5, c5, rfl⟩ := Kd.R_slice hR5
          have hC5 := (Kd.R_reads' hR5).2.2
          have hZl : Z.length ≤ 65 := by rw [hZ]; exact spr_len _ _
          have hcl : cntB (-1) 1 X ≤ X.length := cnt_le _ _ _
          have hsl := sum_take_le hnn
          rw [show (X.filter fun o => isB o (-1) 1).length = cntB (-1) 1 X from rfl] at hsm
          rw [hsm] at hsl
          have HSM := Aside0.mk hsm
          have HSL := Aside0.mk hsl
          have HC5 := Aside0.mk hC5
          have HL5 := Aside0.mk hL5
          have HB5 := Aside0.mk hB5
          clear hZ hR5 hnn hsm hsl hC5 hL5 hB5 hb5 HL HB3 HB2
          go_wp2_with (fail)
          go_loopw [9, 68] (fun s i wv => ∃ k : Nat, k ≤ Z.length ∧ i = .int .i64 k ∧ s = .int .i64 (Z.take k).sum ∧ wv = w5) (fun _ i _ => Z.length - (intOf i).toNat)
          case atStart => exact ⟨0, Nat.zero_le _, rfl, rfl, rfl⟩
          case round =>
            obtain ⟨k, hk, rfl, rfl, rfl⟩ := hrel
            obtain ⟨hs0, hs1⟩ := HSL.out k
            by_cases hlt : k < Z.length
            · have hlt2 : (k : Int) < (Z.length : Int) := by omega
              obtain ⟨ad, rfl⟩ : ∃ ad, A5 = some ad := by
                obtain ⟨ad, h, _⟩ := HC5.out.2.2 (by omega)
                exact ⟨ad, h⟩
              obtain ⟨x, hx⟩ : ∃ x, Z[k]? = some x := ⟨_, List.getElem?_eq_getElem hlt⟩
              have c1 := i_came HC5.out hx
              obtain ⟨hs2, hs3⟩ := HSL.out (k + 1)
              have htk : (Z.take (k + 1)).sum = (Z.take k).sum + x := by rw [List.take_add_one, hx]; simp
              rw [htk] at hs2 hs3
              have HTK := Aside0.mk htk
              clear hx htk
              go_wp2_with (fail)
              go_roundw
              case rel => exact ⟨k + 1, by omega, by go_num, by rw [HTK.out], by first | rfl | trivial⟩
              case measure => simp [intOf]; omega
            · have hks : (Z.take k).sum = (cntB (-1) 1 X : Int) := by rw [List.take_of_length_le (by omega)]; exact HSM.out
              have hlt2 : ¬ (k : Int) < (Z.length : Int) := by omega
              rw [hks]
              clear hks hs0 hs1
              go_wp2_with (fail)
              have hcA := count_ok g _ X (-1) 0 _ HL5.out (by omega)
              rw [cnt_why, cnt_all] at hcA
              refine hcA.mono ?_
              clear hcA
              rintro e w6 ⟨rfl, hb6⟩
              have HL6 := Aside0.mk (HL5.out.below hb6)
              have HB6 := Aside0.mk (HB5.out.trans (hb6.mono HB5.out.size))
              clear hb6 HL5 HB5
              go_wp2_with (fail)
              have hcA := count_ok g _ X (-1) 1 _ HL6.out (by omega)
              rw [cnt_why] at hcA
              refine hcA.mono ?_
              clear hcA
              rintro e w7 ⟨rfl, hb7⟩
              have HB7 := Aside0.mk (HB6.out.trans (hb7.mono HB6.out.size))
              clear hb7 HL6 HB6
              go_wp2_with (fail)
              go_ret
              exact ⟨rfl, HB7.out⟩
end Go.Proofs.Ytfnnoecdpolbfaa.Z

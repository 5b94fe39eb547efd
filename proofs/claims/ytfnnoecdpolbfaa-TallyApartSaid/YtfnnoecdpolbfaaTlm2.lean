/- The document's Some. -/
import Derived.Test.YtfnnoecdpolbfaaTlr
namespace Go.Proofs.Ytfnnoecdpolbfaa.Z
open Go.RowKit Go.Proofs.YtfnnoecdpolbfaaW.PrintWords Go.Proofs.YtfnnoecdpolbfaaW.PrintLast Go.Proofs.YtfnnoecdpolbfaaW.PrintMore
attribute [local go_sem] max2_int min2_int max_two min_two max_three min_three max_four min_four
set_option linter.unusedVariables false
set_option linter.unusedSimpArgs false
def ofB (t y : Int) (l : List Oc) : List Oc := l.filter fun o => isB o t y
theorem ofB_snoc (t y : Int) (l : List Oc) (k : Nat) (x : Oc) (h : l[k]? = some x) : ofB t y (l.take (k + 1)) = ofB t y (l.take k) ++ if isB x t y then [x] else [] := by
  unfold ofB
  rw [List.take_add_one, h, List.filter_append]
  congr 1
  show List.filter _ [x] = _
  by_cases hb : isB x t y <;> simp [List.filter, hb]
set_option maxHeartbeats 4000000 in
set_option maxRecDepth 100000 in
theorem rsome_ok (A : Option Addr) (c : Nat) (l : List Oc) (t y : Int) (w : World) (hC : Oc.kd.C w A l.length l) (hl : l.length ≤ 1000) :
    Calls Try.prog 20 #[.slice A l.length c, .int .i64 t, .int .u8 y] w fun e w' => ∃ v, e = .returned v ∧ Oc.kd.R 49 w' w.heap.size (fun _ => True) v (ofB t y l) ∧ Below w.heap.size w w' := by
  have HC := Aside0.mk hC
  clear hC
  go_enter Try.func20, Try.ntmps20
  go_wp2_with (fail)
  go_loopw [7, 12] (fun v i wr => ∃ k : Nat, k ≤ l.length ∧ i = .int .i64 k ∧ Oc.kd.R 49 wr w.heap.size (fun _ => True) v (ofB t y (l.take k)) ∧ Below w.heap.size w wr) (fun _ i _ => l.length - (intOf i).toNat)
  case atStart => exact ⟨0, Nat.zero_le _, rfl, Kd.R_nil _ _ _ _ _, Below.refl _ _⟩
  case round =>
    obtain ⟨k, hk, rfl, hR, hb⟩ := hrel
    have HR := Aside0.mk hR
    have HB := Aside0.mk hb
    have hll : (ofB t y (l.take k)).length ≤ 1000 := Nat.le_trans (List.length_filter_le _ _) (by rw [List.length_take]; omega)
    have HLL := Aside0.mk hll
    clear hR hb hll
    by_cases hlt : k < l.length
    · have hlt' : (k : Int) < (l.length : Int) := by omega
      obtain ⟨ad, rfl⟩ : ∃ ad, A = some ad := by
        obtain ⟨ad, h, _⟩ := HC.out.2.2 (by omega)
        exact ⟨ad, h⟩
      obtain ⟨x, hx⟩ : ∃ x, l[k]? = some x := ⟨_, List.getElem?_eq_getElem hlt⟩
      obtain ⟨e0, e1, e2, e3, e4, e5⟩ := Oc.came (Kd.C_below HC.out HB.out) hx
      have htk := ofB_snoc t y l k x hx
      clear hx
      by_cases h1 : t < 0
      · have d1 : decide (t < 0) = true := decide_eq_true h1
        by_cases h2 : y = 0
        · have b2 : (y == 0) = true := by simp [h2]
          have HTK := Aside0.mk (htk.trans (by rw [if_pos (by simp [isB, h1, h2])]))
          clear htk h2
          go_upto_region 6 with (fail)
          have hbox := Blk.new wr 49 [.int .u64 x.tk, .int .i64 x.tier, .int .i64 x.co, .int .u8 x.why, .int .i64 x.at_, .int .i64 x.so]
          have hbox : Blk (wr.alloc (.cells #[.int .u64 x.tk, .int .i64 x.tier, .int .i64 x.co, .int .u8 x.why, .int .i64 x.at_, .int .i64 x.so] 49)) wr.heap.size 49 [.int .u64 x.tk, .int .i64 x.tier, .int .i64 x.co, .int .u8 x.why, .int .i64 x.at_, .int .i64 x.so] := hbox
          have hR2 := Kd.R_alloc HR.out (.cells #[.int .u64 x.tk, .int .i64 x.tier, .int .i64 x.co, .int .u8 x.why, .int .i64 x.at_, .int .i64 x.so] 49)
          have hB2 := HB.out.alloc HB.out.size (.cells #[.int .u64 x.tk, .int .i64 x.tier, .int .i64 x.co, .int .u8 x.why, .int .i64 x.at_, .int .i64 x.so] 49)
          obtain ⟨gq, hgq⟩ : ∃ g, g = wr.heap.size := ⟨_, rfl⟩
          rw [← hgq] at hbox ⊢
          clear hgq e0 e1 e2 e3 e4 e5
          generalize (wr.alloc (.cells #[.int .u64 x.tk, .int .i64 x.tier, .int .i64 x.co, .int .u8 x.why, .int .i64 x.at_, .int .i64 x.so] 49)) = W at *
          have x0 := hbox.cell 0 rfl
          have x1 := hbox.cell 1 rfl
          have x2 := hbox.cell 2 rfl
          have x3 := hbox.cell 3 rfl
          have x4 := hbox.cell 4 rfl
          have x5 := hbox.cell 5 rfl
          have HR2 := Aside0.mk hR2
          have HB2 := Aside0.mk hB2
          clear hR2 hB2 hbox
          go_wp2_with (at_builtin; refine Kd.R_append Oc.kd (w0 := w) w.heap.size rfl (.tmp 34) (.tmp 36) 28 49 (.agg #[.int .u64 0, .int .i64 0, .int .i64 0, .int .u8 0, .int .i64 0, .int .i64 0]) 48 rfl Try.underlying28 (by kernel_rfl) rfl (by decide) (by omega) _ (ofB t y (l.take k)) x x.enc (fun _ => True) (fun _ => False) rfl rfl rfl (fun _ hk => hk.elim) (fun _ _ => trivial) HR2.out HB2.out HB2.out.size (by have := HLL.out; omega) ?_; intro v8 w8 hR8 hB8 hg8 _; have HR8 := Aside0.mk hR8; have HB8 := Aside0.mk hB8; clear hR8 hB8 hg8)
          go_roundw
          case rel => exact ⟨k + 1, by omega, by go_num, by rw [HTK.out]; exact HR8.out, HB8.out⟩
          case measure => simp [intOf]; omega
        · have b2 : (y == 0) = false := by simp [h2]
          by_cases h3 : x.why = y
          · have b3 : (y == x.why) = true := by simp [h3]
            have HTK := Aside0.mk (htk.trans (by rw [if_pos (by simp [isB, h1, h2, h3])]))
            clear htk h2 h3
            go_upto_region 6 with (fail)
            have hbox := Blk.new wr 49 [.int .u64 x.tk, .int .i64 x.tier, .int .i64 x.co, .int .u8 x.why, .int .i64 x.at_, .int .i64 x.so]
            have hbox : Blk (wr.alloc (.cells #[.int .u64 x.tk, .int .i64 x.tier, .int .i64 x.co, .int .u8 x.why, .int .i64 x.at_, .int .i64 x.so] 49)) wr.heap.size 49 [.int .u64 x.tk, .int .i64 x.tier, .int .i64 x.co, .int .u8 x.why, .int .i64 x.at_, .int .i64 x.so] := hbox
            have hR2 := Kd.R_alloc HR.out (.cells #[.int .u64 x.tk, .int .i64 x.tier, .int .i64 x.co, .int .u8 x.why, .int .i64 x.at_, .int .i64 x.so] 49)
            have hB2 := HB.out.alloc HB.out.size (.cells #[.int .u64 x.tk, .int .i64 x.tier, .int .i64 x.co, .int .u8 x.why, .int .i64 x.at_, .int .i64 x.so] 49)
            obtain ⟨gq, hgq⟩ : ∃ g, g = wr.heap.size := ⟨_, rfl⟩
            rw [← hgq] at hbox ⊢
            clear hgq e0 e1 e2 e3 e4 e5
            generalize (wr.alloc (.cells #[.int .u64 x.tk, .int .i64 x.tier, .int .i64 x.co, .int .u8 x.why, .int .i64 x.at_, .int .i64 x.so] 49)) = W at *
            have x0 := hbox.cell 0 rfl
            have x1 := hbox.cell 1 rfl
            have x2 := hbox.cell 2 rfl
            have x3 := hbox.cell 3 rfl
            have x4 := hbox.cell 4 rfl
            have x5 := hbox.cell 5 rfl
            have HR2 := Aside0.mk hR2
            have HB2 := Aside0.mk hB2
            clear hR2 hB2 hbox
            go_wp2_with (at_builtin; refine Kd.R_append Oc.kd (w0 := w) w.heap.size rfl (.tmp 34) (.tmp 36) 28 49 (.agg #[.int .u64 0, .int .i64 0, .int .i64 0, .int .u8 0, .int .i64 0, .int .i64 0]) 48 rfl Try.underlying28 (by kernel_rfl) rfl (by decide) (by omega) _ (ofB t y (l.take k)) x x.enc (fun _ => True) (fun _ => False) rfl rfl rfl (fun _ hk => hk.elim) (fun _ _ => trivial) HR2.out HB2.out HB2.out.size (by have := HLL.out; omega) ?_; intro v8 w8 hR8 hB8 hg8 _; have HR8 := Aside0.mk hR8; have HB8 := Aside0.mk hB8; clear hR8 hB8 hg8)
            go_roundw
            case rel => exact ⟨k + 1, by omega, by go_num, by rw [HTK.out]; exact HR8.out, HB8.out⟩
            case measure => simp [intOf]; omega
          · have h3' : ¬ y = x.why := fun h => h3 h.symm
            have b3 : (y == x.why) = false := by simp [h3']
            have HTK := Aside0.mk (htk.trans (by rw [if_neg (by simp [isB, h1, h2, h3]), List.append_nil]))
            have HR2 := Aside0.mk (Kd.R_alloc HR.out (.cells #[.int .u64 x.tk, .int .i64 x.tier, .int .i64 x.co, .int .u8 x.why, .int .i64 x.at_, .int .i64 x.so] 49))
            have HB2 := Aside0.mk (HB.out.alloc HB.out.size (.cells #[.int .u64 x.tk, .int .i64 x.tier, .int .i64 x.co, .int .u8 x.why, .int .i64 x.at_, .int .i64 x.so] 49))
            clear htk h2 h3
            go_wp2_with (fail)
            go_roundw
            case rel => exact ⟨k + 1, by omega, by go_num, by rw [HTK.out]; exact HR2.out, HB2.out⟩
            case measure => simp [intOf]; omega
      · have d1 : decide (t < 0) = false := decide_eq_false h1
        by_cases h4 : x.tier = t
        · have b4 : (t == x.tier) = true := by simp [h4]
          by_cases h2 : y = 0
          · have b2 : (y == 0) = true := by simp [h2]
            have HTK := Aside0.mk (htk.trans (by rw [if_pos (by simp [isB, h1, h4, h2])]))
            clear htk h4 h2
            go_upto_region 6 with (fail)
            have hbox := Blk.new wr 49 [.int .u64 x.tk, .int .i64 x.tier, .int .i64 x.co, .int .u8 x.why, .int .i64 x.at_, .int .i64 x.so]
            have hbox : Blk (wr.alloc (.cells #[.int .u64 x.tk, .int .i64 x.tier, .int .i64 x.co, .int .u8 x.why, .int .i64 x.at_, .int .i64 x.so] 49)) wr.heap.size 49 [.int .u64 x.tk, .int .i64 x.tier, .int .i64 x.co, .int .u8 x.why, .int .i64 x.at_, .int .i64 x.so] := hbox
            have hR2 := Kd.R_alloc HR.out (.cells #[.int .u64 x.tk, .int .i64 x.tier, .int .i64 x.co, .int .u8 x.why, .int .i64 x.at_, .int .i64 x.so] 49)
            have hB2 := HB.out.alloc HB.out.size (.cells #[.int .u64 x.tk, .int .i64 x.tier, .int .i64 x.co, .int .u8 x.why, .int .i64 x.at_, .int .i64 x.so] 49)
            obtain ⟨gq, hgq⟩ : ∃ g, g = wr.heap.size := ⟨_, rfl⟩
            rw [← hgq] at hbox ⊢
            clear hgq e0 e1 e2 e3 e4 e5
            generalize (wr.alloc (.cells #[.int .u64 x.tk, .int .i64 x.tier, .int .i64 x.co, .int .u8 x.why, .int .i64 x.at_, .int .i64 x.so] 49)) = W at *
            have x0 := hbox.cell 0 rfl
            have x1 := hbox.cell 1 rfl
            have x2 := hbox.cell 2 rfl
            have x3 := hbox.cell 3 rfl
            have x4 := hbox.cell 4 rfl
            have x5 := hbox.cell 5 rfl
            have HR2 := Aside0.mk hR2
            have HB2 := Aside0.mk hB2
            clear hR2 hB2 hbox
            go_wp2_with (at_builtin; refine Kd.R_append Oc.kd (w0 := w) w.heap.size rfl (.tmp 34) (.tmp 36) 28 49 (.agg #[.int .u64 0, .int .i64 0, .int .i64 0, .int .u8 0, .int .i64 0, .int .i64 0]) 48 rfl Try.underlying28 (by kernel_rfl) rfl (by decide) (by omega) _ (ofB t y (l.take k)) x x.enc (fun _ => True) (fun _ => False) rfl rfl rfl (fun _ hk => hk.elim) (fun _ _ => trivial) HR2.out HB2.out HB2.out.size (by have := HLL.out; omega) ?_; intro v8 w8 hR8 hB8 hg8 _; have HR8 := Aside0.mk hR8; have HB8 := Aside0.mk hB8; clear hR8 hB8 hg8)
            go_roundw
            case rel => exact ⟨k + 1, by omega, by go_num, by rw [HTK.out]; exact HR8.out, HB8.out⟩
            case measure => simp [intOf]; omega
          · have b2 : (y == 0) = false := by simp [h2]
            by_cases h3 : x.why = y
            · have b3 : (y == x.why) = true := by simp [h3]
              have HTK := Aside0.mk (htk.trans (by rw [if_pos (by simp [isB, h1, h4, h2, h3])]))
              clear htk h4 h2 h3
              go_upto_region 6 with (fail)
              have hbox := Blk.new wr 49 [.int .u64 x.tk, .int .i64 x.tier, .int .i64 x.co, .int .u8 x.why, .int .i64 x.at_, .int .i64 x.so]
              have hbox : Blk (wr.alloc (.cells #[.int .u64 x.tk, .int .i64 x.tier, .int .i64 x.co, .int .u8 x.why, .int .i64 x.at_, .int .i64 x.so] 49)) wr.heap.size 49 [.int .u64 x.tk, .int .i64 x.tier, .int .i64 x.co, .int .u8 x.why, .int .i64 x.at_, .int .i64 x.so] := hbox
              have hR2 := Kd.R_alloc HR.out (.cells #[.int .u64 x.tk, .int .i64 x.tier, .int .i64 x.co, .int .u8 x.why, .int .i64 x.at_, .int .i64 x.so] 49)
              have hB2 := HB.out.alloc HB.out.size (.cells #[.int .u64 x.tk, .int .i64 x.tier, .int .i64 x.co, .int .u8 x.why, .int .i64 x.at_, .int .i64 x.so] 49)
              obtain ⟨gq, hgq⟩ : ∃ g, g = wr.heap.size := ⟨_, rfl⟩
              rw [← hgq] at hbox ⊢
              clear hgq e0 e1 e2 e3 e4 e5
              generalize (wr.alloc (.cells #[.int .u64 x.tk, .int .i64 x.tier, .int .i64 x.co, .int .u8 x.why, .int .i64 x.at_, .int .i64 x.so] 49)) = W at *
              have x0 := hbox.cell 0 rfl
              have x1 := hbox.cell 1 rfl
              have x2 := hbox.cell 2 rfl
              have x3 := hbox.cell 3 rfl
              have x4 := hbox.cell 4 rfl
              have x5 := hbox.cell 5 rfl
              have HR2 := Aside0.mk hR2
              have HB2 := Aside0.mk hB2
              clear hR2 hB2 hbox
              go_wp2_with (at_builtin; refine Kd.R_append Oc.kd (w0 := w) w.heap.size rfl (.tmp 34) (.tmp 36) 28 49 (.agg #[.int .u64 0, .int .i64 0, .int .i64 0, .int .u8 0, .int .i64 0, .int .i64 0]) 48 rfl Try.underlying28 (by kernel_rfl) rfl (by decide) (by omega) _ (ofB t y (l.take k)) x x.enc (fun _ => True) (fun _ => False) rfl rfl rfl (fun _ hk => hk.elim) (fun _ _ => trivial) HR2.out HB2.out HB2.out.size (by have := HLL.out; omega) ?_; intro v8 w8 hR8 hB8 hg8 _; have HR8 := Aside0.mk hR8; have HB8 := Aside0.mk hB8; clear hR8 hB8 hg8)
              go_roundw
              case rel => exact ⟨k + 1, by omega, by go_num, by rw [HTK.out]; exact HR8.out, HB8.out⟩
              case measure => simp [intOf]; omega
            · have h3' : ¬ y = x.why := fun h => h3 h.symm
              have b3 : (y == x.why) = false := by simp [h3']
              have HTK := Aside0.mk (htk.trans (by rw [if_neg (by simp [isB, h1, h4, h2, h3]), List.append_nil]))
              have HR2 := Aside0.mk (Kd.R_alloc HR.out (.cells #[.int .u64 x.tk, .int .i64 x.tier, .int .i64 x.co, .int .u8 x.why, .int .i64 x.at_, .int .i64 x.so] 49))
              have HB2 := Aside0.mk (HB.out.alloc HB.out.size (.cells #[.int .u64 x.tk, .int .i64 x.tier, .int .i64 x.co, .int .u8 x.why, .int .i64 x.at_, .int .i64 x.so] 49))
              clear htk h4 h2 h3
              go_wp2_with (fail)
              go_roundw
              case rel => exact ⟨k + 1, by omega, by go_num, by rw [HTK.out]; exact HR2.out, HB2.out⟩
              case measure => simp [intOf]; omega
        · have h4' : ¬ t = x.tier := fun h => h4 h.symm
          have b4 : (t == x.tier) = false := by simp [h4']
          have HTK := Aside0.mk (htk.trans (by rw [if_neg (by simp [isB, h1, h4]), List.append_nil]))
          have HR2 := Aside0.mk (Kd.R_alloc HR.out (.cells #[.int .u64 x.tk, .int .i64 x.tier, .int .i64 x.co, .int .u8 x.why, .int .i64 x.at_, .int .i64 x.so] 49))
          have HB2 := Aside0.mk (HB.out.alloc HB.out.size (.cells #[.int .u64 x.tk, .int .i64 x.tier, .int .i64 x.co, .int .u8 x.why, .int .i64 x.at_, .int .i64 x.so] 49))
          clear htk h4
          go_wp2_with (fail)
          go_roundw
          case rel => exact ⟨k + 1, by omega, by go_num, by rw [HTK.out]; exact HR2.out, HB2.out⟩
          case measure => simp [intOf]; omega
    · obtain rfl : k = l.length := by omega
      go_wp2_with (fail)
      go_ret
      exact ⟨_, rfl, by have := HR.out; rw [List.take_length] at this; exact this, HB.out⟩
end Go.Proofs.Ytfnnoecdpolbfaa.Z

/- The document's row and Since. -/
import Derived.Test.YtfnnoecdpolbfaaTle
namespace Go.Proofs.Ytfnnoecdpolbfaa.Z
open Go.RowKit Go.Proofs.YtfnnoecdpolbfaaW.PrintWords Go.Proofs.YtfnnoecdpolbfaaW.PrintLast Go.Proofs.YtfnnoecdpolbfaaW.PrintMore
attribute [local go_sem] max2_int min2_int max_two min_two max_three min_three max_four min_four
set_option linter.unusedVariables false
set_option linter.unusedSimpArgs false
set_option maxHeartbeats 4000000 in
theorem row_ok (N : Nat) (w : World) (hN : N < 9223372036854775808) :
    Calls Try.prog 30 #[.int .i64 (N : Int)] w fun e w' => e = .returned (.int .i64 (lenF 64 N : Nat)) ∧ w = w' := by
  go_enter Try.func30, Try.ntmps30
  go_wp2_with (fail)
  go_loopw [0, 3] (fun v i wr => ∃ x k f : Nat, v = .int .i64 (x : Int) ∧ i = .int .i64 (k : Int) ∧ k + f = 64 ∧ x < 2 ^ f ∧ x < 9223372036854775808 ∧ lenF 64 N = k + lenF f x ∧ wr = w) (fun v _ _ => (intOf v).toNat)
  case atStart => exact ⟨N, 0, 64, rfl, rfl, rfl, by omega, hN, by omega, rfl⟩
  case round =>
    obtain ⟨x, k, f, rfl, rfl, hkf, hxf, hx, hl, rfl⟩ := hrel
    by_cases h0 : 0 < x
    · have h0' : (0 : Int) < (x : Int) := by omega
      cases f with
      | zero => simp at hxf; omega
      | succ f =>
        have h2 : 2 ^ (f + 1) = 2 ^ f * 2 := Nat.pow_succ 2 f
        have hl2 : lenF 64 N = (k + 1) + lenF f (x / 2) := by rw [hl, lenF, if_neg (by omega)]; omega
        have hx2 : x / 2 < 2 ^ f := by omega
        have hk : k ≤ 64 := by omega
        have hd : ((x / 2 : Nat) : Int) = (x : Int) / 2 := by omega
        have HL := Aside0.mk (And.intro hl2 (And.intro hx2 hkf))
        clear hl hl2 hx2 hkf hxf h2
        go_wp2_with (fail)
        refine ⟨⟨x / 2, k + 1, f, ?_, ?_, ?_, HL.out.2.1, by omega, HL.out.1, by first | rfl | trivial⟩, ?_⟩
        · rw [hd]
        · go_num
        · have := HL.out.2.2; omega
        · simp [intOf]; omega
    · obtain rfl : x = 0 := by omega
      have hz : lenF f 0 = 0 := by cases f with
        | zero => rfl
        | succ f => rw [lenF, if_pos rfl]
      rw [hz, Nat.add_zero] at hl
      have HL := Aside0.mk hl
      clear hl
      go_wp2_with (fail)
      go_ret
      exact ⟨by rw [HL.out]; rfl, rfl⟩
set_option maxHeartbeats 4000000 in
set_option maxRecDepth 100000 in
theorem rsince_ok (A : Option Addr) (c : Nat) (l : List Oc) (m : Int) (w : World) (hC : Oc.kd.C w A l.length l) (hl : l.length ≤ 1000) :
    Calls Try.prog 23 #[.slice A l.length c, .int .i64 m] w fun e w' => ∃ v, e = .returned v ∧ Oc.kd.R 49 w' w.heap.size (fun _ => True) v (l.drop (max m 0).toNat) ∧ Below w.heap.size w w' := by
  have HC := Aside0.mk hC
  clear hC
  obtain ⟨K, hK⟩ : ∃ K, K = (max m 0).toNat := ⟨_, rfl⟩
  rw [← hK]
  have HK := Aside0.mk hK
  clear hK
  go_enter Try.func23, Try.ntmps23
  go_wp2_with (fail)
  go_loopw [5, 10] (fun v i wr => ∃ k : Nat, k ≤ l.length ∧ i = .int .i64 k ∧ Oc.kd.R 49 wr w.heap.size (fun _ => True) v ((l.take k).drop K) ∧ Below w.heap.size w wr) (fun _ i _ => l.length - (intOf i).toNat)
  case atStart => exact ⟨0, Nat.zero_le _, rfl, by rw [List.take_zero, List.drop_nil]; exact Kd.R_nil _ _ _ _ _, Below.refl _ _⟩
  case round =>
    obtain ⟨k, hk, rfl, hR, hb⟩ := hrel
    have HR := Aside0.mk hR
    have HB := Aside0.mk hb
    have hll : ((l.take k).drop K).length ≤ 1000 := by rw [List.length_drop, List.length_take]; omega
    have HLL := Aside0.mk hll
    clear hR hb hll
    by_cases hlt : k < l.length
    · have hlt' : (k : Int) < (l.length : Int) := by omega
      obtain ⟨ad, rfl⟩ : ∃ ad, A = some ad := by
        obtain ⟨ad, h, _⟩ := HC.out.2.2 (by omega)
        exact ⟨ad, h⟩
      obtain ⟨x, hx⟩ : ∃ x, l[k]? = some x := ⟨_, List.getElem?_eq_getElem hlt⟩
      obtain ⟨e0, e1, e2, e3, e4, e5⟩ := Oc.came (Kd.C_below HC.out HB.out) hx
      have htk : l.take (k + 1) = l.take k ++ [x] := by rw [List.take_add_one, hx]; rfl
      have hsz : w.heap.size ≤ wr.heap.size := HB.out.size
      by_cases hmk : m ≤ (k : Int)
      · have HTK := Aside0.mk (show (l.take (k + 1)).drop K = (l.take k).drop K ++ [x] by
          rw [htk, List.drop_append_of_le_length]
          have := HK.out
          rw [List.length_take]; omega)
        clear hx htk
        go_upto_region 6 with (fail)
        have hbox := Blk.new wr 49 [.int .u64 x.tk, .int .i64 x.tier, .int .i64 x.co, .int .u8 x.why, .int .i64 x.at_, .int .i64 x.so]
        have hbox : Blk (wr.alloc (.cells #[.int .u64 x.tk, .int .i64 x.tier, .int .i64 x.co, .int .u8 x.why, .int .i64 x.at_, .int .i64 x.so] 49)) wr.heap.size 49 [.int .u64 x.tk, .int .i64 x.tier, .int .i64 x.co, .int .u8 x.why, .int .i64 x.at_, .int .i64 x.so] := hbox
        have hR2 := Kd.R_alloc HR.out (.cells #[.int .u64 x.tk, .int .i64 x.tier, .int .i64 x.co, .int .u8 x.why, .int .i64 x.at_, .int .i64 x.so] 49)
        have hB2 := HB.out.alloc HB.out.size (.cells #[.int .u64 x.tk, .int .i64 x.tier, .int .i64 x.co, .int .u8 x.why, .int .i64 x.at_, .int .i64 x.so] 49)
        obtain ⟨gq, hgq⟩ : ∃ g, g = wr.heap.size := ⟨_, rfl⟩
        rw [← hgq] at hbox ⊢
        clear hgq e0 e1 e2 e3 e4 e5
        generalize (wr.alloc (.cells #[.int .u64 x.tk, .int .i64 x.tier, .int .i64 x.co, .int .u8 x.why, .int .i64 x.at_, .int .i64 x.so] 49)) = W at *
        have x0 := hbox.cell 0 rfl
        have x1 := hbox.cell 1 rfl
        have x2 := hbox.cell 2 rfl
        have x3 := hbox.cell 3 rfl
        have x4 := hbox.cell 4 rfl
        have x5 := hbox.cell 5 rfl
        have HR2 := Aside0.mk hR2
        have HB2 := Aside0.mk hB2
        clear hR2 hB2 hbox
        go_wp2_with (at_builtin; refine Kd.R_append Oc.kd (w0 := w) w.heap.size rfl (.tmp 18) (.tmp 20) 28 49 (.agg #[.int .u64 0, .int .i64 0, .int .i64 0, .int .u8 0, .int .i64 0, .int .i64 0]) 48 rfl Try.underlying28 (by kernel_rfl) rfl (by decide) (by omega) _ ((l.take k).drop K) x x.enc (fun _ => True) (fun _ => False) rfl rfl rfl (fun _ hk => hk.elim) (fun _ _ => trivial) HR2.out HB2.out HB2.out.size (by have := HLL.out; omega) ?_; intro v8 w8 hR8 hB8 hg8 _; have HR8 := Aside0.mk hR8; have HB8 := Aside0.mk hB8; clear hR8 hB8 hg8)
        go_roundw
        case rel => exact ⟨k + 1, by omega, by go_num, by rw [HTK.out]; exact HR8.out, HB8.out⟩
        case measure => simp [intOf]; omega
      · have hmk' : ¬ m ≤ (k : Int) := hmk
        have HTK := Aside0.mk (show (l.take (k + 1)).drop K = (l.take k).drop K by
          have := HK.out
          rw [List.drop_eq_nil_of_le (by rw [List.length_take]; omega), List.drop_eq_nil_of_le (by rw [List.length_take]; omega)])
        have HR2 := Aside0.mk (Kd.R_alloc HR.out (.cells #[.int .u64 x.tk, .int .i64 x.tier, .int .i64 x.co, .int .u8 x.why, .int .i64 x.at_, .int .i64 x.so] 49))
        have HB2 := Aside0.mk (HB.out.alloc HB.out.size (.cells #[.int .u64 x.tk, .int .i64 x.tier, .int .i64 x.co, .int .u8 x.why, .int .i64 x.at_, .int .i64 x.so] 49))
        clear hx htk
        go_wp2_with (fail)
        go_roundw
        case rel => exact ⟨k + 1, by omega, by go_num, by rw [HTK.out]; exact HR2.out, HB2.out⟩
        case measure => simp [intOf]; omega
    · obtain rfl : k = l.length := by omega
      go_wp2_with (fail)
      go_ret
      exact ⟨_, rfl, by have := HR.out; rw [List.take_length] at this; exact this, HB.out⟩
end Go.Proofs.Ytfnnoecdpolbfaa.Z

/- The log: its outcomes in memory; New, Len, Add. -/
import Derived.Test.YtfnnoecdpolbfaaZlib
import Derived.Test.YtfnnoecdpolbfaaWMore
import Derived.Test.YtfnnoecdpolbfaaWLast
import Derived.Deep.RegionLaw
import Derived.BigQuiet
import Derived.Deep.QuietTactic
import Derived.IntWalk
namespace Go.Proofs.Ytfnnoecdpolbfaa.Z
open Go.RowKit Go.Proofs.YtfnnoecdpolbfaaW.PrintWords Go.Proofs.YtfnnoecdpolbfaaW.PrintLast Go.Proofs.YtfnnoecdpolbfaaW.PrintMore
attribute [local go_sem] max2_int min2_int max_two min_two max_three min_three max_four min_four
set_option linter.unusedVariables false
set_option linter.unusedSimpArgs false
structure Oc where
  tk : Int
  tier : Int
  co : Int
  why : Int
  at_ : Int
  so : Int
  deriving DecidableEq
def Oc.enc (o : Oc) : List Value := [.int .u64 o.tk, .int .i64 o.tier, .int .i64 o.co, .int .u8 o.why, .int .i64 o.at_, .int .i64 o.so]
def Oc.val (o : Oc) : Value := .agg #[.int .u64 o.tk, .int .i64 o.tier, .int .i64 o.co, .int .u8 o.why, .int .i64 o.at_, .int .i64 o.so]
def Oc.kd : Kd Oc := fk Oc.enc 6 (fun _ => rfl) (fun x u hu => by simp [Oc.enc] at hu; rcases hu with rfl | rfl | rfl | rfl | rfl | rfl <;> rfl)
abbrev Oc.ok (o : Oc) : Prop := (Lit.int .u64 o.tk).wf = true ∧ (Lit.int .i64 o.tier).wf = true ∧ (Lit.int .i64 o.co).wf = true ∧ (Lit.int .u8 o.why).wf = true ∧ (Lit.int .i64 o.at_).wf = true ∧ (Lit.int .i64 o.so).wf = true
theorem Oc.came {w : World} {ad : Addr} {n : Nat} {xs : List Oc} (h : Oc.kd.C w (some ad) n xs) {i : Nat} {x : Oc} (hx : xs[i]? = some x) :
    w.cell? (ad.add (i * 6)) = some (.int .u64 x.tk) ∧ w.cell? ⟨(ad.add (i * 6)).block, (ad.add (i * 6)).off + 1, none⟩ = some (.int .i64 x.tier) ∧ w.cell? ⟨(ad.add (i * 6)).block, (ad.add (i * 6)).off + 2, none⟩ = some (.int .i64 x.co) ∧ w.cell? ⟨(ad.add (i * 6)).block, (ad.add (i * 6)).off + 3, none⟩ = some (.int .u8 x.why) ∧ w.cell? ⟨(ad.add (i * 6)).block, (ad.add (i * 6)).off + 4, none⟩ = some (.int .i64 x.at_) ∧ w.cell? ⟨(ad.add (i * 6)).block, (ad.add (i * 6)).off + 5, none⟩ = some (.int .i64 x.so) :=
  have k := fk_came h hx
  ⟨k.1 _ rfl, k.2 0 _ rfl, k.2 1 _ rfl, k.2 2 _ rfl, k.2 3 _ rfl, k.2 4 _ rfl⟩
/-- The log at block g holds l; all that is its own lies from base on. -/
def LogAt (w : World) (base g : Nat) (l : List Oc) : Prop := base ≤ g ∧ ∃ v, Blk w g 58 [v] ∧ Oc.kd.R 26 w base (fun _ => True) v l
theorem LogAt.below {w w1 : World} {base g : Nat} {l : List Oc} (h : LogAt w base g l) (hb : Below w.heap.size w w1) : LogAt w1 base g l := by
  obtain ⟨h0, v, h1, h2⟩ := h
  exact ⟨h0, v, h1.below hb, Kd.R_below h2 hb⟩
theorem new_ok (w : World) : Calls Try.prog 11 #[] w fun e w' => e = .returned (.pointer (some ⟨w.heap.size, 0, none⟩)) ∧ LogAt w' w.heap.size w.heap.size [] ∧ Below w.heap.size w w' := by
  go_enter Try.func11, Try.ntmps11
  go_wp2
  go_ret
  exact ⟨rfl, ⟨Nat.le_refl _, .slice none 0 0, Blk.new w 58 [.slice none 0 0], Kd.R_nil _ _ _ _ _⟩, below_alloc (Below.refl _ w) _⟩
theorem len_ok (g base : Nat) (l : List Oc) (w : World) (h : LogAt w base g l) : Calls Try.prog 16 #[.pointer (some ⟨g, 0, none⟩)] w fun e w' => e = .returned (.int .i64 l.length) ∧ w = w' := by
  obtain ⟨h0, v, h1, h2⟩ := h
  obtain ⟨A, c, rfl⟩ := Kd.R_slice h2
  have c0 := h1.cell 0 rfl
  clear h2
  go_enter Try.func16, Try.ntmps16
  go_wp2
  go_ret
  exact ⟨rfl, rfl⟩
theorem len_nil (w : World) : Calls Try.prog 16 #[.pointer none] w fun e w' => e = .returned (.int .i64 0) ∧ w = w' := by
  go_enter Try.func16, Try.ntmps16
  go_wp2
  go_ret
  exact ⟨rfl, rfl⟩
theorem tail_ok (g base : Nat) (l D : List Oc) (k : Nat) (w : World) (h : LogAt w base g l) (hk : k ≤ l.length) (hD : D = l.drop k) : Calls Try.prog 28 #[.pointer (some ⟨g, 0, none⟩), .int .i64 k] w fun e w' => (∃ A c, e = .returned (.slice A D.length c) ∧ D.length ≤ c ∧ Oc.kd.C w A D.length D) ∧ w = w' := by
  obtain ⟨h0, v, h1, h2⟩ := h
  obtain ⟨A, c, rfl⟩ := Kd.R_slice h2
  have c0 := h1.cell 0 rfl
  obtain ⟨_, hlc, hC⟩ := Kd.R_reads' h2
  obtain ⟨i0, hi, hzz⟩ := Option.map_eq_some_iff.1 (show (Try.prog.info? 26).map (fun i => i.size) = some 6 by kernel_rfl)
  have hs1 := cut_from (P := Try.prog) 22 26 .i64 Try.underlying22 hi 6 hzz A l.length c (k : Int) (by omega) (by omega)
  rw [Int.toNat_natCast] at hs1
  have hcd := Kd.C_drop hC (m := k) (c := c) hk hlc
  rw [show Oc.kd.sz = 6 from rfl] at hcd
  obtain ⟨AD, hAD⟩ : ∃ AD, AD = if c = k then A else A.map (·.add (k * 6)) := ⟨_, rfl⟩
  rw [← hAD] at hcd hs1
  rw [← hD] at hcd
  have hDl : D.length = l.length - k := by rw [hD, List.length_drop]
  rw [← hDl] at hs1
  have HCD := Aside0.mk hcd
  have HCC := Aside0.mk (show D.length ≤ c - k by omega)
  clear hcd hAD hi hzz h2 hC hlc hD hDl
  go_enter Try.func28, Try.ntmps28
  go_wp2
  go_ret
  exact ⟨⟨AD, c - k, rfl, HCC.out, HCD.out⟩, rfl⟩
set_option maxHeartbeats 4000000 in
set_option maxRecDepth 100000 in
theorem add_okV (g base : Nat) (v : Value) (l : List Oc) (o : Oc) (w0 w : World) (h0 : base ≤ g) (h1 : Blk w g 58 [v]) (h2 : Oc.kd.R 26 w base (fun _ => True) v l) (hB : Below base w0 w) (hb : base ≤ w.heap.size) (hl : l.length ≤ 1000) :
    Calls Try.prog 13 #[.pointer (some ⟨g, 0, none⟩), o.val] w fun e w' => e = .returned (.tuple #[]) ∧ ∃ v', Blk w' g 58 [v'] ∧ Oc.kd.R 26 w' base (fun _ => True) v' (l ++ [o]) ∧ Below base w0 w' ∧ (v'.ownBlock = v.ownBlock ∨ ∃ b, v'.ownBlock = some b ∧ w.heap.size ≤ b) ∧ (∀ b, b < w.heap.size → b ≠ g → some b ≠ v.ownBlock → w'.heap[b]? = w.heap[b]?) ∧ w.heap.size ≤ w'.heap.size := by
  obtain ⟨A, c, rfl⟩ := Kd.R_slice h2
  have hlt := h1.lt
  have HLT := Aside0.mk (Kd.R_lt h2)
  have HR := Aside0.mk (Kd.R_alloc h2 (.cells #[.int .u64 o.tk, .int .i64 o.tier, .int .i64 o.co, .int .u8 o.why, .int .i64 o.at_, .int .i64 o.so] 26))
  have HG := Aside0.mk (h1.alloc (.cells #[.int .u64 o.tk, .int .i64 o.tier, .int .i64 o.co, .int .u8 o.why, .int .i64 o.at_, .int .i64 o.so] 26))
  have HX := Aside0.mk (show Blk (w.alloc (.cells #[.int .u64 o.tk, .int .i64 o.tier, .int .i64 o.co, .int .u8 o.why, .int .i64 o.at_, .int .i64 o.so] 26)) w.heap.size 26 o.enc from Blk.new w 26 o.enc)
  have HB := Aside0.mk (hB.alloc hb (.cells #[.int .u64 o.tk, .int .i64 o.tier, .int .i64 o.co, .int .u8 o.why, .int .i64 o.at_, .int .i64 o.so] 26))
  clear h1 h2 hB
  unfold Oc.val
  go_enter Try.func13, Try.ntmps13
  go_wp2
  have hbw : base ≤ (w.alloc (.cells #[.int .u64 o.tk, .int .i64 o.tier, .int .i64 o.co, .int .u8 o.why, .int .i64 o.at_, .int .i64 o.so] 26)).heap.size := by rw [World.size_alloc]; omega
  have hgr : ∀ k, (Value.slice A l.length c).ownBlock = some k → k < w.heap.size := HLT.out
  obtain ⟨q, hq⟩ : ∃ q, q = w.heap.size := ⟨_, rfl⟩
  have hX := HX.out
  have hG := HG.out
  have hR := HR.out
  have hB := HB.out
  clear HX HG HR HB
  rw [← hq] at hX ⊢
  have hkeep : ∀ b, b < w.heap.size → (w.alloc (.cells #[.int .u64 o.tk, .int .i64 o.tier, .int .i64 o.co, .int .u8 o.why, .int .i64 o.at_, .int .i64 o.so] 26)).heap[b]? = w.heap[b]? := fun b hb => Below.heap_alloc w _ b hb
  have hsz : w.heap.size ≤ (w.alloc (.cells #[.int .u64 o.tk, .int .i64 o.tier, .int .i64 o.co, .int .u8 o.why, .int .i64 o.at_, .int .i64 o.so] 26)).heap.size := by rw [World.size_alloc]; omega
  generalize (w.alloc (.cells #[.int .u64 o.tk, .int .i64 o.tier, .int .i64 o.co, .int .u8 o.why, .int .i64 o.at_, .int .i64 o.so] 26)) = W at *
  have q0 := hG.cell 0 rfl
  have q1 := (hG.alloc (.cells #[.int .u64 o.tk, .int .i64 o.tier, .int .i64 o.co, .int .u8 o.why, .int .i64 o.at_, .int .i64 o.so] 26)).cell 0 rfl
  have q2 := (hG.drew_.alloc (.cells #[.int .u64 o.tk, .int .i64 o.tier, .int .i64 o.co, .int .u8 o.why, .int .i64 o.at_, .int .i64 o.so] 26)).cell 0 rfl
  have x0 := hX.cell 0 rfl
  have x1 := hX.cell 1 rfl
  have x2 := hX.cell 2 rfl
  have x3 := hX.cell 3 rfl
  have x4 := hX.cell 4 rfl
  have x5 := hX.cell 5 rfl
  have HX := Aside0.mk hX
  have HG := Aside0.mk hG
  have HR := Aside0.mk hR
  have HB := Aside0.mk hB
  have HBW := Aside0.mk hbw
  have HKP := Aside0.mk (And.intro hkeep hsz)
  clear hkeep hsz hbw hX hG hR hB hgr hq
  go_region_law (first | (refine Kd.R_append_step Oc.kd (w0 := w0) base rfl (.tmp 10) (.tmp 12) 22 26 (.agg #[.int .u64 0, .int .i64 0, .int .i64 0, .int .u8 0, .int .i64 0, .int .i64 0]) 48 rfl Try.underlying22 (by kernel_rfl) rfl (by decide) (by omega) _ l o o.enc (fun _ => True) (fun _ => False) rfl rfl rfl (fun _ hk => hk.elim) (fun _ _ => trivial) (Kd.R_drew HR.out) (below_drew HB.out) HBW.out (by omega) ?_; intro v1 w1 hR1 hB1 hg1 ho1; have hG1 := HG.out.drew_.grown (Kd.R_drew HR.out) (by decide) hg1; have k3 := hG1.cell 0 rfl; have k4 := hG1.frozen 0; have HG1 := Aside0.mk hG1; have HR1 := Aside0.mk hR1; have HB1 := Aside0.mk hB1; have HGO := Aside0.mk (And.intro hg1 ho1); clear hG1 hR1 hB1 hg1 ho1; obtain ⟨A1, n1, hv1⟩ := Kd.R_slice HR1.out; rw [List.length_append] at hv1; simp only [List.length_singleton] at hv1; subst hv1))
  all_goals
    go_wp2
    go_end0
    refine ⟨rfl, .slice A1 (l.length + 1) n1, HG1.out.put 0 _ rfl, Kd.R_mono (Kd.R_set HR1.out HG1.out (by simp [Oc.kd, fk]) 0 _) (fun _ _ => trivial), HB1.out.setCell (p := ⟨g, 0, none⟩) h0 _, ?_, ?_, ?_⟩
    · exact HGO.out.2.imp id (fun ⟨b, e, hb⟩ => ⟨b, e, Nat.le_trans HKP.out.2 hb⟩)
    · exact fun b hb hne hno => (Below.heap_setCell _ ⟨g, 0, none⟩ _ b hne).trans ((HGO.out.1.block b (Nat.lt_of_lt_of_le hb HKP.out.2) hno).trans (HKP.out.1 b hb))
    · exact Nat.le_trans (Nat.le_trans HKP.out.2 HGO.out.1.size) (by simp [World.setCell])
theorem add_ok (g base : Nat) (l : List Oc) (o : Oc) (w0 w : World) (h : LogAt w base g l) (hB : Below base w0 w) (hb : base ≤ w.heap.size) (hl : l.length ≤ 1000) :
    Calls Try.prog 13 #[.pointer (some ⟨g, 0, none⟩), o.val] w fun e w' => e = .returned (.tuple #[]) ∧ LogAt w' base g (l ++ [o]) ∧ Below base w0 w' := by
  obtain ⟨h0, v, h1, h2⟩ := h
  exact (add_okV g base v l o w0 w h0 h1 h2 hB hb hl).mono fun e w' ⟨he, v', k1, k2, k3, _⟩ => ⟨he, ⟨h0, v', k1, k2⟩, k3⟩
end Go.Proofs.Ytfnnoecdpolbfaa.Z

/- The heap's small methods: member, Len, Min, Key, lay. -/
import Derived.Test.YtifffmfbipjilaaHpm
namespace Go.Proofs.Ytifffmfbipjilaa.Z.H
open Go.RowKit Go.Proofs.YtifffmfbipjilaaW.PrintWords Go.Proofs.YtifffmfbipjilaaW.PrintLast Go.Proofs.YtifffmfbipjilaaW.PrintMore
attribute [local go_sem] max2_int min2_int max_two min_two max_three min_three max_four min_four
set_option linter.unusedVariables false
set_option maxRecDepth 100000
set_option linter.unusedSimpArgs false
/-- The heap at block g: its entries lie in v, where each one is in block ba. -/
structure Hp (w : World) (g ba : Nat) (v : Value) (l : List En) (at_ : List Int) : Prop where
  head : Blk w g 119 [v, .slice (some ⟨ba, 0, none⟩) at_.length at_.length]
  row : En.kd.R 128 w 0 (fun _ => True) v l
  ats : Blk w ba 3 (flat encI at_)
  small : at_.length ≤ 1024
/-- The blocks of a heap. -/
def hown (g ba : Nat) (v : Value) : List Nat := g :: ba :: v.ownBlock.toList
theorem mem_hown {g ba : Nat} {v : Value} {b : Nat} : b ∈ hown g ba v ↔ b = g ∨ b = ba ∨ v.ownBlock = some b := by
  unfold hown
  simp only [List.mem_cons, Option.mem_toList]
theorem Hp.kp {w w1 : World} {g ba : Nat} {v : Value} {l : List En} {at_ : List Int} (h : Hp w g ba v l at_) {S : List Nat} (k : Kp S w w1) (hS : ∀ b ∈ S, b ∉ hown g ba v) : Hp w1 g ba v l at_ := by
  have hg : g ∉ S := fun hm => hS g hm (mem_hown.2 (.inl rfl))
  have hb : ba ∉ S := fun hm => hS ba hm (mem_hown.2 (.inr (.inl rfl)))
  exact ⟨k.blk h.head hg, Kd.R_mono (Kd.R_step (Kd.R_tight rfl h.row) (fun b hk hl => k.block b hl (fun hm => hS b hm (mem_hown.2 (.inr (.inr hk.symm)))))) (fun _ _ => trivial), k.blk h.ats hb, h.small⟩
theorem Hp.below {w w1 : World} {g ba : Nat} {v : Value} {l : List En} {at_ : List Int} (h : Hp w g ba v l at_) (hb : Below w.heap.size w w1) : Hp w1 g ba v l at_ :=
  h.kp (S := []) (Kp.of_below hb) (fun b hm => by cases hm)
theorem Hp.lts {w : World} {g ba : Nat} {v : Value} {l : List En} {at_ : List Int} (h : Hp w g ba v l at_) : ∀ b ∈ hown g ba v, b < w.heap.size := by
  intro b hb
  rcases mem_hown.1 hb with rfl | rfl | hb
  · exact h.head.lt
  · exact h.ats.lt
  · exact Kd.R_lt h.row b hb
theorem Hp.at_cell {w : World} {g ba : Nat} {v : Value} {l : List En} {at_ : List Int} (h : Hp w g ba v l at_) {i : Nat} {x : Int} (hx : at_[i]? = some x) : w.cell? ⟨ba, i, none⟩ = some (.int .i64 x) ∧ w.frozen? ⟨ba, i, none⟩ = false := by
  refine ⟨?_, h.ats.frozen i⟩
  have := h.ats.cells_at (f := encI) (k := 1) (fun _ => rfl) i 0 hx (by omega) (v := .int .i64 x) rfl
  simpa using this
theorem hmem_ok (g ba : Nat) (v : Value) (l : List En) (at_ : List Int) (i : Int) (w : World) (h : Hp w g ba v l at_) : Calls Try.prog 58 #[.pointer (some ⟨g, 0, none⟩), .int .i64 i] w fun e w' => e = .returned (.bool (decide (0 ≤ i) && decide (i < at_.length))) ∧ w = w' := by
  have c1 := h.head.cell 1 rfl
  clear h
  by_cases h0 : 0 ≤ i
  · by_cases h1 : i < at_.length
    · go_enter Try.func58, Try.ntmps58
      go_wp2_with (fail)
      go_ret
      exact ⟨by simp [h0, h1], rfl⟩
    · go_enter Try.func58, Try.ntmps58
      go_wp2_with (fail)
      go_ret
      exact ⟨by simp [h0, h1], rfl⟩
  · have h2 : decide (0 ≤ i) = false := decide_eq_false h0
    go_enter Try.func58, Try.ntmps58
    go_wp2_with (fail)
    go_ret
    exact ⟨by simp [h0], rfl⟩
def minI : List En → Int
  | [] => 0
  | x :: _ => x.i
/-- What has been done: all but the heap's own blocks lies as it lay. -/
theorem Hp.ne {w : World} {g ba : Nat} {v : Value} {l : List En} {at_ : List Int} (h : Hp w g ba v l at_) : g ≠ ba ∧ v.ownBlock ≠ some g ∧ v.ownBlock ≠ some ba := by
  refine ⟨fun e => ?_, fun e => ?_, fun e => ?_⟩
  · have h1 := h.head
    have h2 := h.ats
    rw [e] at h1
    unfold Blk at h1 h2
    rw [h1] at h2
    injection h2 with h2
    injection h2 with _ h2
    cases h2
  · obtain ⟨cells, hc⟩ := Kd.R_typed h.row g e
    have h1 := h.head
    unfold Blk at h1
    rw [h1] at hc
    injection hc with hc
    injection hc with _ hc
    cases hc
  · obtain ⟨cells, hc⟩ := Kd.R_typed h.row ba e
    have h1 := h.ats
    unfold Blk at h1
    rw [h1] at hc
    injection hc with hc
    injection hc with _ hc
    cases hc
/-- An entry is laid at k. -/
theorem Hp.laid {w : World} {g ba gr n c : Nat} {l : List En} {at_ : List Int} {k : Nat} (e : En) (h : Hp w g ba (.slice (some ⟨gr, 0, none⟩) n c) l at_) (hk : k < l.length) :
    Hp (((w.setCell ⟨gr, k * 3, none⟩ (.int .i64 e.key)).setCell ⟨gr, k * 3 + 1, none⟩ (.int .u64 e.tie)).setCell ⟨gr, k * 3 + 2, none⟩ (.int .i64 e.i)) g ba (.slice (some ⟨gr, 0, none⟩) n c) (l.set k e) at_ := by
  obtain ⟨n1, n2, n3⟩ := h.ne
  have m2 : g ≠ gr := fun e => n2 (by rw [e]; rfl)
  have m3 : ba ≠ gr := fun e => n3 (by rw [e]; rfl)
  obtain ⟨x, hx⟩ : ∃ x, l[k]? = some x := ⟨_, List.getElem?_eq_getElem hk⟩
  have r1 := (R_fset (j := 0) (v := .int .i64 e.key) (x' := ⟨e.key, x.tie, x.i⟩) h.row hx (by omega) rfl).1
  have r2 := (R_fset (j := 1) (v := .int .u64 e.tie) (x' := ⟨e.key, e.tie, x.i⟩) r1 (i := k) (x := ⟨e.key, x.tie, x.i⟩) (by rw [List.getElem?_set, if_pos rfl, if_pos hk]) (by omega) rfl).1
  have r3 := (R_fset (j := 2) (v := .int .i64 e.i) (x' := ⟨e.key, e.tie, e.i⟩) r2 (i := k) (x := ⟨e.key, e.tie, x.i⟩) (by rw [List.getElem?_set, if_pos rfl, if_pos (by simpa using hk)]) (by omega) rfl).1
  rw [List.set_set, List.set_set] at r3
  exact ⟨((h.head.far m2 _).far m2 _).far m2 _, r3, ((h.ats.far m3 _).far m3 _).far m3 _, h.small⟩
/-- Where one is is told. -/
theorem Hp.told {w : World} {g ba : Nat} {v : Value} {l : List En} {at_ : List Int} {i : Nat} (x : Int) (h : Hp w g ba v l at_) (hi : i < at_.length) :
    Hp (w.setCell ⟨ba, i, none⟩ (.int .i64 x)) g ba v l (at_.set i x) := by
  obtain ⟨n1, n2, n3⟩ := h.ne
  obtain ⟨y, hy⟩ : ∃ y, at_[i]? = some y := ⟨_, List.getElem?_eq_getElem hi⟩
  have b4 := h.ats.fput (f := encI) (k := 1) (fun _ => rfl) (i := i) (j := 0) (v := .int .i64 x) x hy (by omega) rfl
  rw [Nat.mul_one, Nat.add_zero] at b4
  refine ⟨?_, Kd.R_mono (Kd.R_set h.row (g := ba) (t := 3) h.ats (by simp [En.kd, fk]) i _) (fun _ _ => trivial), b4, ?_⟩
  · rw [List.length_set]
    exact h.head.far n1 _
  · rw [List.length_set]; exact h.small
theorem Hp.drew {w : World} {g ba : Nat} {v : Value} {l : List En} {at_ : List Int} (h : Hp w g ba v l at_) : Hp w.drew g ba v l at_ := h.below (below_drew (Below.refl _ w))
set_option maxHeartbeats 4000000 in
theorem lay_ok (g ba : Nat) (v : Value) (l : List En) (at_ : List Int) (k : Nat) (e : En) (w : World) (h : Hp w g ba v l at_) (hk : k < l.length) (hl : l.length ≤ 1024) (h0 : 0 ≤ e.i) (hi : e.i < at_.length) :
    Calls Try.prog 62 #[.pointer (some ⟨g, 0, none⟩), .int .i64 k, e.val] w fun r w' => r = .returned (.tuple #[]) ∧ Hp w' g ba v (l.set k e) (at_.set e.i.toNat k) ∧ Kp (hown g ba v) w w' := by
  obtain ⟨gr, c, hv, -⟩ := Kd.R_form h.row (by omega)
  subst hv
  have hbox := Blk.new w 128 e.enc
  have h2 := h.below (below_alloc (Below.refl _ w) (.cells e.enc.toArray 128))
  have hkp := (Kp.refl (hown g ba (.slice (some ⟨gr, 0, none⟩) l.length c)) w).alloc (.cells e.enc.toArray 128)
  have hbox : Blk (w.alloc (.cells #[.int .i64 e.key, .int .u64 e.tie, .int .i64 e.i] 128)) w.heap.size 128 e.enc := hbox
  have h2 : Hp (w.alloc (.cells #[.int .i64 e.key, .int .u64 e.tie, .int .i64 e.i] 128)) g ba _ l at_ := h2
  have hkp : Kp _ w (w.alloc (.cells #[.int .i64 e.key, .int .u64 e.tie, .int .i64 e.i] 128)) := hkp
  have hlts := h.lts
  obtain ⟨q, hq⟩ : ∃ q, q = w.heap.size := ⟨_, rfl⟩
  have q1 : gr ≠ q := by have := hlts gr (mem_hown.2 (.inr (.inr rfl))); omega
  have q2 : g ≠ q := by have := hlts g (mem_hown.2 (.inl rfl)); omega
  have q3 : ba ≠ q := by have := hlts ba (mem_hown.2 (.inr (.inl rfl))); omega
  obtain ⟨n1, n2, n3⟩ := h.ne
  have m2 : g ≠ gr := fun e => n2 (by rw [e]; rfl)
  have m3 : ba ≠ gr := fun e => n3 (by rw [e]; rfl)
  clear h hlts n2 n3
  unfold En.val
  go_enter Try.func62, Try.ntmps62
  go_upto_region 1 with (fail)
  rw [← hq] at hbox ⊢
  generalize (w.alloc (.cells #[.int .i64 e.key, .int .u64 e.tie, .int .i64 e.i] 128)) = W at *
  have x0 := hbox.cell 0 rfl
  have x1 := hbox.cell 1 rfl
  have x2 := hbox.cell 2 rfl
  have c0 := h2.head.cell 0 rfl
  have c1 := h2.head.cell 1 rfl
  obtain ⟨x, hx⟩ : ∃ x, l[k]? = some x := ⟨_, List.getElem?_eq_getElem hk⟩
  have y0 := R_fk_cell h2.row hx 0 _ rfl
  have y1 := R_fk_cell h2.row hx 1 _ rfl
  have y2 := R_fk_cell h2.row hx 2 _ rfl
  rw [Nat.add_zero] at y0
  have z0 := R_fk_frozen h2.row (k * 3)
  have z1 := R_fk_frozen h2.row (k * 3 + 1)
  have z2 := R_fk_frozen h2.row (k * 3 + 2)
  have k0 : (0 : Int) ≤ (k : Int) := by omega
  have k1 : (k : Int) < (l.length : Int) := by omega
  clear hx hq
  go_region
  have HK := Aside0.mk (((((hkp.set (p := ⟨gr, k * 3, none⟩) (.inl (mem_hown.2 (.inr (.inr rfl)))) (.int .i64 e.key)).set (p := ⟨gr, k * 3 + 1, none⟩) (.inl (mem_hown.2 (.inr (.inr rfl)))) (.int .u64 e.tie)).set (p := ⟨gr, k * 3 + 2, none⟩) (.inl (mem_hown.2 (.inr (.inr rfl)))) (.int .i64 e.i))).drew)
  have hV := (h2.laid e hk).drew
  have hbV := (((hbox.far (p := ⟨gr, k * 3, none⟩) q1.symm (.int .i64 e.key)).far (p := ⟨gr, k * 3 + 1, none⟩) q1.symm (.int .u64 e.tie)).far (p := ⟨gr, k * 3 + 2, none⟩) q1.symm (.int .i64 e.i)).drew_
  clear h2 hkp hbox x0 x1 x2 c0 c1 y0 y1 y2 z0 z1 z2
  generalize (((W.setCell ⟨gr, k * 3, none⟩ (.int .i64 e.key)).setCell ⟨gr, k * 3 + 1, none⟩ (.int .u64 e.tie)).setCell ⟨gr, k * 3 + 2, none⟩ (.int .i64 e.i)).drew = V at *
  obtain ⟨i, hi2⟩ : ∃ i : Nat, i = e.i.toNat := ⟨_, rfl⟩
  have hi3 : e.i = (i : Int) := by omega
  have hi4 : i < at_.length := by omega
  have x2 : V.cell? ⟨q, 2, none⟩ = some (.int .i64 (i : Int)) := by have := hbV.cell 2 rfl; rw [hi3] at this; exact this
  have c1 := hV.head.cell 1 rfl
  obtain ⟨y, hy⟩ : ∃ y, at_[i]? = some y := ⟨_, List.getElem?_eq_getElem hi4⟩
  obtain ⟨y0, z0⟩ := hV.at_cell hy
  have i0 : (0 : Int) ≤ (i : Int) := by omega
  have i1 : (i : Int) < (at_.length : Int) := by omega
  have HV := Aside0.mk (hV.told (k : Int) hi4)
  have HI2 := Aside0.mk hi2
  clear hV hbV hy hi2 hi3 h0 hi
  go_wp2
  go_region
  go_end0
  refine ⟨rfl, by rw [← HI2.out]; exact HV.out.drew, (HK.out.set (p := ⟨ba, i, none⟩) (.inl (mem_hown.2 (.inr (.inl rfl)))) _).drew⟩
end Go.Proofs.Ytifffmfbipjilaa.Z.H

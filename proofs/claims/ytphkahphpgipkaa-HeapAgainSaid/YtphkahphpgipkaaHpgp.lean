/- HeapAgain: plain laws. -/
import Derived.Test.YtphkahphpgipkaaHpsorts
namespace Go.Proofs.Ytphkahphpgipkaa.Z
open Go.RowKit Go.Proofs.YtphkahphpgipkaaW.PrintWords Go.Proofs.YtphkahphpgipkaaW.PrintLast Go.Proofs.YtphkahphpgipkaaW.PrintMore
attribute [local go_sem] max2_int min2_int max_two min_two max_three min_three max_four min_four
set_option linter.unusedVariables false
set_option linter.unusedSimpArgs false
def ints (k : Nat) : List Int := (List.range k).map fun (j : Nat) => (j : Int)
theorem u8_in {x : Int} (h : (Lit.int .u8 x).wf = true) : 0 ≤ x ∧ x ≤ 255 := by
  simp [Lit.wf, IntKind.min, IntKind.max, IntKind.signed, IntKind.bits] at h
  omega
theorem swap_perm {l : List Int} {k p : Nat} {e u : Int} (h1 : l[k]? = some e) (h2 : l[p]? = some u) : ((l.set k u).set p e).Perm l := by
  obtain ⟨hk, e1⟩ := List.getElem?_eq_some_iff.1 h1
  obtain ⟨hp, e2⟩ := List.getElem?_eq_some_iff.1 h2
  subst e1 e2
  exact List.set_set_perm hk hp
theorem ints_succ (k : Nat) : ints (k + 1) = ints k ++ [(k : Int)] := by simp [ints, List.range_succ]
theorem ints_len (k : Nat) : (ints k).length = k := by simp [ints]
theorem HM.later {w0 w1 w : World} {g ba room : Nat} {v : Value} {S : List En} (h : HM w1 w g ba v S room) (hb : Below w0.heap.size w0 w1) : HM w0 w g ba v S room :=
  ⟨h.hs, fun b hm => Nat.le_trans hb.size (h.own b hm), h.srt, hb.trans (h.bel.mono hb.size)⟩
/-- Two heaps and a row of numbers beside them. -/
structure AB (w1 w : World) (ga baa gb bab gt ct k : Nat) (va vb : Value) (Sa Sb : List En) (τ : List Int) : Prop where
  a : HM w1 w ga baa va Sa k
  b : HM w1 w gb bab vb Sb k
  ap : ∀ x ∈ hown ga baa va, x ∉ hown gb bab vb
  ta : gt ∉ hown ga baa va
  tb : gt ∉ hown gb bab vb
  tr : (Kd.int .i64).R 3 w 0 (fun b => b = gt) (.slice (some ⟨gt, 0, none⟩) k ct) τ
theorem own_new {w w' w1 : World} {g ba room : Nat} {v v' : Value} {S : List En} (h : HMn w1 w w' g ba v S room v') : ∀ x ∈ hown g ba v', x ∈ hown g ba v ∨ w.heap.size ≤ x := by
  intro x hx
  rcases mem_hown.1 hx with rfl | rfl | hx
  · exact .inl (mem_hown.2 (.inl rfl))
  · exact .inl (mem_hown.2 (.inr (.inl rfl)))
  · rcases h.ob with e | ⟨b', e, hb'⟩
    · exact .inl (mem_hown.2 (.inr (.inr (e ▸ hx))))
    · rw [e] at hx; injection hx with hx; subst hx; exact .inr hb'
variable {w1 w : World} {ga baa gb bab gt ct k : Nat} {va vb : Value} {Sa Sb : List En} {τ : List Int}
theorem AB.gt_lt (h : AB w1 w ga baa gb bab gt ct k va vb Sa Sb τ) : gt < w.heap.size := Kd.R_lt h.tr gt rfl
theorem AB.stepA {w' : World} {va' : Value} {Sa' : List En} (h : AB w1 w ga baa gb bab gt ct k va vb Sa Sb τ) (hn : HMn w1 w w' ga baa va Sa' k va') : AB w1 w' ga baa gb bab gt ct k va' vb Sa' Sb τ where
  a := hn.hm
  b := h.b.kp hn.kp h.ap h.a.own
  ap x hx hb := by
    rcases own_new hn x hx with h1 | h1
    · exact h.ap x h1 hb
    · have := h.b.hs.lts x hb; omega
  ta hx := by
    rcases own_new hn gt hx with h1 | h1
    · exact h.ta h1
    · have := h.gt_lt; omega
  tb := h.tb
  tr := Kd.R_step h.tr (fun b hb hl => by subst hb; exact hn.kp.block b hl h.ta)
theorem AB.stepB {w' : World} {vb' : Value} {Sb' : List En} (h : AB w1 w ga baa gb bab gt ct k va vb Sa Sb τ) (hn : HMn w1 w w' gb bab vb Sb' k vb') : AB w1 w' ga baa gb bab gt ct k va vb' Sa Sb' τ where
  a := h.a.kp hn.kp (fun x hx ha => h.ap x ha hx) h.b.own
  b := hn.hm
  ap x hx hb := by
    rcases own_new hn x hb with h1 | h1
    · exact h.ap x hx h1
    · have := h.a.hs.lts x hx; omega
  ta := h.ta
  tb hx := by
    rcases own_new hn gt hx with h1 | h1
    · exact h.tb h1
    · have := h.gt_lt; omega
  tr := Kd.R_step h.tr (fun b hb hl => by subst hb; exact hn.kp.block b hl h.tb)
theorem AB.below {w' : World} (h : AB w1 w ga baa gb bab gt ct k va vb Sa Sb τ) (hb : Below w.heap.size w w') : AB w1 w' ga baa gb bab gt ct k va vb Sa Sb τ :=
  ⟨h.a.below hb, h.b.below hb, h.ap, h.ta, h.tb, Kd.R_below h.tr hb⟩
def pa (K : List Int) (j : Nat) : En := ⟨(K[j]?).getD 0, 7, j⟩
def pb (K τ : List Int) (j : Nat) : En := ⟨(K[((τ[j]?).getD 0).toNat]?).getD 0, 7, (τ[j]?).getD 0⟩
theorem mem_ints {k : Nat} {t : Int} : t ∈ ints k ↔ ∃ j : Nat, j < k ∧ t = j := by
  simp only [ints, List.mem_map, List.mem_range]
  exact ⟨fun ⟨j, h, e⟩ => ⟨j, h, e.symm⟩, fun ⟨j, h, e⟩ => ⟨j, h, e.symm⟩⟩
theorem ints_nodup (k : Nat) : (ints k).Nodup := by
  unfold ints List.Nodup
  rw [List.pairwise_map]
  exact List.Pairwise.imp (fun h e => h (by omega)) List.nodup_range
theorem pb_at {K τ : List Int} {k q : Nat} (h : τ.Perm (ints k)) (hq : q < k) : ∃ jt : Nat, jt < k ∧ τ[q]? = some (jt : Int) ∧ pb K τ q = pa K jt := by
  have hl : τ.length = k := by rw [h.length_eq, ints_len]
  have hx := List.getElem?_eq_getElem (l := τ) (i := q) (by omega)
  obtain ⟨j, hj, e⟩ := mem_ints.1 (h.mem_iff.1 (List.mem_of_getElem? hx))
  rw [e] at hx
  exact ⟨j, hj, hx, by simp [pb, pa, hx]⟩
theorem pb_ne {K τ : List Int} {k q j : Nat} (h : τ.Perm (ints k)) (hq : q < k) (hj : j < q) : (pb K τ j).i ≠ (pb K τ q).i := by
  obtain ⟨a, ha, h1, e1⟩ := pb_at (K := K) h hq
  obtain ⟨b, hb, h2, e2⟩ := pb_at (K := K) h (show j < k by omega)
  rw [e1, e2]
  intro e
  simp only [pa] at e
  have hn : τ.Nodup := h.symm.nodup (ints_nodup k)
  obtain ⟨l1, g1⟩ := List.getElem?_eq_some_iff.1 h1
  obtain ⟨l2, g2⟩ := List.getElem?_eq_some_iff.1 h2
  exact List.pairwise_iff_getElem.1 hn j q l2 l1 hj (by rw [g1, g2]; exact e)
theorem same_set {K τ : List Int} {k : Nat} {Sa Sb : List En} (h : τ.Perm (ints k)) (ha : PutI (pa K) k Sa) (hb : PutI (pb K τ) k Sb) (sa : Srt Sa) (sb : Srt Sb) : Sa = Sb := by
  refine Srt.eq sa sb ((List.perm_ext_iff_of_nodup sa.nodup sb.nodup).2 (fun e => ?_))
  rw [ha.mem, hb.mem]
  constructor
  · rintro ⟨j, hj, rfl⟩
    obtain ⟨q, hq⟩ := List.mem_iff_getElem?.1 (h.mem_iff.2 (mem_ints.2 ⟨j, hj, rfl⟩))
    have hqk : q < k := by
      have := (List.getElem?_eq_some_iff.1 hq).1
      rw [h.length_eq, ints_len] at this
      exact this
    obtain ⟨jt, hjt, h1, e1⟩ := pb_at (K := K) h hqk
    rw [hq] at h1
    injection h1 with h1
    exact ⟨q, hqk, by rw [e1]; congr 1; omega⟩
  · rintro ⟨q, hq, rfl⟩
    obtain ⟨jt, hjt, h1, e1⟩ := pb_at (K := K) h hq
    exact ⟨jt, hjt, e1⟩
theorem again {S : List En} {y : En} (hs : Srt S) (hy : y ∈ S) (hinj : ∀ a ∈ S, ∀ b ∈ S, a.i = b.i → a = b) : ins y (S.filter fun x => x.i ≠ y.i) = S := by
  have hs1 : Srt (S.filter fun x => x.i ≠ y.i) := List.Pairwise.filter _ hs
  have hn : ∀ x ∈ S.filter (fun x => x.i ≠ y.i), x ≠ y := fun x hx e => by
    subst e
    simpa using (List.mem_filter.1 hx).2
  have hs2 := ins_srt y _ hs1 hn
  refine Srt.eq hs2 hs ((List.perm_ext_iff_of_nodup hs2.nodup hs.nodup).2 (fun e => ?_))
  rw [(ins_perm y _).mem_iff, List.mem_cons, List.mem_filter]
  simp only [decide_eq_true_eq]
  constructor
  · rintro (rfl | ⟨h, _⟩)
    · exact hy
    · exact h
  · intro h
    by_cases hi : e.i = y.i
    · exact .inl (hinj e h y hy hi)
    · exact .inr ⟨h, hi⟩
end Go.Proofs.Ytphkahphpgipkaa.Z

/- Put, Remove, Key over the set of entries. -/
import Derived.Test.YtifffmfbipjilaaHps
namespace Go.Proofs.Ytifffmfbipjilaa.Z.H
open Go.RowKit Go.Proofs.YtifffmfbipjilaaW.PrintWords Go.Proofs.YtifffmfbipjilaaW.PrintLast Go.Proofs.YtifffmfbipjilaaW.PrintMore
attribute [local go_sem] max2_int min2_int max_two min_two max_three min_three max_four min_four
set_option linter.unusedVariables false
set_option maxRecDepth 100000
set_option linter.unusedSimpArgs false
theorem At.len_le {l : List En} {at_ : List Int} (h : At l at_) : l.length ≤ at_.length := by
  have h1 : (l.map fun e => e.i.toNat).Nodup := by
    unfold List.Nodup
    rw [List.pairwise_map]
    refine List.Pairwise.imp_of_mem (fun ha hb hne e => ?_) h.injL
    obtain ⟨j, hj⟩ := List.mem_iff_getElem?.1 ha
    obtain ⟨k, hk⟩ := List.mem_iff_getElem?.1 hb
    have := (h.fwd j _ hj).1
    have := (h.fwd k _ hk).1
    exact hne (by omega)
  have := nodup_lt_len at_.length (l.map fun e => e.i.toNat) h1 (fun k hk => by
    obtain ⟨e, he, rfl⟩ := List.mem_map.1 hk
    obtain ⟨j, hj⟩ := List.mem_iff_getElem?.1 he
    exact (List.getElem?_eq_some_iff.1 (h.fwd j e hj).2).1)
  rw [List.length_map] at this
  exact this
/-- The heap at g holds just the entries of S, of room members. -/
structure HS (w : World) (g ba : Nat) (v : Value) (S : List En) (room : Nat) : Prop where
  ex : ∃ l at_, Hp w g ba v l at_ ∧ HeapL l ∧ At l at_ ∧ l.Perm S ∧ at_.length = room
theorem HS.kp {w w1 : World} {g ba room : Nat} {v : Value} {S : List En} (h : HS w g ba v S room) {T : List Nat} (k : Kp T w w1) (hT : ∀ b ∈ T, b ∉ hown g ba v) : HS w1 g ba v S room := by
  obtain ⟨l, a, h1, h2⟩ := h.ex
  exact ⟨l, a, h1.kp k hT, h2⟩
theorem HS.below {w w1 : World} {g ba room : Nat} {v : Value} {S : List En} (h : HS w g ba v S room) (hb : Below w.heap.size w w1) : HS w1 g ba v S room := by
  obtain ⟨l, a, h1, h2⟩ := h.ex
  exact ⟨l, a, h1.below hb, h2⟩
theorem HS.lts {w : World} {g ba room : Nat} {v : Value} {S : List En} (h : HS w g ba v S room) : ∀ b ∈ hown g ba v, b < w.heap.size := by
  obtain ⟨l, a, h1, _⟩ := h.ex
  exact h1.lts
/-- Where a member is: -1 just where nobody of S is it. -/
theorem at_none {l : List En} {at_ : List Int} (h : At l at_) {i : Nat} {x : Int} (hx : at_[i]? = some x) : x = -1 ↔ ∀ e ∈ l, e.i ≠ (i : Int) := by
  constructor
  · intro hm e he hi
    obtain ⟨k, hk⟩ := List.mem_iff_getElem?.1 he
    have hf := (h.fwd k e hk).2
    rw [show e.i.toNat = i by omega, hx] at hf
    injection hf with hf
    omega
  · intro hm
    rcases h.back i x hx with hv | ⟨k, e, _, he, hi⟩
    · exact hv
    · exact absurd hi (hm e (List.mem_of_getElem? he))
theorem put_arg (g ba room : Nat) (v : Value) (S : List En) (i key tie : Int) (w : World) (h : HS w g ba v S room) (hi : ¬ (0 ≤ i ∧ i < room)) :
    Calls Try.prog 34 #[.pointer (some ⟨g, 0, none⟩), .int .i64 i, .int .i64 key, .int .u64 tie] w fun r w' => r = .returned (.int .i64 1) ∧ w = w' := by
  obtain ⟨l, a, h1, h2, h3, h4, h5⟩ := h.ex
  have hm := hmem_ok g ba v l a i w h1
  rw [show (decide (0 ≤ i) && decide (i < (a.length : Int))) = false by rw [h5]; simp; omega] at hm
  have HM := Aside0.mk hm
  clear h h1 h2 h3 h4 h5 hm hi
  go_enter Try.func34, Try.ntmps34
  go_wp2_with (go_at_call 58; refine HM.out.mono ?_; rintro e w' ⟨rfl, rfl⟩)
  go_ret
  exact ⟨rfl, rfl⟩
theorem put_busy (g ba room : Nat) (v : Value) (S : List En) (i key tie : Int) (w : World) (h : HS w g ba v S room) (hi : 0 ≤ i ∧ i < room) (hin : ∃ e ∈ S, e.i = i) :
    Calls Try.prog 34 #[.pointer (some ⟨g, 0, none⟩), .int .i64 i, .int .i64 key, .int .u64 tie] w fun r w' => r = .returned (.int .i64 10) ∧ w = w' := by
  obtain ⟨l, a, h1, h2, h3, h4, h5⟩ := h.ex
  have hm := hmem_ok g ba v l a i w h1
  rw [show (decide (0 ≤ i) && decide (i < (a.length : Int))) = true by rw [h5]; simp; omega] at hm
  obtain ⟨n, hn⟩ : ∃ n : Nat, i = (n : Int) := ⟨i.toNat, by omega⟩
  subst hn
  have hnl : n < a.length := by omega
  obtain ⟨x, hx⟩ : ∃ x, a[n]? = some x := ⟨_, List.getElem?_eq_getElem hnl⟩
  obtain ⟨c1, z1⟩ := h1.at_cell hx
  have hne : (x != -1) = true := by
    rw [bne_iff_ne]
    intro e
    obtain ⟨y, hy, hyi⟩ := hin
    exact (at_none h3 hx).1 e y (h4.mem_iff.2 hy) hyi
  have c0 := h1.head.cell 1 rfl
  have n0 : (0 : Int) ≤ (n : Int) := by omega
  have n1 : (n : Int) < (a.length : Int) := by omega
  have HM := Aside0.mk hm
  clear h h1 h2 h3 h4 h5 hm hi hx hnl hin
  go_enter Try.func34, Try.ntmps34
  go_wp2_with (go_at_call 58; refine HM.out.mono ?_; rintro e w' ⟨rfl, rfl⟩)
  go_ret
  exact ⟨rfl, rfl⟩
set_option maxHeartbeats 4000000 in
theorem put_new (g ba room : Nat) (v : Value) (S : List En) (e : En) (w : World) (h : HS w g ba v S room) (hi : 0 ≤ e.i ∧ e.i < room) (hin : ∀ x ∈ S, x.i ≠ e.i) :
    Calls Try.prog 34 #[.pointer (some ⟨g, 0, none⟩), .int .i64 e.i, .int .i64 e.key, .int .u64 e.tie] w fun r w' => r = .returned (.int .i64 0) ∧ ∃ v', HS w' g ba v' (e :: S) room ∧ Kp (hown g ba v) w w' ∧ (v'.ownBlock = v.ownBlock ∨ ∃ b, v'.ownBlock = some b ∧ w.heap.size ≤ b) := by
  obtain ⟨l, a, h1, h2, h3, h4, h5⟩ := h.ex
  obtain ⟨key, tie, i⟩ := e
  dsimp only at *
  obtain ⟨n, rfl⟩ : ∃ n : Nat, i = (n : Int) := ⟨i.toNat, by omega⟩
  have hm := hmem_ok g ba v l a n w h1
  rw [show (decide (0 ≤ (n : Int)) && decide ((n : Int) < (a.length : Int))) = true by rw [h5]; simp; omega] at hm
  have hnl : n < a.length := by omega
  obtain ⟨x, hx⟩ : ∃ x, a[n]? = some x := ⟨_, List.getElem?_eq_getElem hnl⟩
  have hxm : x = -1 := (at_none h3 hx).2 (fun y hy => hin y (h4.mem_iff.1 hy))
  subst hxm
  have hA := h3.snoc (e := ⟨key, tie, n⟩) hi.1 hx
  have hlen := hA.len_le
  rw [List.length_append, List.length_set, List.length_singleton] at hlen
  have h10 := h1.small
  have hll : l.length ≤ 1023 := by omega
  have hB := HB.snoc h2 ⟨key, tie, n⟩
  obtain ⟨A, c, rfl⟩ := Kd.R_slice h1.row
  obtain ⟨c1, z1⟩ := h1.at_cell hx
  have c0 := h1.head.cell 1 rfl
  have c00 := h1.head.cell 0 rfl
  have z00 := h1.head.frozen 0
  have n0 : (0 : Int) ≤ (n : Int) := by omega
  have n1 : (n : Int) < (a.length : Int) := by omega
  have hal : Below w.heap.size w (w.alloc (.cells #[.int .i64 key, .int .u64 tie, .int .i64 n] 128)) := below_alloc (Below.refl _ w) _
  have HW := Aside0.mk (And.intro h1 (And.intro hA (And.intro hB (And.intro h4 (And.intro h5 (And.intro h1.row h1.head))))))
  have HM := Aside0.mk hm
  have HL0 := Aside0.mk h1.lts
  clear h h2 h3 h4 h5 hm hi hx hnl hin hlen h10 hA hB hal h1
  go_enter Try.func34, Try.ntmps34
  go_wp2_with (first | (go_at_call 58; refine HM.out.mono ?_; rintro r w' ⟨rfl, rfl⟩) | (at_builtin; refine Kd.R_append En.kd (w0 := w) 0 rfl (.tmp 30) (.tmp 35) 117 128 (.agg #[.int .i64 0, .int .u64 0, .int .i64 0]) 24 rfl Try.underlying117 (by kernel_rfl) rfl (by decide) (by omega) _ l ⟨key, tie, n⟩ (En.enc ⟨key, tie, n⟩) (fun _ => True) (fun _ => False) rfl rfl rfl (fun _ hk => hk.elim) (fun _ _ => trivial) HW.out.2.2.2.2.2.1 (Below.mono (Below.refl w.heap.size w) (Nat.zero_le _)) (Nat.zero_le _) (by omega) ?_; intro v1 w1 hR1 hB1 hg1 ho1; have hG1 := HW.out.2.2.2.2.2.2.grown HW.out.2.2.2.2.2.1 (by decide) hg1; have k3 := hG1.cell 0 rfl; have k4 := hG1.frozen 0; have HG1 := Aside0.mk hG1; have HR1 := Aside0.mk hR1; have HGO := Aside0.mk (And.intro hg1 ho1); clear hG1 hR1 hB1 hg1 ho1; obtain ⟨A1, m1, hv1⟩ := Kd.R_slice HR1.out; rw [List.length_append] at hv1; simp only [List.length_singleton] at hv1; subst hv1))
  have hg1 : w.grownBy w1 (Value.slice A l.length c).ownBlock := HGO.out.1
  have ho1 : (Value.slice A1 (l.length + 1) m1).ownBlock = (Value.slice A l.length c).ownBlock ∨ ∃ b, (Value.slice A1 (l.length + 1) m1).ownBlock = some b ∧ w.heap.size ≤ b := HGO.out.2
  obtain ⟨h1, hA, hB, h4, h5, hrow, hhead⟩ := HW.out
  have hne := h1.ne
  have hats := (h1.ats.grown hrow (by decide) hg1).far (p := ⟨g, 0, none⟩) (fun e => hne.1 e.symm) (.slice A1 (l.length + 1) m1)
  have hH : Hp (w1.setCell ⟨g, 0, none⟩ (.slice A1 (l.length + 1) m1)) g ba (.slice A1 (l.length + 1) m1) (l ++ [⟨key, tie, n⟩]) a :=
    ⟨HG1.out.put 0 _ rfl, Kd.R_mono (Kd.R_set HR1.out HG1.out (by simp [En.kd, fk]) 0 _) (fun _ _ => trivial), hats, h1.small⟩
  have hK : Kp (hown g ba (.slice A l.length c)) w (w1.setCell ⟨g, 0, none⟩ (.slice A1 (l.length + 1) m1)) :=
    ((Kp.refl _ w).grown hg1 (fun k hk => .inl (mem_hown.2 (.inr (.inr hk))))).set (p := ⟨g, 0, none⟩) (.inl (mem_hown.2 (.inl rfl))) _
  have hup := up_ok g ba (.slice A1 (l.length + 1) m1) (l ++ [⟨key, tie, n⟩]) a l.length ⟨key, tie, n⟩ _ hH hA (by simp) hB (by rw [List.length_append]; simp; omega)
  have HK := Aside0.mk (And.intro hK (And.intro ho1 (And.intro h4 h5)))
  clear hg1 ho1 h1 hA hB h4 h5 hrow hhead hne hats hH hK HW HG1 HR1 HGO k3 k4
  refine hup.mono ?_
  clear hup
  rintro r w3 ⟨rfl, l', at', k', hH3, hD, hkd, hal, hk3⟩
  have hheap : HeapL l' := by
    rcases hkd with rfl | hkd
    · refine hD.ended (fun j x h1 h2 h3 => ?_)
      have h4 := (List.getElem?_eq_some_iff.1 h3).1
      have h5 := hD.perm.length_eq
      rw [List.length_append, List.length_singleton] at h5
      omega
    · exact hD.kids hkd
  have hperm : l'.Perm (⟨key, tie, n⟩ :: S) := (hD.perm.trans List.perm_append_comm).trans (by
    rw [List.singleton_append]
    exact HK.out.2.2.1.cons _)
  have hkk : Kp (hown g ba (.slice A l.length c)) w w3 := HK.out.1.then_ hk3 (fun b hb => by
    rcases mem_hown.1 hb with rfl | rfl | hb
    · exact .inl (mem_hown.2 (.inl rfl))
    · exact .inl (mem_hown.2 (.inr (.inl rfl)))
    · rcases HK.out.2.1 with e | ⟨b', e, hb'⟩
      · exact .inl (mem_hown.2 (.inr (.inr (e ▸ hb))))
      · rw [e] at hb; injection hb with hb; subst hb; exact .inr hb')
  have HF := Aside0.mk (And.intro (HS.mk ⟨l', at', hH3, hheap, hD.at_, hperm, hal.trans HK.out.2.2.2⟩) (And.intro hkk HK.out.2.1))
  clear hH3 hD hkd hal hk3 hheap hperm hkk HK
  go_wp2_with (fail)
  go_ret
  exact ⟨rfl, _, HF.out.1, HF.out.2.1, HF.out.2.2⟩
end Go.Proofs.Ytifffmfbipjilaa.Z.H

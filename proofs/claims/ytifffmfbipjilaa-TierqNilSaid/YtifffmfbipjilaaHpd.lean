/- down. (Printed by gen_hpd.py.) -/
import Derived.Test.YtifffmfbipjilaaHpu
namespace Go.Proofs.Ytifffmfbipjilaa.Z.H
open Go.RowKit Go.Proofs.YtifffmfbipjilaaW.PrintWords Go.Proofs.YtifffmfbipjilaaW.PrintLast Go.Proofs.YtifffmfbipjilaaW.PrintMore
attribute [local go_sem] max2_int min2_int max_two min_two max_three min_three max_four min_four
set_option linter.unusedVariables false
set_option maxRecDepth 100000
set_option linter.unusedSimpArgs false
/-- What a round of down keeps. -/
structure Dn (w1 wr : World) (g ba q : Nat) (v : Value) (l : List En) (n : Nat) (e : En) (j : Nat) (m : List En) (a : List Int) : Prop where
  inv : DnI l (m.set j e) (a.set e.i.toNat j) e j
  hp : Hp wr g ba v m a
  len : m.length = l.length
  alen : a.length = n
  kp : Kp (hown g ba v) w1 wr
  box : Blk wr q 128 e.enc
section
variable {w1 wr w3 w4 : World} {g ba q : Nat} {v : Value} {l : List En} {n : Nat} {e u : En} {j p c : Nat} {m : List En} {a : List Int}
theorem Dn.below (h : Dn w1 wr g ba q v l n e j m a) (hb : Below wr.heap.size wr w3) : Dn w1 w3 g ba q v l n e j m a :=
  ⟨h.inv, h.hp.below hb, h.len, h.alen, h.kp.below hb, h.box.below hb⟩
theorem Dn.at_e (h : Dn w1 wr g ba q v l n e j m a) : 0 ≤ e.i ∧ e.i < n := by
  have := set_len_at h.inv.at_ h.inv.lies
  rw [h.alen] at this
  exact this
theorem Dn.other (h : Dn w1 wr g ba q v l n e j m a) (hpj : p ≠ j) (hu : m[p]? = some u) : (m.set j e)[p]? = some u := by
  rw [List.getElem?_set, if_neg (fun e => hpj e.symm)]; exact hu
theorem Dn.back (h : Dn w1 wr g ba q v l n e j m a) (hpj : p ≠ j) (hu : (m.set j e)[p]? = some u) : m[p]? = some u := by
  rw [List.getElem?_set, if_neg (fun e => hpj e.symm)] at hu; exact hu
theorem Dn.at_u (h : Dn w1 wr g ba q v l n e j m a) (hpj : p ≠ j) (hu : m[p]? = some u) : 0 ≤ u.i ∧ u.i < n ∧ e.i.toNat ≠ u.i.toNat := by
  have h1 := set_len_at h.inv.at_ (h.other hpj hu)
  rw [h.alen] at h1
  refine ⟨h1.1, h1.2, fun e' => hpj ?_⟩
  have := h.at_e
  exact (h.inv.at_.inj h.inv.lies (h.other hpj hu) (by omega)).symm
/-- A step down: the branch c, that comes first, comes up to j. -/
theorem Dn.step (h : Dn w1 wr g ba q v l n e j m a) (hq : q ∉ hown g ba v) (hc1 : 1 ≤ c) (hcj : (c - 1) / 2 = j) (hu : m[c]? = some u) (hm : ∀ i x, 1 ≤ i → (i - 1) / 2 = j → m[i]? = some x → ¬ x.lt u) (hl : u.lt e)
    (h4 : Hp w4 g ba v (m.set j u) (a.set u.i.toNat j)) (k4 : Kp (hown g ba v) wr w4) : Dn w1 w4 g ba q v l n e c (m.set j u) (a.set u.i.toNat j) := by
  have hpj : c ≠ j := by omega
  have hs := h.inv.step hc1 hcj (h.other hpj hu) (fun i x h1 h2 h3 => hm i x h1 h2 (h.back (by omega) h3)) hl
  have hne := (h.at_u hpj hu).2.2
  refine ⟨?_, h4, by rw [List.length_set]; exact h.len, by rw [List.length_set]; exact h.alen, h.kp.trans k4, k4.blk h.box hq⟩
  rw [List.set_set, set_swap _ _ _ 0 _ _ _ hne] at hs
  exact hs
end
set_option maxHeartbeats 8000000 in
set_option maxRecDepth 100000 in
theorem down_ok (g ba : Nat) (v : Value) (l : List En) (at_ : List Int) (k : Nat) (e : En) (w : World) (h : Hp w g ba v l at_) (hA : At l at_) (hx : l[k]? = some e) (hB : HD (fn l) l.length k) (hl : l.length ≤ 1024) :
    Calls Try.prog 63 #[.pointer (some ⟨g, 0, none⟩), .int .i64 k] w fun r w' => r = .returned (.tuple #[]) ∧ ∃ l' at', Hp w' g ba v l' at' ∧ l'.Perm l ∧ At l' at' ∧ HeapL l' ∧ at'.length = at_.length ∧ Kp (hown g ba v) w w' := by
  have hk : k < l.length := (List.getElem?_eq_some_iff.1 hx).1
  obtain ⟨gr, cp, hv⟩ := h.row_form (by omega)
  subst hv
  have c0 := h.head.cell 0 rfl
  obtain ⟨y0, y1, y2⟩ := h.cells hx
  have k0 : (0 : Int) ≤ (k : Int) := by omega
  have k1 : (k : Int) < (l.length : Int) := by omega
  have hbox : Blk (w.alloc (.cells #[.int .i64 e.key, .int .u64 e.tie, .int .i64 e.i] 128)) w.heap.size 128 e.enc := Blk.new w 128 e.enc
  have hal : Below w.heap.size w (w.alloc (.cells #[.int .i64 e.key, .int .u64 e.tie, .int .i64 e.i] 128)) := below_alloc (Below.refl _ w) _
  have hlts := h.lts
  have hset : l.set k e = l := by
    apply List.ext_getElem?
    intro i
    rw [List.getElem?_set]
    by_cases hi : k = i
    · subst hi; rw [if_pos rfl, if_pos hk, hx]
    · rw [if_neg hi]
  have hata := (hA.fwd k e hx)
  have hats : at_.set e.i.toNat k = at_ := by
    apply List.ext_getElem?
    intro i
    rw [List.getElem?_set]
    by_cases hi : e.i.toNat = i
    · subst hi; rw [if_pos rfl, if_pos (List.getElem?_eq_some_iff.1 hata.2).1, hata.2]
    · rw [if_neg hi]
  have hU : Dn (w.alloc (.cells #[.int .i64 e.key, .int .u64 e.tie, .int .i64 e.i] 128)) (w.alloc (.cells #[.int .i64 e.key, .int .u64 e.tie, .int .i64 e.i] 128)) g ba w.heap.size (.slice (some ⟨gr, 0, none⟩) l.length cp) l at_.length e k l at_ :=
    ⟨by rw [hset, hats]; exact ⟨List.Perm.refl _, hx, hA, hB⟩, h.below hal, rfl, rfl, Kp.refl _ _, hbox⟩
  have HU := Aside0.mk hU
  have HKA := Aside0.mk (Kp.of_below (S := hown g ba (.slice (some ⟨gr, 0, none⟩) l.length cp)) hal)
  have hqn : w.heap.size ∉ hown g ba (.slice (some ⟨gr, 0, none⟩) l.length cp) := fun hm => by have := hlts _ hm; omega
  have HQN := Aside0.mk hqn
  clear hset hats hata hU hal hqn hlts hbox hA hB hx h
  go_enter Try.func63, Try.ntmps63
  go_wp2_with (fail)
  obtain ⟨q, hq⟩ : ∃ q, q = w.heap.size := ⟨_, rfl⟩
  rw [← hq] at HU HQN ⊢
  generalize (w.alloc (.cells #[.int .i64 e.key, .int .u64 e.tie, .int .i64 e.i] 128)) = w1 at *
  clear hq y0 y1 y2 c0
  go_loopw [1] (fun i wr => ∃ (j : Nat) (m : List En) (a : List Int), j < l.length ∧ i = .int .i64 j ∧ Dn w1 wr g ba q (.slice (some ⟨gr, 0, none⟩) l.length cp) l at_.length e j m a) (fun i _ => l.length - (intOf i).toNat)
  case atStart => exact ⟨k, l, at_, hk, rfl, HU.out⟩
  case round =>
    obtain ⟨j, m, a, hj, rfl, hU⟩ := hrel
    have HU := Aside0.mk hU
    have hmj : j < m.length := by rw [hU.len]; exact hj
    have hml : m.length ≤ 1024 := by rw [hU.len]; exact hl
    have HAL := Aside0.mk (And.intro hU.alen (And.intro hmj (And.intro hml hU.len)))
    have c0 := hU.hp.head.cell 0 rfl
    have hjb : (j : Int) ≤ 1024 := by omega
    have hj0 : (0 : Int) ≤ (j : Int) := by omega
    obtain ⟨c, hc⟩ : ∃ c : Nat, 2 * j + 1 = c := ⟨_, rfl⟩
    have hcI : 2 * (j : Int) + 1 = (c : Int) := by omega
    have hcj : (c - 1) / 2 = j := by omega
    have hc1 : 1 ≤ c := by omega
    have hcb : (c : Int) ≤ 2049 := by omega
    have hc0 : (0 : Int) ≤ (c : Int) := by omega
    clear hU hmj hml
    go_upto_region 2 with (fail)
    try rw [hcI]
    clear hcI
    by_cases hA1 : c + 1 < l.length
    · have hA1' : (c : Int) + 1 < (l.length : Int) := by omega
      obtain ⟨u0, hu0⟩ : ∃ u, m[c]? = some u := ⟨_, List.getElem?_eq_getElem (by have := HAL.out.2.2.2; omega)⟩
      obtain ⟨u1, hu1⟩ : ∃ u, m[c + 1]? = some u := ⟨_, List.getElem?_eq_getElem (by have := HAL.out.2.2.2; omega)⟩
      have hkids : ∀ i x, 1 ≤ i → (i - 1) / 2 = j → m[i]? = some x → x = u0 ∨ x = u1 := fun i x h1 h2 h3 => by
        have : i = c ∨ i = c + 1 := by omega
        rcases this with rfl | rfl
        · rw [hu0] at h3; injection h3 with h3; exact .inl h3.symm
        · rw [hu1] at h3; injection h3 with h3; exact .inr h3.symm
      have HKD := Aside0.mk (And.intro hu0 (And.intro hu1 hkids))
      obtain ⟨y0, y1, y2⟩ := HU.out.hp.cells hu0
      obtain ⟨z0, z1, z2⟩ := HU.out.hp.cells hu1
      have hi0 : (c : Int) < (l.length : Int) := by omega
      have hi1 : (0 : Int) ≤ (c : Int) + 1 := by omega
      have hi2 : ((c : Int) + 1).toNat = c + 1 := by omega
      have hw1 : IntKind.i64.wrap ((c : Int) + 1) = (c : Int) + 1 := by exact IntWalk.i64_in _ (by omega)
      clear hu0 hu1 hkids
      go_still_tail 24, (by kernel_rfl)
      change wpList _ _ _ _ _ wr.drew
      clear hw1
      go_wp2_with (fail)
      refine (order_ok u1 u0 _).mono ?_
      rintro r w3 ⟨rfl, hb3⟩
      have HB3 := Aside0.mk (below_step (below_drew (Below.refl _ wr)) hb3)
      clear hb3 c0 y0 y1 y2 z0 z1 z2
      have ho := ordF_lt u1 u0
      by_cases hlt : u1.lt u0
      · have ho' : ordF u1 u0 < 0 := ho.2 hlt
        have HUU := Aside0.mk (And.intro HKD.out.2.1 (show ∀ i x, 1 ≤ i → (i - 1) / 2 = j → m[i]? = some x → ¬ x.lt u1 from fun i x h1 h2 h3 => by
          rcases HKD.out.2.2 i x h1 h2 h3 with rfl | rfl
          · exact En.le_of_lt hlt
          · exact En.lt_irrefl _))
        clear ho hlt
        generalize ordF u1 u0 = r1 at *
        have HU3 := Aside0.mk (HU.out.below (w3 := w3) HB3.out)
        clear HU
        have c0 := HU3.out.hp.head.cell 0 rfl
        obtain ⟨y0, y1, y2⟩ := HU3.out.hp.cells HUU.out.1
        have x0 := HU3.out.box.cell 0 rfl
        have x1 := HU3.out.box.cell 1 rfl
        have x2 := HU3.out.box.cell 2 rfl
        have hi2' : ((c : Int) + 1).toNat = c + 1 := by omega
        go_upto_region 4 with (fail)
        go_still_tail 16, (by kernel_rfl)
        change wpList _ _ _ _ _ w3.drew
        go_wp2_with (fail)
        refine (order_ok e u1 _).mono ?_
        rintro r w5 ⟨rfl, hb5⟩
        have HU5 := Aside0.mk (HU3.out.below (w3 := w5) (below_step (below_drew (Below.refl _ _)) hb5))
        clear HU3 hb5 c0 y0 y1 y2 x0 x1 x2
        have c0 := HU5.out.hp.head.cell 0 rfl
        obtain ⟨y0, y1, y2⟩ := HU5.out.hp.cells HUU.out.1
        have x0 := HU5.out.box.cell 0 rfl
        have x1 := HU5.out.box.cell 1 rfl
        have x2 := HU5.out.box.cell 2 rfl
        have ho := ordF_le e u1
        by_cases hlt : u1.lt e
        · have ho' : ¬ ordF e u1 ≤ 0 := fun h => ho.1 h hlt
          have HLT := Aside0.mk hlt
          have HUA := Aside0.mk (HU5.out.at_u (p := (c + 1)) (by omega) HUU.out.1)
          clear ho hlt
          generalize ordF e u1 = r0 at *
          go_wp2_with (fail)
          refine (lay_ok g ba _ m a j u1 _ HU5.out.hp HAL.out.2.1 HAL.out.2.2.1 HUA.out.1 (by rw [HAL.out.1]; exact HUA.out.2.1)).mono ?_
          rintro r w4 ⟨rfl, h4, k4⟩
          have HU4 := Aside0.mk (HU5.out.step HQN.out (by omega) (by omega) HUU.out.1 HUU.out.2 HLT.out h4 k4)
          clear h4 k4 HU5 c0 y0 y1 y2 x0 x1 x2
          go_wp2_with (fail)
          go_roundw
          case rel => exact ⟨(c + 1), _, _, by omega, by first | rfl | go_num, HU4.out⟩
          case measure => simp [intOf] <;> omega
        · have ho' : ordF e u1 ≤ 0 := ho.2 hlt
          have HLT := Aside0.mk hlt
          have HEA := Aside0.mk (HU5.out.at_e)
          clear ho hlt
          generalize ordF e u1 = r0 at *
          go_wp2_with (fail)
          refine (lay_ok g ba _ m a j e _ HU5.out.hp HAL.out.2.1 HAL.out.2.2.1 HEA.out.1 (by rw [HAL.out.1]; exact HEA.out.2)).mono ?_
          rintro r w4 ⟨rfl, h4, k4⟩
          have hen := HU5.out.inv.ended (fun i x h1 h2 h3 => En.le_trans HLT.out (HUU.out.2 i x h1 h2 (HU5.out.back (by omega) h3)))
          have HF := Aside0.mk (And.intro h4 (And.intro HU5.out.inv (And.intro hen (And.intro (HKA.out.trans (HU5.out.kp.trans k4)) HAL.out.1))))
          clear h4 k4 hen HU5 c0 y0 y1 y2 x0 x1 x2
          go_wp2_with (fail)
          go_end0
          exact ⟨rfl, _, _, HF.out.1, HF.out.2.1.perm, HF.out.2.1.at_, HF.out.2.2.1, by rw [List.length_set]; exact HF.out.2.2.2.2, HF.out.2.2.2.1⟩
      · have ho' : ¬ ordF u1 u0 < 0 := fun h => hlt (ho.1 h)
        have HUU := Aside0.mk (And.intro HKD.out.1 (show ∀ i x, 1 ≤ i → (i - 1) / 2 = j → m[i]? = some x → ¬ x.lt u0 from fun i x h1 h2 h3 => by
          rcases HKD.out.2.2 i x h1 h2 h3 with rfl | rfl
          · exact En.lt_irrefl _
          · exact hlt))
        clear ho hlt
        generalize ordF u1 u0 = r1 at *
        have HU3 := Aside0.mk (HU.out.below (w3 := w3) HB3.out)
        clear HU
        have c0 := HU3.out.hp.head.cell 0 rfl
        obtain ⟨y0, y1, y2⟩ := HU3.out.hp.cells HUU.out.1
        have x0 := HU3.out.box.cell 0 rfl
        have x1 := HU3.out.box.cell 1 rfl
        have x2 := HU3.out.box.cell 2 rfl
        have hge : ¬ l.length ≤ c := by omega
        go_upto_region 4 with (fail)
        go_still_tail 16, (by kernel_rfl)
        change wpList _ _ _ _ _ w3.drew
        go_wp2_with (fail)
        refine (order_ok e u0 _).mono ?_
        rintro r w5 ⟨rfl, hb5⟩
        have HU5 := Aside0.mk (HU3.out.below (w3 := w5) (below_step (below_drew (Below.refl _ _)) hb5))
        clear HU3 hb5 c0 y0 y1 y2 x0 x1 x2
        have c0 := HU5.out.hp.head.cell 0 rfl
        obtain ⟨y0, y1, y2⟩ := HU5.out.hp.cells HUU.out.1
        have x0 := HU5.out.box.cell 0 rfl
        have x1 := HU5.out.box.cell 1 rfl
        have x2 := HU5.out.box.cell 2 rfl
        have ho := ordF_le e u0
        by_cases hlt : u0.lt e
        · have ho' : ¬ ordF e u0 ≤ 0 := fun h => ho.1 h hlt
          have HLT := Aside0.mk hlt
          have HUA := Aside0.mk (HU5.out.at_u (p := c) (by omega) HUU.out.1)
          clear ho hlt
          generalize ordF e u0 = r0 at *
          go_wp2_with (fail)
          refine (lay_ok g ba _ m a j u0 _ HU5.out.hp HAL.out.2.1 HAL.out.2.2.1 HUA.out.1 (by rw [HAL.out.1]; exact HUA.out.2.1)).mono ?_
          rintro r w4 ⟨rfl, h4, k4⟩
          have HU4 := Aside0.mk (HU5.out.step HQN.out (by omega) (by omega) HUU.out.1 HUU.out.2 HLT.out h4 k4)
          clear h4 k4 HU5 c0 y0 y1 y2 x0 x1 x2
          go_wp2_with (fail)
          go_roundw
          case rel => exact ⟨c, _, _, by omega, by first | rfl | go_num, HU4.out⟩
          case measure => simp [intOf] <;> omega
        · have ho' : ordF e u0 ≤ 0 := ho.2 hlt
          have HLT := Aside0.mk hlt
          have HEA := Aside0.mk (HU5.out.at_e)
          clear ho hlt
          generalize ordF e u0 = r0 at *
          go_wp2_with (fail)
          refine (lay_ok g ba _ m a j e _ HU5.out.hp HAL.out.2.1 HAL.out.2.2.1 HEA.out.1 (by rw [HAL.out.1]; exact HEA.out.2)).mono ?_
          rintro r w4 ⟨rfl, h4, k4⟩
          have hen := HU5.out.inv.ended (fun i x h1 h2 h3 => En.le_trans HLT.out (HUU.out.2 i x h1 h2 (HU5.out.back (by omega) h3)))
          have HF := Aside0.mk (And.intro h4 (And.intro HU5.out.inv (And.intro hen (And.intro (HKA.out.trans (HU5.out.kp.trans k4)) HAL.out.1))))
          clear h4 k4 hen HU5 c0 y0 y1 y2 x0 x1 x2
          go_wp2_with (fail)
          go_end0
          exact ⟨rfl, _, _, HF.out.1, HF.out.2.1.perm, HF.out.2.1.at_, HF.out.2.2.1, by rw [List.length_set]; exact HF.out.2.2.2.2, HF.out.2.2.2.1⟩
    · have hA1' : ¬ (c : Int) + 1 < (l.length : Int) := by omega
      have hw1 : IntKind.i64.wrap ((c : Int) + 1) = (c : Int) + 1 := by exact IntWalk.i64_in _ (by omega)
      go_quiet (fail)
      clear hw1
      have HB3 := Aside0.mk (pw_below_drewN (Below.refl wr.heap.size wr) nq)
      generalize wr.drewN nq = w3 at *
      clear c0
      by_cases hA0 : c < l.length
      · have hA0' : (c : Int) < (l.length : Int) := by omega
        obtain ⟨u0, hu0⟩ : ∃ u, m[c]? = some u := ⟨_, List.getElem?_eq_getElem (by have := HAL.out.2.2.2; omega)⟩
        have HUU := Aside0.mk (And.intro hu0 (show ∀ i x, 1 ≤ i → (i - 1) / 2 = j → m[i]? = some x → ¬ x.lt u0 from fun i x h1 h2 h3 => by
          have h4 := (List.getElem?_eq_some_iff.1 h3).1
          have h5 := HAL.out.2.2.2
          have : i = c := by omega
          subst this
          rw [hu0] at h3; injection h3 with h3; subst h3; exact En.lt_irrefl _))
        clear hu0
        have HU3 := Aside0.mk (HU.out.below (w3 := w3) HB3.out)
        clear HU
        have c0 := HU3.out.hp.head.cell 0 rfl
        obtain ⟨y0, y1, y2⟩ := HU3.out.hp.cells HUU.out.1
        have x0 := HU3.out.box.cell 0 rfl
        have x1 := HU3.out.box.cell 1 rfl
        have x2 := HU3.out.box.cell 2 rfl
        have hge : ¬ l.length ≤ c := by omega
        go_upto_region 4 with (fail)
        go_still_tail 16, (by kernel_rfl)
        change wpList _ _ _ _ _ w3.drew
        go_wp2_with (fail)
        refine (order_ok e u0 _).mono ?_
        rintro r w5 ⟨rfl, hb5⟩
        have HU5 := Aside0.mk (HU3.out.below (w3 := w5) (below_step (below_drew (Below.refl _ _)) hb5))
        clear HU3 hb5 c0 y0 y1 y2 x0 x1 x2
        have c0 := HU5.out.hp.head.cell 0 rfl
        obtain ⟨y0, y1, y2⟩ := HU5.out.hp.cells HUU.out.1
        have x0 := HU5.out.box.cell 0 rfl
        have x1 := HU5.out.box.cell 1 rfl
        have x2 := HU5.out.box.cell 2 rfl
        have ho := ordF_le e u0
        by_cases hlt : u0.lt e
        · have ho' : ¬ ordF e u0 ≤ 0 := fun h => ho.1 h hlt
          have HLT := Aside0.mk hlt
          have HUA := Aside0.mk (HU5.out.at_u (p := c) (by omega) HUU.out.1)
          clear ho hlt
          generalize ordF e u0 = r0 at *
          go_wp2_with (fail)
          refine (lay_ok g ba _ m a j u0 _ HU5.out.hp HAL.out.2.1 HAL.out.2.2.1 HUA.out.1 (by rw [HAL.out.1]; exact HUA.out.2.1)).mono ?_
          rintro r w4 ⟨rfl, h4, k4⟩
          have HU4 := Aside0.mk (HU5.out.step HQN.out (by omega) (by omega) HUU.out.1 HUU.out.2 HLT.out h4 k4)
          clear h4 k4 HU5 c0 y0 y1 y2 x0 x1 x2
          go_wp2_with (fail)
          go_roundw
          case rel => exact ⟨c, _, _, by omega, by first | rfl | go_num, HU4.out⟩
          case measure => simp [intOf] <;> omega
        · have ho' : ordF e u0 ≤ 0 := ho.2 hlt
          have HLT := Aside0.mk hlt
          have HEA := Aside0.mk (HU5.out.at_e)
          clear ho hlt
          generalize ordF e u0 = r0 at *
          go_wp2_with (fail)
          refine (lay_ok g ba _ m a j e _ HU5.out.hp HAL.out.2.1 HAL.out.2.2.1 HEA.out.1 (by rw [HAL.out.1]; exact HEA.out.2)).mono ?_
          rintro r w4 ⟨rfl, h4, k4⟩
          have hen := HU5.out.inv.ended (fun i x h1 h2 h3 => En.le_trans HLT.out (HUU.out.2 i x h1 h2 (HU5.out.back (by omega) h3)))
          have HF := Aside0.mk (And.intro h4 (And.intro HU5.out.inv (And.intro hen (And.intro (HKA.out.trans (HU5.out.kp.trans k4)) HAL.out.1))))
          clear h4 k4 hen HU5 c0 y0 y1 y2 x0 x1 x2
          go_wp2_with (fail)
          go_end0
          exact ⟨rfl, _, _, HF.out.1, HF.out.2.1.perm, HF.out.2.1.at_, HF.out.2.2.1, by rw [List.length_set]; exact HF.out.2.2.2.2, HF.out.2.2.2.1⟩
      · have hA0' : ¬ (c : Int) < (l.length : Int) := by omega
        have HU3 := Aside0.mk (HU.out.below (w3 := w3) HB3.out)
        clear HU
        have c0 := HU3.out.hp.head.cell 0 rfl
        have x0 := HU3.out.box.cell 0 rfl
        have x1 := HU3.out.box.cell 1 rfl
        have x2 := HU3.out.box.cell 2 rfl
        go_upto_region 4 with (fail)
        go_quiet (fail)
        have HU5 := Aside0.mk (HU3.out.below (pw_below_drewN (Below.refl w3.heap.size w3) nq))
        have HEA := Aside0.mk (HU5.out.at_e)
        clear c0 x0 x1 x2 HU3
        generalize w3.drewN nq = w5 at *
        have x0 := HU5.out.box.cell 0 rfl
        have x1 := HU5.out.box.cell 1 rfl
        have x2 := HU5.out.box.cell 2 rfl
        go_wp2_with (fail)
        refine (lay_ok g ba _ m a j e _ HU5.out.hp HAL.out.2.1 HAL.out.2.2.1 HEA.out.1 (by rw [HAL.out.1]; exact HEA.out.2)).mono ?_
        rintro r w4 ⟨rfl, h4, k4⟩
        have hen := HU5.out.inv.ended (fun i x h1 h2 h3 => by
          have h4 := (List.getElem?_eq_some_iff.1 h3).1
          have h5 := HAL.out.2.2.2
          rw [List.length_set] at h4
          omega)
        have HF := Aside0.mk (And.intro h4 (And.intro HU5.out.inv (And.intro hen (And.intro (HKA.out.trans (HU5.out.kp.trans k4)) HAL.out.1))))
        clear h4 k4 hen HU5 x0 x1 x2
        go_wp2_with (fail)
        go_end0
        exact ⟨rfl, _, _, HF.out.1, HF.out.2.1.perm, HF.out.2.1.at_, HF.out.2.2.1, by rw [List.length_set]; exact HF.out.2.2.2.2, HF.out.2.2.2.1⟩
end Go.Proofs.Ytifffmfbipjilaa.Z.H

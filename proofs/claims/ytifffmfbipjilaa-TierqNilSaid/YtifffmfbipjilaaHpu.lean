/- up. -/
import Derived.Test.YtifffmfbipjilaaHpw
namespace Go.Proofs.Ytifffmfbipjilaa.Z.H
open Go.RowKit Go.Proofs.YtifffmfbipjilaaW.PrintWords Go.Proofs.YtifffmfbipjilaaW.PrintLast Go.Proofs.YtifffmfbipjilaaW.PrintMore
attribute [local go_sem] max2_int min2_int max_two min_two max_three min_three max_four min_four
set_option linter.unusedVariables false
set_option maxRecDepth 100000
set_option linter.unusedSimpArgs false
theorem Hp.row_form {w : World} {g ba : Nat} {v : Value} {l : List En} {at_ : List Int} (h : Hp w g ba v l at_) (hp : 0 < l.length) : ∃ gr c, v = .slice (some ⟨gr, 0, none⟩) l.length c := by
  obtain ⟨gr, c, hv, -⟩ := Kd.R_form h.row hp
  exact ⟨gr, c, hv⟩
theorem Hp.cells {w : World} {g ba gr n c : Nat} {l : List En} {at_ : List Int} (h : Hp w g ba (.slice (some ⟨gr, 0, none⟩) n c) l at_) {k : Nat} {x : En} (hx : l[k]? = some x) :
    w.cell? ⟨gr, k * 3, none⟩ = some (.int .i64 x.key) ∧ w.cell? ⟨gr, k * 3 + 1, none⟩ = some (.int .u64 x.tie) ∧ w.cell? ⟨gr, k * 3 + 2, none⟩ = some (.int .i64 x.i) := by
  have y0 := R_fk_cell h.row hx 0 _ rfl
  have y1 := R_fk_cell h.row hx 1 _ rfl
  have y2 := R_fk_cell h.row hx 2 _ rfl
  rw [Nat.add_zero] at y0
  exact ⟨y0, y1, y2⟩
theorem set_len_at {a : List Int} {u : En} {j i : Nat} {v : Int} {l : List En} (h : At l (a.set i v)) (hx : l[j]? = some u) : 0 ≤ u.i ∧ u.i < a.length := by
  obtain ⟨h0, h1⟩ := h.fwd j u hx
  have := (List.getElem?_eq_some_iff.1 h1).1
  rw [List.length_set] at this
  omega
/-- What a round of up keeps. -/
structure Up (w1 wr : World) (g ba q : Nat) (v : Value) (l : List En) (n : Nat) (e : En) (k j : Nat) (m : List En) (a : List Int) : Prop where
  inv : UpI l (m.set j e) (a.set e.i.toNat j) e k j
  hp : Hp wr g ba v m a
  len : m.length = l.length
  alen : a.length = n
  kp : Kp (hown g ba v) w1 wr
  box : Blk wr q 128 e.enc
theorem Up.below {w1 wr w3 : World} {g ba q : Nat} {v : Value} {l : List En} {n : Nat} {e : En} {k j : Nat} {m : List En} {a : List Int} (h : Up w1 wr g ba q v l n e k j m a) (hb : Below wr.heap.size wr w3) : Up w1 w3 g ba q v l n e k j m a :=
  ⟨h.inv, h.hp.below hb, h.len, h.alen, h.kp.below hb, h.box.below hb⟩
theorem Up.at_e {w1 wr : World} {g ba q : Nat} {v : Value} {l : List En} {n : Nat} {e : En} {k j : Nat} {m : List En} {a : List Int} (h : Up w1 wr g ba q v l n e k j m a) : 0 ≤ e.i ∧ e.i < n := by
  have := set_len_at h.inv.at_ h.inv.lies
  rw [h.alen] at this
  exact this
theorem Up.other {w1 wr : World} {g ba q : Nat} {v : Value} {l : List En} {n : Nat} {e u : En} {k j p : Nat} {m : List En} {a : List Int} (h : Up w1 wr g ba q v l n e k j m a) (hpj : p ≠ j) (hu : m[p]? = some u) : (m.set j e)[p]? = some u := by
  rw [List.getElem?_set, if_neg (fun e => hpj e.symm)]; exact hu
theorem Up.at_u {w1 wr : World} {g ba q : Nat} {v : Value} {l : List En} {n : Nat} {e u : En} {k j p : Nat} {m : List En} {a : List Int} (h : Up w1 wr g ba q v l n e k j m a) (hpj : p ≠ j) (hu : m[p]? = some u) : 0 ≤ u.i ∧ u.i < n ∧ e.i.toNat ≠ u.i.toNat := by
  have h1 := set_len_at h.inv.at_ (h.other hpj hu)
  rw [h.alen] at h1
  refine ⟨h1.1, h1.2, fun e' => hpj ?_⟩
  have := h.at_e
  exact (h.inv.at_.inj h.inv.lies (h.other hpj hu) (by omega)).symm
/-- A step up: the one above comes down to j. -/
theorem Up.step {w1 wr w4 : World} {g ba q : Nat} {v : Value} {l : List En} {n : Nat} {e u : En} {k j p : Nat} {m : List En} {a : List Int} (h : Up w1 wr g ba q v l n e k j m a) (hq : q ∉ hown g ba v) (hj : 1 ≤ j) (hp : (j - 1) / 2 = p) (hu : m[p]? = some u) (hl : e.lt u)
    (h4 : Hp w4 g ba v (m.set j u) (a.set u.i.toNat j)) (k4 : Kp (hown g ba v) wr w4) : Up w1 w4 g ba q v l n e k p (m.set j u) (a.set u.i.toNat j) := by
  have hpj : p ≠ j := by omega
  have hs := h.inv.step hj hp (h.other hpj hu) hl
  have hne := (h.at_u hpj hu).2.2
  refine ⟨?_, h4, by rw [List.length_set]; exact h.len, by rw [List.length_set]; exact h.alen, h.kp.trans k4, k4.blk h.box hq⟩
  rw [List.set_set, set_swap _ _ _ 0 _ _ _ hne] at hs
  exact hs
theorem At.set_same {l : List En} {at_ : List Int} {k : Nat} {e : En} (hA : At l at_) (hx : l[k]? = some e) : at_.set e.i.toNat k = at_ := by
  have hata := hA.fwd k e hx
  apply List.ext_getElem?
  intro i
  rw [List.getElem?_set]
  by_cases hi : e.i.toNat = i
  · subst hi; rw [if_pos rfl, if_pos (List.getElem?_eq_some_iff.1 hata.2).1, hata.2]
  · rw [if_neg hi]
set_option maxHeartbeats 8000000 in
set_option maxRecDepth 100000 in
theorem up_ok (g ba : Nat) (v : Value) (l : List En) (at_ : List Int) (k : Nat) (e : En) (w : World) (h : Hp w g ba v l at_) (hA : At l (at_.set e.i.toNat k)) (hx : l[k]? = some e) (hB : HB (fn l) l.length k) (hl : l.length ≤ 1024) :
    Calls Try.prog 59 #[.pointer (some ⟨g, 0, none⟩), .int .i64 k] w fun r w' => r = .returned (.tuple #[]) ∧ ∃ l' at' k', Hp w' g ba v l' at' ∧ DnI l l' at' e k' ∧ (k' = k ∨ Kids (fn l') l'.length k') ∧ at'.length = at_.length ∧ Kp (hown g ba v) w w' := by
  have hk : k < l.length := (List.getElem?_eq_some_iff.1 hx).1
  obtain ⟨gr, c, hv⟩ := h.row_form (by omega)
  subst hv
  have c0 := h.head.cell 0 rfl
  obtain ⟨y0, y1, y2⟩ := h.cells hx
  have k0 : (0 : Int) ≤ (k : Int) := by omega
  have k1 : (k : Int) < (l.length : Int) := by omega
  have hbox := Blk.new w 128 e.enc
  have hbox : Blk (w.alloc (.cells #[.int .i64 e.key, .int .u64 e.tie, .int .i64 e.i] 128)) w.heap.size 128 e.enc := hbox
  have hal : Below w.heap.size w (w.alloc (.cells #[.int .i64 e.key, .int .u64 e.tie, .int .i64 e.i] 128)) := below_alloc (Below.refl _ w) _
  have hlts := h.lts
  have hset : l.set k e = l := by
    apply List.ext_getElem?
    intro i
    rw [List.getElem?_set]
    by_cases hi : k = i
    · subst hi; rw [if_pos rfl, if_pos hk, hx]
    · rw [if_neg hi]
  have hU : Up (w.alloc (.cells #[.int .i64 e.key, .int .u64 e.tie, .int .i64 e.i] 128)) (w.alloc (.cells #[.int .i64 e.key, .int .u64 e.tie, .int .i64 e.i] 128)) g ba w.heap.size (.slice (some ⟨gr, 0, none⟩) l.length c) l at_.length e k k l at_ :=
    ⟨by rw [hset]; exact ⟨List.Perm.refl _, hx, hA, hB, .inl rfl⟩, h.below hal, rfl, rfl, Kp.refl _ _, hbox⟩
  have HU := Aside0.mk hU
  have HKA := Aside0.mk (Kp.of_below (S := hown g ba (.slice (some ⟨gr, 0, none⟩) l.length c)) hal)
  have hqn : w.heap.size ∉ hown g ba (.slice (some ⟨gr, 0, none⟩) l.length c) := fun hm => by have := hlts _ hm; omega
  have HQN := Aside0.mk hqn
  clear hset hU hal hqn hlts hbox hA hB hx h
  go_enter Try.func59, Try.ntmps59
  go_wp2_with (fail)
  obtain ⟨q, hq⟩ : ∃ q, q = w.heap.size := ⟨_, rfl⟩
  rw [← hq] at HU HQN ⊢
  generalize (w.alloc (.cells #[.int .i64 e.key, .int .u64 e.tie, .int .i64 e.i] 128)) = w1 at *
  clear hq y0 y1 y2 c0
  go_loopw [1] (fun i wr => ∃ (j : Nat) (m : List En) (a : List Int), j < l.length ∧ i = .int .i64 j ∧ Up w1 wr g ba q (.slice (some ⟨gr, 0, none⟩) l.length c) l at_.length e k j m a) (fun i _ => (intOf i).toNat)
  case atStart => exact ⟨k, l, at_, hk, rfl, HU.out⟩
  case round =>
    obtain ⟨j, m, a, hj, rfl, hU⟩ := hrel
    have HU := Aside0.mk hU
    have c0 := hU.hp.head.cell 0 rfl
    have x0 := hU.box.cell 0 rfl
    have x1 := hU.box.cell 1 rfl
    have x2 := hU.box.cell 2 rfl
    by_cases hj0 : 0 < j
    · have hj0' : (0 : Int) < (j : Int) := by omega
      obtain ⟨p, hp⟩ : ∃ p, (j - 1) / 2 = p := ⟨_, rfl⟩
      have hpl : p < m.length := by rw [hU.len]; omega
      obtain ⟨u, hu⟩ : ∃ u, m[p]? = some u := ⟨_, List.getElem?_eq_getElem hpl⟩
      obtain ⟨y0, y1, y2⟩ := hU.hp.cells hu
      have hpi : ((j : Int) - 1) / 2 = (p : Int) := by omega
      have p0 : (0 : Int) ≤ (p : Int) := by omega
      have p1 : (p : Int) < (l.length : Int) := by omega
      have hj1 : (0 : Int) ≤ (j : Int) - 1 := by omega
      have hj1024 : (j : Int) ≤ 1024 := by omega
      have hw1 : IntKind.i64.wrap ((j : Int) - 1) = (j : Int) - 1 := by exact IntWalk.i64_in _ (by omega)
      have hw2 : IntKind.i64.wrap (((j : Int) - 1).tdiv 2) = (p : Int) := by
        rw [Int.tdiv_eq_ediv_of_nonneg hj1, hpi]
        exact IntWalk.i64_in _ (by omega)
      have HP := Aside0.mk (And.intro hp hu)
      clear hU hp hu
      go_upto_region 1 with (fail)
      go_still_tail 13, (by kernel_rfl)
      change wpList _ _ _ _ _ wr.drew
      clear hw1 hw2
      go_wp2_with (fail)
      refine (order_ok e u _).mono ?_
      rintro r w3 ⟨rfl, hb3⟩
      have HU3 := Aside0.mk (HU.out.below (w3 := w3) (below_step (below_drew (Below.refl _ _)) hb3))
      have hu3 := HU3.out
      have hue := hu3.at_u (p := p) (by have := HP.out.1; omega) HP.out.2
      have hee := hu3.at_e
      have c0 := hu3.hp.head.cell 0 rfl
      obtain ⟨y0, y1, y2⟩ := hu3.hp.cells HP.out.2
      have x0 := hu3.box.cell 0 rfl
      have x1 := hu3.box.cell 1 rfl
      have x2 := hu3.box.cell 2 rfl
      have hmj : j < m.length := by rw [hu3.len]; exact hj
      have hml : m.length ≤ 1024 := by rw [hu3.len]; exact hl
      have hal : a.length = at_.length := hu3.alen
      clear hu3 hb3 HU
      have ho := ordF_lt e u
      by_cases hlt : e.lt u
      · have ho' : ordF e u < 0 := ho.2 hlt
        have HLT := Aside0.mk hlt
        have HAL := Aside0.mk (And.intro hal (And.intro hmj (And.intro hml (And.intro hue hpl))))
        clear ho hlt hal hmj hml hue hee hpl
        generalize ordF e u = r0 at *
        go_wp2_with (fail)
        refine (lay_ok g ba _ m a j u _ HU3.out.hp HAL.out.2.1 HAL.out.2.2.1 HAL.out.2.2.2.1.1 (by rw [HAL.out.1]; exact HAL.out.2.2.2.1.2.1)).mono ?_
        rintro r w4 ⟨rfl, h4, k4⟩
        have HU4 := Aside0.mk (HU3.out.step HQN.out (by omega) HP.out.1 HP.out.2 HLT.out h4 k4)
        clear h4 k4 HU3 c0 y0 y1 y2 x0 x1 x2
        go_wp2_with (fail)
        go_roundw
        case rel => exact ⟨p, _, _, by omega, by rw [hpi], HU4.out⟩
        case measure => simp [intOf]; omega
      · have ho' : ¬ ordF e u < 0 := fun h => hlt (ho.1 h)
        have HLT := Aside0.mk hlt
        have HAL := Aside0.mk (And.intro hal (And.intro hmj (And.intro hml (And.intro hee hpl))))
        clear ho hlt hal hmj hml hue hee hpl
        generalize ordF e u = r0 at *
        go_wp2_with (fail)
        refine (lay_ok g ba _ m a j e _ HU3.out.hp HAL.out.2.1 HAL.out.2.2.1 HAL.out.2.2.2.1.1 (by rw [HAL.out.1]; exact HAL.out.2.2.2.1.2)).mono ?_
        rintro r w4 ⟨rfl, h4, k4⟩
        have hen := HU3.out.inv.ended (.inr ⟨u, by rw [HP.out.1]; exact HU3.out.other (by have := HP.out.1; omega) HP.out.2, HLT.out⟩)
        have HF := Aside0.mk (And.intro h4 (And.intro hen (And.intro (HKA.out.trans (HU3.out.kp.trans k4)) HAL.out.1)))
        clear h4 k4 hen HU3 c0 y0 y1 y2 x0 x1 x2
        go_wp2_with (fail)
        go_end0
        exact ⟨rfl, _, _, j, HF.out.1, HF.out.2.1.1, HF.out.2.1.2, by rw [List.length_set]; exact HF.out.2.2.2, HF.out.2.2.1⟩
    · have hj0' : ¬ (0 : Int) < (j : Int) := by omega
      have hee := hU.at_e
      have HAL := Aside0.mk (And.intro hU.alen (And.intro (show j < m.length by rw [hU.len]; exact hj) (And.intro (show m.length ≤ 1024 by rw [hU.len]; exact hl) hee)))
      clear hU hee
      go_upto_region 1 with (fail)
      go_quiet (fail)
      have HU3 := Aside0.mk (HU.out.below (w3 := wr.drewN nq) (pw_below_drewN (Below.refl _ _) nq))
      clear HU c0 x0 x1 x2
      generalize wr.drewN nq = w3 at *
      have x0 := HU3.out.box.cell 0 rfl
      have x1 := HU3.out.box.cell 1 rfl
      have x2 := HU3.out.box.cell 2 rfl
      go_wp2_with (fail)
      refine (lay_ok g ba _ m a j e _ HU3.out.hp HAL.out.2.1 HAL.out.2.2.1 HAL.out.2.2.2.1 (by rw [HAL.out.1]; exact HAL.out.2.2.2.2)).mono ?_
      rintro r w4 ⟨rfl, h4, k4⟩
      have hen := HU3.out.inv.ended (.inl (by omega))
      have HF := Aside0.mk (And.intro h4 (And.intro hen (And.intro (HKA.out.trans (HU3.out.kp.trans k4)) HAL.out.1)))
      clear h4 k4 hen HU3 x0 x1 x2
      go_wp2_with (fail)
      go_end0
      exact ⟨rfl, _, _, j, HF.out.1, HF.out.2.1.1, HF.out.2.1.2, by rw [List.length_set]; exact HF.out.2.2.2, HF.out.2.2.1⟩
end Go.Proofs.Ytifffmfbipjilaa.Z.H

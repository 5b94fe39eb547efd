/- The heap over a list in order; slices.Equal over int; awake. -/
import Derived.Test.YtphkahphpgipkaaHpdu
namespace Go.Proofs.Ytphkahphpgipkaa.Z
open Go.RowKit Go.Proofs.YtphkahphpgipkaaW.PrintWords Go.Proofs.YtphkahphpgipkaaW.PrintLast Go.Proofs.YtphkahphpgipkaaW.PrintMore
attribute [local go_sem] max2_int min2_int max_two min_two max_three min_three max_four min_four
set_option linter.unusedVariables false
set_option linter.unusedSimpArgs false
theorem i_came {k : IntKind} {w : World} {ad : Addr} {n : Nat} {xs : List Int} (h : (Kd.int k).C w (some ad) n xs) {i : Nat} {x : Int} (hx : xs[i]? = some x) : w.cell? (ad.add i) = some (.int k x) := by
  have hi : i < xs.length := (List.getElem?_eq_some_iff.1 hx).1
  obtain ⟨hn, _, hc⟩ := h
  obtain ⟨ad', e, hc⟩ := hc (by omega)
  obtain rfl : ad = ad' := by injection e
  obtain ⟨c, hcl, hK, hcc⟩ := hc i x hx
  obtain rfl : c = [.int k x] := hK
  have := hcc 0 _ rfl
  rwa [Nat.add_zero, show (Kd.int k).sz = 1 from rfl, Nat.mul_one] at this
set_option maxHeartbeats 4000000 in
theorem equal_i (A B : Option Addr) (c c' : Nat) (l : List Int) (w : World) (hA : (Kd.int .i64).C w A l.length l) (hB : (Kd.int .i64).C w B l.length l) (hl : l.length ≤ 1000) :
    Calls Try.prog 12 #[.slice A l.length c, .slice B l.length c'] w fun e w' => e = .returned (.bool true) ∧ Below w.heap.size w w' := by
  have HA := Aside0.mk hA
  have HB := Aside0.mk hB
  clear hA hB
  go_enter Try.func12, Try.ntmps12
  go_wp2_with (fail)
  go_loopw [13] (fun i wr => ∃ k : Nat, k ≤ l.length ∧ i = .int .i64 k ∧ Below w.heap.size w wr) (fun i _ => l.length - (intOf i).toNat)
  case atStart => exact ⟨0, Nat.zero_le _, rfl, Below.refl _ _⟩
  case round =>
    obtain ⟨k, hk, rfl, hbw⟩ := hrel
    have HBW := Aside0.mk hbw
    clear hbw
    by_cases hlt : k < l.length
    · have hlt' : (k : Int) < (l.length : Int) := by omega
      obtain ⟨ad, rfl⟩ : ∃ ad, A = some ad := by
        obtain ⟨ad, h, _⟩ := HA.out.2.2 (by omega)
        exact ⟨ad, h⟩
      obtain ⟨ad', rfl⟩ : ∃ ad, B = some ad := by
        obtain ⟨ad, h, _⟩ := HB.out.2.2 (by omega)
        exact ⟨ad, h⟩
      obtain ⟨x, hx⟩ : ∃ x, l[k]? = some x := ⟨_, List.getElem?_eq_getElem hlt⟩
      have c1 := i_came (Kd.C_below HA.out HBW.out) hx
      have c2 := i_came (Kd.C_below HB.out HBW.out) hx
      clear hx
      go_wp2_with (fail)
      go_quiet (fail)
      go_wp2_with (fail)
      exact ⟨⟨k + 1, by omega, by go_num, pw_below_drewN HBW.out _⟩, by simp [intOf]; omega⟩
    · obtain rfl : k = l.length := by omega
      go_wp2_with (fail)
      go_ret
      exact ⟨rfl, HBW.out⟩
/-! The list in order -/
def ins (e : En) : List En → List En
  | [] => [e]
  | x :: l => if e.lt x then e :: x :: l else x :: ins e l
theorem ins_perm (e : En) : ∀ l, (ins e l).Perm (e :: l)
  | [] => List.Perm.refl _
  | x :: l => by
    unfold ins
    split
    · exact List.Perm.refl _
    · exact ((ins_perm e l).cons x).trans (List.Perm.swap e x l)
theorem ins_srt (e : En) : ∀ l, Srt l → (∀ x ∈ l, x ≠ e) → Srt (ins e l)
  | [], _, _ => List.pairwise_singleton _ _
  | x :: l, h, hn => by
    obtain ⟨h1, h2⟩ := List.pairwise_cons.1 h
    unfold ins
    split
    · next hlt => exact List.pairwise_cons.2 ⟨fun y hy => (List.mem_cons.1 hy).elim (fun e => e ▸ hlt) (fun hy => En.lt_trans hlt (h1 y hy)), h⟩
    · next hlt =>
      refine List.pairwise_cons.2 ⟨fun y hy => ?_, ins_srt e l h2 (fun y hy => hn y (List.mem_cons_of_mem _ hy))⟩
      rcases List.mem_cons.1 ((ins_perm e l).mem_iff.1 hy) with rfl | hy
      · by_cases h3 : x.lt y
        · exact h3
        · exact absurd (En.eq_of h3 hlt) (hn x List.mem_cons_self)
      · exact h1 y hy
theorem HS.perm {w : World} {g ba room : Nat} {v : Value} {S T : List En} (h : HS w g ba v S room) (hp : S.Perm T) : HS w g ba v T room := by
  obtain ⟨l, a, h1, h2, h3, h4, h5⟩ := h.ex
  exact ⟨l, a, h1, h2, h3, h4.trans hp, h5⟩
/-- The heap at g in a world that grew from w0: all its blocks are new. -/
structure HM (w0 w : World) (g ba : Nat) (v : Value) (S : List En) (room : Nat) : Prop where
  hs : HS w g ba v S room
  own : ∀ b ∈ hown g ba v, w0.heap.size ≤ b
  srt : Srt S
  bel : Below w0.heap.size w0 w
theorem HM.below {w0 w w1 : World} {g ba room : Nat} {v : Value} {S : List En} (h : HM w0 w g ba v S room) (hb : Below w.heap.size w w1) : HM w0 w1 g ba v S room :=
  ⟨h.hs.below hb, h.own, h.srt, h.bel.trans (hb.mono h.bel.size)⟩
theorem HM.kp {w0 w w1 : World} {g ba room : Nat} {v : Value} {S : List En} (h : HM w0 w g ba v S room) {T : List Nat} (k : Kp T w w1) (hT : ∀ b ∈ T, b ∉ hown g ba v) (hT0 : ∀ b ∈ T, w0.heap.size ≤ b) : HM w0 w1 g ba v S room :=
  ⟨h.hs.kp k hT, h.own, h.srt, Kp.to_below h.bel h.bel.size k hT0⟩
/-- After a method: the set is another one, nothing else than the heap's blocks changed. -/
structure HMn (w0 w w' : World) (g ba : Nat) (v : Value) (S : List En) (room : Nat) (v' : Value) : Prop where
  hm : HM w0 w' g ba v' S room
  kp : Kp (hown g ba v) w w'
  ob : v'.ownBlock = v.ownBlock ∨ ∃ b, v'.ownBlock = some b ∧ w.heap.size ≤ b
theorem m_new (n : Nat) (h1 : 1 ≤ n) (h2 : n ≤ 1024) (w : World) : Calls Try.prog 9 #[.int .i64 n] w fun e w' => ∃ g ba, e = .returned (.tuple #[.pointer (some ⟨g, 0, none⟩), .int .i64 0]) ∧ HM w w' g ba (.slice none 0 0) [] n := by
  refine (hnew_ok n h1 h2 w).mono ?_
  rintro e w' ⟨g, ba, rfl, hs, h1, h2, h3⟩
  refine ⟨g, ba, rfl, hs, fun b hb => ?_, List.Pairwise.nil, h3⟩
  rcases mem_hown.1 hb with rfl | rfl | hb
  · exact h1
  · exact h2
  · cases hb
theorem m_put (w0 : World) (g ba room : Nat) (v : Value) (S : List En) (e : En) (w : World) (h : HM w0 w g ba v S room) (hi : 0 ≤ e.i ∧ e.i < room) (hin : ∀ x ∈ S, x.i ≠ e.i) :
    Calls Try.prog 10 #[.pointer (some ⟨g, 0, none⟩), .int .i64 e.i, .int .i64 e.key, .int .u64 e.tie] w fun r w' => r = .returned (.int .i64 0) ∧ ∃ v', HMn w0 w w' g ba v (ins e S) room v' := by
  refine (put_new g ba room v S e w h.hs hi hin).mono ?_
  rintro r w' ⟨rfl, v', h1, h2, h3⟩
  refine ⟨rfl, v', ⟨h1.perm (ins_perm e S).symm, fun b hb => ?_, ins_srt e S h.srt (fun x hx ee => hin x hx (by rw [ee])), Kp.to_below h.bel h.bel.size h2 h.own⟩, h2, h3⟩
  rcases mem_hown.1 hb with rfl | rfl | hb
  · exact h.own _ (mem_hown.2 (.inl rfl))
  · exact h.own _ (mem_hown.2 (.inr (.inl rfl)))
  · rcases h3 with e | ⟨b', e, hb'⟩
    · exact h.own _ (mem_hown.2 (.inr (.inr (e ▸ hb))))
    · rw [e] at hb; injection hb with hb; subst hb; have := h.bel.size; omega
theorem m_rem (w0 : World) (g ba room : Nat) (v : Value) (S : List En) (i : Int) (w : World) (h : HM w0 w g ba v S room) (hi : 0 ≤ i ∧ i < room) (hin : ∃ x ∈ S, x.i = i) :
    Calls Try.prog 16 #[.pointer (some ⟨g, 0, none⟩), .int .i64 i] w fun r w' => r = .returned (.int .i64 0) ∧ ∃ v', HMn w0 w w' g ba v (S.filter fun x => x.i ≠ i) room v' := by
  refine (rem_ok g ba room v S i w h.hs hi hin).mono ?_
  rintro r w' ⟨rfl, v', h1, h2, h3⟩
  refine ⟨rfl, v', ⟨h1, fun b hb => ?_, List.Pairwise.filter _ h.srt, Kp.to_below h.bel h.bel.size h2 h.own⟩, h2, .inl h3⟩
  rcases mem_hown.1 hb with rfl | rfl | hb
  · exact h.own _ (mem_hown.2 (.inl rfl))
  · exact h.own _ (mem_hown.2 (.inr (.inl rfl)))
  · exact h.own _ (mem_hown.2 (.inr (.inr (h3 ▸ hb))))
set_option maxHeartbeats 8000000 in
set_option maxRecDepth 100000 in
theorem awake_ok (w : World) : Calls Try.prog 8 #[] w fun e w' => e = .returned (.bool true) ∧ Below w.heap.size w w' := by
  have hn := m_new 3 (by omega) (by omega) w
  rw [show ((3 : Nat) : Int) = 3 from rfl] at hn
  have HN := Aside0.mk hn
  clear hn
  go_enter Try.func8, Try.ntmps8
  go_wp2_with (fail)
  refine HN.out.mono ?_
  rintro e w1 ⟨g, ba, rfl, hM⟩
  have HM1 := Aside0.mk hM
  clear hM HN
  go_wp2_with (fail)
  refine (m_put w g ba 3 _ [] ⟨5, 1, 0⟩ w1 HM1.out (by simp) (by simp)).mono ?_
  rintro e w2 ⟨rfl, v2, hM⟩
  have HM2 := Aside0.mk hM.hm
  clear hM HM1
  go_wp2_with (fail)
  refine (m_put w g ba 3 v2 _ ⟨5, 0, 1⟩ w2 HM2.out (by simp) (by simp [ins])).mono ?_
  rintro e w3 ⟨rfl, v3, hM⟩
  have HM3 := Aside0.mk hM.hm
  clear hM HM2
  go_wp2_with (fail)
  refine (m_put w g ba 3 v3 _ ⟨9, 0, 2⟩ w3 HM3.out (by simp) (by simp [ins, En.lt])).mono ?_
  rintro e w4 ⟨rfl, v4, hM⟩
  have hM4 := hM.hm
  rw [show ins ⟨9, 0, 2⟩ (ins ⟨5, 0, 1⟩ (ins ⟨5, 1, 0⟩ [])) = [⟨5, 0, 1⟩, ⟨5, 1, 0⟩, ⟨9, 0, 2⟩] by simp [ins, En.lt]] at hM4
  have HM4 := Aside0.mk hM4
  clear hM hM4 HM3
  go_wp2_with (fail)
  refine (min_set g ba 3 v4 _ w4 HM4.out.hs HM4.out.srt).mono ?_
  rintro e w5 ⟨rfl, rfl⟩
  rw [show minI [⟨5, 0, 1⟩, ⟨5, 1, 0⟩, ⟨9, 0, 2⟩] = 1 from rfl]
  go_wp2_with (fail)
  refine (due_ok g ba 3 v4 _ 5 w4 HM4.out.hs HM4.out.srt).mono ?_
  rintro e w5 ⟨v5, rfl, hR, hb⟩
  rw [show (dueL [⟨5, 0, 1⟩, ⟨5, 1, 0⟩, ⟨9, 0, 2⟩] 5).map (·.i) = [1, 0] by decide] at hR
  obtain ⟨A, c, rfl⟩ := Kd.R_slice hR
  have hC := (Kd.R_reads' hR).2.2
  have hal := below_alloc (Below.refl _ w5) (.cells #[.int .i64 1, .int .i64 0] 3)
  have HC := Aside0.mk (Kd.C_below hC hal)
  have HD := Aside0.mk (C_of_blkI (l := [1, 0]) (Blk.new w5 3 (flat encI [1, 0])) (by decide))
  have HB := Aside0.mk ((HM4.out.bel.trans (hb.mono HM4.out.bel.size)).trans (hal.mono (Nat.le_trans HM4.out.bel.size hb.size)))
  clear hR hb hC hal HM4
  go_wp2_with (fail)
  refine (equal_i _ _ _ _ [1, 0] _ HC.out HD.out (by simp)).mono ?_
  rintro e w6 ⟨rfl, hb⟩
  have HB6 := Aside0.mk (HB.out.trans (hb.mono HB.out.size))
  clear hb HC HD HB
  go_wp2_with (fail)
  go_ret
  exact ⟨rfl, HB6.out⟩
end Go.Proofs.Ytphkahphpgipkaa.Z

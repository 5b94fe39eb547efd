/- The heap over a list in order; slices.Equal over int; awake. -/
import Derived.Test.YtifffmfbipjilaaHpdu
namespace Go.Proofs.Ytifffmfbipjilaa.Z.H
open Go.RowKit Go.Proofs.YtifffmfbipjilaaW.PrintWords Go.Proofs.YtifffmfbipjilaaW.PrintLast Go.Proofs.YtifffmfbipjilaaW.PrintMore
attribute [local go_sem] max2_int min2_int max_two min_two max_three min_three max_four min_four
set_option linter.unusedVariables false
set_option maxRecDepth 100000
set_option linter.unusedSimpArgs false
theorem i_came {k : IntKind} {w : World} {ad : Addr} {n : Nat} {xs : List Int} (h : (Kd.int k).C w (some ad) n xs) {i : Nat} {x : Int} (hx : xs[i]? = some x) : w.cell? (ad.add i) = some (.int k x) := by
  have hi : i < xs.length := (List.getElem?_eq_some_iff.1 hx).1
  obtain ⟨hn, _, hc⟩ := h
  obtain ⟨ad', e, hc⟩ := hc (by omega)
  obtain rfl : ad = ad' := by injection e
  obtain ⟨c, hcl, hK, hcc⟩ := hc i x hx
  obtain rfl : c = [.int k x] := hK
  have := hcc 0 _ rfl
  rwa [Nat.add_zero, show (Kd.int k).sz = 1 from rfl, Nat.mul_one] at this
/-! The list in order -/
def ins (e : En) : List En → List En
  | [] => [e]
  | x :: l => if e.lt x then e :: x :: l else x :: ins e l
theorem ins_perm (e : En) : ∀ l, (ins e l).Perm (e :: l)
  | [] => List.Perm.refl _
  | x :: l => by
    unfold ins
    split
    · exact List.Perm.refl _
    · exact ((ins_perm e l).cons x).trans (List.Perm.swap e x l)
theorem ins_srt (e : En) : ∀ l, Srt l → (∀ x ∈ l, x ≠ e) → Srt (ins e l)
  | [], _, _ => List.pairwise_singleton _ _
  | x :: l, h, hn => by
    obtain ⟨h1, h2⟩ := List.pairwise_cons.1 h
    unfold ins
    split
    · next hlt => exact List.pairwise_cons.2 ⟨fun y hy => (List.mem_cons.1 hy).elim (fun e => e ▸ hlt) (fun hy => En.lt_trans hlt (h1 y hy)), h⟩
    · next hlt =>
      refine List.pairwise_cons.2 ⟨fun y hy => ?_, ins_srt e l h2 (fun y hy => hn y (List.mem_cons_of_mem _ hy))⟩
      rcases List.mem_cons.1 ((ins_perm e l).mem_iff.1 hy) with rfl | hy
      · by_cases h3 : x.lt y
        · exact h3
        · exact absurd (En.eq_of h3 hlt) (hn x List.mem_cons_self)
      · exact h1 y hy
theorem HS.perm {w : World} {g ba room : Nat} {v : Value} {S T : List En} (h : HS w g ba v S room) (hp : S.Perm T) : HS w g ba v T room := by
  obtain ⟨l, a, h1, h2, h3, h4, h5⟩ := h.ex
  exact ⟨l, a, h1, h2, h3, h4.trans hp, h5⟩
/-- The heap at g in a world that grew from w0: all its blocks are new. -/
structure HM (w0 w : World) (g ba : Nat) (v : Value) (S : List En) (room : Nat) : Prop where
  hs : HS w g ba v S room
  own : ∀ b ∈ hown g ba v, w0.heap.size ≤ b
  srt : Srt S
  bel : Below w0.heap.size w0 w
theorem HM.below {w0 w w1 : World} {g ba room : Nat} {v : Value} {S : List En} (h : HM w0 w g ba v S room) (hb : Below w.heap.size w w1) : HM w0 w1 g ba v S room :=
  ⟨h.hs.below hb, h.own, h.srt, h.bel.trans (hb.mono h.bel.size)⟩
theorem HM.kp {w0 w w1 : World} {g ba room : Nat} {v : Value} {S : List En} (h : HM w0 w g ba v S room) {T : List Nat} (k : Kp T w w1) (hT : ∀ b ∈ T, b ∉ hown g ba v) (hT0 : ∀ b ∈ T, w0.heap.size ≤ b) : HM w0 w1 g ba v S room :=
  ⟨h.hs.kp k hT, h.own, h.srt, Kp.to_below h.bel h.bel.size k hT0⟩
/-- After a method: the set is another one, nothing else than the heap's blocks changed. -/
structure HMn (w0 w w' : World) (g ba : Nat) (v : Value) (S : List En) (room : Nat) (v' : Value) : Prop where
  hm : HM w0 w' g ba v' S room
  kp : Kp (hown g ba v) w w'
  ob : v'.ownBlock = v.ownBlock ∨ ∃ b, v'.ownBlock = some b ∧ w.heap.size ≤ b
theorem m_new (n : Nat) (h1 : 1 ≤ n) (h2 : n ≤ 1024) (w : World) : Calls Try.prog 30 #[.int .i64 n] w fun e w' => ∃ g ba, e = .returned (.tuple #[.pointer (some ⟨g, 0, none⟩), .int .i64 0]) ∧ HM w w' g ba (.slice none 0 0) [] n := by
  refine (hnew_ok n h1 h2 w).mono ?_
  rintro e w' ⟨g, ba, rfl, hs, h1, h2, h3⟩
  refine ⟨g, ba, rfl, hs, fun b hb => ?_, List.Pairwise.nil, h3⟩
  rcases mem_hown.1 hb with rfl | rfl | hb
  · exact h1
  · exact h2
  · cases hb
theorem m_put (w0 : World) (g ba room : Nat) (v : Value) (S : List En) (e : En) (w : World) (h : HM w0 w g ba v S room) (hi : 0 ≤ e.i ∧ e.i < room) (hin : ∀ x ∈ S, x.i ≠ e.i) :
    Calls Try.prog 34 #[.pointer (some ⟨g, 0, none⟩), .int .i64 e.i, .int .i64 e.key, .int .u64 e.tie] w fun r w' => r = .returned (.int .i64 0) ∧ ∃ v', HMn w0 w w' g ba v (ins e S) room v' := by
  refine (put_new g ba room v S e w h.hs hi hin).mono ?_
  rintro r w' ⟨rfl, v', h1, h2, h3⟩
  refine ⟨rfl, v', ⟨h1.perm (ins_perm e S).symm, fun b hb => ?_, ins_srt e S h.srt (fun x hx ee => hin x hx (by rw [ee])), Kp.to_below h.bel h.bel.size h2 h.own⟩, h2, h3⟩
  rcases mem_hown.1 hb with rfl | rfl | hb
  · exact h.own _ (mem_hown.2 (.inl rfl))
  · exact h.own _ (mem_hown.2 (.inr (.inl rfl)))
  · rcases h3 with e | ⟨b', e, hb'⟩
    · exact h.own _ (mem_hown.2 (.inr (.inr (e ▸ hb))))
    · rw [e] at hb; injection hb with hb; subst hb; have := h.bel.size; omega
theorem m_rem (w0 : World) (g ba room : Nat) (v : Value) (S : List En) (i : Int) (w : World) (h : HM w0 w g ba v S room) (hi : 0 ≤ i ∧ i < room) (hin : ∃ x ∈ S, x.i = i) :
    Calls Try.prog 39 #[.pointer (some ⟨g, 0, none⟩), .int .i64 i] w fun r w' => r = .returned (.int .i64 0) ∧ ∃ v', HMn w0 w w' g ba v (S.filter fun x => x.i ≠ i) room v' := by
  refine (rem_ok g ba room v S i w h.hs hi hin).mono ?_
  rintro r w' ⟨rfl, v', h1, h2, h3⟩
  refine ⟨rfl, v', ⟨h1, fun b hb => ?_, List.Pairwise.filter _ h.srt, Kp.to_below h.bel h.bel.size h2 h.own⟩, h2, .inl h3⟩
  rcases mem_hown.1 hb with rfl | rfl | hb
  · exact h.own _ (mem_hown.2 (.inl rfl))
  · exact h.own _ (mem_hown.2 (.inr (.inl rfl)))
  · exact h.own _ (mem_hown.2 (.inr (.inr (h3 ▸ hb))))
end Go.Proofs.Ytifffmfbipjilaa.Z.H

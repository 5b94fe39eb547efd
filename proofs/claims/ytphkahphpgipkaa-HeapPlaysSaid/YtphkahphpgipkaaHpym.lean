/- Put and Remove at any input, of the heap and of the document's list. -/
import Derived.Test.YtphkahphpgipkaaHpry
import Derived.Test.YtphkahphpgipkaaHpsorts
namespace Go.Proofs.Ytphkahphpgipkaa.Z
open Go.RowKit Go.Proofs.YtphkahphpgipkaaW.PrintWords Go.Proofs.YtphkahphpgipkaaW.PrintLast Go.Proofs.YtphkahphpgipkaaW.PrintMore
set_option linter.unusedVariables false
set_option linter.unusedSimpArgs false
/-- The error, and the list after it. -/
def PutF (S : List En) (n : Nat) (e : En) : Int × List En :=
  if 0 ≤ e.i ∧ e.i < n then (if ∃ x ∈ S, x.i = e.i then (10, S) else (0, ins e S)) else (1, S)
def RemF (S : List En) (n : Nat) (i : Int) : Int × List En :=
  if 0 ≤ i ∧ i < n then (if ∃ x ∈ S, x.i = i then (0, wo S i) else (3, S)) else (1, S)
theorem put_m (w1 : World) (g ba n : Nat) (v : Value) (S : List En) (e : En) (w : World) (h : HM w1 w g ba v S n) :
    Calls Try.prog 10 #[.pointer (some ⟨g, 0, none⟩), .int .i64 e.i, .int .i64 e.key, .int .u64 e.tie] w fun r w' => r = .returned (.int .i64 (PutF S n e).1) ∧ ∃ v', HM w1 w' g ba v' (PutF S n e).2 n ∧ Kp (hown g ba v) w w' := by
  unfold PutF
  split
  · next hi =>
    split
    · next hin =>
      refine (put_busy g ba n v S e.i e.key e.tie w h.hs hi hin).mono ?_
      rintro r w' ⟨rfl, rfl⟩
      exact ⟨rfl, v, h, Kp.refl _ _⟩
    · next hin =>
      refine (m_put w1 g ba n v S e w h hi (fun x hx he => hin ⟨x, hx, he⟩)).mono ?_
      rintro r w' ⟨rfl, v', hn⟩
      exact ⟨rfl, v', hn.hm, hn.kp⟩
  · next hi =>
    refine (put_arg g ba n v S e.i e.key e.tie w h.hs hi).mono ?_
    rintro r w' ⟨rfl, rfl⟩
    exact ⟨rfl, v, h, Kp.refl _ _⟩
theorem rem_m (w1 : World) (g ba n : Nat) (v : Value) (S : List En) (i : Int) (w : World) (h : HM w1 w g ba v S n) :
    Calls Try.prog 16 #[.pointer (some ⟨g, 0, none⟩), .int .i64 i] w fun r w' => r = .returned (.int .i64 (RemF S n i).1) ∧ ∃ v', HM w1 w' g ba v' (RemF S n i).2 n ∧ Kp (hown g ba v) w w' := by
  unfold RemF
  split
  · next hi =>
    split
    · next hin =>
      refine (m_rem w1 g ba n v S i w h hi hin).mono ?_
      rintro r w' ⟨rfl, v', hn⟩
      exact ⟨rfl, v', hn.hm, hn.kp⟩
    · next hin =>
      refine (rem_none g ba n v S i w h.hs hi (fun x hx he => hin ⟨x, hx, he⟩)).mono ?_
      rintro r w' ⟨rfl, rfl⟩
      exact ⟨rfl, v, h, Kp.refl _ _⟩
  · next hi =>
    refine (rem_arg g ba n v S i w h.hs hi).mono ?_
    rintro r w' ⟨rfl, rfl⟩
    exact ⟨rfl, v, h, Kp.refl _ _⟩
/-- Members are all different. -/
def InjI (S : List En) : Prop := ∀ a ∈ S, ∀ b ∈ S, a.i = b.i → a = b
theorem InjI.pos {S : List En} (h : InjI S) (hn : S.Nodup) {p : Nat} {u : En} (hu : S[p]? = some u) : ∀ j e, S[j]? = some e → e.i = u.i → j = p := by
  intro j e he hi
  obtain rfl := h e (List.mem_of_getElem? he) u (List.mem_of_getElem? hu) hi
  obtain ⟨l1, g1⟩ := List.getElem?_eq_some_iff.1 he
  obtain ⟨l2, g2⟩ := List.getElem?_eq_some_iff.1 hu
  by_cases h1 : j < p
  · exact absurd (g1.trans g2.symm) (List.pairwise_iff_getElem.1 hn j p l1 l2 h1)
  · by_cases h2 : p < j
    · exact absurd (g2.trans g1.symm) (List.pairwise_iff_getElem.1 hn p j l2 l1 h2)
    · omega
theorem rput_m (gx n : Nat) (v : Value) (S : List En) (e : En) (w : World) (h : RH w 0 gx v S n) (hl : S.length ≤ 1000) (hn : n ≤ 1024) (hs : Srt S) (hj : InjI S) :
    Calls Try.prog 14 #[.pointer (some ⟨gx, 0, none⟩), e.valR] w fun r w' => r = .returned (.int .i64 (PutF S n e).1) ∧ ∃ v', RH w' 0 gx v' (PutF S n e).2 n ∧ Kp [gx] w w' := by
  unfold PutF
  split
  · next hi =>
    split
    · next hin =>
      obtain ⟨u, hu, hue⟩ := hin
      obtain ⟨p, hp⟩ := List.mem_iff_getElem?.1 hu
      refine (rput_busy gx n p v S e u w h hl hi hue hp (hj.pos hs.nodup hp)).mono ?_
      rintro r w' ⟨rfl, hb⟩
      exact ⟨rfl, v, h.below hb, Kp.of_below hb⟩
    · next hin => exact rput_ok gx n v S e w h hl hn hi (fun x hx he => hin ⟨x, hx, he⟩)
  · next hi =>
    refine (rput_arg gx n v S e w h hi).mono ?_
    rintro r w' ⟨rfl, hb⟩
    exact ⟨rfl, v, h.below hb, Kp.of_below hb⟩
theorem rrem_m (gx n : Nat) (v : Value) (S : List En) (i : Int) (w : World) (h : RH w 0 gx v S n) (hl : S.length ≤ 1000) (hn : n ≤ 1024) (hs : Srt S) (hj : InjI S) :
    Calls Try.prog 17 #[.pointer (some ⟨gx, 0, none⟩), .int .i64 i] w fun r w' => r = .returned (.int .i64 (RemF S n i).1) ∧ ∃ v', RH w' 0 gx v' (RemF S n i).2 n ∧ Kp [gx] w w' := by
  unfold RemF
  split
  · next hi =>
    split
    · next hin =>
      obtain ⟨u, hu, hue⟩ := hin
      obtain ⟨p, hp⟩ := List.mem_iff_getElem?.1 hu
      subst hue
      exact rrem_ok gx n p v S u w h hl hn hi hp (hj.pos hs.nodup hp)
    · next hin =>
      refine (rrem_none gx n v S i w h hl hi (fun x hx he => hin ⟨x, hx, he⟩)).mono ?_
      rintro r w' ⟨rfl, rfl⟩
      exact ⟨rfl, v, h, Kp.refl _ _⟩
  · next hi =>
    refine (rrem_arg gx n v S i w h hi).mono ?_
    rintro r w' ⟨rfl, rfl⟩
    exact ⟨rfl, v, h, Kp.refl _ _⟩
end Go.Proofs.Ytphkahphpgipkaa.Z

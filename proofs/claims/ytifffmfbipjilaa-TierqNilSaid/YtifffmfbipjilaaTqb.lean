/- The queue by tiers: coming and going as lists; who is due, seen from outside. -/
import Derived.Test.YtifffmfbipjilaaTq
namespace Go.Proofs.Ytifffmfbipjilaa.Z
open Go.RowKit Go.Proofs.YtifffmfbipjilaaW Go.Proofs.YtifffmfbipjilaaW.PrintWords
set_option linter.unusedVariables false
set_option linter.unusedSimpArgs false
open H (En)
theorem C_ad {α : Type} {d : Kd α} {w : World} {A : Option Addr} {n : Nat} {l : List α} (h : d.C w A n l) (hn : 0 < n) : ∃ ad, A = some ad := by
  obtain ⟨ad, e, _⟩ := h.2.2 (by have := h.1; omega)
  exact ⟨ad, e⟩
def slen : Value → Nat
  | .slice _ n _ => n
  | _ => 0
theorem slen_R {α : Type} {d : Kd α} {w : World} {e base : Nat} {ok : Nat → Prop} {v : Value} {xs : List α} (h : d.R e w base ok v xs) : slen v = xs.length := by
  obtain ⟨A, c, rfl⟩ := Kd.R_slice h
  rfl
theorem perm_put {α : Type} {R : List (List α)} {r : Nat} {l : List α} {y : α} (h : R[r]? = some l) : (R.set r (l ++ [y])).flatten.Perm (R.flatten ++ [y]) := by
  induction R generalizing r with
  | nil => simp at h
  | cons x R ih =>
    cases r with
    | zero =>
      simp only [List.getElem?_cons_zero, Option.some.injEq] at h
      subst h
      simp only [List.set_cons_zero, List.flatten_cons, List.append_assoc]
      exact List.Perm.append_left x List.perm_append_comm
    | succ r =>
      rw [List.getElem?_cons_succ] at h
      simp only [List.set_cons_succ, List.flatten_cons, List.append_assoc]
      exact List.Perm.append_left x (ih h)
theorem perm_erase {α : Type} : ∀ {l : List α} {k : Nat} {y : α}, l[k]? = some y → l.Perm (y :: l.eraseIdx k)
  | [], _, _, h => by simp at h
  | x :: l, 0, y, h => by
    simp only [List.getElem?_cons_zero, Option.some.injEq] at h
    subst h
    exact List.Perm.refl _
  | x :: l, k + 1, y, h => by
    rw [List.getElem?_cons_succ] at h
    exact ((perm_erase h).cons x).trans (List.Perm.swap y x _)
theorem perm_take {α : Type} {R : List (List α)} {r k : Nat} {l : List α} {y : α} (h : R[r]? = some l) (hk : l[k]? = some y) : R.flatten.Perm (y :: (R.set r (l.eraseIdx k)).flatten) := by
  induction R generalizing r with
  | nil => simp at h
  | cons x R ih =>
    cases r with
    | zero =>
      simp only [List.getElem?_cons_zero, Option.some.injEq] at h
      subst h
      simp only [List.set_cons_zero, List.flatten_cons]
      exact List.Perm.append_right _ (perm_erase hk)
    | succ r =>
      rw [List.getElem?_cons_succ] at h
      simp only [List.set_cons_succ, List.flatten_cons]
      exact (List.Perm.append_left x (ih h)).trans List.perm_middle
theorem rows_at {α : Type} {R : List (List α)} {y : α} (h : y ∈ R.flatten) : ∃ (r k : Nat) (l : List α), R[r]? = some l ∧ l[k]? = some y := by
  obtain ⟨l, hl, hy⟩ := List.mem_flatten.1 h
  obtain ⟨r, hr⟩ := List.mem_iff_getElem?.1 hl
  obtain ⟨k, hk⟩ := List.mem_iff_getElem?.1 hy
  exact ⟨r, k, l, hr, hk⟩
/-- One ends ahead of another. -/
def itlt (x y : It) : Prop := x.2.dl < y.2.dl ∨ (x.2.dl = y.2.dl ∧ (x.2.t < y.2.t ∨ (x.2.t = y.2.t ∧ x.1 % 4294967296 < y.1 % 4294967296)))
section
variable {w0 w W : World} {a : TA} {n m N : Nat} {s : Slb} {ch : List Nat} {L : List (List Nat)} {S : List En} {hs : List Int} {R : List (List It)}
theorem TW.itm_of (h : TW n m s L S hs) (hw : Wf s ch N) {x : En} (hx : x ∈ S) : ∃ (i : Nat) (c : Cel), s.cells[i]? = some c ∧ c.taken = true ∧ x = ⟨c.q.dl, c.q.t, i⟩ ∧ itm s x.i.toNat = (hof i c, c.q) ∧ hof i c % 4294967296 = (i : Int) := by
  obtain ⟨i, c, h1, h2, h3⟩ := (h.ents x).1 hx
  refine ⟨i, c, h1, h2, h3, ?_, ?_⟩
  · subst h3
    exact itm_at h1
  · have := (List.getElem?_eq_some_iff.1 h1).1
    have := hw.room
    unfold hof
    omega
theorem TW.due_srt (h : TW n m s L S hs) (hw : Wf s ch N) (hS : H.Srt S) (now : Int) : (dueOf s S now).Pairwise itlt := by
  unfold dueOf
  rw [List.pairwise_map]
  have hd : (H.dueL S now).Pairwise fun x y : En => x.lt y := List.Pairwise.filter _ hS
  refine List.Pairwise.imp_of_mem (fun {x y} hx hy hlt => ?_) hd
  obtain ⟨i, c, h1, h2, h3, h4, h5⟩ := h.itm_of hw (List.mem_filter.1 hx).1
  obtain ⟨j, d, g1, g2, g3, g4, g5⟩ := h.itm_of hw (List.mem_filter.1 hy).1
  rw [h4, g4]
  rw [h3, g3] at hlt
  unfold itlt
  show c.q.dl < d.q.dl ∨ (c.q.dl = d.q.dl ∧ (c.q.t < d.q.t ∨ (c.q.t = d.q.t ∧ hof i c % 4294967296 < hof j d % 4294967296)))
  rw [h5, g5]
  exact hlt
theorem itlt_irrefl (x : It) : ¬ itlt x x := by unfold itlt; omega
theorem TW.due_perm {d : Dq} (h : TW n m s L S hs) (hw : Wf s ch N) (hd : DR d L) (hS : H.Srt S) (now : Int) : (dueOf s S now).Perm ((vw s L).flatten.filter fun y => y.2.dl ≤ now) := by
  have n1 : (dueOf s S now).Nodup := List.Pairwise.imp (fun {x y} h e => by subst e; exact itlt_irrefl _ h) (h.due_srt hw hS now)
  have n2 : ((vw s L).flatten.filter fun y => y.2.dl ≤ now).Nodup := List.Pairwise.filter _ (List.Pairwise.imp (fun {x y} h e => h (by rw [e])) (List.pairwise_map.1 (h.nodup hw hd)))
  rw [List.perm_ext_iff_of_nodup n1 n2]
  intro y
  rw [List.mem_filter]
  constructor
  · intro hy
    obtain ⟨e, he, rfl⟩ := List.mem_map.1 hy
    obtain ⟨heS, hk⟩ := List.mem_filter.1 he
    obtain ⟨i, c, h1, h2, h3, h4, h5⟩ := h.itm_of hw heS
    obtain ⟨r, l, h6, h7, _⟩ := h.home i c h1 h2
    have hi : e.i.toNat = i := by rw [h3]; rfl
    refine ⟨?_, ?_⟩
    · rw [vw_flat, hi]
      exact List.mem_map.2 ⟨i, List.mem_flatten.2 ⟨l, List.mem_of_getElem? h6, h7⟩, rfl⟩
    · rw [h4]
      rw [h3] at hk
      exact hk
  · rintro ⟨hy, hk⟩
    rw [vw_flat] at hy
    obtain ⟨i, hi, rfl⟩ := List.mem_map.1 hy
    obtain ⟨l, hl, hil⟩ := List.mem_flatten.1 hi
    obtain ⟨r, hr⟩ := List.mem_iff_getElem?.1 hl
    obtain ⟨c, h1, h2, _⟩ := h.rows r l i hr hil
    rw [itm_at h1] at hk
    refine List.mem_map.2 ⟨⟨c.q.dl, c.q.t, i⟩, List.mem_filter.2 ⟨(h.ents _).2 ⟨i, c, h1, h2, rfl⟩, hk⟩, rfl⟩
/-- Who is due: just those whose end has come, in the order of their ends. -/
theorem a_due (now : Int) (h : TQA w0 w a n m N R) : ∃ D : List It, D.Perm (R.flatten.filter fun y => y.2.dl ≤ now) ∧ D.Pairwise itlt ∧
    Calls Try.prog 15 #[.pointer (some ⟨a.gq, 0, none⟩), .int .i64 now] w fun e w' => ∃ v, e = .returned v ∧ (Kd.int .u64).R 29 w' w.heap.size (fun _ => True) v (D.map (·.1)) ∧ Below w.heap.size w w' := by
  obtain ⟨s, ch, L, S, hs, h, rfl⟩ := h
  obtain ⟨d, _, hd, _⟩ := h.dq
  obtain ⟨v, hv⟩ := h.hp
  exact ⟨dueOf s S now, h.tw.due_perm h.wf hd hv.srt now, h.tw.due_srt h.wf hv.srt now, tq_due w now h⟩
theorem TQA.mono {M : Nat} (h : TQA w0 w a n m N R) (hM : N ≤ M) : TQA w0 w a n m M R := by
  obtain ⟨s, ch, L, S, hs, h, e⟩ := h
  exact ⟨s, ch, L, S, hs, ⟨h.head, h.sl, h.wf.mono hM, h.dq, h.hp, h.hd, h.tw, h.lo, h.n8, h.m1⟩, e⟩
theorem TQA.kr (h : TQA w0 w a n m N R) (k : KQ a w W) : KR w W := by
  obtain ⟨s, ch, L, S, hs, h, e⟩ := h
  exact k.kr h.loose
theorem TQA.lts (h : TQA w0 w a n m N R) : a.ba < w.heap.size ∧ a.bh < w.heap.size := by
  obtain ⟨s, ch, L, S, hs, h, e⟩ := h
  obtain ⟨v, hv⟩ := h.hp
  exact ⟨hv.hs.lts _ (H.mem_hown.2 (.inr (.inl rfl))), h.hd.lt⟩
/-- A row of handles that is none of the queue's may be written. -/
theorem TQA.handles {T : List Nat} (h : TQA w0 w a n m N R) (k : Kp T w W) (hT : ∀ b ∈ T, b ≠ a.bh ∧ w0.heap.size ≤ b ∧ ∃ l, Blk w b 29 l) : TQA w0 W a n m N R := by
  obtain ⟨s, ch, L, S, hs, h, e⟩ := h
  obtain ⟨d, h1, h2, h3⟩ := h.dq
  obtain ⟨v, h4⟩ := h.hp
  have nm : ∀ {b' U : Nat} {l' : List Value}, Blk w b' U l' → U ≠ 29 → b' ∉ T := fun hb' e1 hm => by
    obtain ⟨_, _, l, hb⟩ := hT _ hm
    exact blk_ne hb' hb e1 rfl
  refine ⟨s, ch, L, S, hs, ⟨k.blk h.head (nm h.head (by decide)), h.sl.kp k (nm h.sl.head (by decide)) (nm h.sl.body (by decide)), h.wf, ⟨d, h1.kp k (nm h1.head (by decide)) (nm h1.rows (by decide)) (nm h1.links (by decide)), h2, h3⟩, ⟨v, h4.kp k (fun b hb => ?_) (fun b hb => (hT b hb).2.1)⟩, k.blk h.hd (fun hm => (hT _ hm).1 rfl), h.tw, h.lo, h.n8, h.m1⟩, e⟩
  obtain ⟨_, _, l, hl⟩ := hT b hb
  exact hs_away h4.hs hl (by decide) (by decide) (by decide)
theorem TQA.grown {base : Nat} {ok : Nat → Prop} {v : Value} {xs : List Int} (h : TQA w0 w a n m N R) (hR : (Kd.int .u64).R 29 w base ok v xs) (hok : ∀ b, ok b → b ≠ a.bh) (hb : w0.heap.size ≤ base) (hg : w.grownBy W v.ownBlock) : TQA w0 W a n m N R :=
  h.handles (Kp.of_grown hg) fun b hm => by
    have hv : v.ownBlock = some b := by simpa using hm
    obtain ⟨cells, hc⟩ := Kd.R_typed hR b hv
    have h1 := (Kd.R_bound hR).1 b hv
    exact ⟨hok b h1.1, Nat.le_trans hb h1.2.1, cells.toList, by simpa [Blk] using hc⟩
theorem TQA.box {b : Nat} {l : List Value} (h : TQA w0 w a n m N R) (hb : Blk w b 33 l) (hl : w0.heap.size ≤ b) (k : Kp [b] w W) : TQA w0 W a n m N R := by
  obtain ⟨s, ch, L, S, hs, h, e⟩ := h
  exact ⟨s, ch, L, S, hs, (h.loose.box hb hl k).tight h.tw, e⟩
end
end Go.Proofs.Ytifffmfbipjilaa.Z

/- The document's slab in memory; Len, At. -/
import Derived.Test.YtifffmfbipjilaaSlabp
import Derived.Test.YtifffmfbipjilaaWMore
import Derived.Deep.RegionHeld3
import Derived.BigQuiet
namespace Go.Proofs.Ytifffmfbipjilaa.Z
open Go.RowKit Go.Proofs.YtifffmfbipjilaaW Go.Proofs.YtifffmfbipjilaaW.PrintWords
set_option linter.unusedVariables false
set_option linter.unusedSimpArgs false
structure RS where
  reqs : List Rq
  taken : List Bool
  turns : List Int
  free : List Int
theorem adz (ad : Addr) (i : Nat) : (ad.add i).block = ad.block := by unfold Addr.add; split <;> rfl
/-- A row that is only read, in a block of numbers. -/
structure Fr (w : World) (base T : Nat) (v : Value) (l : List Int) : Prop where
  ex : ∃ A c, v = .slice A l.length c ∧ l.length ≤ c ∧ (Kd.int .i64).C w A l.length l ∧ ∀ ad, A = some ad → 0 < l.length → base ≤ ad.block ∧ ∃ cells, w.heap[ad.block]? = some (.cells cells T (0, 0))
theorem Fr.step {w W : World} {base T : Nat} {v : Value} {l : List Int} (h : Fr w base T v l) (hm : ∀ b, base ≤ b → (∃ cells, w.heap[b]? = some (.cells cells T (0, 0))) → W.heap[b]? = w.heap[b]?) : Fr W base T v l := by
  obtain ⟨A, c, hv, hlc, hC, hb⟩ := h.ex
  refine ⟨A, c, hv, hlc, ⟨hC.1, hC.2.1, fun hp => ?_⟩, fun ad hA hp => ?_⟩
  · obtain ⟨ad, hA, hcell⟩ := hC.2.2 hp
    obtain ⟨h1, h2⟩ := hb ad hA hp
    refine ⟨ad, hA, fun j p hj => ?_⟩
    obtain ⟨cs, e1, e2, e3⟩ := hcell j p hj
    refine ⟨cs, e1, e2, fun i u hu => ?_⟩
    rw [World.cell?_of_block (w := w) (by rw [adz]; exact hm _ h1 h2)]
    exact e3 i u hu
  · obtain ⟨h1, cells, h2⟩ := hb ad hA hp
    exact ⟨h1, cells, (hm _ h1 ⟨cells, h2⟩).trans h2⟩
theorem Fr.below {w W : World} {base T : Nat} {v : Value} {l : List Int} (h : Fr w base T v l) (hb : Below w.heap.size w W) : Fr W base T v l :=
  h.step (fun b _ ⟨cells, hc⟩ => hb.block b (PrintWords.blk_lt hc))
theorem Fr.kp {w W : World} {base T : Nat} {v : Value} {l : List Int} {S : List Nat} (h : Fr w base T v l) (k : Kp S w W) (hS : ∀ b ∈ S, ∃ t l, Blk w b t l ∧ t ≠ T) : Fr W base T v l :=
  h.step (fun b _ ⟨cells, hc⟩ => k.block b (PrintWords.blk_lt hc) (fun hm => by
    obtain ⟨t, l, hb, ht⟩ := hS b hm
    have := hb.symm.trans hc
    injection this with this
    injection this with _ e _
    exact ht e))
theorem Fr.of_R {w : World} {base e : Nat} {v : Value} {l : List Int} {ok : Nat → Prop} (h : (Kd.int .i64).R e w base ok v l) : Fr w base e v l := by
  obtain ⟨A, c, rfl⟩ := Kd.R_slice h
  obtain ⟨_, h2, h3⟩ := Kd.R_reads' h
  refine ⟨A, c, rfl, h2, h3, fun ad hA hp => ?_⟩
  obtain ⟨g, cap, hv, hb, _, cells, hc⟩ := Kd.R_form h hp
  injection hv with e1 _ _
  subst e1
  injection hA with hA
  subst hA
  exact ⟨hb, cells, hc⟩
theorem Fr.lower {w : World} {base base' T : Nat} {v : Value} {l : List Int} (h : Fr w base T v l) (hb : base' ≤ base) : Fr w base' T v l := by
  obtain ⟨A, c, h1, h2, h3, h4⟩ := h.ex
  exact ⟨A, c, h1, h2, h3, fun ad hA hp => ⟨Nat.le_trans hb (h4 ad hA hp).1, (h4 ad hA hp).2⟩⟩
/-- The document's slab at gx. -/
structure RSAt (w : World) (base : Nat) (okn : Nat → Prop) (gx : Nat) (vq vt vn vf : Value) (r : RS) : Prop where
  head : Blk w gx 97 [vq, vt, vn, vf]
  rq : Rq.kd.R 60 w base (fun _ => True) vq r.reqs
  tk : Kd.bool.R 4 w base (fun _ => True) vt r.taken
  tn : (Kd.int .u64).R 28 w base okn vn r.turns
  fr : Fr w base 3 vf r.free
  lt_ : r.taken.length = r.reqs.length
  ln : r.turns.length = r.reqs.length
  hb : base ≤ gx
section
variable {w W : World} {base gx : Nat} {okn : Nat → Prop} {vq vt vn vf : Value} {r : RS} {S : List Nat}
theorem RSAt.below (h : RSAt w base okn gx vq vt vn vf r) (hb : Below w.heap.size w W) : RSAt W base okn gx vq vt vn vf r :=
  ⟨h.head.below hb, Kd.R_below h.rq hb, Kd.R_below h.tk hb, Kd.R_below h.tn hb, h.fr.below hb, h.lt_, h.ln, h.hb⟩
/-- Behind what wrote blocks of other types. -/
theorem RSAt.kp (h : RSAt w base okn gx vq vt vn vf r) (k : Kp S w W) (hS : ∀ b ∈ S, ∃ t l, Blk w b t l ∧ t ≠ 97 ∧ t ≠ 60 ∧ t ≠ 4 ∧ t ≠ 28 ∧ t ≠ 3) : RSAt W base okn gx vq vt vn vf r := by
  refine ⟨k.blk h.head (fun hm => ?_), R_kp rfl h.rq k (fun b hb => ?_), R_kp rfl h.tk k (fun b hb => ?_), R_kp rfl h.tn k (fun b hb => ?_), h.fr.kp k (fun b hb => ?_), h.lt_, h.ln, h.hb⟩
  · obtain ⟨t, l, h1, h2, _⟩ := hS gx hm
    have := h1.symm.trans h.head
    injection this with this
    injection this with _ e _
    exact h2 e
  · obtain ⟨t, l, h1, _, h2, _⟩ := hS b hb; exact ⟨t, l, h1, h2⟩
  · obtain ⟨t, l, h1, _, _, h2, _⟩ := hS b hb; exact ⟨t, l, h1, h2⟩
  · obtain ⟨t, l, h1, _, _, _, h2, _⟩ := hS b hb; exact ⟨t, l, h1, h2⟩
  · obtain ⟨t, l, h1, _, _, _, _, h2⟩ := hS b hb; exact ⟨t, l, h1, h2⟩
end
/-- The blocks that the document's methods write. -/
def rown (gx : Nat) (vq vt vn : Value) : List Nat := gx :: (vq.ownBlock.toList ++ vt.ownBlock.toList ++ vn.ownBlock.toList)
theorem mem_rown {gx : Nat} {vq vt vn : Value} {b : Nat} : b ∈ rown gx vq vt vn ↔ b = gx ∨ vq.ownBlock = some b ∨ vt.ownBlock = some b ∨ vn.ownBlock = some b := by
  simp [rown, Option.mem_toList]
theorem R_bool_cell {w : World} {e base g n c : Nat} {ok : Nat → Prop} {xs : List Bool} (h : Kd.bool.R e w base ok (.slice (some ⟨g, 0, none⟩) n c) xs) {i : Nat} {x : Bool} (hx : xs[i]? = some x) : w.cell? ⟨g, i, none⟩ = some (.bool x) := by
  have hi : i < xs.length := (List.getElem?_eq_some_iff.1 hx).1
  have hn := (Kd.R_reads' h).1
  have := (Kd.R_celln false h i (by omega) (by omega)).1
  have h2 : rdOf false xs (i : Int) = x := by show xs.getD (i : Int).toNat false = x; rw [Int.toNat_natCast, List.getD_eq_getElem?_getD, hx]; rfl
  rwa [h2, Int.toNat_natCast] at this
theorem R_s_frozen {α : Type} {d : Kd α} {w : World} {e base g n c : Nat} {ok : Nat → Prop} {xs : List α} (h : d.R e w base ok (.slice (some ⟨g, 0, none⟩) n c) xs) (i : Nat) : w.frozen? ⟨g, i, none⟩ = false := by
  obtain ⟨cells, hc⟩ := Kd.R_typed h g rfl
  exact PrintWords.blk_frozen hc _
theorem RSAt.lens {w : World} {base gx : Nat} {okn : Nat → Prop} {vq vt vn vf : Value} {r : RS} (h : RSAt w base okn gx vq vt vn vf r) (hn : 0 < r.reqs.length) :
    ∃ bq bt bn cq ct cn, vq = .slice (some ⟨bq, 0, none⟩) r.reqs.length cq ∧ vt = .slice (some ⟨bt, 0, none⟩) r.reqs.length ct ∧ vn = .slice (some ⟨bn, 0, none⟩) r.reqs.length cn := by
  obtain ⟨bq, cq, h1, _⟩ := Kd.R_form h.rq hn
  obtain ⟨bt, ct, h2, _⟩ := Kd.R_form h.tk (by rw [h.lt_]; exact hn)
  obtain ⟨bn, cn, h3, _⟩ := Kd.R_form h.tn (by rw [h.ln]; exact hn)
  rw [h.lt_] at h2
  rw [h.ln] at h3
  exact ⟨bq, bt, bn, cq, ct, cn, h1, h2, h3⟩
/-- The cell that a handle tells. -/
def RS.at (r : RS) (h : Int) : Option Nat := if (h % 4294967296).toNat < r.reqs.length ∧ r.taken[(h % 4294967296).toNat]? = some true ∧ r.turns[(h % 4294967296).toNat]? = some (h / 4294967296) then some (h % 4294967296).toNat else none
set_option maxHeartbeats 4000000 in
theorem rat_any (h : Int) (base gx : Nat) (okn : Nat → Prop) (vq vt vn vf : Value) (r : RS) (w : World) (hs : RSAt w base okn gx vq vt vn vf r) (hn0 : 0 < r.reqs.length) (hn : r.reqs.length ≤ 1024) (h0 : 0 ≤ h) (h1 : h < 18446744073709551616) :
    Calls Try.prog 45 #[.pointer (some ⟨gx, 0, none⟩), .int .u64 h] w fun e w' => e = .returned (.int .i64 (((r.at h).map (fun i : Nat => (i : Int))).getD (-1))) ∧ w = w' := by
  obtain ⟨bq, bt, bn, cq, ct, cn, rfl, rfl, rfl⟩ := hs.lens hn0
  have c0 := hs.head.cell 0 rfl
  have c1 := hs.head.cell 1 rfl
  have c2 := hs.head.cell 2 rfl
  obtain ⟨i, hi⟩ : ∃ i : Nat, h % 4294967296 = (i : Int) := ⟨(h % 4294967296).toNat, by omega⟩
  unfold RS.at
  rw [hi, Int.toNat_natCast]
  have HS := Aside0.mk hs
  have hlt_ := hs.lt_
  have hln := hs.ln
  have HL := Aside0.mk (And.intro hlt_ hln)
  obtain ⟨n, hN⟩ : ∃ n, n = r.reqs.length := ⟨_, rfl⟩
  rw [← hN] at hn0 hn c0 c1 c2 ⊢
  have i0 : (0 : Int) ≤ (i : Int) := by omega
  have HN := Aside0.mk hN
  by_cases hlt : i < n
  · have hlt' : (i : Int) < (n : Int) := by omega
    obtain ⟨b, hbx⟩ : ∃ b, r.taken[i]? = some b := ⟨_, List.getElem?_eq_getElem (by omega)⟩
    obtain ⟨t, htx⟩ : ∃ t, r.turns[i]? = some t := ⟨_, List.getElem?_eq_getElem (by omega)⟩
    have x1 := R_bool_cell hs.tk hbx
    have x2 := R_int_cell hs.tn htx
    rw [hbx, htx]
    clear hs hlt_ hln hN hbx htx
    cases b with
    | false =>
      rw [if_neg (by simp)]
      go_enter Try.func45, Try.ntmps45
      go_wp2_with (fail)
      go_ret
      exact ⟨rfl, rfl⟩
    | true =>
      by_cases ht : t = h / 4294967296
      · rw [if_pos ⟨hlt, rfl, by rw [ht]⟩]
        have hbb : (t == h / 4294967296) = true := by simp [ht]
        clear ht
        go_enter Try.func45, Try.ntmps45
        go_wp2_with (fail)
        go_ret
        exact ⟨rfl, rfl⟩
      · rw [if_neg (by simp [ht])]
        have hbb : (t == h / 4294967296) = false := by simp [ht]
        clear ht
        go_enter Try.func45, Try.ntmps45
        go_wp2_with (fail)
        go_ret
        exact ⟨rfl, rfl⟩
  · rw [if_neg (by omega)]
    have hge : n ≤ i := by omega
    clear hs hlt_ hln hN
    go_enter Try.func45, Try.ntmps45
    go_wp2_with (fail)
    go_ret
    exact ⟨rfl, rfl⟩
end Go.Proofs.Ytifffmfbipjilaa.Z

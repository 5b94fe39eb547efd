/- The document's rows in memory: a list of lists. -/
import Derived.Test.YtofapimappeppaaDqa
namespace Go.Proofs.Ytofapimappeppaa.Z
open Go.RowKit Go.Proofs.YtofapimappeppaaW.PrintWords Go.Proofs.YtofapimappeppaaW.PrintLast Go.Proofs.YtofapimappeppaaW.PrintMore
attribute [local go_sem] max2_int min2_int max_two min_two max_three min_three max_four min_four
set_option linter.unusedVariables false
set_option linter.unusedSimpArgs false
theorem Blk.ne {w : World} {b b' T T' : Nat} {l l' : List Value} (h : Blk w b T l) (h' : Blk w b' T' l') (hT : T ≠ T') : b ≠ b' := fun e => by
  subst e
  have h2 : w.heap[b]? = some (.cells l'.toArray T' (0, 0)) := h'
  rw [show w.heap[b]? = _ from h] at h2
  injection h2 with h2
  injection h2 with _ h2
  exact hT h2
/-- Blocks of other types than these are as they were. -/
structure KT (ts : List Nat) (w W : World) : Prop where
  size : w.heap.size ≤ W.heap.size
  blk : ∀ (b T : Nat) (l : List Value), Blk w b T l → T ∉ ts → Blk W b T l
section
variable {ts : List Nat} {w W V : World}
theorem KT.refl (ts : List Nat) (w : World) : KT ts w w := ⟨Nat.le_refl _, fun _ _ _ h _ => h⟩
theorem KT.trans (h : KT ts w W) (k : KT ts W V) : KT ts w V := ⟨Nat.le_trans h.size k.size, fun b T l hB hT => k.blk b T l (h.blk b T l hB hT) hT⟩
theorem KT.of_below (h : Below w.heap.size w W) : KT ts w W := ⟨h.size, fun b T l hB _ => hB.below h⟩
theorem KT.below (h : KT ts w W) (k : Below W.heap.size W V) : KT ts w V := h.trans (KT.of_below k)
theorem KT.drew (h : KT ts w W) : KT ts w W.drew := ⟨h.size, fun b T l hB hT => (h.blk b T l hB hT).drew_⟩
theorem KT.grown {α : Type} {dd : Kd α} {e base : Nat} {ok : Nat → Prop} {v : Value} {xs : List α} (h : KT ts w W) (hR : dd.R e W base ok v xs) (he : e ∈ ts) (hg : W.grownBy V v.ownBlock) : KT ts w V :=
  ⟨Nat.le_trans h.size hg.size, fun b T l hB hT => (h.blk b T l hB hT).grown hR (fun e' => hT (e' ▸ he)) hg⟩
theorem KT.set {p : Addr} {T : Nat} {l : List Value} (h : KT ts w W) (hB : Blk W p.block T l) (hT : T ∈ ts) (v : Value) : KT ts w (W.setCell p v) :=
  ⟨by simpa [World.setCell] using h.size, fun b T' l' hB' hT' => (h.blk b T' l' hB' hT').far ((h.blk b T' l' hB' hT').ne hB (fun e => hT' (e ▸ hT))) v⟩
end
theorem DqAt.kt {ts : List Nat} {w W : World} {g br bl : Nat} {d : Dq} (h : DqAt w g br bl d) (k : KT ts w W) (h0 : 57 ∉ ts) (h1 : 59 ∉ ts) (h2 : 61 ∉ ts) : DqAt W g br bl d :=
  ⟨k.blk _ _ _ h.head h0, k.blk _ _ _ h.rows h1, k.blk _ _ _ h.links h2, h.ne1, h.ne2, h.ne3⟩
/-- Headers of rows (elements of type e, kind k), each row of the call's own; no two lie in one block. -/
structure Hdrs (w : World) (base e : Nat) (k : IntKind) (vs : List Value) (L : List (List Int)) : Prop where
  len : vs.length = L.length
  row : ∀ (r : Nat) v l, vs[r]? = some v → L[r]? = some l → (Kd.int k).R e w base (fun _ => True) v l
  apart : ∀ (r r' : Nat) v v' b, vs[r]? = some v → vs[r']? = some v' → v.ownBlock = some b → v'.ownBlock = some b → r = r'
section
variable {w w1 : World} {base e : Nat} {k : IntKind} {vs : List Value} {L : List (List Int)}
theorem Hdrs.step (h : Hdrs w base e k vs L) (hm : ∀ (r : Nat) v b, vs[r]? = some v → v.ownBlock = some b → w1.heap[b]? = w.heap[b]?) : Hdrs w1 base e k vs L :=
  ⟨h.len, fun r v l hv hl => Kd.R_mono (Kd.R_move (Kd.R_tight rfl (h.row r v l hv hl)) (fun b hb => hm r v b hv hb.symm)) (fun _ _ => trivial), h.apart⟩
theorem Hdrs.has (h : Hdrs w base e k vs L) {r : Nat} {v : Value} (hv : vs[r]? = some v) {b : Nat} (hb : v.ownBlock = some b) : (∃ cells, w.heap[b]? = some (.cells cells e (0, 0))) ∧ base ≤ b ∧ b < w.heap.size := by
  obtain ⟨l, hl⟩ : ∃ l, L[r]? = some l := ⟨_, List.getElem?_eq_getElem (by rw [← h.len]; exact (List.getElem?_eq_some_iff.1 hv).1)⟩
  have hR := h.row r v l hv hl
  exact ⟨Kd.R_typed hR b hb, Kd.R_base hR b hb, Kd.R_lt hR b hb⟩
theorem Hdrs.below (h : Hdrs w base e k vs L) (hb : Below w.heap.size w w1) : Hdrs w1 base e k vs L :=
  h.step fun r v b hv hb' => hb.block b (h.has hv hb').2.2
theorem Hdrs.kp (h : Hdrs w base e k vs L) {S : List Nat} (hk : Kp S w w1) (hS : ∀ b, b ∈ S → ∃ T l, Blk w b T l ∧ T ≠ e) : Hdrs w1 base e k vs L :=
  h.step fun r v b hv hb => hk.block b (h.has hv hb).2.2 (fun hm => by
    obtain ⟨T, l, hB, hT⟩ := hS b hm
    obtain ⟨⟨cells, hc⟩, _⟩ := h.has hv hb
    rw [show w.heap[b]? = _ from hB] at hc
    injection hc with hc
    injection hc with _ hc
    exact hT hc)
theorem Hdrs.set_ (h : Hdrs w base e k vs L) {p : Addr} {T : Nat} {l : List Value} (hB : Blk w p.block T l) (hT : T ≠ e) (v : Value) : Hdrs (w.setCell p v) base e k vs L :=
  h.step fun r v' b hv hb => Below.heap_setCell w p v b (fun he => by
    obtain ⟨⟨cells, hc⟩, _⟩ := h.has hv hb
    rw [he, show w.heap[p.block]? = _ from hB] at hc
    injection hc with hc
    injection hc with _ hc
    exact hT hc)
/-- Row r has a new header: what was written is its old block, or new ones. -/
theorem Hdrs.put (h : Hdrs w base e k vs L) {r : Nat} {v v1 : Value} {l1 : List Int} (hv : vs[r]? = some v) (hR : (Kd.int k).R e w1 base (fun _ => True) v1 l1) (hg : w.grownBy w1 v.ownBlock)
    (ho : v1.ownBlock = none ∨ v1.ownBlock = v.ownBlock ∨ ∃ b, v1.ownBlock = some b ∧ w.heap.size ≤ b) : Hdrs w1 base e k (vs.set r v1) (L.set r l1) := by
  have hr : r < vs.length := (List.getElem?_eq_some_iff.1 hv).1
  have old : ∀ (r' : Nat) v' b, r ≠ r' → vs[r']? = some v' → v'.ownBlock = some b → w1.heap[b]? = w.heap[b]? := fun r' v' b hne hv' hb =>
    hg.block b (h.has hv' hb).2.2 (fun he => hne (h.apart r r' v v' b hv hv' he.symm hb))
  have fresh : ∀ (r' : Nat) v' b, r ≠ r' → vs[r']? = some v' → v'.ownBlock = some b → v1.ownBlock = some b → False := fun r' v' b hne hv' hb hb1 => by
    rcases ho with ho | ho | ⟨b', ho, hle⟩
    · rw [ho] at hb1; cases hb1
    · exact hne (h.apart r r' v v' b hv hv' (ho ▸ hb1) hb)
    · have := (h.has hv' hb).2.2
      rw [ho] at hb1; injection hb1 with hb1; omega
  refine ⟨by rw [List.length_set, List.length_set]; exact h.len, fun r' v' l' hv' hl' => ?_, fun r1 r2 v1' v2' b h1 h2 b1 b2 => ?_⟩
  · by_cases hrr : r = r'
    · subst hrr
      rw [List.getElem?_set_self hr] at hv'
      rw [List.getElem?_set_self (by rw [← h.len]; exact hr)] at hl'
      injection hv' with hv'
      injection hl' with hl'
      rw [← hv', ← hl']; exact hR
    · rw [List.getElem?_set_ne hrr] at hv' hl'
      exact Kd.R_mono (Kd.R_move (Kd.R_tight rfl (h.row r' v' l' hv' hl')) (fun b hb => old r' v' b hrr hv' hb.symm)) (fun _ _ => trivial)
  · by_cases e1 : r = r1
    · subst e1
      by_cases e2 : r = r2
      · exact e2
      · rw [List.getElem?_set_self hr] at h1
        rw [List.getElem?_set_ne e2] at h2
        injection h1 with h1
        exact (fresh r2 v2' b e2 h2 b2 (h1 ▸ b1)).elim
    · by_cases e2 : r = r2
      · subst e2
        rw [List.getElem?_set_self hr] at h2
        rw [List.getElem?_set_ne e1] at h1
        injection h2 with h2
        exact (fresh r1 v1' b e1 h1 b1 (h2 ▸ b2)).elim
      · rw [List.getElem?_set_ne e1] at h1
        rw [List.getElem?_set_ne e2] at h2
        exact h.apart r1 r2 v1' v2' b h1 h2 b1 b2
theorem Hdrs.nil (w : World) (base e : Nat) (k : IntKind) (n : Nat) : Hdrs w base e k (List.replicate n (.slice none 0 0)) (List.replicate n []) := by
  have hm : ∀ (r : Nat) v, (List.replicate n (Value.slice none 0 0))[r]? = some v → v = .slice none 0 0 := fun r v hv => by
    have := List.mem_of_getElem? hv
    rw [List.mem_replicate] at this
    exact this.2
  refine ⟨by simp, fun r v l hv hl => ?_, fun r r' v v' b hv _ hb _ => ?_⟩
  · have := List.mem_of_getElem? hl
    rw [List.mem_replicate] at this
    rw [hm r v hv, this.2]
    exact Kd.R_nil _ _ _ _ _
  · rw [hm r v hv] at hb; simp [Value.ownBlock] at hb
end
/-- The document's rows: block gx, and block bL of headers. -/
structure RefX (w : World) (base gx bL c : Nat) (vs pad : List Value) (L : List (List Nat)) (room : Nat) : Prop where
  head : Blk w gx 69 [.slice (some ⟨bL, 0, none⟩) L.length c, .int .i64 room]
  rows : Blk w bL 34 (vs ++ pad)
  cap : L.length ≤ c
  hd : Hdrs w base 3 .i64 vs (L.map ofN)
  lo : base ≤ gx ∧ base ≤ bL
section
variable {w w1 : World} {base gx bL c : Nat} {vs pad : List Value} {L : List (List Nat)} {room : Nat}
theorem RefX.below (h : RefX w base gx bL c vs pad L room) (hb : Below w.heap.size w w1) : RefX w1 base gx bL c vs pad L room := ⟨h.head.below hb, h.rows.below hb, h.cap, h.hd.below hb, h.lo⟩
theorem RefX.kp (h : RefX w base gx bL c vs pad L room) {S : List Nat} (hk : Kp S w w1) (hS : ∀ b, b ∈ S → ∃ T l, Blk w b T l ∧ T ≠ 3 ∧ T ≠ 69 ∧ T ≠ 34) : RefX w1 base gx bL c vs pad L room := by
  have hn : ∀ {b T : Nat} {l : List Value}, Blk w b T l → T = 69 ∨ T = 34 → b ∉ S := fun hB hT hm => by
    obtain ⟨T', l', hB', h3, h4, h5⟩ := hS _ hm
    rcases hT with rfl | rfl
    · exact (hB.ne hB' (Ne.symm h4)) rfl
    · exact (hB.ne hB' (Ne.symm h5)) rfl
  exact ⟨hk.blk h.head (hn h.head (.inl rfl)), hk.blk h.rows (hn h.rows (.inr rfl)), h.cap, h.hd.kp hk (fun b hb => by obtain ⟨T, l, hB, h3, _⟩ := hS b hb; exact ⟨T, l, hB, h3⟩), h.lo⟩
theorem RefX.heads (h : RefX w base gx bL c vs pad L room) : w.cell? ⟨gx, 0, none⟩ = some (.slice (some ⟨bL, 0, none⟩) L.length c) ∧ w.cell? ⟨gx, 1, none⟩ = some (.int .i64 room) ∧ (∀ j, w.frozen? ⟨gx, j, none⟩ = false) ∧ (∀ j, w.frozen? ⟨bL, j, none⟩ = false) :=
  ⟨h.head.cell 0 rfl, h.head.cell 1 rfl, fun j => h.head.frozen j, fun j => h.rows.frozen j⟩
/-- Row r's header, and its members. -/
theorem RefX.at (h : RefX w base gx bL c vs pad L room) {r : Nat} {l : List Nat} (hl : L[r]? = some l) :
    ∃ v A n, v = .slice A l.length n ∧ vs[r]? = some v ∧ w.cell? ⟨bL, r, none⟩ = some (.slice A l.length n) ∧ (Kd.int .i64).R 3 w base (fun _ => True) (.slice A l.length n) (ofN l) ∧
      (∀ (q x : Nat), l[q]? = some x → ∃ gr, A = some ⟨gr, 0, none⟩ ∧ w.cell? ⟨gr, q, none⟩ = some (.int .i64 (x : Int))) := by
  have hr : r < L.length := (List.getElem?_eq_some_iff.1 hl).1
  have hlen : vs.length = L.length := by have := h.hd.len; simpa using this
  have hv : vs[r]? = some vs[r] := List.getElem?_eq_getElem (by omega)
  have hR := h.hd.row r _ (ofN l) hv (by rw [List.getElem?_map, hl]; rfl)
  obtain ⟨A, n, hs⟩ := Kd.R_slice hR
  rw [ofN_len] at hs
  refine ⟨vs[r], A, n, hs, hv, ?_, hs ▸ hR, fun q x hx => ?_⟩
  · rw [← hs]
    exact h.rows.cell r (by rw [List.getElem?_append_left (by omega)]; exact hv)
  · have hq : q < l.length := (List.getElem?_eq_some_iff.1 hx).1
    obtain ⟨gr, cap, hf, _⟩ := Kd.R_form hR (by rw [ofN_len]; omega)
    rw [hf, ofN_len] at hs
    injection hs with hs _ _
    refine ⟨gr, hs.symm, ?_⟩
    rw [hf] at hR
    exact R_int_cell hR (ofN_at hx)
end
set_option maxHeartbeats 8000000 in
set_option maxRecDepth 100000 in
/-- Where: the first row that has it. -/
theorem rwhere_m (i : Int) (base gx bL c : Nat) (vs pad : List Value) (L : List (List Nat)) (room : Nat) (w : World) (hx : RefX w base gx bL c vs pad L room) (h8 : L.length ≤ 8) (hl : ∀ l ∈ L, l.length ≤ 1024) (r0 : Int) (hr0 : r0 = match L.findIdx? (fun l => decide (i ∈ ofN l)) with | none => -1 | some r => (r : Int)) :
    Calls Try.prog 25 #[.pointer (some ⟨gx, 0, none⟩), .int .i64 i] w fun e w' => e = .returned (.int .i64 r0) ∧ w = w' := by
  obtain ⟨h0, h1, _, _⟩ := hx.heads
  have HX := Aside0.mk hx
  have HL := Aside0.mk hl
  have HR := Aside0.mk hr0
  clear hx hl hr0
  go_enter Try.func25, Try.ntmps25
  go_wp2_with (fail)
  go_loop [5] (fun p => ∃ r : Nat, r ≤ L.length ∧ p = .int .i64 r ∧ ∀ (j : Nat) l, j < r → L[j]? = some l → i ∉ ofN l) (fun p => L.length - (intOf p).toNat)
  case atStart => exact ⟨0, Nat.zero_le _, rfl, fun j l h => by omega⟩
  case round =>
    obtain ⟨r, hr, rfl, hno⟩ := hrel
    have HN := Aside0.mk hno
    clear hno
    by_cases hlt : r < L.length
    · have hlt' : (r : Int) < (L.length : Int) := by omega
      obtain ⟨l, hrl⟩ : ∃ l, L[r]? = some l := ⟨_, List.getElem?_eq_getElem hlt⟩
      have hll := HL.out l (List.mem_of_getElem? hrl)
      obtain ⟨v, A, n, hv, _, hc, _, hm⟩ := HX.out.at hrl
      have HM := Aside0.mk hm
      have HRL := Aside0.mk hrl
      clear hm hrl hv
      go_wp2_with (fail)
      go_loop [6] (fun p => ∃ q : Nat, q ≤ l.length ∧ p = .int .i64 q ∧ ∀ (j : Nat) x, j < q → l[j]? = some x → (x : Int) ≠ i) (fun p => l.length - (intOf p).toNat)
      case atStart => exact ⟨0, Nat.zero_le _, rfl, fun j x h => by omega⟩
      case round =>
        obtain ⟨q, hq, rfl, hnq⟩ := hrel
        have HNQ := Aside0.mk hnq
        clear hnq
        by_cases hql : q < l.length
        · have hql' : (q : Int) < (l.length : Int) := by omega
          obtain ⟨x, hxq⟩ : ∃ x, l[q]? = some x := ⟨_, List.getElem?_eq_getElem hql⟩
          obtain ⟨gr, rfl, hcx⟩ := HM.out q x hxq
          have HXQ := Aside0.mk hxq
          clear hxq
          by_cases hxi : (x : Int) = i
          · have hb : ((x : Int) == i) = true := by rw [hxi]; simp
            have hr0' : r0 = (r : Int) := by
              have hf : L.findIdx? (fun l => decide (i ∈ ofN l)) = some r := List.findIdx?_eq_some_iff_getElem.2 ⟨hlt, ?_, ?_⟩
              · rw [HR.out, hf]
              · have e : L[r] = l := by have := HRL.out; rw [List.getElem?_eq_getElem hlt] at this; injection this
                rw [e, ← hxi]; exact decide_eq_true (ofN_mem.2 (List.mem_of_getElem? HXQ.out))
              · intro j hj
                simp only [decide_eq_true_eq]
                exact HN.out j _ hj (List.getElem?_eq_getElem (by omega))
            have HR0 := Aside0.mk hr0'
            clear hr0'
            go_wp2_with (fail)
            go_ret
            exact ⟨by rw [HR0.out]; rfl, rfl⟩
          · have hb : ((x : Int) == i) = false := by rw [beq_eq_false_iff_ne]; exact hxi
            go_wp2_with (fail)
            go_round
            case rel => exact ⟨q + 1, by omega, by go_num, fun j y hj hy => by
              by_cases hjq : j = q
              · subst hjq; rw [HXQ.out] at hy; injection hy with hy; rw [← hy]; exact hxi
              · exact HNQ.out j y (by omega) hy⟩
            case measure => simp [intOf]; omega
        · go_wp2_with (fail)
          go_round
          case rel => exact ⟨r + 1, by omega, by go_num, fun j l' hj hl' hm => by
            by_cases hjr : j = r
            · subst hjr
              rw [HRL.out] at hl'; injection hl' with hl'
              rw [← hl'] at hm
              obtain ⟨x, hx, e⟩ := List.mem_map.1 hm
              obtain ⟨q', hq'⟩ := List.mem_iff_getElem?.1 hx
              exact HNQ.out q' x (by have := (List.getElem?_eq_some_iff.1 hq').1; omega) hq' e
            · exact HN.out j l' (by omega) hl' hm⟩
          case measure => simp [intOf]; omega
    · have hr0' : r0 = -1 := by
        rw [HR.out, List.findIdx?_eq_none_iff.2]
        intro l hl
        obtain ⟨j, hj⟩ := List.mem_iff_getElem?.1 hl
        exact decide_eq_false (HN.out j l (by have := (List.getElem?_eq_some_iff.1 hj).1; omega) hj)
      have HR0 := Aside0.mk hr0'
      clear hr0'
      go_wp2_with (fail)
      go_ret
      exact ⟨by rw [HR0.out]; rfl, rfl⟩
end Go.Proofs.Ytofapimappeppaa.Z

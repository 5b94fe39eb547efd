/- What slices.Contains and slices.Reverse answer; what the rows tell. -/
import Derived.Test.YtofapimappeppaaDqq
import Derived.Test.YtofapimappeppaaGx1
namespace Go.Proofs.Ytofapimappeppaa.Z
open Go.RowKit Go.Proofs.YtofapimappeppaaW Go.Proofs.YtofapimappeppaaW.PrintWords Go.Proofs.Ytofapimappeppaa.G
set_option linter.unusedVariables false
theorem w64_nat {n : Int} (h0 : 0 ≤ n) (h1 : n ≤ 9223372036854775807) : wrap64 n = n := by unfold wrap64; omega
theorem rd_at {l : List Int} {i : Nat} (h : i < l.length) : rd l (i : Int) = l[i] := by
  simp [rd, List.getD_eq_getElem?_getD, h]
theorem index_f (l : List Int) (a : Int) (hl : l.length ≤ 1000000) : ∀ (d i k : Nat), l.length - i = d → d < k → i ≤ l.length → (∀ j (h : j < i) (h2 : j < l.length), l[j] ≠ a) → ∃ r : Int, slices_Index_int_int.l0 k l a l.length i = some r ∧ (0 ≤ r ↔ a ∈ l)
  | d, i, 0, _, h, _, _ => by omega
  | d, i, k + 1, hd, hk, hi, hn => by
    simp only [slices_Index_int_int.l0]
    by_cases hlt : i < l.length
    · rw [if_pos (by omega), if_pos (by omega), if_pos (by omega), rd_at hlt]
      by_cases he : a = l[i]
      · rw [if_pos he]
        exact ⟨_, rfl, ⟨fun _ => he ▸ List.getElem_mem hlt, fun _ => by omega⟩⟩
      · rw [if_neg he, w64_nat (by omega) (by omega)]
        have := index_f l a hl (d - 1) (i + 1) k (by omega) (by omega) (by omega) (fun j h h2 => by
          by_cases hj : j = i
          · subst hj; exact fun e => he e.symm
          · exact hn j (by omega) h2)
        exact this
    · rw [if_neg (by omega)]
      refine ⟨-1, rfl, ⟨fun h => by omega, fun hm => ?_⟩⟩
      obtain ⟨j, hj, e⟩ := List.mem_iff_getElem.1 hm
      exact absurd e (hn j (by omega) hj)
theorem contains_any (A : Option Addr) (c : Nat) (l : List Int) (a : Int) (b : Bool) (hb : b = decide (a ∈ l)) (w : World) (hC : Kd.C (Kd.int .i64) w A l.length l) (hc : l.length ≤ c) (hl : l.length ≤ 1000000) :
  Calls Try.prog 13 #[.slice A l.length c, .int .i64 a] w fun e w' => e = .returned (.bool b) ∧ ∃ n, w' = w.drewN n := by
  obtain ⟨r, hr, hm⟩ := index_f l a hl l.length 0 (l.length + 1) (by omega) (by omega) (by omega) (fun j h => by omega)
  have hf : slices_Contains_int_int.f (l.length + 1) l a = some b := by
    show (slices_Index_int_int.l0 (l.length + 1) l a l.length 0).bind _ = _
    rw [show ((0 : Nat) : Int) = 0 from rfl] at hr
    rw [hr, hb]
    show some (decide (r ≥ 0)) = _
    congr 1
    rw [decide_eq_decide]
    exact hm
  exact (slices_Contains_int_int.calls _ A c l a b w hC hc hf).mono fun e w' h => ⟨h.1, h.2.out⟩
theorem contains_b (A : Option Addr) (c : Nat) (l : List Int) (a : Int) (b : Bool) (hb : b = decide (a ∈ l)) (w : World) (hC : Kd.C (Kd.int .i64) w A l.length l) (hc : l.length ≤ c) (hl : l.length ≤ 1000000) :
  Calls Try.prog 13 #[.slice A l.length c, .int .i64 a] w fun e w' => e = .returned (.bool b) ∧ Below w.heap.size w w' :=
  (contains_any A c l a b hb w hC hc hl).mono fun e w' ⟨h1, n, h2⟩ => ⟨h1, by rw [h2]; exact pw_below_drewN (Below.refl _ _) n⟩
theorem reverse_f (l : List Int) (hl : l.length ≤ 1000000) : ∀ (d i k : Nat) (x : List Int), l.length - i = d → d < k → x.length = l.length → i ≤ l.length →
    (∀ j : Nat, x[j]? = if j < i ∨ l.length ≤ j + i then l.reverse[j]? else l[j]?) → slices_Reverse_int_int.l0 k x i ((l.length : Int) - 1 - i) = some l.reverse
  | d, i, 0, x, _, h, _, _, _ => by omega
  | d, i, k + 1, x, hd, hk, hx, hi, hj => by
    simp only [slices_Reverse_int_int.l0]
    by_cases hlt : (i : Int) < (l.length : Int) - 1 - i
    · have e1 : ((l.length : Int) - 1 - i) = ((l.length - 1 - i : Nat) : Int) := by omega
      rw [if_pos hlt, if_pos (by omega), if_pos (by omega), if_pos (by omega), if_pos (by omega), w64_nat (by omega) (by omega), w64_nat (by omega) (by omega)]
      rw [e1, rd_at (by omega), rd_at (by omega), Int.toNat_natCast, Int.toNat_natCast]
      have e2 : (((l.length - 1 - i : Nat) : Int) - 1) = (l.length : Int) - 1 - ((i + 1 : Nat) : Int) := by omega
      rw [e2]
      refine reverse_f l hl (d - 1) (i + 1) k _ (by omega) (by omega) (by simpa using hx) (by omega) (fun j => ?_)
      have x1 : x[i]'(by omega) = l[i]'(by omega) := by
        have := hj i
        rw [if_neg (by omega), List.getElem?_eq_getElem (by omega), List.getElem?_eq_getElem (by omega)] at this
        injection this
      have x2 : x[l.length - 1 - i]'(by omega) = l[l.length - 1 - i]'(by omega) := by
        have := hj (l.length - 1 - i)
        rw [if_neg (by omega), List.getElem?_eq_getElem (by omega), List.getElem?_eq_getElem (by omega)] at this
        injection this
      rw [List.getElem?_set, List.getElem?_set, x1, x2]
      by_cases c1 : l.length - 1 - i = j
      · rw [if_pos c1, if_pos (by simp; omega), if_pos (by omega), List.getElem?_reverse (by omega)]
        rw [List.getElem?_eq_getElem (by omega)]
        congr 2
        omega
      · rw [if_neg c1]
        by_cases c2 : i = j
        · rw [if_pos c2, if_pos (by omega), if_pos (by omega), List.getElem?_reverse (by omega)]
          rw [List.getElem?_eq_getElem (by omega)]
          congr 2
          omega
        · rw [if_neg c2, hj j]
          by_cases c3 : j < i ∨ l.length ≤ j + i
          · rw [if_pos c3, if_pos (by omega)]
          · rw [if_neg c3, if_neg (by omega)]
    · rw [if_neg hlt]
      congr 1
      apply List.ext_getElem?
      intro j
      rw [hj j]
      by_cases c3 : j < i ∨ l.length ≤ j + i
      · rw [if_pos c3]
      · rw [if_neg c3, List.getElem?_reverse (by omega)]
        congr 1
        omega
theorem reverse_any (v : Value) (l : List Int) (w0 w : World) (hB : Below w0.heap.size w0 w) (hR : Kd.R (Kd.int .i64) 3 w w0.heap.size (fun _ => True) v l) (hl : l.length ≤ 1000000) :
  Calls Try.prog 15 #[v] w fun e w' => e = .returned (.tuple #[]) ∧ Kd.R (Kd.int .i64) 3 w' w0.heap.size (fun _ => True) v l.reverse ∧ Below w0.heap.size w0 w' ∧ ∃ S : Nat → Prop, (∀ k, S k → some k = v.ownBlock) ∧ Kept w w' S := by
  have hf : slices_Reverse_int_int.f (l.length + 1) l = some l.reverse := by
    show slices_Reverse_int_int.l0 _ l 0 (wrap64 ((l.length : Int) - 1)) = _
    have e : wrap64 ((l.length : Int) - 1) = (l.length : Int) - 1 - ((0 : Nat) : Int) := by unfold wrap64; omega
    rw [e]
    exact reverse_f l hl l.length 0 _ l rfl (by omega) rfl (by omega) (fun j => by
      by_cases h : j < 0 ∨ l.length ≤ j + 0
      · rw [if_pos h, List.getElem?_eq_none (by omega), List.getElem?_eq_none (by simp; omega)]
      · rw [if_neg h])
  have hR2 := Kd.R_tight rfl hR
  refine (slices_Reverse_int_int.calls _ _ v l l.reverse w0 w hB hR2 hf).mono fun e w' h => ⟨h.1, Kd.R_mono h.2.1 (fun _ _ => trivial), h.2.2.1, _, fun k hk => hk, h.2.2.2⟩
/-! What is told, in lists -/
theorem DR.endOf {d : Dq} {L : List (List Nat)} (h : DR d L) {r : Nat} {l : List Nat} (hl : L[r]? = some l) (b : Bool) (hne : l ≠ []) : d.endOf r b = (if b then nth l (l.length - 1) else nth l 0, true) := by
  have hrr := h.row r l hl
  have hlen : 0 < l.length := List.length_pos_iff.2 hne
  unfold Dq.endOf
  rw [if_pos (by omega), Int.toNat_natCast, hrr]
  exact if_neg (by show ¬ (l.length : Int) = 0; omega)
theorem DR.endOf_nil {d : Dq} {L : List (List Nat)} (h : DR d L) {r : Nat} (hl : L[r]? = some []) (b : Bool) : d.endOf r b = (0, false) := by
  have hrr := h.row r [] hl
  unfold Dq.endOf
  rw [if_pos (by omega), Int.toNat_natCast, hrr]
  exact if_pos rfl
theorem DR.lenOf {d : Dq} {L : List (List Nat)} (h : DR d L) {r : Nat} {l : List Nat} (hl : L[r]? = some l) : d.lenOf r = l.length := by
  have hrr := h.row r l hl
  unfold Dq.lenOf
  rw [if_pos (by omega), Int.toNat_natCast, hrr]
theorem DR.where_in {d : Dq} {L : List (List Nat)} (h : DR d L) {r i : Nat} {l : List Nat} (hl : L[r]? = some l) (hi : i ∈ l) : d.whereOf i = r := by
  obtain ⟨k, hk⟩ := List.mem_iff_getElem?.1 hi
  have := h.lk r l k i hl hk
  unfold Dq.whereOf
  rw [if_pos (by omega), Int.toNat_natCast, this]
theorem DR.where_out {d : Dq} {L : List (List Nat)} (h : DR d L) {i : Nat} (hn : ∀ (r : Nat) l, L[r]? = some l → i ∉ l) : d.whereOf i = -1 := by
  unfold Dq.whereOf
  rw [if_pos (by omega), Int.toNat_natCast]
  cases hc : d.links[i]? with
  | none => rfl
  | some c => exact h.free i c hc hn
theorem busy_dr (r r' i g br bl : Nat) (d : Dq) (L : List (List Nat)) (l : List Nat) (w : World) (hd : DqAt w g br bl d) (h : DR d L) (hr : r < L.length) (hl : L[r']? = some l) (hi : i ∈ l) :
  Calls Try.prog 10 #[.pointer (some ⟨g, 0, none⟩), .int .i64 r, .int .i64 i] w fun e w' => e = .returned (.int .i64 10) ∧ w = w' := by
  obtain ⟨k, hk⟩ := List.mem_iff_getElem?.1 hi
  exact push_busy r i g br bl d _ w hd (by rw [h.rl]; exact hr) (h.lk r' l k i hl hk) (by show (r' : Int) ≠ -1; omega)
end Go.Proofs.Ytofapimappeppaa.Z

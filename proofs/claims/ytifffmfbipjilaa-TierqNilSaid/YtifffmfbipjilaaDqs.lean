/- What slices.Contains and slices.Reverse answer; what the rows tell. -/
import Derived.Test.YtifffmfbipjilaaDqq
namespace Go.Proofs.Ytifffmfbipjilaa.Z
open Go.RowKit Go.Proofs.YtifffmfbipjilaaW Go.Proofs.YtifffmfbipjilaaW.PrintWords
set_option linter.unusedVariables false
theorem w64_nat {n : Int} (h0 : 0 ≤ n) (h1 : n ≤ 9223372036854775807) : wrap64 n = n := by unfold wrap64; omega
/-! What is told, in lists -/
theorem DR.endOf {d : Dq} {L : List (List Nat)} (h : DR d L) {r : Nat} {l : List Nat} (hl : L[r]? = some l) (b : Bool) (hne : l ≠ []) : d.endOf r b = (if b then nth l (l.length - 1) else nth l 0, true) := by
  have hrr := h.row r l hl
  have hlen : 0 < l.length := List.length_pos_iff.2 hne
  unfold Dq.endOf
  rw [if_pos (by omega), Int.toNat_natCast, hrr]
  exact if_neg (by show ¬ (l.length : Int) = 0; omega)
theorem DR.endOf_nil {d : Dq} {L : List (List Nat)} (h : DR d L) {r : Nat} (hl : L[r]? = some []) (b : Bool) : d.endOf r b = (0, false) := by
  have hrr := h.row r [] hl
  unfold Dq.endOf
  rw [if_pos (by omega), Int.toNat_natCast, hrr]
  exact if_pos rfl
theorem DR.lenOf {d : Dq} {L : List (List Nat)} (h : DR d L) {r : Nat} {l : List Nat} (hl : L[r]? = some l) : d.lenOf r = l.length := by
  have hrr := h.row r l hl
  unfold Dq.lenOf
  rw [if_pos (by omega), Int.toNat_natCast, hrr]
theorem DR.where_in {d : Dq} {L : List (List Nat)} (h : DR d L) {r i : Nat} {l : List Nat} (hl : L[r]? = some l) (hi : i ∈ l) : d.whereOf i = r := by
  obtain ⟨k, hk⟩ := List.mem_iff_getElem?.1 hi
  have := h.lk r l k i hl hk
  unfold Dq.whereOf
  rw [if_pos (by omega), Int.toNat_natCast, this]
theorem DR.where_out {d : Dq} {L : List (List Nat)} (h : DR d L) {i : Nat} (hn : ∀ (r : Nat) l, L[r]? = some l → i ∉ l) : d.whereOf i = -1 := by
  unfold Dq.whereOf
  rw [if_pos (by omega), Int.toNat_natCast]
  cases hc : d.links[i]? with
  | none => rfl
  | some c => exact h.free i c hc hn
theorem busy_dr (r r' i g br bl : Nat) (d : Dq) (L : List (List Nat)) (l : List Nat) (w : World) (hd : DqAt w g br bl d) (h : DR d L) (hr : r < L.length) (hl : L[r']? = some l) (hi : i ∈ l) :
  Calls Try.prog 33 #[.pointer (some ⟨g, 0, none⟩), .int .i64 r, .int .i64 i] w fun e w' => e = .returned (.int .i64 10) ∧ w = w' := by
  obtain ⟨k, hk⟩ := List.mem_iff_getElem?.1 hi
  exact push_busy r i g br bl d _ w hd (by rw [h.rl]; exact hr) (h.lk r' l k i hl hk) (by show (r' : Int) ≠ -1; omega)
end Go.Proofs.Ytifffmfbipjilaa.Z

/- The heap in memory: its entries; how two come. -/
import Derived.Test.YtifffmfbipjilaaHpp
import Derived.Test.YtifffmfbipjilaaWMore
import Derived.Test.YtifffmfbipjilaaWLast
import Derived.Test.YtifffmfbipjilaaWApart
import Derived.Deep.RegionLaw
import Derived.BigQuiet
import Derived.BigRegion
import Derived.StillTailTactics
import Derived.Deep.QuietTactic
import Derived.IntWalk
namespace Go.Proofs.Ytifffmfbipjilaa.Z.H
open Go.RowKit Go.Proofs.YtifffmfbipjilaaW.PrintWords Go.Proofs.YtifffmfbipjilaaW.PrintLast Go.Proofs.YtifffmfbipjilaaW.PrintMore
attribute [local go_sem] max2_int min2_int max_two min_two max_three min_three max_four min_four
set_option linter.unusedVariables false
set_option maxRecDepth 100000
set_option linter.unusedSimpArgs false
def En.enc (e : En) : List Value := [.int .i64 e.key, .int .u64 e.tie, .int .i64 e.i]
def En.val (e : En) : Value := .agg #[.int .i64 e.key, .int .u64 e.tie, .int .i64 e.i]
theorem En.enc_len (e : En) : e.enc.length = 3 := rfl
theorem En.enc_one (e : En) : ∀ u ∈ e.enc, u.oneCell' = true := fun u hu => by simp [En.enc] at hu; rcases hu with rfl | rfl | rfl <;> rfl
def En.kd : Kd En := fk En.enc 3 En.enc_len En.enc_one
abbrev En.ok (e : En) : Prop := (Lit.int .i64 e.key).wf = true ∧ (Lit.int .u64 e.tie).wf = true ∧ (Lit.int .i64 e.i).wf = true
theorem En.came {w : World} {ad : Addr} {n : Nat} {xs : List En} (h : En.kd.C w (some ad) n xs) {i : Nat} {x : En} (hx : xs[i]? = some x) :
    w.cell? (ad.add (i * 3)) = some (.int .i64 x.key) ∧ w.cell? ⟨(ad.add (i * 3)).block, (ad.add (i * 3)).off + 1, none⟩ = some (.int .u64 x.tie) ∧ w.cell? ⟨(ad.add (i * 3)).block, (ad.add (i * 3)).off + 2, none⟩ = some (.int .i64 x.i) :=
  have k := fk_came h hx
  ⟨k.1 _ rfl, k.2 0 _ rfl, k.2 1 _ rfl⟩
def encI (x : Int) : List Value := [.int .i64 x]
theorem C_of_blkI {w : World} {b : Nat} {l : List Int} (h : Blk w b 3 (flat encI l)) (hl : l.length ≤ maxLen) : (Kd.int .i64).C w (some ⟨b, 0, none⟩) l.length l := by
  have : maxLen = 9223372036854775807 := rfl
  refine ⟨rfl, by omega, fun _ => ⟨_, rfl, fun j p hj => ⟨[.int .i64 p], rfl, rfl, fun i u hu => ?_⟩⟩⟩
  cases i with
  | zero =>
    simp at hu
    subst hu
    have := h.cells_at (f := encI) (k := 1) (fun _ => rfl) j 0 hj (by omega) (v := .int .i64 p) rfl
    show w.cell? ((⟨b, 0, none⟩ : Addr).add (j * 1 + 0)) = _
    rw [add_plain]
    exact this
  | succ i => simp at hu
/-! How two come -/
def cmpI (x y : Int) : Int := if x < y then -1 else if y < x then 1 else 0
def ordF (a b : En) : Int := if cmpI a.key b.key ≠ 0 then cmpI a.key b.key else if cmpI a.tie b.tie ≠ 0 then cmpI a.tie b.tie else cmpI a.i b.i
theorem ordF_lt (a b : En) : ordF a b < 0 ↔ a.lt b := by
  unfold ordF cmpI En.lt
  split <;> rename_i h1 <;> (repeat' split at h1) <;> (repeat' split) <;> omega
theorem ordF_le (a b : En) : ordF a b ≤ 0 ↔ ¬ b.lt a := by
  unfold ordF cmpI En.lt
  split <;> rename_i h1 <;> (repeat' split at h1) <;> (repeat' split) <;> omega
theorem ordF_in (a b : En) : -1 ≤ ordF a b ∧ ordF a b ≤ 1 := by
  unfold ordF cmpI
  split <;> (repeat' split) <;> omega
theorem nan_i64 (x : Int) (w : World) : Calls Try.prog 84 #[.int .i64 x] w fun e w' => e = .returned (.bool false) ∧ w = w' := by
  have h : (x != x) = false := by simp
  go_enter Try.func84, Try.ntmps84
  go_wp2
  go_ret
  exact ⟨rfl, rfl⟩
theorem nan_u64 (x : Int) (w : World) : Calls Try.prog 85 #[.int .u64 x] w fun e w' => e = .returned (.bool false) ∧ w = w' := by
  have h : (x != x) = false := by simp
  go_enter Try.func85, Try.ntmps85
  go_wp2
  go_ret
  exact ⟨rfl, rfl⟩
theorem nan_int (x : Int) (w : World) : Calls Try.prog 86 #[.int .i64 x] w fun e w' => e = .returned (.bool false) ∧ w = w' := by
  have h : (x != x) = false := by simp
  go_enter Try.func86, Try.ntmps86
  go_wp2
  go_ret
  exact ⟨rfl, rfl⟩
theorem cmp_i64 (x y : Int) (w : World) : Calls Try.prog 71 #[.int .i64 x, .int .i64 y] w fun e w' => e = .returned (.int .i64 (cmpI x y)) ∧ w = w' := by
  unfold cmpI
  by_cases h1 : x < y
  · rw [if_pos h1]
    go_enter Try.func71, Try.ntmps71
    go_wp2_with (go_at_call 84; first | (refine (nan_i64 x _).mono ?_; rintro e w' ⟨rfl, rfl⟩) | (refine (nan_i64 y _).mono ?_; rintro e w' ⟨rfl, rfl⟩))
    go_ret
    exact ⟨rfl, rfl⟩
  · rw [if_neg h1]
    by_cases h2 : y < x
    · rw [if_pos h2]
      go_enter Try.func71, Try.ntmps71
      go_wp2_with (go_at_call 84; first | (refine (nan_i64 x _).mono ?_; rintro e w' ⟨rfl, rfl⟩) | (refine (nan_i64 y _).mono ?_; rintro e w' ⟨rfl, rfl⟩))
      go_ret
      exact ⟨rfl, rfl⟩
    · rw [if_neg h2]
      go_enter Try.func71, Try.ntmps71
      go_wp2_with (go_at_call 84; first | (refine (nan_i64 x _).mono ?_; rintro e w' ⟨rfl, rfl⟩) | (refine (nan_i64 y _).mono ?_; rintro e w' ⟨rfl, rfl⟩))
      go_ret
      exact ⟨rfl, rfl⟩
theorem cmp_u64 (x y : Int) (w : World) : Calls Try.prog 72 #[.int .u64 x, .int .u64 y] w fun e w' => e = .returned (.int .i64 (cmpI x y)) ∧ w = w' := by
  unfold cmpI
  by_cases h1 : x < y
  · rw [if_pos h1]
    go_enter Try.func72, Try.ntmps72
    go_wp2_with (go_at_call 85; first | (refine (nan_u64 x _).mono ?_; rintro e w' ⟨rfl, rfl⟩) | (refine (nan_u64 y _).mono ?_; rintro e w' ⟨rfl, rfl⟩))
    go_ret
    exact ⟨rfl, rfl⟩
  · rw [if_neg h1]
    by_cases h2 : y < x
    · rw [if_pos h2]
      go_enter Try.func72, Try.ntmps72
      go_wp2_with (go_at_call 85; first | (refine (nan_u64 x _).mono ?_; rintro e w' ⟨rfl, rfl⟩) | (refine (nan_u64 y _).mono ?_; rintro e w' ⟨rfl, rfl⟩))
      go_ret
      exact ⟨rfl, rfl⟩
    · rw [if_neg h2]
      go_enter Try.func72, Try.ntmps72
      go_wp2_with (go_at_call 85; first | (refine (nan_u64 x _).mono ?_; rintro e w' ⟨rfl, rfl⟩) | (refine (nan_u64 y _).mono ?_; rintro e w' ⟨rfl, rfl⟩))
      go_ret
      exact ⟨rfl, rfl⟩
theorem cmp_int (x y : Int) (w : World) : Calls Try.prog 73 #[.int .i64 x, .int .i64 y] w fun e w' => e = .returned (.int .i64 (cmpI x y)) ∧ w = w' := by
  unfold cmpI
  by_cases h1 : x < y
  · rw [if_pos h1]
    go_enter Try.func73, Try.ntmps73
    go_wp2_with (go_at_call 86; first | (refine (nan_int x _).mono ?_; rintro e w' ⟨rfl, rfl⟩) | (refine (nan_int y _).mono ?_; rintro e w' ⟨rfl, rfl⟩))
    go_ret
    exact ⟨rfl, rfl⟩
  · rw [if_neg h1]
    by_cases h2 : y < x
    · rw [if_pos h2]
      go_enter Try.func73, Try.ntmps73
      go_wp2_with (go_at_call 86; first | (refine (nan_int x _).mono ?_; rintro e w' ⟨rfl, rfl⟩) | (refine (nan_int y _).mono ?_; rintro e w' ⟨rfl, rfl⟩))
      go_ret
      exact ⟨rfl, rfl⟩
    · rw [if_neg h2]
      go_enter Try.func73, Try.ntmps73
      go_wp2_with (go_at_call 86; first | (refine (nan_int x _).mono ?_; rintro e w' ⟨rfl, rfl⟩) | (refine (nan_int y _).mono ?_; rintro e w' ⟨rfl, rfl⟩))
      go_ret
      exact ⟨rfl, rfl⟩
/-- The first that isn't 0. -/
def orF : List Int → Int
  | [] => 0
  | x :: l => if x ≠ 0 then x else orF l
theorem or_ok (A : Addr) (c : Nat) (l : List Int) (w : World) (hC : (Kd.int .i64).C w (some A) l.length l) (hl : l.length ≤ 1000) :
    Calls Try.prog 70 #[.slice (some A) l.length c] w fun e w' => e = .returned (.int .i64 (orF l)) ∧ w = w' := by
  have HC := Aside0.mk hC
  clear hC
  go_enter Try.func70, Try.ntmps70
  go_wp2_with (fail)
  go_loopw [8] (fun i wr => ∃ k : Nat, k ≤ l.length ∧ i = .int .i64 k ∧ orF l = orF (l.drop k) ∧ wr = w) (fun i _ => l.length - (intOf i).toNat)
  case atStart => exact ⟨0, Nat.zero_le _, rfl, rfl, rfl⟩
  case round =>
    obtain ⟨k, hk, rfl, ho, rfl⟩ := hrel
    by_cases hlt : k < l.length
    · have hlt' : (k : Int) < (l.length : Int) := by omega
      obtain ⟨x, hx⟩ : ∃ x, l[k]? = some x := ⟨_, List.getElem?_eq_getElem hlt⟩
      have c1 := int_came HC.out hx
      have hd : l.drop k = x :: l.drop (k + 1) := by
        rw [List.drop_eq_getElem_cons hlt]
        rw [List.getElem?_eq_getElem hlt] at hx
        injection hx with hx
        rw [hx]
      rw [hd] at ho
      by_cases h0 : x = 0
      · subst h0
        rw [orF, if_neg (by simp)] at ho
        have HO := Aside0.mk ho
        clear ho hd hx
        go_wp2_with (fail)
        exact ⟨⟨k + 1, by omega, by go_num, HO.out, by first | rfl | trivial⟩, by simp [intOf]; omega⟩
      · have h1 : (x != 0) = true := by simp [h0]
        rw [orF, if_pos h0] at ho
        have HO := Aside0.mk ho
        clear ho hd hx
        go_wp2_with (fail)
        go_ret
        exact ⟨by rw [HO.out]; rfl, rfl⟩
    · have hlt' : ¬ (k : Int) < (l.length : Int) := by omega
      rw [List.drop_eq_nil_of_le (by omega)] at ho
      have HO := Aside0.mk ho
      clear ho
      go_wp2_with (fail)
      go_ret
      exact ⟨by rw [HO.out]; rfl, rfl⟩
theorem orF_ord (a b : En) : orF [cmpI a.key b.key, cmpI a.tie b.tie, cmpI a.i b.i] = ordF a b := by
  unfold ordF
  simp only [orF]
  split
  · rfl
  · split
    · rfl
    · split
      · rfl
      · rename_i h; simp at h; exact h.symm
set_option maxHeartbeats 4000000 in
theorem order_ok (a b : En) (w : World) : Calls Try.prog 66 #[a.val, b.val] w fun e w' => e = .returned (.int .i64 (ordF a b)) ∧ Below w.heap.size w w' := by
  have e1 := Blk.new w 128 a.enc
  have e2 := Blk.new (w.alloc (.cells a.enc.toArray 128)) 128 b.enc
  have e1 := e1.alloc (.cells b.enc.toArray 128)
  have hb : Below w.heap.size w ((w.alloc (.cells a.enc.toArray 128)).alloc (.cells b.enc.toArray 128)) := ((Below.refl _ w).alloc (Nat.le_refl _) _).alloc (by simp) _
  simp only [World.size_alloc] at e2
  unfold En.val
  go_enter Try.func66, Try.ntmps66
  go_wp2_with (fail)
  have e1 : Blk ((w.alloc (.cells #[.int .i64 a.key, .int .u64 a.tie, .int .i64 a.i] 128)).alloc (.cells #[.int .i64 b.key, .int .u64 b.tie, .int .i64 b.i] 128)) w.heap.size 128 a.enc := e1
  have e2 : Blk ((w.alloc (.cells #[.int .i64 a.key, .int .u64 a.tie, .int .i64 a.i] 128)).alloc (.cells #[.int .i64 b.key, .int .u64 b.tie, .int .i64 b.i] 128)) (w.heap.size + 1) 128 b.enc := e2
  have hb : Below w.heap.size w ((w.alloc (.cells #[.int .i64 a.key, .int .u64 a.tie, .int .i64 a.i] 128)).alloc (.cells #[.int .i64 b.key, .int .u64 b.tie, .int .i64 b.i] 128)) := hb
  obtain ⟨q1, hq1⟩ : ∃ q, q = w.heap.size := ⟨_, rfl⟩
  obtain ⟨q2, hq2⟩ : ∃ q, q = w.heap.size + 1 := ⟨_, rfl⟩
  rw [← hq1] at e1
  rw [← hq2] at e2
  rw [← hq2, ← hq1]
  generalize ((w.alloc (.cells #[.int .i64 a.key, .int .u64 a.tie, .int .i64 a.i] 128)).alloc (.cells #[.int .i64 b.key, .int .u64 b.tie, .int .i64 b.i] 128)) = W at *
  have HB := Aside0.mk hb
  clear hq1 hq2 hb
  have x0 := e1.cell 0 rfl
  have x1 := e1.cell 1 rfl
  have x2 := e1.cell 2 rfl
  have y0 := e2.cell 0 rfl
  have y1 := e2.cell 1 rfl
  have y2 := e2.cell 2 rfl
  clear e1 e2
  refine wp_region_still_tail 15 (by kernel_rfl) (by kernel_rfl) ?_
  simp only [List.take_succ_cons, List.take_zero, List.drop_succ_cons, List.drop_zero]
  repeat still_step
  still_call ((cmp_i64 a.key b.key _).mono (fun e w' h => ⟨h.1, h.2.symm⟩))
  repeat still_step
  still_call ((cmp_u64 a.tie b.tie _).mono (fun e w' h => ⟨h.1, h.2.symm⟩))
  repeat still_step
  still_call ((cmp_int a.i b.i _).mono (fun e w' h => ⟨h.1, h.2.symm⟩))
  refine wpStill_nil ?_
  change wpList _ _ _ _ _ W.drew
  have hB2 := below_drew HB.out
  clear HB x0 x1 x2 y0 y1 y2
  generalize hW : W.drew = V at *
  have hN := C_of_blkI (l := [cmpI a.key b.key, cmpI a.tie b.tie, cmpI a.i b.i]) (Blk.new V 3 (flat encI [cmpI a.key b.key, cmpI a.tie b.tie, cmpI a.i b.i])) (show 3 ≤ maxLen by decide)
  have HN := Aside0.mk hN
  have HB3 := Aside0.mk (hB2.alloc hB2.size (.cells #[.int .i64 (cmpI a.key b.key), .int .i64 (cmpI a.tie b.tie), .int .i64 (cmpI a.i b.i)] 3))
  have HO := Aside0.mk (orF_ord a b)
  clear hN hB2 hW
  generalize cmpI a.key b.key = k1 at *
  generalize cmpI a.tie b.tie = k2 at *
  generalize cmpI a.i b.i = k3 at *
  go_wp2_with (fail)
  refine (or_ok _ _ [k1, k2, k3] _ HN.out (by simp)).mono ?_
  rintro e w' ⟨rfl, rfl⟩
  rw [HO.out]
  go_wp2_with (fail)
  go_ret
  exact ⟨rfl, HB3.out⟩
end Go.Proofs.Ytifffmfbipjilaa.Z.H

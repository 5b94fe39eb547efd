-- Laid by a program of this claim's session (wip/tools/myprint.py) over the kit's printer.
import Derived.Test.YtjpahepnihbogaaGx0
namespace Go.Proofs.Ytjpahepnihbogaa.G
open Go.RowKit Go.Proofs.YtjpahepnihbogaaW.PrintWords Go.Proofs.YtjpahepnihbogaaW.PrintLast Go.Proofs.YtjpahepnihbogaaW.PrintMore
attribute [local go_sem] max2_int min2_int max_two min_two max_three min_three max_four min_four   -- for this text's walks alone
set_option linter.unusedVariables false
set_option linter.unusedSimpArgs false

-- NOT PRINTED: function 8 (slab_New)

-- NOT PRINTED: function 9 (slab_Slab_Take)

/-! ### slab_Handle_Cell: function 13 -/
def slab_Handle_Cell.f (a0 : Int) : Option (Int) := some (wrap64 (Go.bits .and .u64 a0 4294967295))
set_option maxHeartbeats 8000000 in
set_option maxRecDepth 100000 in
theorem slab_Handle_Cell.calls (a0 : Int) (r : Int) (w : World) (h : slab_Handle_Cell.f a0 = some r) :
  Calls Try.prog 13 #[.int .u64 a0] w fun e w' => e = .returned (.int .i64 r) ∧ Drawn0 w w' := by
 have H : (some (wrap64 (Go.bits .and .u64 a0 4294967295))) = some r := h
 clear h
 obtain rfl := Option.some.inj H
 go_enter Try.func13, Try.ntmps13
 go_wp2
 go_ret
 exact ⟨by first | rfl | (simp; done) | (simp [*]; done), by repeat (first | exact Drawn0.refl _ | apply Drawn0.step)⟩

-- NOT PRINTED: function 21 (slab_Slab_at)

-- NOT PRINTED: function 11 (slab_Slab_Free)

-- NOT PRINTED: function 7 (overfalllaw05_awake)

-- NOT PRINTED: function 10 (slab_Slab_Len)

-- NOT PRINTED: function 12 (slab_Slab_Get)

-- NOT PRINTED: function 3 (overfalllaw05_SlabFresh)

-- NOT PRINTED: function 4 (overfalllaw05_SlabHolds)

-- NOT PRINTED: function 14 (overfallref05_New)

-- NOT PRINTED: function 15 (overfallref05_Take)

/-- A state of type 57 at block g of W; what its slices lead to came in by w0. -/
def IsS57 (w0 W : World) (g : Nat) (f0 : List (S52)) (f1 : List Bool) (f2 : List Int) (f3 : List Int) : Prop := ∃ A0 c0, ∃ A1 c1, ∃ A2 c2, ∃ A3 c3, W.heap[g]? = some (.cells #[.slice A0 f0.length c0, .slice A1 f1.length c1, .slice A2 f2.length c2, .slice A3 f3.length c3] 57 (0, 0)) ∧ w0.heap.size ≤ g ∧ Kd.C k52 w0 A0 f0.length f0 ∧ Kd.C Kd.bool w0 A1 f1.length f1 ∧ Kd.C (Kd.int .u64) w0 A2 f2.length f2 ∧ Kd.C (Kd.int .i64) w0 A3 f3.length f3
theorem IsS57.grown {w0 W : World} {g : Nat} {f0 : List (S52)} {f1 : List Bool} {f2 : List Int} {f3 : List Int} {W1 : World} {row : Option Nat} (h : IsS57 w0 W g f0 f1 f2 f3) (hw : W.grownBy W1 row) (hne : some g ≠ row) : IsS57 w0 W1 g f0 f1 f2 f3 := by
 obtain ⟨A0, c0, A1, c1, A2, c2, A3, c3, hb, hg, hr0, hr1, hr2, hr3⟩ := h
 exact ⟨A0, c0, A1, c1, A2, c2, A3, c3, blk_grown hb hw hne, hg, hr0, hr1, hr2, hr3⟩
theorem IsS57.own_neN {w0 W : World} {g : Nat} {f0 : List (S52)} {f1 : List Bool} {f2 : List Int} {f3 : List Int} {α : Type} {d : Kd α} {e : Nat} {base : Nat} {ok : Nat → Prop} {v : Value} {xs : List α} (h : IsS57 w0 W g f0 f1 f2 f3) (ho : Kd.N d e W base ok v xs) (ht : e ≠ 57) : some g ≠ v.ownBlock := by
 obtain ⟨A0, c0, A1, c1, A2, c2, A3, c3, hb, hg, hr0, hr1, hr2, hr3⟩ := h
 exact Kd.N_ne ho hb ht
theorem IsS57.fresh {w0 W : World} {g : Nat} {f0 : List (S52)} {f1 : List Bool} {f2 : List Int} {f3 : List Int} (h : IsS57 w0 W g f0 f1 f2 f3) : ∀ k, W.heap.size ≤ k → k ≠ g := by
 obtain ⟨A0, c0, A1, c1, A2, c2, A3, c3, hb, hg, hr0, hr1, hr2, hr3⟩ := h
 exact Kd.freshB hb
theorem IsS57.kept {w0 W : World} {g : Nat} {f0 : List (S52)} {f1 : List Bool} {f2 : List Int} {f3 : List Int} {W1 : World} {S : Nat → Prop} (h : IsS57 w0 W g f0 f1 f2 f3) (hk : Kept W W1 S) (hne : ¬ S g) : IsS57 w0 W1 g f0 f1 f2 f3 := by
 obtain ⟨A0, c0, A1, c1, A2, c2, A3, c3, hb, hg, hr0, hr1, hr2, hr3⟩ := h
 exact ⟨A0, c0, A1, c1, A2, c2, A3, c3, blk_kept hb hk hne, hg, hr0, hr1, hr2, hr3⟩
theorem IsS57.below {w0 W : World} {g : Nat} {f0 : List (S52)} {f1 : List Bool} {f2 : List Int} {f3 : List Int} {W1 : World} (h : IsS57 w0 W g f0 f1 f2 f3) (hw : Below W.heap.size W W1) : IsS57 w0 W1 g f0 f1 f2 f3 := h.grown (grown_of_below hw none) (by simp)
theorem IsS57.alloc {w0 W : World} {g : Nat} {f0 : List (S52)} {f1 : List Bool} {f2 : List Int} {f3 : List Int} (h : IsS57 w0 W g f0 f1 f2 f3) (o : Obj) : IsS57 w0 (W.alloc o) g f0 f1 f2 f3 := h.below (below_alloc (Below.refl _ _) o)
theorem IsS57.drewN {w0 W : World} {g : Nat} {f0 : List (S52)} {f1 : List Bool} {f2 : List Int} {f3 : List Int} (h : IsS57 w0 W g f0 f1 f2 f3) (m : Nat) : IsS57 w0 (W.drewN m) g f0 f1 f2 f3 := h
theorem IsS57.drew {w0 W : World} {g : Nat} {f0 : List (S52)} {f1 : List Bool} {f2 : List Int} {f3 : List Int} (h : IsS57 w0 W g f0 f1 f2 f3) : IsS57 w0 W.drew g f0 f1 f2 f3 := h
theorem IsS57.at_ {w0 W : World} {g : Nat} {f0 : List (S52)} {f1 : List Bool} {f2 : List Int} {f3 : List Int} {w' : World} {m : Nat} (hq : W.drewN m = w') (h : IsS57 w0 W g f0 f1 f2 f3) : IsS57 w0 w' g f0 f1 f2 f3 := by subst hq; exact IsS57.drewN h m
theorem IsS57.apart {w0 W : World} {g : Nat} {f0 : List (S52)} {f1 : List Bool} {f2 : List Int} {f3 : List Int} {α : Type} {d : Kd α} {e : Nat} {base : Nat} {ok : Nat → Prop} {v : Value} {xs : List α} (h : IsS57 w0 W g f0 f1 f2 f3) (ho : d.R e W base ok v xs) (ht : ∀ q, q ∈ e :: d.E → q ≠ 57) : d.R e W base (fun k => ok k ∧ k ≠ g) v xs := by
 obtain ⟨A0, c0, A1, c1, A2, c2, A3, c3, hb, hg, hr0, hr1, hr2, hr3⟩ := h
 exact Kd.R_types ho hb ht
theorem IsS57.own_ne {w0 W : World} {g : Nat} {f0 : List (S52)} {f1 : List Bool} {f2 : List Int} {f3 : List Int} {α : Type} {d : Kd α} {e : Nat} {base : Nat} {ok : Nat → Prop} {v : Value} {xs : List α} (h : IsS57 w0 W g f0 f1 f2 f3) (ho : d.R e W base ok v xs) (ht : e ≠ 57) : some g ≠ v.ownBlock := by
 obtain ⟨A0, c0, A1, c1, A2, c2, A3, c3, hb, hg, hr0, hr1, hr2, hr3⟩ := h
 exact Kd.R_ne ho hb ht
theorem IsS57.apartQ {w0 W : World} {g : Nat} {f0 : List (S52)} {f1 : List Bool} {f2 : List Int} {f3 : List Int} {α : Type} {d : Kd α} {e : Nat} {base : Nat} {ok : Nat → Prop} {v : Value} {xs : List α} (h : IsS57 w0 W g f0 f1 f2 f3) (ho : d.Q e W base ok v xs) (ht : ∀ q, q ∈ e :: d.E → q ≠ 57) : d.Q e W base (fun k => ok k ∧ k ≠ g) v xs := by
 obtain ⟨A0, c0, A1, c1, A2, c2, A3, c3, hb, hg, hr0, hr1, hr2, hr3⟩ := h
 exact Kd.Q_types ho hb ht
theorem IsS57.own_neQ {w0 W : World} {g : Nat} {f0 : List (S52)} {f1 : List Bool} {f2 : List Int} {f3 : List Int} {α : Type} {d : Kd α} {e : Nat} {base : Nat} {ok : Nat → Prop} {v : Value} {xs : List α} (h : IsS57 w0 W g f0 f1 f2 f3) (ho : d.Q e W base ok v xs) (ht : e ≠ 57) : some g ≠ v.ownBlock := by
 obtain ⟨A0, c0, A1, c1, A2, c2, A3, c3, hb, hg, hr0, hr1, hr2, hr3⟩ := h
 exact Kd.Q_ne ho hb ht
theorem IsS57.apartS {w0 W : World} {g : Nat} {f0 : List (S52)} {f1 : List Bool} {f2 : List Int} {f3 : List Int} {α : Type} {d : Kd α} {e : Nat} {base : Nat} {ok : Nat → Prop} {v : Value} {xs : List α} (h : IsS57 w0 W g f0 f1 f2 f3) (ho : d.S e W base ok v xs) (ht : ∀ q, q ∈ e :: d.E → q ≠ 57) : d.S e W base (fun k => ok k ∧ k ≠ g) v xs := by
 obtain ⟨A0, c0, A1, c1, A2, c2, A3, c3, hb, hg, hr0, hr1, hr2, hr3⟩ := h
 exact Kd.S_types ho hb ht
theorem IsS57.own_neS {w0 W : World} {g : Nat} {f0 : List (S52)} {f1 : List Bool} {f2 : List Int} {f3 : List Int} {α : Type} {d : Kd α} {e : Nat} {base : Nat} {ok : Nat → Prop} {v : Value} {xs : List α} (h : IsS57 w0 W g f0 f1 f2 f3) (ho : d.S e W base ok v xs) (ht : e ≠ 57) : some g ≠ v.ownBlock := by
 obtain ⟨A0, c0, A1, c1, A2, c2, A3, c3, hb, hg, hr0, hr1, hr2, hr3⟩ := h
 exact Kd.S_ne ho hb ht
theorem IsS57.lt {w0 W : World} {g : Nat} {f0 : List (S52)} {f1 : List Bool} {f2 : List Int} {f3 : List Int} (h : IsS57 w0 W g f0 f1 f2 f3) : g < W.heap.size := by
 obtain ⟨A0, c0, A1, c1, A2, c2, A3, c3, hb, hg, hr0, hr1, hr2, hr3⟩ := h
 exact blk_lt hb
theorem IsS57.ge {w0 W : World} {g : Nat} {f0 : List (S52)} {f1 : List Bool} {f2 : List Int} {f3 : List Int} (h : IsS57 w0 W g f0 f1 f2 f3) : w0.heap.size ≤ g := by
 obtain ⟨A0, c0, A1, c1, A2, c2, A3, c3, hb, hg, hr0, hr1, hr2, hr3⟩ := h
 exact hg
theorem IsS57.ne_blk {w0 W : World} {g : Nat} {f0 : List (S52)} {f1 : List Bool} {f2 : List Int} {f3 : List Int} {a : Nat} {cs : Array Value} {t : TypeId} {fr : Nat × Nat} (h : IsS57 w0 W g f0 f1 f2 f3) (hb2 : W.heap[a]? = some (.cells cs t fr)) (ht : t ≠ 57) : g ≠ a := by
 obtain ⟨A0, c0, A1, c1, A2, c2, A3, c3, hb, hg, hr0, hr1, hr2, hr3⟩ := h
 rintro rfl
 rw [hb] at hb2
 injection hb2 with hb2
 injection hb2 with _ ht2
 exact ht ht2.symm
theorem IsS57.far {w0 W : World} {g : Nat} {f0 : List (S52)} {f1 : List Bool} {f2 : List Int} {f3 : List Int} {p : Addr} (h : IsS57 w0 W g f0 f1 f2 f3) (hne : g ≠ p.block) (u : Value) : IsS57 w0 (W.setCell p u) g f0 f1 f2 f3 := by
 obtain ⟨A0, c0, A1, c1, A2, c2, A3, c3, hb, hg, hr0, hr1, hr2, hr3⟩ := h
 exact ⟨A0, c0, A1, c1, A2, c2, A3, c3, blk_far hb hne u, hg, hr0, hr1, hr2, hr3⟩
theorem cellS57_0 {W : World} {g : Nat} {A0 : Option Addr} {c0 : Nat} {A1 : Option Addr} {c1 : Nat} {A2 : Option Addr} {c2 : Nat} {A3 : Option Addr} {c3 : Nat} {f0 : List (S52)} {f1 : List Bool} {f2 : List Int} {f3 : List Int} (h : W.heap[g]? = some (.cells #[.slice A0 f0.length c0, .slice A1 f1.length c1, .slice A2 f2.length c2, .slice A3 f3.length c3] 57 (0, 0))) : W.cell? ⟨g, 0, none⟩ = some (.slice A0 f0.length c0) := (blk_cell h 0).trans rfl
theorem cellS57_1 {W : World} {g : Nat} {A0 : Option Addr} {c0 : Nat} {A1 : Option Addr} {c1 : Nat} {A2 : Option Addr} {c2 : Nat} {A3 : Option Addr} {c3 : Nat} {f0 : List (S52)} {f1 : List Bool} {f2 : List Int} {f3 : List Int} (h : W.heap[g]? = some (.cells #[.slice A0 f0.length c0, .slice A1 f1.length c1, .slice A2 f2.length c2, .slice A3 f3.length c3] 57 (0, 0))) : W.cell? ⟨g, 1, none⟩ = some (.slice A1 f1.length c1) := (blk_cell h 1).trans rfl
theorem cellS57_2 {W : World} {g : Nat} {A0 : Option Addr} {c0 : Nat} {A1 : Option Addr} {c1 : Nat} {A2 : Option Addr} {c2 : Nat} {A3 : Option Addr} {c3 : Nat} {f0 : List (S52)} {f1 : List Bool} {f2 : List Int} {f3 : List Int} (h : W.heap[g]? = some (.cells #[.slice A0 f0.length c0, .slice A1 f1.length c1, .slice A2 f2.length c2, .slice A3 f3.length c3] 57 (0, 0))) : W.cell? ⟨g, 2, none⟩ = some (.slice A2 f2.length c2) := (blk_cell h 2).trans rfl
theorem cellS57_3 {W : World} {g : Nat} {A0 : Option Addr} {c0 : Nat} {A1 : Option Addr} {c1 : Nat} {A2 : Option Addr} {c2 : Nat} {A3 : Option Addr} {c3 : Nat} {f0 : List (S52)} {f1 : List Bool} {f2 : List Int} {f3 : List Int} (h : W.heap[g]? = some (.cells #[.slice A0 f0.length c0, .slice A1 f1.length c1, .slice A2 f2.length c2, .slice A3 f3.length c3] 57 (0, 0))) : W.cell? ⟨g, 3, none⟩ = some (.slice A3 f3.length c3) := (blk_cell h 3).trans rfl
theorem IsS57.new (w0 W : World) (A0 : Option Addr) (c0 : Nat) (A1 : Option Addr) (c1 : Nat) (A2 : Option Addr) (c2 : Nat) (A3 : Option Addr) (c3 : Nat) (f0 : List (S52)) (f1 : List Bool) (f2 : List Int) (f3 : List Int) (hB : Below w0.heap.size w0 W) (hr0 : Kd.C k52 w0 A0 f0.length f0) (hr1 : Kd.C Kd.bool w0 A1 f1.length f1) (hr2 : Kd.C (Kd.int .u64) w0 A2 f2.length f2) (hr3 : Kd.C (Kd.int .i64) w0 A3 f3.length f3) : IsS57 w0 (W.alloc (.cells #[.slice A0 f0.length c0, .slice A1 f1.length c1, .slice A2 f2.length c2, .slice A3 f3.length c3] 57)) W.heap.size f0 f1 f2 f3 := ⟨A0, c0, A1, c1, A2, c2, A3, c3, by simpa using heap_alloc_new W _, hB.size, hr0, hr1, hr2, hr3⟩

/-! ### overfallref05_At: function 17 -/
def overfallref05_At.f (s0_0 : List (S52)) (s0_1 : List Bool) (s0_2 : List Int) (s0_3 : List Int) (a1 : Int) : Option (Int) := if (Int.tmod a1 4294967296) < (IntKind.u64.wrap ((s0_0.length : Int))) then (if 0 ≤ (Int.tmod a1 4294967296) then (if (Int.tmod a1 4294967296) < (s0_1.length : Int) then (if rdOf false s0_1 (Int.tmod a1 4294967296) = true then (if (Int.tmod a1 4294967296) < (s0_2.length : Int) then (if (rd s0_2 (Int.tmod a1 4294967296)) = (IntKind.u64.wrap (Int.tdiv a1 4294967296)) then (some (wrap64 (Int.tmod a1 4294967296))) else (some (-1))) else (none)) else (some (-1))) else (none)) else (none)) else (some (-1))
set_option maxHeartbeats 8000000 in
set_option maxRecDepth 100000 in
theorem overfallref05_At.calls (g : Nat) (s0_0 : List (S52)) (s0_1 : List Bool) (s0_2 : List Int) (s0_3 : List Int) (a1 : Int) (r : Int) (w0 w : World) (hI : IsS57 w0 w g s0_0 s0_1 s0_2 s0_3) (hB : Below w0.heap.size w0 w) (h : overfallref05_At.f s0_0 s0_1 s0_2 s0_3 a1 = some r) :
  Calls Try.prog 17 #[.pointer (some ⟨g, 0, none⟩), .int .u64 a1] w fun e w' => e = .returned (.int .i64 r) ∧ IsS57 w0 w' g s0_0 s0_1 s0_2 s0_3 ∧ Below w0.heap.size w0 w' ∧ KeepBut w w' g none := by
 have HI0 := Aside0.mk hI
 have HK := Aside0.mk (KeepBut.refl w g none)
 have HL := Aside0.mk hB.size
 clear hI
 have HW0 := Aside0.mk hB.size
 have HB := Aside0.mk hB
 clear hB
 have H : (if (Int.tmod a1 4294967296) < (IntKind.u64.wrap ((s0_0.length : Int))) then (if 0 ≤ (Int.tmod a1 4294967296) then (if (Int.tmod a1 4294967296) < (s0_1.length : Int) then (if rdOf false s0_1 (Int.tmod a1 4294967296) = true then (if (Int.tmod a1 4294967296) < (s0_2.length : Int) then (if (rd s0_2 (Int.tmod a1 4294967296)) = (IntKind.u64.wrap (Int.tdiv a1 4294967296)) then (some (wrap64 (Int.tmod a1 4294967296))) else (some (-1))) else (none)) else (some (-1))) else (none)) else (none)) else (some (-1))) = some r := h
 clear h
 by_cases c3 : (Int.tmod a1 4294967296) < (IntKind.u64.wrap ((s0_0.length : Int)))
 ·rw [if_pos c3] at H
  have c3b0 : decide ((Int.tmod a1 4294967296) < (IntKind.u64.wrap ((s0_0.length : Int)))) = true := decide_eq_true c3
  clear c3
  obtain ⟨ji4, hji4⟩ : ∃ j_ : Int, (Int.tmod a1 4294967296) = j_ := ⟨_, rfl⟩
  replace H : (if 0 ≤ (ji4) then (if (ji4) < (s0_1.length : Int) then (if rdOf false s0_1 (ji4) = true then (if (ji4) < (s0_2.length : Int) then (if (rd s0_2 (ji4)) = (IntKind.u64.wrap (Int.tdiv a1 4294967296)) then (some (wrap64 (ji4))) else (some (-1))) else (none)) else (some (-1))) else (none)) else (none)) = some r := by first | (rw [hji4] at H; exact H) | (simp only [hji4] at H ⊢; exact H)
  (try rw [hji4] at c3b0)
  by_cases c5 : 0 ≤ (ji4)
  ·rw [if_pos c5] at H
   have c5b0 : decide (0 ≤ (ji4)) = true := decide_eq_true c5
   clear c5
   by_cases c6 : (ji4) < (s0_1.length : Int)
   ·rw [if_pos c6] at H
    have c6b0 : decide ((ji4) < (s0_1.length : Int)) = true := decide_eq_true c6
    clear c6
    obtain ⟨bq7, hbq7⟩ : ∃ b_ : Bool, b_ = (rdOf false s0_1 (ji4)) := ⟨_, rfl⟩
    replace H : (if bq7 = true then (if (ji4) < (s0_2.length : Int) then (if (rd s0_2 (ji4)) = (IntKind.u64.wrap (Int.tdiv a1 4294967296)) then (some (wrap64 (ji4))) else (some (-1))) else (none)) else (some (-1))) = some r := by rw [← hbq7] at H; exact H
    have Nbq7 := Aside0.mk hbq7
    clear hbq7
    by_cases c8 : bq7 = true
    ·subst c8
     have H1 : (if (ji4) < (s0_2.length : Int) then (if (rd s0_2 (ji4)) = (IntKind.u64.wrap (Int.tdiv a1 4294967296)) then (some (wrap64 (ji4))) else (some (-1))) else (none)) = some r := by rw [if_pos rfl] at H; exact H
     clear H
     have H := H1
     clear H1
     by_cases c9 : (ji4) < (s0_2.length : Int)
     ·rw [if_pos c9] at H
      have c9b0 : decide ((ji4) < (s0_2.length : Int)) = true := decide_eq_true c9
      clear c9
      by_cases c10 : (rd s0_2 (ji4)) = (IntKind.u64.wrap (Int.tdiv a1 4294967296))
      ·rw [if_pos c10] at H
       have c10b0 : ((rd s0_2 (ji4)) == (IntKind.u64.wrap (Int.tdiv a1 4294967296))) = true := beq_iff_eq.mpr c10
       have c10b1 : ((rd s0_2 (ji4)) != (IntKind.u64.wrap (Int.tdiv a1 4294967296))) = false := bne_eq_false_iff_eq.mpr c10
       clear c10
       obtain rfl := Option.some.inj H
       obtain ⟨ASz11_0, cSz11_0, ASz11_1, cSz11_1, ASz11_2, cSz11_2, ASz11_3, cSz11_3, HGz11, hgz11, HSz11_0, HSz11_1, HSz11_2, HSz11_3⟩ := HI0.out
       have hcz11_0 := cellS57_0 HGz11
       have hcz11_1 := cellS57_1 HGz11
       have hcz11_2 := cellS57_2 HGz11
       have hcz11_3 := cellS57_3 HGz11
       clear HGz11 hgz11
       have p119 : 0 ≤ ((ji4) : Int) := of_decide_eq_true (by first | (with_reducible assumption) | assumption)
       have q119 : (ji4) < (s0_1.length : Int) := of_decide_eq_true (by first | (with_reducible assumption) | assumption)
       obtain ⟨ad119, e119, hx119_0⟩ := Kd.at_bool HSz11_1 (ji4) p119 q119
       (try rw [← Nbq7.out] at hx119_0)
       cases e119
       replace hx119_0 := pw_cell_below HB.out hx119_0
       replace p119 := eq_true p119
       replace q119 := eq_true q119
       have p120 : 0 ≤ ((ji4) : Int) := of_decide_eq_true (by first | (with_reducible assumption) | assumption)
       have q120 : (ji4) < (s0_2.length : Int) := of_decide_eq_true (by first | (with_reducible assumption) | assumption)
       obtain ⟨ad120, e120, hx120_0⟩ := Kd.at_int HSz11_2 (ji4) p120 q120
       cases e120
       replace hx120_0 := pw_cell_below HB.out hx120_0
       replace p120 := eq_true p120
       replace q120 := eq_true q120
       go_enter Try.func17, Try.ntmps17
       go_wp2
       go_ret
       exact ⟨by first | rfl | (simp [errW_none, errW_some] <;> rfl) | (simp only [← hji4]; first | rfl | (simp [errW_none, errW_some] <;> rfl)) | (simp [*, errW_none, errW_some] <;> rfl), by repeat (first | (with_reducible first | exact HI0.out | apply IsS57.alloc | apply IsS57.drewN | apply IsS57.drew) | exact HI0.out), by repeat (first | (with_reducible first | exact HB.out | apply below_alloc | apply pw_below_drewN | apply below_drew1 | refine below_set ?_ (IsS57.ge HI0.out)) | exact HB.out), by repeat (first | (with_reducible first | exact HK.out | apply KeepBut.set_ | apply keep_drewN | apply keep_drew | apply keep_alloc) | exact HK.out)⟩
      ·rw [if_neg c10] at H
       have c10b0 : ((rd s0_2 (ji4)) == (IntKind.u64.wrap (Int.tdiv a1 4294967296))) = false := beq_eq_false_iff_ne.mpr c10
       have c10b1 : ((rd s0_2 (ji4)) != (IntKind.u64.wrap (Int.tdiv a1 4294967296))) = true := bne_iff_ne.mpr c10
       obtain rfl := Option.some.inj H
       obtain ⟨ASz12_0, cSz12_0, ASz12_1, cSz12_1, ASz12_2, cSz12_2, ASz12_3, cSz12_3, HGz12, hgz12, HSz12_0, HSz12_1, HSz12_2, HSz12_3⟩ := HI0.out
       have hcz12_0 := cellS57_0 HGz12
       have hcz12_1 := cellS57_1 HGz12
       have hcz12_2 := cellS57_2 HGz12
       have hcz12_3 := cellS57_3 HGz12
       clear HGz12 hgz12
       have p119 : 0 ≤ ((ji4) : Int) := of_decide_eq_true (by first | (with_reducible assumption) | assumption)
       have q119 : (ji4) < (s0_1.length : Int) := of_decide_eq_true (by first | (with_reducible assumption) | assumption)
       obtain ⟨ad119, e119, hx119_0⟩ := Kd.at_bool HSz12_1 (ji4) p119 q119
       (try rw [← Nbq7.out] at hx119_0)
       cases e119
       replace hx119_0 := pw_cell_below HB.out hx119_0
       replace p119 := eq_true p119
       replace q119 := eq_true q119
       have p120 : 0 ≤ ((ji4) : Int) := of_decide_eq_true (by first | (with_reducible assumption) | assumption)
       have q120 : (ji4) < (s0_2.length : Int) := of_decide_eq_true (by first | (with_reducible assumption) | assumption)
       obtain ⟨ad120, e120, hx120_0⟩ := Kd.at_int HSz12_2 (ji4) p120 q120
       cases e120
       replace hx120_0 := pw_cell_below HB.out hx120_0
       replace p120 := eq_true p120
       replace q120 := eq_true q120
       go_enter Try.func17, Try.ntmps17
       go_wp2
       go_ret
       exact ⟨by first | rfl | (simp [errW_none, errW_some] <;> rfl) | (simp only [← hji4]; first | rfl | (simp [errW_none, errW_some] <;> rfl)) | (simp [*, errW_none, errW_some] <;> rfl), by repeat (first | (with_reducible first | exact HI0.out | apply IsS57.alloc | apply IsS57.drewN | apply IsS57.drew) | exact HI0.out), by repeat (first | (with_reducible first | exact HB.out | apply below_alloc | apply pw_below_drewN | apply below_drew1 | refine below_set ?_ (IsS57.ge HI0.out)) | exact HB.out), by repeat (first | (with_reducible first | exact HK.out | apply KeepBut.set_ | apply keep_drewN | apply keep_drew | apply keep_alloc) | exact HK.out)⟩
     ·rw [if_neg c9] at H
      exact absurd H (by simp)
    ·replace c8 := Bool.eq_false_iff.mpr c8
     subst c8
     have H1 : (some (-1)) = some r := by rw [if_neg (show ¬ (false = true) by decide)] at H; exact H
     clear H
     have H := H1
     clear H1
     obtain rfl := Option.some.inj H
     obtain ⟨ASz13_0, cSz13_0, ASz13_1, cSz13_1, ASz13_2, cSz13_2, ASz13_3, cSz13_3, HGz13, hgz13, HSz13_0, HSz13_1, HSz13_2, HSz13_3⟩ := HI0.out
     have hcz13_0 := cellS57_0 HGz13
     have hcz13_1 := cellS57_1 HGz13
     have hcz13_2 := cellS57_2 HGz13
     have hcz13_3 := cellS57_3 HGz13
     clear HGz13 hgz13
     have p119 : 0 ≤ ((ji4) : Int) := of_decide_eq_true (by first | (with_reducible assumption) | assumption)
     have q119 : (ji4) < (s0_1.length : Int) := of_decide_eq_true (by first | (with_reducible assumption) | assumption)
     obtain ⟨ad119, e119, hx119_0⟩ := Kd.at_bool HSz13_1 (ji4) p119 q119
     (try rw [← Nbq7.out] at hx119_0)
     cases e119
     replace hx119_0 := pw_cell_below HB.out hx119_0
     replace p119 := eq_true p119
     replace q119 := eq_true q119
     go_enter Try.func17, Try.ntmps17
     go_wp2
     go_ret
     exact ⟨by first | rfl | (simp [errW_none, errW_some] <;> rfl) | (simp only [← hji4]; first | rfl | (simp [errW_none, errW_some] <;> rfl)) | (simp [*, errW_none, errW_some] <;> rfl), by repeat (first | (with_reducible first | exact HI0.out | apply IsS57.alloc | apply IsS57.drewN | apply IsS57.drew) | exact HI0.out), by repeat (first | (with_reducible first | exact HB.out | apply below_alloc | apply pw_below_drewN | apply below_drew1 | refine below_set ?_ (IsS57.ge HI0.out)) | exact HB.out), by repeat (first | (with_reducible first | exact HK.out | apply KeepBut.set_ | apply keep_drewN | apply keep_drew | apply keep_alloc) | exact HK.out)⟩
   ·rw [if_neg c6] at H
    exact absurd H (by simp)
  ·rw [if_neg c5] at H
   exact absurd H (by simp)
 ·rw [if_neg c3] at H
  have c3b0 : decide ((Int.tmod a1 4294967296) < (IntKind.u64.wrap ((s0_0.length : Int)))) = false := decide_eq_false c3
  clear c3
  obtain rfl := Option.some.inj H
  obtain ⟨ASz14_0, cSz14_0, ASz14_1, cSz14_1, ASz14_2, cSz14_2, ASz14_3, cSz14_3, HGz14, hgz14, HSz14_0, HSz14_1, HSz14_2, HSz14_3⟩ := HI0.out
  have hcz14_0 := cellS57_0 HGz14
  have hcz14_1 := cellS57_1 HGz14
  have hcz14_2 := cellS57_2 HGz14
  have hcz14_3 := cellS57_3 HGz14
  clear HGz14 hgz14
  go_enter Try.func17, Try.ntmps17
  go_wp2
  go_ret
  exact ⟨by first | rfl | (simp [errW_none, errW_some] <;> rfl) | (simp [*, errW_none, errW_some] <;> rfl), by repeat (first | (with_reducible first | exact HI0.out | apply IsS57.alloc | apply IsS57.drewN | apply IsS57.drew) | exact HI0.out), by repeat (first | (with_reducible first | exact HB.out | apply below_alloc | apply pw_below_drewN | apply below_drew1 | refine below_set ?_ (IsS57.ge HI0.out)) | exact HB.out), by repeat (first | (with_reducible first | exact HK.out | apply KeepBut.set_ | apply keep_drewN | apply keep_drew | apply keep_alloc) | exact HK.out)⟩

-- NOT PRINTED: function 16 (overfallref05_Drop)

/-! ### overfallref05_Len: function 18 -/
def overfallref05_Len.f (s0_0 : List (S52)) (s0_1 : List Bool) (s0_2 : List Int) (s0_3 : List Int) : Option (Int) := some (wrap64 ((s0_0.length : Int) - (s0_3.length : Int)))
set_option maxHeartbeats 8000000 in
set_option maxRecDepth 100000 in
theorem overfallref05_Len.calls (g : Nat) (s0_0 : List (S52)) (s0_1 : List Bool) (s0_2 : List Int) (s0_3 : List Int) (r : Int) (w0 w : World) (hI : IsS57 w0 w g s0_0 s0_1 s0_2 s0_3) (hB : Below w0.heap.size w0 w) (h : overfallref05_Len.f s0_0 s0_1 s0_2 s0_3 = some r) :
  Calls Try.prog 18 #[.pointer (some ⟨g, 0, none⟩)] w fun e w' => e = .returned (.int .i64 r) ∧ IsS57 w0 w' g s0_0 s0_1 s0_2 s0_3 ∧ Below w0.heap.size w0 w' ∧ KeepBut w w' g none := by
 have HI0 := Aside0.mk hI
 have HK := Aside0.mk (KeepBut.refl w g none)
 have HL := Aside0.mk hB.size
 clear hI
 have HW0 := Aside0.mk hB.size
 have HB := Aside0.mk hB
 clear hB
 have H : (some (wrap64 ((s0_0.length : Int) - (s0_3.length : Int)))) = some r := h
 clear h
 obtain rfl := Option.some.inj H
 obtain ⟨ASz2_0, cSz2_0, ASz2_1, cSz2_1, ASz2_2, cSz2_2, ASz2_3, cSz2_3, HGz2, hgz2, HSz2_0, HSz2_1, HSz2_2, HSz2_3⟩ := HI0.out
 have hcz2_0 := cellS57_0 HGz2
 have hcz2_1 := cellS57_1 HGz2
 have hcz2_2 := cellS57_2 HGz2
 have hcz2_3 := cellS57_3 HGz2
 clear HGz2 hgz2
 go_enter Try.func18, Try.ntmps18
 go_wp2
 repeat (go_quiet (fail); try go_wp2)
 go_ret
 exact ⟨by first | rfl | (simp [errW_none, errW_some] <;> rfl) | (simp [*, errW_none, errW_some] <;> rfl), by repeat (first | (with_reducible first | exact HI0.out | apply IsS57.alloc | apply IsS57.drewN | apply IsS57.drew) | exact HI0.out), by repeat (first | (with_reducible first | exact HB.out | apply below_alloc | apply pw_below_drewN | apply below_drew1 | refine below_set ?_ (IsS57.ge HI0.out)) | exact HB.out), by repeat (first | (with_reducible first | exact HK.out | apply KeepBut.set_ | apply keep_drewN | apply keep_drew | apply keep_alloc) | exact HK.out)⟩

-- NOT PRINTED: function 19 (slab_Slab_Room)

-- NOT PRINTED: function 5 (overfalllaw05_SlabPlays)

/-! ### overfallref05_Right: function 20 -/
def overfallref05_Right.f (a0 : Int) : Option (Bool) := if a0 > 0 then (some (decide (a0 ≤ 1024))) else (some false)
set_option maxHeartbeats 8000000 in
set_option maxRecDepth 100000 in
theorem overfallref05_Right.calls (a0 : Int) (r : Bool) (w : World) (h : overfallref05_Right.f a0 = some r) :
  Calls Try.prog 20 #[.int .i64 a0] w fun e w' => e = .returned (.bool r) ∧ Drawn0 w w' := by
 have H : (if a0 > 0 then (some (decide (a0 ≤ 1024))) else (some false)) = some r := h
 clear h
 by_cases c2 : a0 > 0
 ·rw [if_pos c2] at H
  have c2b0 : decide (0 < a0) = true := decide_eq_true c2
  clear c2
  obtain rfl := Option.some.inj H
  go_enter Try.func20, Try.ntmps20
  go_wp2
  go_ret
  exact ⟨by first | rfl | (simp; done) | (simp [*]; done), by repeat (first | exact Drawn0.refl _ | apply Drawn0.step)⟩
 ·rw [if_neg c2] at H
  have c2b0 : decide (0 < a0) = false := decide_eq_false c2
  clear c2
  obtain rfl := Option.some.inj H
  go_enter Try.func20, Try.ntmps20
  go_wp2
  go_ret
  exact ⟨by first | rfl | (simp; done) | (simp [*]; done), by repeat (first | exact Drawn0.refl _ | apply Drawn0.step)⟩

-- NOT PRINTED: function 6 (overfalllaw05_SlabNil)

end Go.Proofs.Ytjpahepnihbogaa.G

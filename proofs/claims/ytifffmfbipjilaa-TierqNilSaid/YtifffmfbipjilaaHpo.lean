/- Who is due: below, the library's sort, Due. -/
import Derived.Test.YtifffmfbipjilaaHpk
import Derived.Test.YtifffmfbipjilaaHpsort
namespace Go.Proofs.Ytifffmfbipjilaa.Z.H
open Go.RowKit Go.Shelf Go.Sort Go.Proofs.YtifffmfbipjilaaW.PrintWords Go.Proofs.YtifffmfbipjilaaW.PrintLast Go.Proofs.YtifffmfbipjilaaW.PrintMore
attribute [local go_sem] max2_int min2_int max_two min_two max_three min_three max_four min_four
set_option linter.unusedVariables false
set_option maxRecDepth 100000
set_option linter.unusedSimpArgs false
theorem drew_grow (w : World) (os : Array Obj) : (grow w os).drew = grow w.drew os := rfl
set_option maxHeartbeats 4000000 in
theorem order_grow (a b : En) (w : World) : Calls Try.prog 66 #[a.val, b.val] w fun e w' => e = .returned (.int .i64 (ordF a b)) ∧ ∃ q os', w' = grow (w.drewN q) os' := by
  have e1 := Blk.new w 128 a.enc
  have e2 := Blk.new (w.alloc (.cells a.enc.toArray 128)) 128 b.enc
  have e1 := e1.alloc (.cells b.enc.toArray 128)
  have hb : (w.alloc (.cells a.enc.toArray 128)).alloc (.cells b.enc.toArray 128) = grow w #[.cells a.enc.toArray 128, .cells b.enc.toArray 128] := by
    rw [alloc_eq_grow, alloc_eq_grow, grow_grow]; rfl
  simp only [World.size_alloc] at e2
  unfold En.val
  go_enter Try.func66, Try.ntmps66
  go_wp2_with (fail)
  have e1 : Blk ((w.alloc (.cells #[.int .i64 a.key, .int .u64 a.tie, .int .i64 a.i] 128)).alloc (.cells #[.int .i64 b.key, .int .u64 b.tie, .int .i64 b.i] 128)) w.heap.size 128 a.enc := e1
  have e2 : Blk ((w.alloc (.cells #[.int .i64 a.key, .int .u64 a.tie, .int .i64 a.i] 128)).alloc (.cells #[.int .i64 b.key, .int .u64 b.tie, .int .i64 b.i] 128)) (w.heap.size + 1) 128 b.enc := e2
  have hb : ((w.alloc (.cells #[.int .i64 a.key, .int .u64 a.tie, .int .i64 a.i] 128)).alloc (.cells #[.int .i64 b.key, .int .u64 b.tie, .int .i64 b.i] 128)) = grow w _ := hb
  obtain ⟨q1, hq1⟩ : ∃ q, q = w.heap.size := ⟨_, rfl⟩
  obtain ⟨q2, hq2⟩ : ∃ q, q = w.heap.size + 1 := ⟨_, rfl⟩
  rw [← hq1] at e1
  rw [← hq2] at e2
  rw [← hq2, ← hq1]
  generalize hW : ((w.alloc (.cells #[.int .i64 a.key, .int .u64 a.tie, .int .i64 a.i] 128)).alloc (.cells #[.int .i64 b.key, .int .u64 b.tie, .int .i64 b.i] 128)) = W at *
  obtain ⟨os, hos⟩ : ∃ os, W = grow w os := ⟨_, hb⟩
  have HB := Aside0.mk hos
  clear hq1 hq2 hb hW hos
  have x0 := e1.cell 0 rfl
  have x1 := e1.cell 1 rfl
  have x2 := e1.cell 2 rfl
  have y0 := e2.cell 0 rfl
  have y1 := e2.cell 1 rfl
  have y2 := e2.cell 2 rfl
  clear e1 e2
  refine wp_region_still_tail 15 (by kernel_rfl) (by kernel_rfl) ?_
  simp only [List.take_succ_cons, List.take_zero, List.drop_succ_cons, List.drop_zero]
  repeat still_step
  still_call ((cmp_i64 a.key b.key _).mono (fun e w' h => ⟨h.1, h.2.symm⟩))
  repeat still_step
  still_call ((cmp_u64 a.tie b.tie _).mono (fun e w' h => ⟨h.1, h.2.symm⟩))
  repeat still_step
  still_call ((cmp_int a.i b.i _).mono (fun e w' h => ⟨h.1, h.2.symm⟩))
  refine wpStill_nil ?_
  change wpList _ _ _ _ _ W.drew
  have hB2 : W.drew = grow w.drew os := by rw [HB.out, drew_grow]
  clear HB x0 x1 x2 y0 y1 y2
  generalize W.drew = V at *
  have hN := C_of_blkI (l := [cmpI a.key b.key, cmpI a.tie b.tie, cmpI a.i b.i]) (Blk.new V 3 (flat encI [cmpI a.key b.key, cmpI a.tie b.tie, cmpI a.i b.i])) (show 3 ≤ maxLen by decide)
  have HN := Aside0.mk hN
  have hB3 : ∃ os', (V.alloc (.cells #[.int .i64 (cmpI a.key b.key), .int .i64 (cmpI a.tie b.tie), .int .i64 (cmpI a.i b.i)] 3)) = grow (w.drewN 1) os' := ⟨_, by rw [alloc_eq_grow, hB2, grow_grow]; rfl⟩
  have HB3 := Aside0.mk hB3
  clear hB3
  have HO := Aside0.mk (orF_ord a b)
  clear hN hB2
  generalize cmpI a.key b.key = k1 at *
  generalize cmpI a.tie b.tie = k2 at *
  generalize cmpI a.i b.i = k3 at *
  go_wp2_with (fail)
  refine (or_ok _ _ [k1, k2, k3] _ HN.out (by simp)).mono ?_
  rintro e w' ⟨rfl, rfl⟩
  rw [HO.out]
  go_wp2_with (fail)
  go_ret
  exact ⟨rfl, 1, HB3.out⟩
/-! The sort -/
theorem ltOf_ord (x y : En) : ltOf ordF x y = decide (x.lt y) := by
  unfold ltOf
  exact decide_eq_decide.2 (ordF_lt x y)
theorem swo_ord : SWO (ltOf ordF) where
  irrefl x := by rw [ltOf_ord]; simp
  trans x y z h1 h2 := by rw [ltOf_ord] at *; simp only [decide_eq_true_eq] at *; exact En.lt_trans h1 h2
  ntrans x y z h1 h2 := by rw [ltOf_ord] at *; simp only [decide_eq_false_iff_not] at *; exact En.le_trans h2 h1
theorem total_ord (x y : En) (h1 : ltOf ordF x y = false) (h2 : ltOf ordF y x = false) : x = y := by
  rw [ltOf_ord] at *
  simp only [decide_eq_false_iff_not] at *
  exact En.eq_of h1 h2
theorem cmpLays_ord (blk off size : Nat) (w : World) : CmpLays Try.prog 66 #[] En.enc 3 ordF blk off size w :=
  fun _ _ _ _ x y => order_grow x y _
theorem sorted_below {B b m : Nat} {w0 w : World} {d : Array En} {os : Array Obj} (hb : Below B w0 w) (hB : B ≤ b) (hBw : B ≤ w.heap.size) : Below B w0 (sortWorldK En.enc 3 w b 0 m d os) := by
  have hsz : (putRowK En.enc 3 (Sort.ahead w m) b 0 d).heap.size = w.heap.size := by
    show (w.heap.modify b _).size = _
    rw [Array.size_modify]
  refine ⟨hb.os, hb.tape, hb.output, ?_, fun k hk => ?_⟩
  · show w0.heap.size ≤ ((putRowK En.enc 3 (Sort.ahead w m) b 0 d).heap ++ os).size
    rw [Array.size_append, hsz]
    have := hb.size
    omega
  · refine Eq.trans ?_ (hb.block k hk)
    refine (heap_grow_old _ os (by rw [hsz]; omega)).trans ?_
    show (w.heap.modify b _)[k]? = w.heap[k]?
    rw [Array.getElem?_modify, if_neg (by omega)]
theorem holds_of_R {w : World} {base b n c : Nat} {L : List En} (h : En.kd.R 128 w base (fun _ => True) (.slice (some ⟨b, 0, none⟩) n c) L) : HoldsK En.enc 3 w b 0 L.toArray := by
  intro j hj
  rw [size_flatK] at hj
  have hj' : j < L.length * 3 := by simpa using hj
  obtain ⟨x, hx⟩ : ∃ x, L[j / 3]? = some x := ⟨_, List.getElem?_eq_getElem (by omega)⟩
  have hg : L.toArray[j / 3]! = x := by
    rw [getElem!_pos L.toArray _ (by simpa using (by omega : j / 3 < L.length))]
    simp only [List.getElem_toArray]
    rw [List.getElem?_eq_getElem (by omega)] at hx
    injection hx
  rw [get_flatK _ _ _ _ hj, hg]
  have hr : j % 3 < 3 := Nat.mod_lt _ (by omega)
  have hc := R_fk_cell h hx (j % 3) (x.enc[j % 3]!) (by
    have : j % 3 < x.enc.length := hr
    rw [getElem!_pos x.enc _ this, List.getElem?_eq_getElem this])
  have hz := R_fk_frozen h (0 + j)
  rw [show j / 3 * 3 + j % 3 = 0 + j by omega] at hc
  exact ⟨hc, hz⟩
theorem C_of_holds {w : World} {b : Nat} {L : List En} (h : HoldsK En.enc 3 w b 0 L.toArray) (hl : L.length ≤ 1024) : En.kd.C w (some ⟨b, 0, none⟩) L.length L := by
  have hmx : maxLen = 9223372036854775807 := rfl
  refine ⟨rfl, by omega, fun _ => ⟨_, rfl, fun j p hj => ⟨p.enc, rfl, rfl, fun i u hu => ?_⟩⟩⟩
  have hjl : j < L.length := (List.getElem?_eq_some_iff.1 hj).1
  have hil : i < 3 := (List.getElem?_eq_some_iff.1 hu).1
  have hc := (h.cell (i := j) (c := i) (by simpa using hjl) hil).1
  have hg : L.toArray[j]! = p := by
    rw [getElem!_pos L.toArray _ (by simpa using hjl)]
    simp only [List.getElem_toArray]
    rw [List.getElem?_eq_getElem hjl] at hj
    injection hj
  rw [hg, getElem!_pos p.enc i hil] at hc
  rw [List.getElem?_eq_getElem hil] at hu
  injection hu with hu
  rw [← hu]
  show w.cell? ((⟨b, 0, none⟩ : Addr).add (j * 3 + i)) = _
  rw [add_plain, ← hc.symm.trans hc]
  rw [Nat.zero_add] at hc
  exact hc
/-- In order. -/
def sortE (L : List En) : List En := L.mergeSort fun x y => !(ltOf ordF) y x
theorem sortE_perm (L : List En) : (sortE L).Perm L := List.mergeSort_perm _ _
theorem sortE_sorted (L : List En) (hn : L.Nodup) : Srt (sortE L) := by
  have h1 : (sortE L).Pairwise fun a b => (!(ltOf ordF) b a) = true := by
    refine List.pairwise_mergeSort ?_ ?_ L
    · intro a b c h1 h2
      simp only [ltOf_ord, Bool.not_eq_true', decide_eq_false_iff_not] at *
      exact En.le_trans h1 h2
    · intro a b
      simp only [ltOf_ord, Bool.or_eq_true, Bool.not_eq_true', decide_eq_false_iff_not]
      by_cases h : b.lt a
      · exact .inr (En.le_of_lt h)
      · exact .inl h
  have h2 : (sortE L).Nodup := (sortE_perm L).symm.nodup hn
  refine List.Pairwise.imp_of_mem ?_ (h1.and h2)
  intro a b _ _ h
  obtain ⟨h3, h4⟩ := h
  simp only [ltOf_ord, Bool.not_eq_true', decide_eq_false_iff_not] at h3
  by_cases h5 : a.lt b
  · exact h5
  · exact absurd (En.eq_of h5 h3) h4
theorem sort_ok (b n c B : Nat) (L : List En) (w0 w : World) (hR : En.kd.R 128 w B (fun _ => True) (.slice (some ⟨b, 0, none⟩) n c) L) (hl : L.length ≤ 1024) (hb : Below B w0 w) (hBw : B ≤ w.heap.size) :
    Calls Try.prog 65 #[.slice (some ⟨b, 0, none⟩) n c, .func (.func 66) #[] #[]] w fun e w' => e = .returned (.tuple #[]) ∧ En.kd.C w' (some ⟨b, 0, none⟩) n (sortE L) ∧ Below B w0 w' := by
  have hn : n = L.length := (Kd.R_reads' hR).1
  have hbl : b < w.heap.size := Kd.R_lt hR b rfl
  have hBb : B ≤ b := Kd.R_base hR b rfl
  subst hn
  have eg : ∀ args w, (callFunc 66 args).run Try.prog w = .ok (.enter 66 args) w := enters_of Try.func66 (by kernel_rfl) rfl
  have hH := holds_of_R hR
  have hcon := AnyQ.slices_SortFunc_total Try.sortEn 3 Try.isAgg128 Try.sizeOf128 En.enc En.enc_len En.enc_one ordF swo_ord 66 #[] b 0 c L.toArray w eg (cmpLays_ord b 0 _ w) hH hbl (by simp; omega) total_ord
  change Calls Try.prog 65 _ _ _ at hcon
  rw [show L.toArray.size = L.length by simp] at hcon
  refine hcon.mono ?_
  rintro e w' ⟨rfl, m, os, rfl⟩
  refine ⟨rfl, ?_, sorted_below hb hBb hBw⟩
  have hpl : (sortE L).length = L.length := (sortE_perm L).length_eq
  have hHo : HoldsK En.enc 3 (putRowK En.enc 3 (Sort.ahead w m) b 0 (sortE L).toArray) b 0 (sortE L).toArray := by
    refine holds_putRow id _ b 0 (flatK En.enc 3 L.toArray) _ (holds_ahead id w m b 0 _ hH) ?_
    rw [size_flatK, size_flatK]
    simp [hpl]
  have hHg : HoldsK En.enc 3 (sortWorldK En.enc 3 w b 0 m (sortE L).toArray os) b 0 (sortE L).toArray := fun j hj => by
    have hsz : b < (putRowK En.enc 3 (Sort.ahead w m) b 0 (sortE L).toArray).heap.size := by
      show b < (w.heap.modify b _).size
      rw [Array.size_modify]; exact hbl
    have := hHo j hj
    exact ⟨(cell?_grow _ os _ hsz).trans this.1, (frozen?_grow _ os _ hsz).trans this.2⟩
  have := C_of_holds hHg (by omega)
  rw [hpl] at this
  exact this
end Go.Proofs.Ytifffmfbipjilaa.Z.H

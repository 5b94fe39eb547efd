/- Who is due. -/
import Derived.Test.YtifffmfbipjilaaHpb
namespace Go.Proofs.Ytifffmfbipjilaa.Z.H
open Go.RowKit Go.Proofs.YtifffmfbipjilaaW.PrintWords Go.Proofs.YtifffmfbipjilaaW.PrintLast Go.Proofs.YtifffmfbipjilaaW.PrintMore
attribute [local go_sem] max2_int min2_int max_two min_two max_three min_three max_four min_four
set_option linter.unusedVariables false
set_option maxRecDepth 100000
set_option linter.unusedSimpArgs false
def dueL (S : List En) (key : Int) : List En := S.filter fun e => decide (e.key ≤ key)
theorem Srt.eq {S T : List En} (hS : Srt S) (hT : Srt T) (h : S.Perm T) : S = T :=
  List.Perm.eq_of_pairwise (fun a b _ _ h1 h2 => absurd h2 (En.le_of_lt h1)) hS hT h
theorem Srt.nodup {S : List En} (h : Srt S) : S.Nodup := List.Pairwise.imp (fun h e => by subst e; exact En.lt_irrefl _ h) h
theorem Srt.due {S : List En} (h : Srt S) (key : Int) : Srt (dueL S key) := List.Pairwise.filter _ h
theorem Kd.C_none (A : Option Addr) (w : World) : En.kd.C w A 0 [] := ⟨rfl, by omega, fun h => absurd h (Nat.lt_irrefl 0)⟩
set_option maxHeartbeats 4000000 in
set_option maxRecDepth 100000 in
theorem due_ok (g ba room : Nat) (v : Value) (S : List En) (key : Int) (w : World) (h : HS w g ba v S room) (hs : Srt S) : Calls Try.prog 41 #[.pointer (some ⟨g, 0, none⟩), .int .i64 key] w fun r w' => ∃ v', r = .returned v' ∧ (Kd.int .i64).R 3 w' w.heap.size (fun _ => True) v' ((dueL S key).map (·.i)) ∧ Below w.heap.size w w' := by
  have hSl := Aside0.mk (Nat.le_trans h.len.1 h.len.2)
  have hlen := h.len
  obtain ⟨l, a, h1, h2, h3, h4, h5⟩ := h.ex
  have hll : l.length ≤ 1024 := by have := h4.length_eq; omega
  obtain ⟨F, hF⟩ : ∃ F, F = (below (fn l) l.length key l.length 0).map (fn l) := ⟨_, rfl⟩
  have hFp : F.Perm (dueL S key) := by rw [hF]; exact (below_list h2).trans (h4.filter _)
  have hFl : F.length ≤ 1024 := by
    rw [hFp.length_eq]
    have := List.length_filter_le (fun e : En => decide (e.key ≤ key)) S
    show (S.filter _).length ≤ 1024
    omega
  have hsrt : sortE F = dueL S key := Srt.eq (sortE_sorted F (hFp.symm.nodup (hs.due key).nodup)) (hs.due key) ((sortE_perm F).trans hFp)
  have hbe := below_ok g ba v l a key w h1 hll l.length 0 [] (.slice none 0 0) w (Kd.R_nil _ _ _ _ _) (Below.refl _ _) (by omega) (by omega) (by have := hFl; rw [hF, List.length_map] at this; simpa using this)
  rw [← hF, List.nil_append] at hbe
  have HBE := Aside0.mk hbe
  have HSR := Aside0.mk (And.intro hsrt (And.intro hFp hFl))
  clear hlen h h1 h2 h3 h4 h5 hll hF hFp hFl hsrt hbe hs
  go_enter Try.func41, Try.ntmps41
  go_wp2_with (fail)
  refine HBE.out.mono ?_
  rintro r w1 ⟨v1, rfl, hR1, hB1⟩
  have hS0 : ∃ v2 N, v1 = v2 ∧ (∃ A c, v2 = .slice A N c) ∧ Calls Try.prog 65 #[v2, .func (.func 66) #[] #[]] w1 fun e w' => e = .returned (.tuple #[]) ∧ (∃ A c, v2 = .slice A N c ∧ En.kd.C w' A N (dueL S key)) ∧ Below w.heap.size w w' := by
    refine ⟨v1, F.length, rfl, Kd.R_slice hR1, ?_⟩
    by_cases hF0 : 0 < F.length
    · obtain ⟨b, c, hv, -⟩ := Kd.R_form hR1 hF0
      subst hv
      have := sort_ok b F.length c w.heap.size F w w1 hR1 HSR.out.2.2 hB1 hB1.size
      refine this.mono ?_
      rintro e w2 ⟨rfl, hC, hB⟩
      rw [HSR.out.1] at hC
      exact ⟨rfl, ⟨_, _, rfl, hC⟩, hB⟩
    · obtain ⟨A, c, hv⟩ := Kd.R_slice hR1
      subst hv
      have hz : F.length = 0 := by omega
      have hn : dueL S key = [] := by
        have h := HSR.out.2.1.length_eq
        rw [hz] at h
        exact List.eq_nil_of_length_eq_zero h.symm
      have hcon := AnyF.slices_SortFunc_none (P := Try.prog) (ρ := Try.sortEn_ren) { Try.sortEn with } A c (.func (.func 66) #[] #[]) w1
      change Calls Try.prog 65 _ _ _ at hcon
      rw [hz, hn]
      refine hcon.mono ?_
      rintro e w2 ⟨rfl, rfl⟩
      exact ⟨rfl, ⟨_, _, rfl, Kd.C_none A w2⟩, hB1⟩
  obtain ⟨v2, N, rfl, ⟨A, c, rfl⟩, hS1⟩ := hS0
  have HS1 := Aside0.mk hS1
  clear hS1 hR1 hB1 HBE HSR
  go_wp2_with (fail)
  refine HS1.out.mono ?_
  rintro r w2 ⟨rfl, ⟨A', c', hAc, hC⟩, hB2⟩
  injection hAc with e1 e2 e3
  subst e1 e3
  have HC := Aside0.mk (And.intro hC hB2)
  clear hC hB2 HS1
  go_wp2_with (fail)
  obtain rfl : N = (dueL S key).length := (Kd.C_len HC.out.1).symm
  have HDL : Aside0 ((dueL S key).length ≤ 1024) := by
    refine Aside0.mk ?_
    have := List.length_filter_le (fun e : En => decide (e.key ≤ key)) S
    show (S.filter _).length ≤ 1024
    have := hSl.out
    omega
  generalize hD : dueL S key = D at *
  have HDD := Aside0.mk hD
  clear hD
  obtain ⟨N, hN⟩ : ∃ N, N = D.length := ⟨_, rfl⟩
  rw [← hN]
  have HN := Aside0.mk hN
  clear hN
  have hbw := HC.out.2.size
  go_loopw [6, 18] (fun s i wr => ∃ k : Nat, k ≤ N ∧ i = .int .i64 k ∧ (Kd.int .i64).R 3 wr w2.heap.size (fun _ => True) s ((D.take k).map (·.i)) ∧ Below w2.heap.size w2 wr) (fun s i _ => N - (intOf i).toNat)
  case atStart => exact ⟨0, Nat.zero_le _, rfl, Kd.R_nil _ _ _ _ _, Below.refl _ _⟩
  case round =>
    obtain ⟨k, hk, rfl, hR, hB⟩ := hrel
    by_cases hlt : k < N
    · obtain ⟨x, hx⟩ : ∃ x, D[k]? = some x := ⟨_, List.getElem?_eq_getElem (by rw [← HN.out]; exact hlt)⟩
      have hC := Kd.C_below HC.out.1 hB
      obtain ⟨ad, hA, _⟩ := hC.2.2 (by rw [← HN.out]; omega)
      subst hA
      obtain ⟨y0, y1, y2⟩ := En.came hC hx
      have hlt' : (k : Int) < (N : Int) := by omega
      have hkb : (k : Int) + 1 ≤ 1024 := by have := HDL.out; have := HN.out; omega
      have HR := Aside0.mk (And.intro hR (And.intro hB hx))
      clear hR hB hC hx
      go_upto_region 9 with (fail)
      have hb0 := Blk.new wr 128 x.enc
      have hb : Blk (wr.alloc (.cells #[.int .i64 x.key, .int .u64 x.tie, .int .i64 x.i] 128)) wr.heap.size 128 x.enc := hb0
      have hR3 : (Kd.int .i64).R 3 (wr.alloc (.cells #[.int .i64 x.key, .int .u64 x.tie, .int .i64 x.i] 128)) w2.heap.size (fun _ => True) u6 ((D.take k).map (·.i)) := Kd.R_alloc HR.out.1 _
      have hB3 : Below w2.heap.size w2 (wr.alloc (.cells #[.int .i64 x.key, .int .u64 x.tie, .int .i64 x.i] 128)) := below_alloc HR.out.2.1 _
      have hx3 := HR.out.2.2
      have hbl : w2.heap.size ≤ (wr.alloc (.cells #[.int .i64 x.key, .int .u64 x.tie, .int .i64 x.i] 128)).heap.size := hB3.size
      generalize (wr.alloc (.cells #[.int .i64 x.key, .int .u64 x.tie, .int .i64 x.i] 128)) = W3 at *
      generalize wr.heap.size = q at *
      have z2 := hb.cell 2 rfl
      have HR3 := Aside0.mk (And.intro hR3 (And.intro hB3 hx3))
      clear hR3 hB3 hx3 hb hb0 HR y0 y1 y2
      have hlen : ((D.take k).map (·.i)).length = k := by rw [List.length_map, List.length_take, ← HN.out]; omega
      have h10 : (((D.take k).map (·.i)).length + 1) * 8 ≤ 140737488355328 := by rw [hlen]; have := HDL.out; have := HN.out; omega
      clear hlen
      have HLT := Aside0.mk hlt
      go_wp2_with (at_builtin; refine Kd.R_append (Kd.int .i64) (w0 := w2) w2.heap.size rfl (.tmp 22) (.tmp 25) 89 3 (.int .i64 0) 8 rfl Try.underlying89 (by kernel_rfl) rfl (by decide) (by omega) u6 ((D.take k).map (·.i)) x.i [.int .i64 x.i] (fun _ => True) (fun _ => False) rfl rfl rfl (fun _ hk => hk.elim) (fun _ _ => trivial) HR3.out.1 HR3.out.2.1 hbl h10 ?_; intro v1 w3 hR1 hB1 hg1 ho1; have HR1 := Aside0.mk (And.intro hR1 hB1); clear hR1 hB1 hg1 ho1)
      have hlt2 := HLT.out
      clear h10
      refine ⟨⟨k + 1, by omega, by go_num, ?_, HR1.out.2⟩, by simp [intOf]; omega⟩
      have := HR1.out.1
      rw [List.take_add_one, HR3.out.2.2, List.map_append]
      exact this
    · obtain rfl : k = N := by omega
      have HR := Aside0.mk (And.intro hR hB)
      clear hR hB
      go_wp2_with (fail)
      go_ret
      refine ⟨u6, rfl, ?_, HC.out.2.trans (HR.out.2.mono hbw)⟩
      have := Kd.R_lower HR.out.1 hbw
      rw [HN.out, List.take_length] at this
      rw [HDD.out]
      exact this
end Go.Proofs.Ytifffmfbipjilaa.Z.H

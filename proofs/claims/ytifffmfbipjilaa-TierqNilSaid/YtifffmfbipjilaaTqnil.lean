/- TierqNil. -/
import Derived.Test.YtifffmfbipjilaaTqal
import Derived.Test.YtifffmfbipjilaaTqnl
namespace Go.Proofs.Ytifffmfbipjilaa.Z
open Go.RowKit Go.Shelf Go.Proofs.YtifffmfbipjilaaW.PrintWords Go.Proofs.YtifffmfbipjilaaW.PrintLast Go.Proofs.YtifffmfbipjilaaW.PrintMore
attribute [local go_sem] Oper.semAt_some max2_int min2_int max_two min_two max_three min_three max_four min_four
set_option linter.unusedVariables false
set_option linter.unusedSimpArgs false
open H (En)
theorem new_bad_q (n m : Int) (h : ¬ (1 ≤ n ∧ n ≤ 8 ∧ 1 ≤ m ∧ m ≤ 1024)) (w : World) : Calls Try.prog 9 #[.int .i64 n, .int .i64 m] w fun e w' => e = .returned (.tuple #[.pointer none, .int .i64 1]) ∧ w = w' := by
  have HN := Aside0.mk (dnew_bad n m h w)
  clear h
  go_enter Try.func9, Try.ntmps9
  go_wp2_with (fail)
  refine HN.out.mono ?_
  rintro e w1 ⟨rfl, rfl⟩
  go_wp2_with (fail)
  go_ret2
  exact ⟨rfl, rfl⟩
/-- New, with whatever numbers. -/
theorem new_any_q (n m : Int) (w : World) : Calls Try.prog 9 #[.int .i64 n, .int .i64 m] w fun e w' => Below w.heap.size w w' ∧ ((decide (1 ≤ n ∧ n ≤ 8 ∧ 1 ≤ m ∧ m ≤ 1024) = true ∧ ∃ g, e = .returned (.tuple #[.pointer (some g), .int .i64 0])) ∨ (decide (1 ≤ n ∧ n ≤ 8 ∧ 1 ≤ m ∧ m ≤ 1024) = false ∧ e = .returned (.tuple #[.pointer none, .int .i64 1]))) := by
  by_cases h : 1 ≤ n ∧ n ≤ 8 ∧ 1 ≤ m ∧ m ≤ 1024
  · obtain ⟨N, rfl⟩ := Int.eq_ofNat_of_zero_le (show 0 ≤ n by omega)
    obtain ⟨M, rfl⟩ := Int.eq_ofNat_of_zero_le (show 0 ≤ m by omega)
    refine (a_new N M (by omega) (by omega) (by omega) (by omega) w).mono ?_
    rintro e w' ⟨a, rfl, hA⟩
    exact ⟨hA.bel, .inl ⟨decide_eq_true h, _, rfl⟩⟩
  · refine (new_bad_q n m h w).mono ?_
    rintro e w' ⟨rfl, rfl⟩
    exact ⟨Below.refl _ _, .inr ⟨decide_eq_false h, rfl⟩⟩
section
variable {w0 w W : World} {a : TA} {n m N nx : Nat} {s : Slb} {ch : List Nat} {d : Dq} {L : List (List Nat)} {S : List En} {hs : List Int}
theorem tv_len (w : World) (h : TV w a n m s d L hs) : Calls Try.prog 14 #[.pointer (some ⟨a.gq, 0, none⟩)] w fun e w' => e = .returned (.int .i64 s.len) ∧ w = w' := by
  have c0 := h.head.cell 0 rfl
  have HL := Aside0.mk (len_any a.g a.gc s w h.sl)
  clear h
  go_enter Try.func14, Try.ntmps14
  go_wp2_with (go_at_call 40; refine HL.out.mono ?_; rintro e w' ⟨rfl, rfl⟩)
  go_ret
  exact ⟨rfl, rfl⟩
end
set_option maxRecDepth 100000 in
/-- All of a nil queue: nothing comes. -/
theorem tall_nil (k : Nat) (hk : 1 ≤ k) (b1 : Nat) (w : World) (hb1 : Blk w b1 24 [.pointer none]) (Kp : World → World → Prop) :
    SeqStopsK Fence.wide k Try.prog 53 #[.pointer (some ⟨b1, 0, none⟩)] (fun x : It => #[.int .u64 x.1, x.2.val]) Kp (fun ys => ys = []) (fun _ => False) 0 w := by
  intro l J Jx W hW hJ hJx hY h0
  have c1 := (((hb1.below hW).alloc (.cells #[.func (.yield l) #[] #[]] 102))).cell 0 rfl
  have h02 : J [] (W.alloc (.cells #[.func (.yield l) #[] #[]] 102)) := hJ _ _ _ none h0 (World.grownBy_alloc W _ none) (fun r e => by cases e)
  have HJ := Aside0.mk h02
  clear hb1 hW hJ hJx hY h0 h02
  refine callsIn_of_wp Try.func53 rfl trivial ?_ rfl
  simp only [Try.ntmps53, List.size_toArray, List.length_cons, List.length_nil, Nat.reduceAdd, Nat.reduceSub, Array.replicate_succ, Array.replicate_zero, List.push_toArray, List.append_toArray, List.nil_append, List.cons_append]
  gi_wp2_with (fail)
  refine bodyPost_ret (results_none rfl _ _ _) rfl ?_
  exact ⟨⟨_, rfl⟩, .inl ⟨[], rfl, HJ.out⟩⟩
set_option maxHeartbeats 8000000 in
set_option maxRecDepth 100000 in
theorem nil_in (k : Nat) (hk : 10 ≤ k) (t rm h : Int) (r0 r1 r2 r3 r4 : Int) (stop : Int) (w : World) (h0 : 0 ≤ h) (h1 : h < 18446744073709551616) (hS : 0 ≤ stop ∧ stop < 256) :
    CallsIn Fence.wide k Try.prog 7 #[.int .i64 t, .int .i64 rm, .int .u64 h, .agg #[.int .u64 r0, .int .i64 r1, .int .i64 r2, .int .i64 r3, .int .i64 r4], .int .u8 stop] w fun e w' => e = .returned (.bool true) ∧ Below w.heap.size w w' := by
  have hk1 : 1 ≤ k := by omega
  refine callsIn_of_wp_marks Try.func7 rfl trivial ?_ rfl
  simp only [Try.ntmps7, List.size_toArray, List.length_cons, List.length_nil, Nat.reduceAdd, Nat.reduceSub, Array.replicate_succ, Array.replicate_zero, List.push_toArray, List.append_toArray, List.nil_append, List.cons_append]
  gi_wp2_with (fail)
  refine ⟨trivial, ?_⟩
  have e1 := Blk.new w 33 [.int .u64 r0, .int .i64 r1, .int .i64 r2, .int .i64 r3, .int .i64 r4]
  have e2 := Blk.new (w.alloc (.cells #[.int .u64 r0, .int .i64 r1, .int .i64 r2, .int .i64 r3, .int .i64 r4] 33)) 5 [.int .u8 stop]
  have e3 := Blk.new ((w.alloc (.cells #[.int .u64 r0, .int .i64 r1, .int .i64 r2, .int .i64 r3, .int .i64 r4] 33)).alloc (.cells #[.int .u8 stop] 5)) 4 [.bool false]
  simp only [World.size_alloc] at e2 e3
  have e1 : Blk (((w.alloc (.cells #[.int .u64 r0, .int .i64 r1, .int .i64 r2, .int .i64 r3, .int .i64 r4] 33)).alloc (.cells #[.int .u8 stop] 5)).alloc (.cells #[.bool false] 4)) _ _ _ := (e1.alloc _).alloc _
  have e2 : Blk (((w.alloc (.cells #[.int .u64 r0, .int .i64 r1, .int .i64 r2, .int .i64 r3, .int .i64 r4] 33)).alloc (.cells #[.int .u8 stop] 5)).alloc (.cells #[.bool false] 4)) _ _ _ := e2.alloc _
  have e3 : Blk (((w.alloc (.cells #[.int .u64 r0, .int .i64 r1, .int .i64 r2, .int .i64 r3, .int .i64 r4] 33)).alloc (.cells #[.int .u8 stop] 5)).alloc (.cells #[.bool false] 4)) _ _ _ := e3
  have hb0 : Below w.heap.size w (((w.alloc (.cells #[.int .u64 r0, .int .i64 r1, .int .i64 r2, .int .i64 r3, .int .i64 r4] 33)).alloc (.cells #[.int .u8 stop] 5)).alloc (.cells #[.bool false] 4)) := (((Below.refl _ w).alloc (Nat.le_refl _) _).alloc (by simp) _).alloc (by simp; omega) _
  generalize (((w.alloc (.cells #[.int .u64 r0, .int .i64 r1, .int .i64 r2, .int .i64 r3, .int .i64 r4] 33)).alloc (.cells #[.int .u8 stop] 5)).alloc (.cells #[.bool false] 4)) = w1 at *
  obtain ⟨q8, hq8⟩ : ∃ q, q = w.heap.size := ⟨_, rfl⟩
  obtain ⟨q9, hq9⟩ : ∃ q, q = w.heap.size + 1 := ⟨_, rfl⟩
  obtain ⟨q10, hq10⟩ : ∃ q, q = w.heap.size + 1 + 1 := ⟨_, rfl⟩
  rw [← hq8] at e1
  rw [← hq9] at e2
  rw [← hq10] at e3
  rw [← hq10, ← hq9, ← hq8]
  rw [← hq8] at hb0
  have y9 : q8 ≤ q9 := by omega
  have y10 : q8 ≤ q10 := by omega
  have n1 : q8 ≠ q9 := by omega
  have n2 : q8 ≠ q10 := by omega
  have n3 : q9 ≠ q10 := by omega
  have HQ := Aside0.mk hq8
  have y0 : q8 ≤ w.heap.size := by omega
  clear hq8 hq9 hq10
  refine (callsIn_wide.2 (awake_ok _)).mono ?_
  rintro e w2 ⟨rfl, hb⟩
  have hb2 := hb0.trans (hb.mono (Nat.le_trans y0 hb0.size))
  have e1 := e1.below hb
  have e2 := e2.below hb
  have e3 := e3.below hb
  clear hb hb0
  gi_wp2_with (fail)
  refine ⟨trivial, ?_⟩
  refine (callsIn_wide.2 (new_any_q t rm _)).mono ?_
  rintro e w3 ⟨hb, hnew⟩
  have hb3 := hb2.trans (hb.mono (Nat.le_trans y0 hb2.size))
  have e1 := e1.below hb
  have e2 := e2.below hb
  have e3 := e3.below hb
  clear hb hb2
  obtain ⟨pq, er, hre, hcase⟩ : ∃ (pq : Option Addr) (er : Int), e = .returned (.tuple #[.pointer pq, .int .i64 er]) ∧ ((decide (1 ≤ t ∧ t ≤ 8 ∧ 1 ≤ rm ∧ rm ≤ 1024) = true ∧ (∃ g, pq = some g) ∧ er = 0) ∨ (decide (1 ≤ t ∧ t ≤ 8 ∧ 1 ≤ rm ∧ rm ≤ 1024) = false ∧ pq = none ∧ er = 1)) := by
    rcases hnew with ⟨h1, g, rfl⟩ | ⟨h1, rfl⟩
    · exact ⟨_, _, rfl, .inl ⟨h1, ⟨g, rfl⟩, rfl⟩⟩
    · exact ⟨_, _, rfl, .inr ⟨h1, rfl, rfl⟩⟩
  subst hre
  have HCS := Aside0.mk hcase
  clear hcase hnew
  have c0 := e1.cell 0 rfl
  have c1 := e1.cell 1 rfl
  have c2 := e1.cell 2 rfl
  have c3 := e1.cell 3 rfl
  have c4 := e1.cell 4 rfl
  gi_wp2_with (fail)
  refine ⟨trivial, ?_⟩
  clear c0 c1 c2 c3 c4
  refine (callsIn_wide.2 (nil_put ⟨r0, r1, r2, r3, r4⟩ _)).mono ?_
  rintro e w4 ⟨rfl, hb⟩
  have hb4 := hb3.trans (hb.mono (Nat.le_trans y0 hb3.size))
  have e1 := e1.below hb
  have e2 := e2.below hb
  have e3 := e3.below hb
  clear hb hb3
  gi_wp2_with (fail)
  refine ⟨trivial, ?_⟩
  refine (callsIn_wide.2 (nil_get h _)).mono ?_
  rintro e w5 ⟨rfl, hb⟩
  have hb5 := (hb4.trans (hb.mono (Nat.le_trans y0 hb4.size))).alloc (Nat.le_trans y0 (hb4.trans (hb.mono (Nat.le_trans y0 hb4.size))).size) (.cells #[.int .u64 0, .int .i64 0, .int .i64 0, .int .i64 0, .int .i64 0] 33)
  have e1 := e1.below hb
  have e2 := e2.below hb
  have e3 := e3.below hb
  have e1 := e1.alloc (.cells #[.int .u64 0, .int .i64 0, .int .i64 0, .int .i64 0, .int .i64 0] 33)
  have e2 := e2.alloc (.cells #[.int .u64 0, .int .i64 0, .int .i64 0, .int .i64 0, .int .i64 0] 33)
  have e3 := e3.alloc (.cells #[.int .u64 0, .int .i64 0, .int .i64 0, .int .i64 0, .int .i64 0] 33)
  clear hb hb4
  unfold zq
  gi_wp2_with (fail)
  refine ⟨trivial, ?_⟩
  obtain ⟨g16, hg16⟩ : ∃ g, g = w5.heap.size := ⟨_, rfl⟩
  rw [← hg16]
  clear hg16
  generalize (w5.alloc (.cells #[.int .u64 0, .int .i64 0, .int .i64 0, .int .i64 0, .int .i64 0] 33)) = w5' at *
  refine (callsIn_wide.2 (nil_take h _)).mono ?_
  rintro e w6 ⟨rfl, hb⟩
  have hb6 := (hb5.trans (hb.mono (Nat.le_trans y0 hb5.size))).alloc (Nat.le_trans y0 (hb5.trans (hb.mono (Nat.le_trans y0 hb5.size))).size) (.cells #[.int .u64 0, .int .i64 0, .int .i64 0, .int .i64 0, .int .i64 0] 33)
  have e1 := e1.below hb
  have e2 := e2.below hb
  have e3 := e3.below hb
  have e1 := e1.alloc (.cells #[.int .u64 0, .int .i64 0, .int .i64 0, .int .i64 0, .int .i64 0] 33)
  have e2 := e2.alloc (.cells #[.int .u64 0, .int .i64 0, .int .i64 0, .int .i64 0, .int .i64 0] 33)
  have e3 := e3.alloc (.cells #[.int .u64 0, .int .i64 0, .int .i64 0, .int .i64 0, .int .i64 0] 33)
  clear hb hb5
  unfold zq
  have c1 := e1.cell 1 rfl
  gi_wp2_with (fail)
  refine ⟨trivial, ?_⟩
  obtain ⟨g18, hg18⟩ : ∃ g, g = w6.heap.size := ⟨_, rfl⟩
  rw [← hg18]
  clear hg18
  generalize (w6.alloc (.cells #[.int .u64 0, .int .i64 0, .int .i64 0, .int .i64 0, .int .i64 0] 33)) = w6' at *
  refine (callsIn_wide.2 (nil_head r1 _)).mono ?_
  rintro e w7 ⟨rfl, rfl⟩
  gi_wp2_with (fail)
  refine ⟨trivial, ?_⟩
  refine (callsIn_wide.2 (nil_tail r1 _)).mono ?_
  rintro e w7 ⟨rfl, rfl⟩
  gi_wp2_with (fail)
  refine ⟨trivial, ?_⟩
  refine (callsIn_wide.2 (nil_first _)).mono ?_
  rintro e w7 ⟨rfl, rfl⟩
  gi_wp2_with (fail)
  refine ⟨trivial, ?_⟩
  refine (callsIn_wide.2 (nil_last _)).mono ?_
  rintro e w7 ⟨rfl, rfl⟩
  gi_wp2_with (fail)
  refine ⟨trivial, ?_⟩
  refine (callsIn_wide.2 (tall_new none _)).mono ?_
  rintro e w7 ⟨b1, rfl, hb, hB1, m1⟩
  have hb7 := hb6.trans (hb.mono (Nat.le_trans y0 hb6.size))
  have e1 := e1.below hb
  have e2 := e2.below hb
  have e3 := e3.below hb
  clear hb hb6 c1
  gi_wp2_with (fail)
  apply wpIn_rangeFunc_ownG rfl hk1 (gf := 53) (lb := #[.pointer (some ⟨b1, 0, none⟩)]) rfl trivial (enters_of Try.func53 (by kernel_rfl) rfl)
    (tall_nil (k - 1) (by omega) b1 w7 hB1 (Below w7.heap.size)) belowK_t (belowK_b (Nat.le_refl _)) (Below.refl _ _) (fun _ => rfl) (fun pre W => Below w7.heap.size w7 W) (fun c pre W => False)
  case hI => exact ownFrom_below (Nat.le_refl _) (Nat.le_refl _)
  case hIx => exact fun c s X Y row h _ _ => h.elim
  case h0 => exact Below.refl _ _
  case hassign =>
    intro l x W K hK
    gi_wp2
    exact hK
  case hbody => exact fun l pre x W _ h => absurd h (Nat.not_lt_zero _)
  case hstop => exact fun D c pre W _ h => h.elim
  case hdone =>
    rintro D1 ys V hD rfl hV hK
    have e1 := e1.below hV
    have e2 := e2.below hV
    have e3 := e3.below hV
    have hb8 := hb7.trans (hV.mono (Nat.le_trans y0 hb7.size))
    have hD1 : q8 ≤ D1 := Nat.le_trans (Nat.le_trans y0 hb7.size) hD
    have HK := Aside0.mk hK
    have c1 := e1.cell 1 rfl
    have c3 := e1.cell 3 rfl
    clear hK hB1 hD hb7 hV
    gi_wp2_with (fail)
    refine wpIn_wide.2 ?_
    go_cut [146] from 86 (fun s146 wx => s146 = .bool false ∧ Below V.heap.size V wx)
    case first =>
      have HBV := Aside0.mk (below_drew (Below.refl V.heap.size V))
      rcases HCS.out with ⟨hB, ⟨g, rfl⟩, he1⟩ | ⟨hB, rfl, he1⟩
      · have HR := Aside0.mk hB
        have p1 : (er != 0) = false := by rw [he1]; decide
        have p2 : (er == 0) = true := by rw [he1]; decide
        have p3 : (er != 1) = true := by rw [he1]; decide
        clear hB he1 HCS
        refine wp_region_noPanic ?_
        refine wp_region_held_drew (S := (fun w' => w'.cell? ⟨q8, 1, none⟩ = some (.int .i64 r1) ∧ w'.cell? ⟨q8, 3, none⟩ = some (.int .i64 r3))) (by kernel_rfl) ?_ (fun hS0 => ?_)
        · exact ⟨c1, c3⟩
        refine wpAnyH_take (i := 0) (oi := ⟨some 86, _, _, _, _, _⟩) (v := ?_) rfl (by kernel_rfl) (by kernel_rfl) (by kernel_rfl) (fun _ _ _ h => h) (Or.inl ⟨by rfl, ?_⟩) hS0 ?_
        rotate_left
        · (intro W hSw; go_simp; (try with_reducible rfl))
        try simp only [Act.put, List.setIfInBounds_toArray, List.set_cons_zero, List.set_cons_succ]
        refine wpAnyH_take (i := 1) (oi := ⟨some 87, _, _, _, _, _⟩) (v := ?_) rfl (by kernel_rfl) (by kernel_rfl) (by kernel_rfl) (fun _ _ _ h => h) (Or.inl ⟨by rfl, ?_⟩) hS0 ?_
        rotate_left
        · (intro W hSw; go_simp; (try with_reducible rfl))
        try simp only [Act.put, List.setIfInBounds_toArray, List.set_cons_zero, List.set_cons_succ]
        refine wpAnyH_take (i := 2) (oi := ⟨some 88, _, _, _, _, _⟩) (v := ?_) rfl (by kernel_rfl) (by kernel_rfl) (by kernel_rfl) (fun _ _ _ h => h) (Or.inl ⟨by rfl, ?_⟩) hS0 ?_
        rotate_left
        · (intro W hSw; go_simp; (try with_reducible rfl))
        try simp only [Act.put, List.setIfInBounds_toArray, List.set_cons_zero, List.set_cons_succ]
        refine wpAnyH_take (i := 3) (oi := ⟨some 89, _, _, _, _, _⟩) (v := ?_) rfl (by kernel_rfl) (by kernel_rfl) (by kernel_rfl) (fun _ _ _ h => h) (Or.inl ⟨by rfl, ?_⟩) hS0 ?_
        rotate_left
        · (intro W hSw; go_simp; (try with_reducible rfl))
        try simp only [Act.put, List.setIfInBounds_toArray, List.set_cons_zero, List.set_cons_succ]
        refine wpAnyH_ready (rs := [4]) (by kernel_rfl) (by simp) ?_
        refine AllReadyH.cons (o := ⟨some 90, _, _, _, _, _⟩) rfl (fun K hK => ?_) AllReadyH.nil
        go_simp
        refine (right_f t rm true HR.out.symm _).mono ?_
        rintro e w' ⟨rfl, rfl⟩
        try dsimp only
        refine hK.out _ _ hS0 (fun _ => ?_)
        clear hK K
        try simp only [Act.put, List.setIfInBounds_toArray, List.set_cons_zero, List.set_cons_succ]
        refine wpAnyH_take (i := 5) (oi := ⟨some 91, _, _, _, _, _⟩) (v := ?_) rfl (by kernel_rfl) (by kernel_rfl) (by kernel_rfl) (fun _ _ _ h => h) (Or.inl ⟨by rfl, ?_⟩) hS0 ?_
        rotate_left
        · (intro W hSw; go_simp; (try with_reducible rfl))
        try simp only [Act.put, List.setIfInBounds_toArray, List.set_cons_zero, List.set_cons_succ]
        refine wpAnyH_take (i := 6) (oi := ⟨some 92, _, _, _, _, _⟩) (v := ?_) rfl (by kernel_rfl) (by kernel_rfl) (by kernel_rfl) (fun _ _ _ h => h) (Or.inl ⟨by rfl, ?_⟩) hS0 ?_
        rotate_left
        · (intro W hSw; go_simp; (try with_reducible rfl))
        try simp only [Act.put, List.setIfInBounds_toArray, List.set_cons_zero, List.set_cons_succ]
        refine wpAnyH_take (i := 7) (oi := ⟨some 93, _, _, _, _, _⟩) (v := ?_) rfl (by kernel_rfl) (by kernel_rfl) (by kernel_rfl) (fun _ _ _ h => h) (Or.inl ⟨by rfl, ?_⟩) hS0 ?_
        rotate_left
        · (intro W hSw; go_simp; (try with_reducible rfl))
        try simp only [Act.put, List.setIfInBounds_toArray, List.set_cons_zero, List.set_cons_succ]
        refine wpAnyH_take (i := 8) (oi := ⟨some 94, _, _, _, _, _⟩) (v := ?_) rfl (by kernel_rfl) (by kernel_rfl) (by kernel_rfl) (fun _ _ _ h => h) (Or.inl ⟨by rfl, ?_⟩) hS0 ?_
        rotate_left
        · (intro W hSw; go_simp; (try with_reducible rfl))
        try simp only [Act.put, List.setIfInBounds_toArray, List.set_cons_zero, List.set_cons_succ]
        refine wpAnyH_take (i := 9) (oi := ⟨some 95, _, _, _, _, _⟩) (v := ?_) rfl (by kernel_rfl) (by kernel_rfl) (by kernel_rfl) (fun _ _ _ h => h) (Or.inl ⟨by rfl, ?_⟩) hS0 ?_
        rotate_left
        · (intro W hSw; go_simp; (try with_reducible rfl))
        try simp only [Act.put, List.setIfInBounds_toArray, List.set_cons_zero, List.set_cons_succ]
        refine wpAnyH_take (i := 10) (oi := ⟨some 96, _, _, _, _, _⟩) (v := undef) rfl (by kernel_rfl) (by kernel_rfl) (by kernel_rfl) (fun _ _ _ h => h) (Or.inr ⟨by rfl, rfl⟩) hS0 ?_
        try simp only [Act.put, List.setIfInBounds_toArray, List.set_cons_zero, List.set_cons_succ]
        refine wpAnyH_take (i := 11) (oi := ⟨some 97, _, _, _, _, _⟩) (v := undef) rfl (by kernel_rfl) (by kernel_rfl) (by kernel_rfl) (fun _ _ _ h => h) (Or.inr ⟨by rfl, rfl⟩) hS0 ?_
        try simp only [Act.put, List.setIfInBounds_toArray, List.set_cons_zero, List.set_cons_succ]
        refine wpAnyH_take (i := 12) (oi := ⟨some 98, _, _, _, _, _⟩) (v := ?_) rfl (by kernel_rfl) (by kernel_rfl) (by kernel_rfl) (fun _ _ _ h => h) (Or.inl ⟨by rfl, ?_⟩) hS0 ?_
        rotate_left
        · (intro W hSw; go_simp; (try with_reducible rfl))
        try simp only [Act.put, List.setIfInBounds_toArray, List.set_cons_zero, List.set_cons_succ]
        refine wpAnyH_take (i := 13) (oi := ⟨some 99, _, _, _, _, _⟩) (v := ?_) rfl (by kernel_rfl) (by kernel_rfl) (by kernel_rfl) (fun _ _ _ h => h) (Or.inl ⟨by rfl, ?_⟩) hS0 ?_
        rotate_left
        · (intro W hSw; go_simp; (try with_reducible rfl))
        try simp only [Act.put, List.setIfInBounds_toArray, List.set_cons_zero, List.set_cons_succ]
        refine wpAnyH_take (i := 14) (oi := ⟨some 100, _, _, _, _, _⟩) (v := ?_) rfl (by kernel_rfl) (by kernel_rfl) (by kernel_rfl) (fun _ _ _ h => h) (Or.inl ⟨by rfl, ?_⟩) hS0 ?_
        rotate_left
        · (intro W hSw; go_simp; (try with_reducible rfl))
        try simp only [Act.put, List.setIfInBounds_toArray, List.set_cons_zero, List.set_cons_succ]
        refine wpAnyH_take (i := 15) (oi := ⟨some 101, _, _, _, _, _⟩) (v := ?_) rfl (by kernel_rfl) (by kernel_rfl) (by kernel_rfl) (fun _ _ _ h => h) (Or.inl ⟨by rfl, ?_⟩) hS0 ?_
        rotate_left
        · (intro W hSw; go_simp; (try with_reducible rfl))
        try simp only [Act.put, List.setIfInBounds_toArray, List.set_cons_zero, List.set_cons_succ]
        refine wpAnyH_take (i := 16) (oi := ⟨some 102, _, _, _, _, _⟩) (v := ?_) rfl (by kernel_rfl) (by kernel_rfl) (by kernel_rfl) (fun _ _ _ h => h) (Or.inl ⟨by rfl, ?_⟩) hS0 ?_
        rotate_left
        · (intro W hSw; go_simp; (try with_reducible rfl))
        try simp only [Act.put, List.setIfInBounds_toArray, List.set_cons_zero, List.set_cons_succ]
        refine wpAnyH_take (i := 17) (oi := ⟨some 103, _, _, _, _, _⟩) (v := ?_) rfl (by kernel_rfl) (by kernel_rfl) (by kernel_rfl) (fun _ _ _ h => h) (Or.inl ⟨by rfl, ?_⟩) hS0 ?_
        rotate_left
        · (intro W hSw; go_simp; (try with_reducible rfl))
        try simp only [Act.put, List.setIfInBounds_toArray, List.set_cons_zero, List.set_cons_succ]
        refine wpAnyH_take (i := 18) (oi := ⟨some 104, _, _, _, _, _⟩) (v := ?_) rfl (by kernel_rfl) (by kernel_rfl) (by kernel_rfl) (fun _ _ _ h => h) (Or.inl ⟨by rfl, ?_⟩) hS0 ?_
        rotate_left
        · (intro W hSw; go_simp; (try with_reducible rfl))
        try simp only [Act.put, List.setIfInBounds_toArray, List.set_cons_zero, List.set_cons_succ]
        refine wpAnyH_take (i := 19) (oi := ⟨some 105, _, _, _, _, _⟩) (v := ?_) rfl (by kernel_rfl) (by kernel_rfl) (by kernel_rfl) (fun _ _ _ h => h) (Or.inl ⟨by rfl, ?_⟩) hS0 ?_
        rotate_left
        · (intro W hSw; go_simp; (try with_reducible rfl))
        try simp only [Act.put, List.setIfInBounds_toArray, List.set_cons_zero, List.set_cons_succ]
        refine wpAnyH_take (i := 20) (oi := ⟨some 106, _, _, _, _, _⟩) (v := ?_) rfl (by kernel_rfl) (by kernel_rfl) (by kernel_rfl) (fun _ _ _ h => h) (Or.inl ⟨by rfl, ?_⟩) hS0 ?_
        rotate_left
        · (intro W hSw; go_simp; (try with_reducible rfl))
        try simp only [Act.put, List.setIfInBounds_toArray, List.set_cons_zero, List.set_cons_succ]
        refine wpAnyH_take (i := 21) (oi := ⟨some 107, _, _, _, _, _⟩) (v := ?_) rfl (by kernel_rfl) (by kernel_rfl) (by kernel_rfl) (fun _ _ _ h => h) (Or.inl ⟨by rfl, ?_⟩) hS0 ?_
        rotate_left
        · (intro W hSw; go_simp; (try with_reducible rfl))
        try simp only [Act.put, List.setIfInBounds_toArray, List.set_cons_zero, List.set_cons_succ]
        refine wpAnyH_take (i := 22) (oi := ⟨some 108, _, _, _, _, _⟩) (v := ?_) rfl (by kernel_rfl) (by kernel_rfl) (by kernel_rfl) (fun _ _ _ h => h) (Or.inl ⟨by rfl, ?_⟩) hS0 ?_
        rotate_left
        · (intro W hSw; go_simp; (try with_reducible rfl))
        try simp only [Act.put, List.setIfInBounds_toArray, List.set_cons_zero, List.set_cons_succ]
        refine wpAnyH_take (i := 23) (oi := ⟨some 109, _, _, _, _, _⟩) (v := ?_) rfl (by kernel_rfl) (by kernel_rfl) (by kernel_rfl) (fun _ _ _ h => h) (Or.inl ⟨by rfl, ?_⟩) hS0 ?_
        rotate_left
        · (intro W hSw; go_simp; (try with_reducible rfl))
        try simp only [Act.put, List.setIfInBounds_toArray, List.set_cons_zero, List.set_cons_succ]
        refine wpAnyH_take (i := 24) (oi := ⟨some 110, _, _, _, _, _⟩) (v := ?_) rfl (by kernel_rfl) (by kernel_rfl) (by kernel_rfl) (fun _ _ _ h => h) (Or.inl ⟨by rfl, ?_⟩) hS0 ?_
        rotate_left
        · (intro W hSw; go_simp; (try with_reducible rfl))
        try simp only [Act.put, List.setIfInBounds_toArray, List.set_cons_zero, List.set_cons_succ]
        refine wpAnyH_take (i := 25) (oi := ⟨some 111, _, _, _, _, _⟩) (v := ?_) rfl (by kernel_rfl) (by kernel_rfl) (by kernel_rfl) (fun _ _ _ h => h) (Or.inl ⟨by rfl, ?_⟩) hS0 ?_
        rotate_left
        · (intro W hSw; go_simp; (try with_reducible rfl))
        try simp only [Act.put, List.setIfInBounds_toArray, List.set_cons_zero, List.set_cons_succ]
        refine wpAnyH_take (i := 26) (oi := ⟨some 112, _, _, _, _, _⟩) (v := ?_) rfl (by kernel_rfl) (by kernel_rfl) (by kernel_rfl) (fun _ _ _ h => h) (Or.inl ⟨by rfl, ?_⟩) hS0 ?_
        rotate_left
        · (intro W hSw; go_simp; (try with_reducible rfl))
        try simp only [Act.put, List.setIfInBounds_toArray, List.set_cons_zero, List.set_cons_succ]
        refine wpAnyH_take (i := 27) (oi := ⟨some 113, _, _, _, _, _⟩) (v := ?_) rfl (by kernel_rfl) (by kernel_rfl) (by kernel_rfl) (fun _ _ _ h => h) (Or.inl ⟨by rfl, ?_⟩) hS0 ?_
        rotate_left
        · (intro W hSw; go_simp; (try with_reducible rfl))
        try simp only [Act.put, List.setIfInBounds_toArray, List.set_cons_zero, List.set_cons_succ]
        refine wpAnyH_take (i := 28) (oi := ⟨some 114, _, _, _, _, _⟩) (v := ?_) rfl (by kernel_rfl) (by kernel_rfl) (by kernel_rfl) (fun _ _ _ h => h) (Or.inl ⟨by rfl, ?_⟩) hS0 ?_
        rotate_left
        · (intro W hSw; go_simp; (try with_reducible rfl))
        try simp only [Act.put, List.setIfInBounds_toArray, List.set_cons_zero, List.set_cons_succ]
        refine wpAnyH_take (i := 29) (oi := ⟨some 115, _, _, _, _, _⟩) (v := ?_) rfl (by kernel_rfl) (by kernel_rfl) (by kernel_rfl) (fun _ _ _ h => h) (Or.inl ⟨by rfl, ?_⟩) hS0 ?_
        rotate_left
        · (intro W hSw; go_simp; (try with_reducible rfl))
        try simp only [Act.put, List.setIfInBounds_toArray, List.set_cons_zero, List.set_cons_succ]
        refine wpAnyH_take (i := 30) (oi := ⟨some 116, _, _, _, _, _⟩) (v := ?_) rfl (by kernel_rfl) (by kernel_rfl) (by kernel_rfl) (fun _ _ _ h => h) (Or.inl ⟨by rfl, ?_⟩) hS0 ?_
        rotate_left
        · (intro W hSw; go_simp; (try with_reducible rfl))
        try simp only [Act.put, List.setIfInBounds_toArray, List.set_cons_zero, List.set_cons_succ]
        refine wpAnyH_take (i := 31) (oi := ⟨some 117, _, _, _, _, _⟩) (v := ?_) rfl (by kernel_rfl) (by kernel_rfl) (by kernel_rfl) (fun _ _ _ h => h) (Or.inl ⟨by rfl, ?_⟩) hS0 ?_
        rotate_left
        · (intro W hSw; go_simp; (try with_reducible rfl))
        try simp only [Act.put, List.setIfInBounds_toArray, List.set_cons_zero, List.set_cons_succ]
        refine wpAnyH_take (i := 32) (oi := ⟨some 118, _, _, _, _, _⟩) (v := ?_) rfl (by kernel_rfl) (by kernel_rfl) (by kernel_rfl) (fun _ _ _ h => h) (Or.inl ⟨by rfl, ?_⟩) hS0 ?_
        rotate_left
        · (intro W hSw; go_simp; (try with_reducible rfl))
        try simp only [Act.put, List.setIfInBounds_toArray, List.set_cons_zero, List.set_cons_succ]
        refine wpAnyH_take (i := 33) (oi := ⟨some 119, _, _, _, _, _⟩) (v := ?_) rfl (by kernel_rfl) (by kernel_rfl) (by kernel_rfl) (fun _ _ _ h => h) (Or.inl ⟨by rfl, ?_⟩) hS0 ?_
        rotate_left
        · (intro W hSw; go_simp; (try with_reducible rfl))
        try simp only [Act.put, List.setIfInBounds_toArray, List.set_cons_zero, List.set_cons_succ]
        refine wpAnyH_take (i := 34) (oi := ⟨some 120, _, _, _, _, _⟩) (v := ?_) rfl (by kernel_rfl) (by kernel_rfl) (by kernel_rfl) (fun _ _ _ h => h) (Or.inl ⟨by rfl, ?_⟩) hS0 ?_
        rotate_left
        · (intro W hSw; go_simp; (try with_reducible rfl))
        try simp only [Act.put, List.setIfInBounds_toArray, List.set_cons_zero, List.set_cons_succ]
        refine wpAnyH_take (i := 35) (oi := ⟨some 121, _, _, _, _, _⟩) (v := ?_) rfl (by kernel_rfl) (by kernel_rfl) (by kernel_rfl) (fun _ _ _ h => h) (Or.inl ⟨by rfl, ?_⟩) hS0 ?_
        rotate_left
        · (intro W hSw; go_simp; (try with_reducible rfl))
        try simp only [Act.put, List.setIfInBounds_toArray, List.set_cons_zero, List.set_cons_succ]
        refine wpAnyH_take (i := 36) (oi := ⟨some 122, _, _, _, _, _⟩) (v := ?_) rfl (by kernel_rfl) (by kernel_rfl) (by kernel_rfl) (fun _ _ _ h => h) (Or.inl ⟨by rfl, ?_⟩) hS0 ?_
        rotate_left
        · (intro W hSw; go_simp; (try with_reducible rfl))
        try simp only [Act.put, List.setIfInBounds_toArray, List.set_cons_zero, List.set_cons_succ]
        refine wpAnyH_take (i := 37) (oi := ⟨some 123, _, _, _, _, _⟩) (v := ?_) rfl (by kernel_rfl) (by kernel_rfl) (by kernel_rfl) (fun _ _ _ h => h) (Or.inl ⟨by rfl, ?_⟩) hS0 ?_
        rotate_left
        · (intro W hSw; go_simp; (try with_reducible rfl))
        try simp only [Act.put, List.setIfInBounds_toArray, List.set_cons_zero, List.set_cons_succ]
        refine wpAnyH_take (i := 38) (oi := ⟨some 124, _, _, _, _, _⟩) (v := ?_) rfl (by kernel_rfl) (by kernel_rfl) (by kernel_rfl) (fun _ _ _ h => h) (Or.inl ⟨by rfl, ?_⟩) hS0 ?_
        rotate_left
        · (intro W hSw; go_simp; (try with_reducible rfl))
        try simp only [Act.put, List.setIfInBounds_toArray, List.set_cons_zero, List.set_cons_succ]
        refine wpAnyH_take (i := 39) (oi := ⟨some 125, _, _, _, _, _⟩) (v := ?_) rfl (by kernel_rfl) (by kernel_rfl) (by kernel_rfl) (fun _ _ _ h => h) (Or.inl ⟨by rfl, ?_⟩) hS0 ?_
        rotate_left
        · (intro W hSw; go_simp; (try with_reducible rfl))
        try simp only [Act.put, List.setIfInBounds_toArray, List.set_cons_zero, List.set_cons_succ]
        refine wpAnyH_take (i := 40) (oi := ⟨some 126, _, _, _, _, _⟩) (v := ?_) rfl (by kernel_rfl) (by kernel_rfl) (by kernel_rfl) (fun _ _ _ h => h) (Or.inl ⟨by rfl, ?_⟩) hS0 ?_
        rotate_left
        · (intro W hSw; go_simp; (try with_reducible rfl))
        try simp only [Act.put, List.setIfInBounds_toArray, List.set_cons_zero, List.set_cons_succ]
        refine wpAnyH_take (i := 41) (oi := ⟨some 127, _, _, _, _, _⟩) (v := ?_) rfl (by kernel_rfl) (by kernel_rfl) (by kernel_rfl) (fun _ _ _ h => h) (Or.inl ⟨by rfl, ?_⟩) hS0 ?_
        rotate_left
        · (intro W hSw; go_simp; (try with_reducible rfl))
        try simp only [Act.put, List.setIfInBounds_toArray, List.set_cons_zero, List.set_cons_succ]
        refine wpAnyH_take (i := 42) (oi := ⟨some 128, _, _, _, _, _⟩) (v := ?_) rfl (by kernel_rfl) (by kernel_rfl) (by kernel_rfl) (fun _ _ _ h => h) (Or.inl ⟨by rfl, ?_⟩) hS0 ?_
        rotate_left
        · (intro W hSw; go_simp; (try with_reducible rfl))
        try simp only [Act.put, List.setIfInBounds_toArray, List.set_cons_zero, List.set_cons_succ]
        refine wpAnyH_take (i := 43) (oi := ⟨some 129, _, _, _, _, _⟩) (v := ?_) rfl (by kernel_rfl) (by kernel_rfl) (by kernel_rfl) (fun _ _ _ h => h) (Or.inl ⟨by rfl, ?_⟩) hS0 ?_
        rotate_left
        · (intro W hSw; go_simp; (try with_reducible rfl))
        try simp only [Act.put, List.setIfInBounds_toArray, List.set_cons_zero, List.set_cons_succ]
        refine wpAnyH_take (i := 44) (oi := ⟨some 130, _, _, _, _, _⟩) (v := ?_) rfl (by kernel_rfl) (by kernel_rfl) (by kernel_rfl) (fun _ _ _ h => h) (Or.inl ⟨by rfl, ?_⟩) hS0 ?_
        rotate_left
        · (intro W hSw; go_simp; (try with_reducible rfl))
        try simp only [Act.put, List.setIfInBounds_toArray, List.set_cons_zero, List.set_cons_succ]
        refine wpAnyH_take (i := 45) (oi := ⟨some 131, _, _, _, _, _⟩) (v := ?_) rfl (by kernel_rfl) (by kernel_rfl) (by kernel_rfl) (fun _ _ _ h => h) (Or.inl ⟨by rfl, ?_⟩) hS0 ?_
        rotate_left
        · (intro W hSw; go_simp; (try with_reducible rfl))
        try simp only [Act.put, List.setIfInBounds_toArray, List.set_cons_zero, List.set_cons_succ]
        refine wpAnyH_take (i := 46) (oi := ⟨some 132, _, _, _, _, _⟩) (v := ?_) rfl (by kernel_rfl) (by kernel_rfl) (by kernel_rfl) (fun _ _ _ h => h) (Or.inl ⟨by rfl, ?_⟩) hS0 ?_
        rotate_left
        · (intro W hSw; go_simp; (try with_reducible rfl))
        try simp only [Act.put, List.setIfInBounds_toArray, List.set_cons_zero, List.set_cons_succ]
        refine wpAnyH_take (i := 47) (oi := ⟨some 133, _, _, _, _, _⟩) (v := ?_) rfl (by kernel_rfl) (by kernel_rfl) (by kernel_rfl) (fun _ _ _ h => h) (Or.inl ⟨by rfl, ?_⟩) hS0 ?_
        rotate_left
        · (intro W hSw; go_simp; (try with_reducible rfl))
        try simp only [Act.put, List.setIfInBounds_toArray, List.set_cons_zero, List.set_cons_succ]
        refine wpAnyH_take (i := 48) (oi := ⟨some 134, _, _, _, _, _⟩) (v := ?_) rfl (by kernel_rfl) (by kernel_rfl) (by kernel_rfl) (fun _ _ _ h => h) (Or.inl ⟨by rfl, ?_⟩) hS0 ?_
        rotate_left
        · (intro W hSw; obtain ⟨hs0, hs1⟩ := hSw; go_simp; (try with_reducible rfl))
        try simp only [Act.put, List.setIfInBounds_toArray, List.set_cons_zero, List.set_cons_succ]
        refine wpAnyH_take (i := 50) (oi := ⟨some 136, _, _, _, _, _⟩) (v := ?_) rfl (by kernel_rfl) (by kernel_rfl) (by kernel_rfl) (fun _ _ _ h => h) (Or.inl ⟨by rfl, ?_⟩) hS0 ?_
        rotate_left
        · (intro W hSw; go_simp; (try with_reducible rfl))
        try simp only [Act.put, List.setIfInBounds_toArray, List.set_cons_zero, List.set_cons_succ]
        refine wpAnyH_take (i := 53) (oi := ⟨some 139, _, _, _, _, _⟩) (v := ?_) rfl (by kernel_rfl) (by kernel_rfl) (by kernel_rfl) (fun _ _ _ h => h) (Or.inl ⟨by rfl, ?_⟩) hS0 ?_
        rotate_left
        · (intro W hSw; go_simp; (try with_reducible rfl))
        try simp only [Act.put, List.setIfInBounds_toArray, List.set_cons_zero, List.set_cons_succ]
        refine wpAnyH_take (i := 54) (oi := ⟨some 140, _, _, _, _, _⟩) (v := ?_) rfl (by kernel_rfl) (by kernel_rfl) (by kernel_rfl) (fun _ _ _ h => h) (Or.inl ⟨by rfl, ?_⟩) hS0 ?_
        rotate_left
        · (intro W hSw; go_simp; (try with_reducible rfl))
        try simp only [Act.put, List.setIfInBounds_toArray, List.set_cons_zero, List.set_cons_succ]
        refine wpAnyH_take (i := 55) (oi := ⟨some 141, _, _, _, _, _⟩) (v := ?_) rfl (by kernel_rfl) (by kernel_rfl) (by kernel_rfl) (fun _ _ _ h => h) (Or.inl ⟨by rfl, ?_⟩) hS0 ?_
        rotate_left
        · (intro W hSw; obtain ⟨hs0, hs1⟩ := hSw; go_simp; (try with_reducible rfl))
        try simp only [Act.put, List.setIfInBounds_toArray, List.set_cons_zero, List.set_cons_succ]
        refine wpAnyH_ready (rs := [49]) (by kernel_rfl) (by simp) ?_
        refine AllReadyH.cons (o := ⟨some 135, _, _, _, _, _⟩) rfl (fun K hK => ?_) AllReadyH.nil
        go_simp
        refine (nil_count r1 _).mono ?_
        rintro e w' ⟨rfl, rfl⟩
        try dsimp only
        refine hK.out _ _ hS0 (fun _ => ?_)
        clear hK K
        try simp only [Act.put, List.setIfInBounds_toArray, List.set_cons_zero, List.set_cons_succ]
        refine wpAnyH_ready (rs := [51]) (by kernel_rfl) (by simp) ?_
        refine AllReadyH.cons (o := ⟨some 137, _, _, _, _, _⟩) rfl (fun K hK => ?_) AllReadyH.nil
        go_simp
        refine (nil_len _).mono ?_
        rintro e w' ⟨rfl, rfl⟩
        try dsimp only
        refine hK.out _ _ hS0 (fun _ => ?_)
        clear hK K
        try simp only [Act.put, List.setIfInBounds_toArray, List.set_cons_zero, List.set_cons_succ]
        refine wpAnyH_take (i := 52) (oi := ⟨some 138, _, _, _, _, _⟩) (v := ?_) rfl (by kernel_rfl) (by kernel_rfl) (by kernel_rfl) (fun _ _ _ h => h) (Or.inl ⟨by rfl, ?_⟩) hS0 ?_
        rotate_left
        · (intro W hSw; go_simp; (try with_reducible rfl))
        try simp only [Act.put, List.setIfInBounds_toArray, List.set_cons_zero, List.set_cons_succ]
        refine wpAnyH_ready (rs := [56]) (by kernel_rfl) (by simp) ?_
        refine AllReadyH.cons (o := ⟨some 142, _, _, _, _, _⟩) rfl (fun K hK => ?_) AllReadyH.nil
        go_simp
        refine (nil_due r3 _).mono ?_
        rintro e w' ⟨rfl, rfl⟩
        try dsimp only
        refine hK.out _ _ hS0 (fun _ => ?_)
        clear hK K
        try simp only [Act.put, List.setIfInBounds_toArray, List.set_cons_zero, List.set_cons_succ]
        refine wpAnyH_take (i := 57) (oi := ⟨some 143, _, _, _, _, _⟩) (v := ?_) rfl (by kernel_rfl) (by kernel_rfl) (by kernel_rfl) (fun _ _ _ h => h) (Or.inl ⟨by rfl, ?_⟩) hS0 ?_
        rotate_left
        · (intro W hSw; go_simp; (try with_reducible rfl))
        try simp only [Act.put, List.setIfInBounds_toArray, List.set_cons_zero, List.set_cons_succ]
        refine wpAnyH_take (i := 58) (oi := ⟨some 144, _, _, _, _, _⟩) (v := ?_) rfl (by kernel_rfl) (by kernel_rfl) (by kernel_rfl) (fun _ _ _ h => h) (Or.inl ⟨by rfl, ?_⟩) hS0 ?_
        rotate_left
        · (intro W hSw; go_simp; (try with_reducible rfl))
        try simp only [Act.put, List.setIfInBounds_toArray, List.set_cons_zero, List.set_cons_succ]
        refine wpAnyH_take (i := 59) (oi := ⟨some 145, _, _, _, _, _⟩) (v := ?_) rfl (by kernel_rfl) (by kernel_rfl) (by kernel_rfl) (fun _ _ _ h => h) (Or.inl ⟨by rfl, ?_⟩) hS0 ?_
        rotate_left
        · (intro W hSw; go_simp; (try with_reducible rfl))
        try simp only [Act.put, List.setIfInBounds_toArray, List.set_cons_zero, List.set_cons_succ]
        refine wpAnyH_take (i := 60) (oi := ⟨some 146, _, _, _, _, _⟩) (v := ?_) rfl (by kernel_rfl) (by kernel_rfl) (by kernel_rfl) (fun _ _ _ h => h) (Or.inl ⟨by rfl, ?_⟩) hS0 ?_
        rotate_left
        · (intro W hSw; go_simp; (try with_reducible rfl))
        try simp only [Act.put, List.setIfInBounds_toArray, List.set_cons_zero, List.set_cons_succ]
        refine wpAnyH_done (by kernel_rfl) ?_ _
        refine NoPanic.normal ?_
        all_goals (go_wp2_with (fail); go_meet; exact ⟨rfl, HBV.out⟩)
      · have HR := Aside0.mk hB
        have p1 : (er != 0) = true := by rw [he1]; decide
        have p2 : (er == 0) = false := by rw [he1]; decide
        have p3 : (er != 1) = false := by rw [he1]; decide
        clear hB he1 HCS
        go_region_held3 (fun w' => w'.cell? ⟨q8, 1, none⟩ = some (.int .i64 r1) ∧ w'.cell? ⟨q8, 3, none⟩ = some (.int .i64 r3)) (go_keep) (first
          | (go_at_call 26; refine (right_f t rm false HR.out.symm _).mono ?_; rintro e w' ⟨rfl, rfl⟩)
          | (go_at_call 27; refine (nil_count r1 _).mono ?_; rintro e w' ⟨rfl, rfl⟩)
          | (go_at_call 14; refine (nil_len _).mono ?_; rintro e w' ⟨rfl, rfl⟩)
          | (go_at_call 15; refine (nil_due r3 _).mono ?_; rintro e w' ⟨rfl, rfl⟩))
        all_goals (go_wp2_with (fail); go_meet; exact ⟨rfl, HBV.out⟩)
    case rest =>
      obtain ⟨rfl, hcb⟩ := hcut
      have e1 := e1.below hcb
      have e2 := e2.below hcb
      have e3 := e3.below hcb
      have hb9 := hb8.trans (hcb.mono (Nat.le_trans y0 hb8.size))
      have hK9 : wc.heap[D1]? = some (.deferred (some [])) := (hcb.block D1 (Array.getElem?_eq_some_iff.1 HK.out).1).trans HK.out
      have HK9 := Aside0.mk hK9
      clear hK9 c1 c3 hcb hb8
      go_wp2
      gi_wp2_with (fail)
      refine ⟨trivial, ?_⟩
      have hnew := a_new 2 9 (by omega) (by omega) (by omega) (by omega) wc
      rw [show ((2 : Nat) : Int) = 2 from rfl, show ((9 : Nat) : Int) = 9 from rfl] at hnew
      refine (callsIn_wide.2 hnew).mono ?_
      rintro e w10 ⟨a, rfl, hA⟩
      have HA := Aside0.mk hA
      clear hA hnew
      gi_wp2_with (fail)
      gi_loopw [151] (fun i wr => ∃ (j : Nat) (R : List (List It)), j ≤ 9 ∧ i = .int .i64 j ∧ TQA wc wr a 2 9 j R ∧ R.flatten.length = j) (fun i _ => 9 - (intOf i).toNat)
      case atStart => exact ⟨0, _, Nat.zero_le _, rfl, HA.out, rfl⟩
      case round =>
        clear HA
        obtain ⟨j, R, hj, rfl, hR, hl⟩ := hrel
        have HR := Aside0.mk (And.intro hR hl)
        clear hR hl
        by_cases hlt : j < 9
        · have hlt' : (j : Int) < 9 := by omega
          have j0 : (0 : Int) ≤ (j : Int) := by omega
          obtain ⟨r, hr⟩ : ∃ r : Nat, (j : Int) % 2 = r := ⟨j % 2, by omega⟩
          have hr2 : r < 2 := by omega
          have HRR := Aside0.mk hr
          clear hr
          obtain ⟨lr, hlr⟩ : ∃ lr, R[r]? = some lr := ⟨_, List.getElem?_eq_getElem (by rw [HR.out.1.rows]; exact hr2)⟩
          have HL := Aside0.mk hlr
          clear hlr
          gi_wp2_with (fail)
          refine ⟨trivial, ?_⟩
          refine (callsIn_wide.2 (a_put ⟨0, (j : Int) % 2, 0, 0, 0⟩ HR.out.1 (by omega) HRR.out HL.out (by rw [HR.out.2]; omega))).mono ?_
          rintro e w11 ⟨x, rfl, hA, _⟩
          have hl2 := (perm_put (y := ((x, ⟨0, (j : Int) % 2, 0, 0, 0⟩) : It)) HL.out).length_eq
          rw [List.length_append, HR.out.2] at hl2
          have HA2 := Aside0.mk (And.intro hA hl2)
          clear hA hl2
          gi_wp2_with (fail)
          go_roundw
          case rel => exact ⟨j + 1, _, by omega, by go_num, HA2.out.1, HA2.out.2⟩
          case measure => simp [intOf]; omega
        · obtain rfl : j = 9 := by omega
          have hbel := HR.out.1.bel
          have e1 := e1.below hbel
          have e2 := e2.below hbel
          have e3 := e3.below hbel
          have hb11 := hb9.trans (hbel.mono (Nat.le_trans y0 hb9.size))
          have hK11 : wr.heap[D1]? = some (.deferred (some [])) := (hbel.block D1 (Array.getElem?_eq_some_iff.1 HK9.out).1).trans HK9.out
          have hD1lt : D1 < wr.heap.size := (Array.getElem?_eq_some_iff.1 hK11).1
          obtain ⟨⟨s, ch, L, S, hs, hq, hRL⟩, hR9⟩ := HR.out
          have hvl : (vw s L).flatten.length = 9 := by rw [← hRL]; exact hR9
          have hsl : s.len = 9 := by rw [hq.tw.tot]; rw [vw_flat, List.length_map] at hvl; omega
          have em := Blk.new wr 3 [.int .i64 0]
          have em : Blk (wr.alloc (.cells #[.int .i64 0] 3)) wr.heap.size 3 [.int .i64 0] := em
          have hal := below_alloc (Below.refl _ wr) (.cells #[.int .i64 0] 3)
          have hq12 := hq.below hal
          obtain ⟨dd, hdd, _⟩ := hq.view
          have l1 := e1.lt
          have l2 := e2.lt
          have l3 := e3.lt
          have e1 := e1.below hal
          have e2 := e2.below hal
          have e3 := e3.below hal
          have hb12 := hb11.trans (hal.mono (Nat.le_trans y0 hb11.size))
          have hK12 : (wr.alloc (.cells #[.int .i64 0] 3)).heap[D1]? = some (.deferred (some [])) := (hal.block D1 hD1lt).trans hK11
          obtain ⟨gm, hgm⟩ : ∃ g, g = wr.heap.size := ⟨_, rfl⟩
          rw [← hgm] at em l1 l2 l3 hD1lt
          have hno : a.no gm := by
            rw [hgm]
            exact ⟨Nat.ne_of_lt hdd.head.lt, Nat.ne_of_lt hdd.sl.head.lt, Nat.ne_of_lt hdd.sl.body.lt, Nat.ne_of_lt hdd.dq.head.lt, Nat.ne_of_lt hdd.dq.rows.lt, Nat.ne_of_lt hdd.dq.links.lt, Nat.ne_of_lt hdd.hd.lt⟩
          have ygm : q8 ≤ gm := by have := hb11.size; omega
          try clear hdd
          try clear hRL
          try clear hR9
          try clear hbel
          try clear hK11
          try clear hal
          try clear hb11
          try clear hb9
          try clear HK9
          try clear hlt
          try clear hj
          try clear hq
          try clear HR
          gi_wp2_with (fail)
          rw [← hgm]
          clear hgm
          refine ⟨trivial, ?_⟩
          generalize (wr.alloc (.cells #[.int .i64 0] 3)) = w12 at *
          refine (callsIn_wide.2 (tall_new _ _)).mono ?_
          rintro e w13 ⟨b2, rfl, hb, hB2, m2⟩
          have hq13 := hq12.below hb
          have e1 := e1.below hb
          have e2 := e2.below hb
          have e3 := e3.below hb
          have lm := em.lt
          have em := em.below hb
          have hb13 := hb12.trans (hb.mono (Nat.le_trans y0 hb12.size))
          have hK13 : w13.heap[D1]? = some (.deferred (some [])) := (hb.block D1 (Array.getElem?_eq_some_iff.1 hK12).1).trans hK12
          have hbm : b2 ≠ gm := by omega
          have n9 : q9 ≠ gm := by omega
          have n10 : q10 ≠ gm := by omega
          have lm13 : gm < w13.heap.size := em.lt
          have lD13 : D1 < w13.heap.size := (Array.getElem?_eq_some_iff.1 hK13).1
          have y13 : q8 ≤ w13.heap.size := by omega
          have hM13 : Marks q8 [{ target := .collected D1, args := #[] }] w13 := ⟨⟨D1, hD1, rfl, hK13, fun e he => by cases he⟩, trivial⟩
          obtain ⟨dd, hdd, _⟩ := hq13.view
          have HV13 := Aside0.mk hdd
          have HE := Aside0.mk (And.intro e1 (And.intro e2 e3))
          obtain ⟨St, hSt⟩ : ∃ St : Nat, stop % 9 = (St : Int) := ⟨(stop % 9).toNat, by omega⟩
          have hS9 : St < 9 := by omega
          clear hq12 hb hK12 hb12 m2 lm hdd e1
          gi_wp2_with (fail)
          apply range_OG rfl hk1 (gf := 53) (lb := #[.pointer (some ⟨b2, 0, none⟩)]) rfl trivial (enters_of Try.func53 (by kernel_rfl) rfl)
            (tall_seq (k - 1) (by omega) (w13.heap.size + 2) gm b2 w13 hq13 (by omega) hB2 hno hbm lm13) kk_t kk_b (KK.refl _ _) (Below.refl _ _) (fun _ => rfl)
            (fun pre W => ((pre.length ≤ St ∧ Boxed W gm 3 (.int .i64 (pre.length : Int))) ∧ KC gm w13 W) ∧ (Below q8 w W ∧ Marks q8 [{ target := .collected D1, args := #[] }] W))
            (fun c pre W => (c = .exit 4 ∧ ((pre.length = St + 1 ∧ Boxed W gm 3 (.int .i64 (pre.length : Int))) ∧ KC gm w13 W)) ∧ (Below q8 w W ∧ Marks q8 [{ target := .collected D1, args := #[] }] W))
          case hI => exact OwnFrom.and (OwnFrom.and (OwnFrom.and (ownFrom_pure _ (fun pre : List It => pre.length ≤ St)) (Own.from (boxed_own gm 3 (fun pre : List It => .int .i64 (pre.length : Int))) _)) ownFrom_kc) (OwnFrom.and (ownFrom_below y0 y13) hM13.own)
          case hIx =>
            intro c
            exact OwnFrom.and (OwnFrom.and (ownFrom_pure _ (fun _ => c = .exit 4)) (OwnFrom.and (OwnFrom.and (ownFrom_pure _ (fun pre : List It => pre.length = St + 1)) (Own.from (boxed_own gm 3 (fun pre : List It => .int .i64 (pre.length : Int))) _)) ownFrom_kc)) (OwnFrom.and (ownFrom_below y0 y13) hM13.own)
          case h0 => exact ⟨⟨⟨Nat.zero_le _, em⟩, KC.refl _ _⟩, hb13, hM13⟩
          case hassign =>
            intro l x W K hK
            gi_wp2
            exact hK
          case hbody =>
            rintro l pre x W ⟨⟨⟨hp, hbx⟩, hkc⟩, hBW, hMW⟩ hlt2
            have cm := hbx.cell
            have zm := hbx.frozen
            have c9 := (e2.kc hkc n9).cell 0 rfl
            have hlen : (pre ++ [x]).length = pre.length + 1 := by simp
            have hplt : (pre.length : Int) + 1 ≤ 1024 := by omega
            have DN := Aside0.mk (show KeepsFrom w13.heap.size W (W.setCell ⟨gm, 0, none⟩ (.int .i64 ((pre.length : Int) + 1))) ∧ KK (w13.heap.size + 2) gm W (W.setCell ⟨gm, 0, none⟩ (.int .i64 ((pre.length : Int) + 1))) ∧ Boxed (W.setCell ⟨gm, 0, none⟩ (.int .i64 ((pre.length : Int) + 1))) gm 3 (.int .i64 ((pre ++ [x]).length : Int)) ∧ KC gm w13 (W.setCell ⟨gm, 0, none⟩ (.int .i64 ((pre.length : Int) + 1))) ∧ Below q8 w (W.setCell ⟨gm, 0, none⟩ (.int .i64 ((pre.length : Int) + 1))) ∧ Marks q8 [{ target := .collected D1, args := #[] }] (W.setCell ⟨gm, 0, none⟩ (.int .i64 ((pre.length : Int) + 1))) from
              ⟨(KeepsOthers.setCell _ _ _).from _, KK.set _ _, by rw [hlen]; push_cast; exact hbx.set _, hkc.trans (KC.set _ _), hBW.setCell (p := ⟨gm, 0, none⟩) ygm _, hMW.imp fun D _ h => (KeepsOthers.setCell W ⟨gm, 0, none⟩ _).same D _ h rfl⟩)
            clear hbx hkc hBW hMW
            by_cases hm : (St : Int) < (pre.length : Int) + 1
            · gi_wp2_with (fail)
              exact ⟨DN.out.1, ⟨rfl, ⟨by rw [hlen]; omega, DN.out.2.2.1⟩, DN.out.2.2.2.1⟩, DN.out.2.2.2.2⟩
            · gi_wp2_with (fail)
              exact ⟨DN.out.1, DN.out.2.1, ⟨⟨by rw [hlen]; omega, DN.out.2.2.1⟩, DN.out.2.2.2.1⟩, DN.out.2.2.2.2⟩
          case hdone =>
            rintro D2 ys W hD2 rfl ⟨⟨⟨hp, _⟩, _⟩, _⟩ hK2
            rw [hvl] at hp
            omega
          case hstop =>
            rintro D2 c pre W hD2 hpre ⟨⟨rfl, ⟨hp, hbx⟩, hkc⟩, hBW, hMW⟩ hK2
            have cm := hbx.cell
            have c9 := (e2.kc hkc n9).cell 0 rfl
            have k10 := e3.kc hkc n10
            have c10 := k10.cell 0 rfl
            have z10 := k10.frozen 0
            have hvW := HV13.out.kc hkc hno
            have hMD : Marks q8 [{ target := .collected D2, args := #[] }, { target := .collected D1, args := #[] }] W :=
              ⟨⟨D2, Nat.le_trans y13 hD2, rfl, hK2, fun e he ht => by
                rw [List.mem_singleton] at he
                subst he
                injection ht with ht
                omega⟩, hMW⟩
            rw [hp] at cm
            have HW := Aside0.mk (And.intro k10 (And.intro hvW (And.intro hBW hMD)))
            have hmin : (if (St : Int) + 1 < 9 then (St : Int) + 1 else 9) = (St : Int) + 1 := by split <;> omega
            clear hbx hkc hBW hMW hMD hvW k10 hp hpre hK2
            gi_wp2_with (fail)
            refine ⟨trivial, ?_⟩
            refine (callsIn_wide.2 (tv_len _ HW.out.2.1)).mono ?_
            rintro e w14 ⟨rfl, rfl⟩
            rw [hsl]
            gi_wp2_with (fail)
            refine marks_out (B := q8) (fun W' => W'.cell? ⟨q10, 0, none⟩ = some (.bool true) ∧ Below q8 w W') (fun W' D' h3 h4 h5 => ⟨cell_kept h5.1 (grownBy_putObj' _ D' (.deferred none)) (fun r e => by cases e; exact ⟨_, h4, rfl⟩), h5.2.trans (belowK_b (n₀ := q8) (w := w) y0 W' D' _ (.deferred none) (by have := HQ.out; omega) h4 rfl rfl)⟩) (fun W' h => ?_) _ _ (HW.out.2.2.2.imp fun D' _ h => (KeepsOthers.setCell W ⟨q10, 0, none⟩ (.bool true)).same D' _ h rfl) ⟨(HW.out.1.put 0 (.bool true) rfl).cell 0 rfl, HW.out.2.2.1.setCell (p := ⟨q10, 0, none⟩) y10 _⟩
            refine ⟨.bool true, ?_, rfl, ?_⟩
            · simp [results, Try.f7, go_sem, h.1]
            · rw [← HQ.out]
              exact h.2
theorem tierqNil_body (t rm h a0 a1 a2 a3 a4 stop : Int) (W : World) (w0 : (Lit.int .i64 t).wf = true) (w1 : (Lit.int .i64 rm).wf = true) (w2 : (Lit.int .u64 h).wf = true) (q0 : (Lit.int .u64 a0).wf = true) (q1 : (Lit.int .i64 a1).wf = true) (q2 : (Lit.int .i64 a2).wf = true) (q3 : (Lit.int .i64 a3).wf = true) (q4 : (Lit.int .i64 a4).wf = true) (w3 : (Lit.int .u8 stop).wf = true) :
    Calls Try.prog 7 #[.int .i64 t, .int .i64 rm, .int .u64 h, .agg #[.int .u64 a0, .int .i64 a1, .int .i64 a2, .int .i64 a3, .int .i64 a4], .int .u8 stop] W fun e w' => e = .returned (.bool true) ∧ Below W.heap.size W w' :=
  callsIn_wide.1 (nil_in 10 (Nat.le_refl _) t rm h a0 a1 a2 a3 a4 stop W (wf_u64 w2).1 (wf_u64 w2).2 (wf_u8 w3))
end Go.Proofs.Ytifffmfbipjilaa.Z

/- The slab's methods: what each turns. -/
import Derived.Test.YtifffmfbipjilaaSlabm
import Derived.Laws.BitsAllLaws
import Derived.Test.YtifffmfbipjilaaWMore
import Derived.Deep.QuietTactic
import Derived.BigQuiet
namespace Go.Proofs.Ytifffmfbipjilaa.Z
open Go.RowKit Go.Proofs.YtifffmfbipjilaaW.PrintWords Go.Proofs.YtifffmfbipjilaaW.PrintLast Go.Proofs.YtifffmfbipjilaaW.PrintMore
attribute [local go_sem] max2_int min2_int max_two min_two max_three min_three max_four min_four
set_option linter.unusedVariables false
set_option linter.unusedSimpArgs false
theorem or_shift (t i : Int) (h0 : 0 ≤ t) (h1 : t < 4294967296) (h2 : 0 ≤ i) (h3 : i < 4294967296) : bits BinOp.or .u64 (t * 4294967296) i = t * 4294967296 + i := by
  rw [u64_or _ _ (by omega) (by omega) (by omega) (by omega), nat_join 32 _ _ (by omega) (by omega)]
  omega
theorem and_mask (h : Int) (h0 : 0 ≤ h) (h1 : h < 18446744073709551616) : bits BinOp.and .u64 h 4294967295 = h % 4294967296 := by
  rw [u64_and _ _ h0 h1 (by omega) (by omega)]
  have : (4294967295 : Int).toNat = 2 ^ 32 - 1 := by decide
  rw [this, Nat.and_two_pow_sub_one_eq_mod]
  omega
theorem w64_in (n : Int) (h0 : -9223372036854775808 ≤ n) (h1 : n ≤ 9223372036854775807) : wrap64 n = n := by unfold wrap64; omega
set_option maxHeartbeats 8000000 in
set_option maxRecDepth 100000 in
theorem take_freed (q : Rq) (g gc i : Nat) (s : Slb) (c : Cel) (w : World) (hs : SlabAt w g gc s) (hc : s.cells[i]? = some c) (hn : s.cells.length ≤ 1024) (hf : s.freed = i) (h0 : 0 ≤ c.turns) (h1 : c.turns < 4294967295) (h2 : 0 ≤ s.len) (h3 : s.len ≤ 1024) :
  Calls Try.prog 31 #[.pointer (some ⟨g, 0, none⟩), q.val] w fun e w' => e = .returned (.tuple #[.int .u64 ((c.turns + 1) * 4294967296 + i), .int .i64 0]) ∧ SlabAt w' g gc { s with cells := s.cells.set i ⟨q, c.turns + 1, true, c.next⟩, freed := c.next, len := s.len + 1 } ∧ Kp [g, gc] w w' := by
 have hil : i < s.cells.length := (List.getElem?_eq_some_iff.1 hc).1
 have hil0 : (0 : Int) ≤ (i : Int) := by omega
 have hil1 : (i : Int) < (s.cells.length : Int) := by omega
 have hii : ((i : Int) != -1) = true := by rw [bne_iff_ne]; omega
 have HS := Aside0.mk hs
 obtain ⟨a0, a1, a2, a3, a4⟩ := q
 have hne := hs.ne
 unfold Rq.val
 have HF := Aside0.mk hf
 have HC := Aside0.mk hc
 clear hf hs hc
 go_enter Try.func31, Try.ntmps31
 go_wp2_with (first | ((with_reducible refine gate_dst (N := 3) rfl ?_); refine box_event ?hg (N := 3) ?hd (cs := #[.int .u64 a0, .int .i64 a1, .int .i64 a2, .int .i64 a3, .int .i64 a4]) (t := 33) ?hr ?_; (case hd => rfl); (case hg => rfl); (case hr => first | (go_simp; done) | (go_simp; rfl)); intro gq hg w2 hbox hb; have hbox0 : Blk w2 gq 33 [.int .u64 a0, .int .i64 a1, .int .i64 a2, .int .i64 a3, .int .i64 a4] := hbox; have hq0 := hbox0.cell 0 rfl; have hq1 := hbox0.cell 1 rfl; have hq2 := hbox0.cell 2 rfl; have hq3 := hbox0.cell 3 rfl; have hq4 := hbox0.cell 4 rfl; have HS2 := Aside0.mk (HS.out.kp (Kp.of_below (S := []) hb) (by simp) (by simp)); have HK := Aside0.mk (Kp.of_below (S := [g, gc]) hb); have hlt1 := Nat.ne_of_lt HS.out.head.lt; have hlt2 := Nat.ne_of_lt HS.out.body.lt; rw [← hg] at hlt1 hlt2; clear hb hbox hbox0 hg; obtain ⟨hcs0, hcs1, hcs2, hcs3, hf1, hf2⟩ := HS2.out.heads; rw [HF.out] at hcs1; obtain ⟨c0, c1, c2, c3, c4, c5, c6, c7⟩ := HS2.out.cel HC.out))
 refine bodyPost_ret (results_tmp2 rfl _ _ _) rfl ?_
 have hor : bits BinOp.or .u64 ((c.turns + 1) * 4294967296) (i : Int) = (c.turns + 1) * 4294967296 + i := or_shift _ _ (by omega) (by omega) (by omega) (by omega)
 refine ⟨?_, ⟨?_, ?_, hne⟩, ?_⟩
 · rw [hor]
   rfl
 · apply Blk.done
   case h => (repeat (first | (with_reducible apply Blk.far_; (· (dsimp only; omega))) | with_reducible apply Blk.put_)); exact HS2.out.head
   case e => rw [List.length_set]; rfl
 · apply Mid.done
   case h => (repeat (first | (with_reducible apply Mid.far; (· (dsimp only; omega))) | (with_reducible apply Mid.set; (· omega)) | (with_reducible apply Mid.set0; (· omega)))); exact Mid.start Cel.enc_len HS2.out.body HC.out
   case hx => rfl
 · repeat (with_reducible apply Kp.set_; (· exact .inl (by simp)))
   exact HK.out
set_option maxHeartbeats 8000000 in
set_option maxRecDepth 100000 in
theorem take_fresh (q : Rq) (g gc i : Nat) (s : Slb) (c : Cel) (w : World) (hs : SlabAt w g gc s) (hc : s.cells[i]? = some c) (hn : s.cells.length ≤ 1024) (hf : s.freed = -1) (hr : s.fresh = i) (h0 : 0 ≤ c.turns) (h1 : c.turns < 4294967295) (h2 : 0 ≤ s.len) (h3 : s.len ≤ 1024) :
  Calls Try.prog 31 #[.pointer (some ⟨g, 0, none⟩), q.val] w fun e w' => e = .returned (.tuple #[.int .u64 ((c.turns + 1) * 4294967296 + i), .int .i64 0]) ∧ SlabAt w' g gc { s with cells := s.cells.set i ⟨q, c.turns + 1, true, c.next⟩, fresh := s.fresh + 1, len := s.len + 1 } ∧ Kp [g, gc] w w' := by
 have hil : i < s.cells.length := (List.getElem?_eq_some_iff.1 hc).1
 have hil0 : (0 : Int) ≤ (i : Int) := by omega
 have hil1 : (i : Int) < (s.cells.length : Int) := by omega
 have HS := Aside0.mk hs
 obtain ⟨a0, a1, a2, a3, a4⟩ := q
 have hne := hs.ne
 unfold Rq.val
 have HF := Aside0.mk hf
 have HR := Aside0.mk hr
 have HC := Aside0.mk hc
 clear hf hs hc hr
 go_enter Try.func31, Try.ntmps31
 go_wp2_with (first | ((with_reducible refine gate_dst (N := 3) rfl ?_); refine box_event ?hg (N := 3) ?hd (cs := #[.int .u64 a0, .int .i64 a1, .int .i64 a2, .int .i64 a3, .int .i64 a4]) (t := 33) ?hr ?_; (case hd => rfl); (case hg => rfl); (case hr => first | (go_simp; done) | (go_simp; rfl)); intro gq hg w2 hbox hb; have hbox0 : Blk w2 gq 33 [.int .u64 a0, .int .i64 a1, .int .i64 a2, .int .i64 a3, .int .i64 a4] := hbox; have hq0 := hbox0.cell 0 rfl; have hq1 := hbox0.cell 1 rfl; have hq2 := hbox0.cell 2 rfl; have hq3 := hbox0.cell 3 rfl; have hq4 := hbox0.cell 4 rfl; have HS2 := Aside0.mk (HS.out.kp (Kp.of_below (S := []) hb) (by simp) (by simp)); have HK := Aside0.mk (Kp.of_below (S := [g, gc]) hb); have hlt1 := Nat.ne_of_lt HS.out.head.lt; have hlt2 := Nat.ne_of_lt HS.out.body.lt; rw [← hg] at hlt1 hlt2; clear hb hbox hbox0 hg; obtain ⟨hcs0, hcs1, hcs2, hcs3, hf1, hf2⟩ := HS2.out.heads; rw [HF.out] at hcs1; rw [HR.out] at hcs2; obtain ⟨c0, c1, c2, c3, c4, c5, c6, c7⟩ := HS2.out.cel HC.out))
 repeat (go_quiet (fail))
 go_wp2
 refine bodyPost_ret (results_tmp2 rfl _ _ _) rfl ?_
 have hor : bits BinOp.or .u64 ((c.turns + 1) * 4294967296) (i : Int) = (c.turns + 1) * 4294967296 + i := or_shift _ _ (by omega) (by omega) (by omega) (by omega)
 refine ⟨?_, ⟨?_, ?_, hne⟩, ?_⟩
 · rw [hor]
   rfl
 · apply Blk.done
   case h => (repeat (first | (with_reducible apply Blk.far_; (· (dsimp only; omega))) | with_reducible apply Blk.put_)); exact HS2.out.head.drewN _
   case e => simp only [List.length_set, HR.out, HF.out]; rfl
 · apply Mid.done
   case h => (repeat (first | (with_reducible apply Mid.far; (· (dsimp only; omega))) | (with_reducible apply Mid.set; (· omega)) | (with_reducible apply Mid.set0; (· omega)))); exact Mid.start Cel.enc_len (HS2.out.body.drewN _) HC.out
   case hx => rfl
 · repeat (with_reducible apply Kp.set_; (· exact .inl (by simp)))
   exact HK.out.drewN _
set_option maxHeartbeats 8000000 in
set_option maxRecDepth 100000 in
theorem take_full (q : Rq) (g gc : Nat) (s : Slb) (w : World) (hs : SlabAt w g gc s) (hn : s.cells.length ≤ 1024) (hf : s.freed = -1) (hr : s.fresh = s.cells.length) :
  Calls Try.prog 31 #[.pointer (some ⟨g, 0, none⟩), q.val] w fun e w' => e = .returned (.tuple #[.int .u64 0, .int .i64 4]) ∧ Below w.heap.size w w' := by
 have HS := Aside0.mk hs
 have HF := Aside0.mk hf
 have HR := Aside0.mk hr
 obtain ⟨a0, a1, a2, a3, a4⟩ := q
 unfold Rq.val
 clear hs hf hr
 go_enter Try.func31, Try.ntmps31
 go_wp2_with (first | ((with_reducible refine gate_dst (N := 3) rfl ?_); refine box_event ?hg (N := 3) ?hd (cs := #[.int .u64 a0, .int .i64 a1, .int .i64 a2, .int .i64 a3, .int .i64 a4]) (t := 33) ?hr ?_; (case hd => rfl); (case hg => rfl); (case hr => first | (go_simp; done) | (go_simp; rfl)); intro gq hg w2 hbox hb; have HS2 := Aside0.mk (HS.out.kp (Kp.of_below (S := []) hb) (by simp) (by simp)); have HHB := Aside0.mk hb; clear hb hbox hg; obtain ⟨hcs0, hcs1, hcs2, hcs3, hf1, hf2⟩ := HS2.out.heads; rw [HF.out] at hcs1; rw [HR.out] at hcs2))
 repeat (go_quiet (fail))
 go_wp2
 refine bodyPost_ret (results_tmp2 rfl _ _ _) rfl ?_
 exact ⟨rfl, pw_below_drewN HHB.out _⟩
set_option maxHeartbeats 8000000 in
set_option maxRecDepth 100000 in
theorem take_nil (q : Rq) (w : World) : Calls Try.prog 31 #[.pointer none, q.val] w fun e w' => e = .returned (.tuple #[.int .u64 0, .int .i64 3]) ∧ Below w.heap.size w w' := by
 obtain ⟨a0, a1, a2, a3, a4⟩ := q
 unfold Rq.val
 go_enter Try.func31, Try.ntmps31
 go_wp2
 refine bodyPost_ret (results_tmp2 rfl _ _ _) rfl ?_
 exact ⟨rfl, below_alloc (Below.refl _ _) _⟩
set_option maxHeartbeats 8000000 in
theorem cell_any (h : Int) (w : World) (h0 : 0 ≤ h) (h1 : h < 18446744073709551616) : Calls Try.prog 32 #[.int .u64 h] w fun e w' => e = .returned (.int .i64 (h % 4294967296)) ∧ w = w' := by
 go_enter Try.func32, Try.ntmps32
 go_wp2
 go_ret
 have := and_mask h h0 h1
 refine ⟨?_, rfl⟩
 show Ending.returned (.int .i64 _) = _
 rw [this, w64_in _ (by omega) (by omega)]
theorem len_any (g gc : Nat) (s : Slb) (w : World) (hs : SlabAt w g gc s) : Calls Try.prog 40 #[.pointer (some ⟨g, 0, none⟩)] w fun e w' => e = .returned (.int .i64 s.len) ∧ w = w' := by
 obtain ⟨hcs0, hcs1, hcs2, hcs3, hf1, hf2⟩ := hs.heads
 clear hs
 go_enter Try.func40, Try.ntmps40
 go_wp2
 go_ret
 exact ⟨rfl, rfl⟩
theorem len_nil (w : World) : Calls Try.prog 40 #[.pointer none] w fun e w' => e = .returned (.int .i64 0) ∧ w = w' := by
 go_enter Try.func40, Try.ntmps40
 go_wp2
 go_ret
 exact ⟨rfl, rfl⟩
theorem cell_i (h : Int) (i : Nat) (w : World) (h0 : 0 ≤ h) (h1 : h < 18446744073709551616) (hi : h % 4294967296 = i) : Calls Try.prog 32 #[.int .u64 h] w fun e w' => e = .returned (.int .i64 i) ∧ w = w' := by
 rw [← hi]; exact cell_any h w h0 h1
set_option maxHeartbeats 8000000 in
theorem at_far (h : Int) (g gc i : Nat) (s : Slb) (w : World) (hs : SlabAt w g gc s) (h0 : 0 ≤ h) (h1 : h < 18446744073709551616) (hi : h % 4294967296 = i) (hn : s.cells.length ≤ i) : Calls Try.prog 61 #[.pointer (some ⟨g, 0, none⟩), .int .u64 h] w fun e w' => e = .returned (.pointer none) ∧ w = w' := by
 obtain ⟨hcs0, hcs1, hcs2, hcs3, hf1, hf2⟩ := hs.heads
 have HI := Aside0.mk hi
 clear hs hi
 have hle : (s.cells.length : Int) ≤ (i : Int) := by omega
 go_enter Try.func61, Try.ntmps61
 go_wp2_with (go_at_call 32; refine (cell_i _ i _ h0 h1 HI.out).mono ?_; rintro e w' ⟨rfl, rfl⟩)
 go_ret
 exact ⟨rfl, rfl⟩
set_option maxHeartbeats 8000000 in
theorem at_free (h : Int) (g gc i : Nat) (s : Slb) (c : Cel) (w : World) (hs : SlabAt w g gc s) (h0 : 0 ≤ h) (h1 : h < 18446744073709551616) (hi : h % 4294967296 = i) (hc : s.cells[i]? = some c) (ht : c.taken = false) : Calls Try.prog 61 #[.pointer (some ⟨g, 0, none⟩), .int .u64 h] w fun e w' => e = .returned (.pointer none) ∧ w = w' := by
 have hil : i < s.cells.length := (List.getElem?_eq_some_iff.1 hc).1
 have hil0 : (0 : Int) ≤ (i : Int) := by omega
 have hil1 : (i : Int) < (s.cells.length : Int) := by omega
 obtain ⟨hcs0, hcs1, hcs2, hcs3, hf1, hf2⟩ := hs.heads
 obtain ⟨c0, c1, c2, c3, c4, c5, c6, c7⟩ := hs.cel hc
 rw [ht] at c6
 have HI := Aside0.mk hi
 clear hs hi hc ht
 go_enter Try.func61, Try.ntmps61
 go_wp2_with (go_at_call 32; refine (cell_i _ i _ h0 h1 HI.out).mono ?_; rintro e w' ⟨rfl, rfl⟩)
 go_ret
 exact ⟨rfl, rfl⟩
set_option maxHeartbeats 8000000 in
theorem at_other (h : Int) (g gc i : Nat) (s : Slb) (c : Cel) (w : World) (hs : SlabAt w g gc s) (h0 : 0 ≤ h) (h1 : h < 18446744073709551616) (hi : h % 4294967296 = i) (hc : s.cells[i]? = some c) (ht : c.taken = true) (hv0 : 0 ≤ c.turns) (hv1 : c.turns < 4294967296) (hv : c.turns ≠ h / 4294967296) : Calls Try.prog 61 #[.pointer (some ⟨g, 0, none⟩), .int .u64 h] w fun e w' => e = .returned (.pointer none) ∧ w = w' := by
 have hil : i < s.cells.length := (List.getElem?_eq_some_iff.1 hc).1
 have hil0 : (0 : Int) ≤ (i : Int) := by omega
 have hil1 : (i : Int) < (s.cells.length : Int) := by omega
 obtain ⟨hcs0, hcs1, hcs2, hcs3, hf1, hf2⟩ := hs.heads
 obtain ⟨c0, c1, c2, c3, c4, c5, c6, c7⟩ := hs.cel hc
 rw [ht] at c6
 have hvv : (c.turns != h / 4294967296) = true := by rw [bne_iff_ne]; exact hv
 have HI := Aside0.mk hi
 clear hs hi hc ht hv
 go_enter Try.func61, Try.ntmps61
 go_wp2_with (go_at_call 32; refine (cell_i _ i _ h0 h1 HI.out).mono ?_; rintro e w' ⟨rfl, rfl⟩)
 go_ret
 exact ⟨rfl, rfl⟩
set_option maxHeartbeats 8000000 in
theorem at_ok (h : Int) (g gc i : Nat) (s : Slb) (c : Cel) (w : World) (hs : SlabAt w g gc s) (h0 : 0 ≤ h) (h1 : h < 18446744073709551616) (hi : h % 4294967296 = i) (hc : s.cells[i]? = some c) (ht : c.taken = true) (hv0 : 0 ≤ c.turns) (hv1 : c.turns < 4294967296) (hv : c.turns = h / 4294967296) : Calls Try.prog 61 #[.pointer (some ⟨g, 0, none⟩), .int .u64 h] w fun e w' => e = .returned (.pointer (some ⟨gc, i * 8, none⟩)) ∧ w = w' := by
 have hil : i < s.cells.length := (List.getElem?_eq_some_iff.1 hc).1
 have hil0 : (0 : Int) ≤ (i : Int) := by omega
 have hil1 : (i : Int) < (s.cells.length : Int) := by omega
 obtain ⟨hcs0, hcs1, hcs2, hcs3, hf1, hf2⟩ := hs.heads
 obtain ⟨c0, c1, c2, c3, c4, c5, c6, c7⟩ := hs.cel hc
 rw [ht] at c6
 have hvv : (c.turns != h / 4294967296) = false := by rw [bne_eq_false_iff_eq]; exact hv
 have HI := Aside0.mk hi
 clear hs hi hc ht hv
 go_enter Try.func61, Try.ntmps61
 go_wp2_with (go_at_call 32; refine (cell_i _ i _ h0 h1 HI.out).mono ?_; rintro e w' ⟨rfl, rfl⟩)
 go_ret
 exact ⟨rfl, rfl⟩
/-- The cell that a handle tells, if it isn't stale. -/
def Slb.at (s : Slb) (h : Int) : Option (Nat × Cel) :=
  match s.cells[(h % 4294967296).toNat]? with
  | none => none
  | some c => if c.taken = true ∧ c.turns = h / 4294967296 then some ((h % 4294967296).toNat, c) else none
theorem at_none (h : Int) (g gc : Nat) (s : Slb) (w : World) (hs : SlabAt w g gc s) (h0 : 0 ≤ h) (h1 : h < 18446744073709551616) (hT : ∀ c ∈ s.cells, 0 ≤ c.turns ∧ c.turns < 4294967296) (ha : s.at h = none) : Calls Try.prog 61 #[.pointer (some ⟨g, 0, none⟩), .int .u64 h] w fun e w' => e = .returned (.pointer none) ∧ w = w' := by
 have hi : h % 4294967296 = ((h % 4294967296).toNat : Int) := by omega
 unfold Slb.at at ha
 split at ha
 · rename_i hc
   exact at_far h g gc _ s w hs h0 h1 hi (List.getElem?_eq_none_iff.1 hc)
 · rename_i c hc
   have hcT := hT c (List.mem_of_getElem? hc)
   cases ht : c.taken with
   | false => exact at_free h g gc _ s c w hs h0 h1 hi hc ht
   | true => exact at_other h g gc _ s c w hs h0 h1 hi hc ht hcT.1 hcT.2 (fun hv => by rw [if_pos ⟨ht, hv⟩] at ha; cases ha)
theorem at_some (h : Int) (g gc i : Nat) (s : Slb) (c : Cel) (w : World) (hs : SlabAt w g gc s) (h0 : 0 ≤ h) (h1 : h < 18446744073709551616) (hT : ∀ c ∈ s.cells, 0 ≤ c.turns ∧ c.turns < 4294967296) (ha : s.at h = some (i, c)) : Calls Try.prog 61 #[.pointer (some ⟨g, 0, none⟩), .int .u64 h] w fun e w' => e = .returned (.pointer (some ⟨gc, i * 8, none⟩)) ∧ w = w' := by
 have hi : h % 4294967296 = ((h % 4294967296).toNat : Int) := by omega
 unfold Slb.at at ha
 split at ha
 · cases ha
 · rename_i c' hc
   have hcT := hT c' (List.mem_of_getElem? hc)
   split at ha
   · rename_i hh
     injection ha with ha
     injection ha with h2 h3
     subst h2
     exact at_ok h g gc _ s c' w hs h0 h1 hi hc hh.1 hcT.1 hcT.2 hh.2
   · cases ha
theorem Slb.at_spec {s : Slb} {h : Int} {i : Nat} {c : Cel} (ha : s.at h = some (i, c)) (h0 : 0 ≤ h) : s.cells[i]? = some c ∧ c.taken = true ∧ c.turns = h / 4294967296 ∧ h % 4294967296 = i := by
 unfold Slb.at at ha
 split at ha
 · cases ha
 · rename_i c' hc
   split at ha
   · rename_i hh
     injection ha with ha
     injection ha with h2 h3
     subst h2 h3
     exact ⟨hc, hh.1, hh.2, by omega⟩
   · cases ha
set_option maxHeartbeats 8000000 in
theorem get_nil (h : Int) (w : World) : Calls Try.prog 44 #[.pointer none, .int .u64 h] w fun e w' => e = .returned (.tuple #[.agg #[.int .u64 0, .int .i64 0, .int .i64 0, .int .i64 0, .int .i64 0], .int .i64 3]) ∧ Below w.heap.size w w' := by
 go_enter Try.func44, Try.ntmps44
 go_wp2
 refine bodyPost_ret (v := .tuple #[.agg #[.int .u64 0, .int .i64 0, .int .i64 0, .int .i64 0, .int .i64 0], .int .i64 3]) (by simp [results, Try.results44, go_sem]) rfl ⟨rfl, ?_⟩
 exact (Below.refl _ _).alloc (Nat.le_refl _) _
set_option maxHeartbeats 8000000 in
theorem get_stale (h : Int) (g gc : Nat) (s : Slb) (w : World) (hs : SlabAt w g gc s) (h0 : 0 ≤ h) (h1 : h < 18446744073709551616) (hT : ∀ c ∈ s.cells, 0 ≤ c.turns ∧ c.turns < 4294967296) (ha : s.at h = none) : Calls Try.prog 44 #[.pointer (some ⟨g, 0, none⟩), .int .u64 h] w fun e w' => e = .returned (.tuple #[.agg #[.int .u64 0, .int .i64 0, .int .i64 0, .int .i64 0, .int .i64 0], .int .i64 6]) ∧ Below w.heap.size w w' := by
 have HS := Aside0.mk hs
 have HT := Aside0.mk hT
 have HA := Aside0.mk ha
 clear hs hT ha
 go_enter Try.func44, Try.ntmps44
 go_wp2_with (go_at_call 61; refine (at_none h g gc s _ (HS.out.kp (Kp.alloc (Kp.refl [] _) _) (by simp) (by simp)) h0 h1 HT.out HA.out).mono ?_; rintro e w' ⟨rfl, rfl⟩)
 refine bodyPost_ret (v := .tuple #[.agg #[.int .u64 0, .int .i64 0, .int .i64 0, .int .i64 0, .int .i64 0], .int .i64 6]) (by simp [results, Try.results44, go_sem]) rfl ⟨rfl, ?_⟩
 exact (Below.refl _ _).alloc (Nat.le_refl _) _
set_option maxHeartbeats 8000000 in
theorem get_ok (h : Int) (g gc i : Nat) (s : Slb) (c : Cel) (w : World) (hs : SlabAt w g gc s) (h0 : 0 ≤ h) (h1 : h < 18446744073709551616) (hT : ∀ c ∈ s.cells, 0 ≤ c.turns ∧ c.turns < 4294967296) (ha : s.at h = some (i, c)) : Calls Try.prog 44 #[.pointer (some ⟨g, 0, none⟩), .int .u64 h] w fun e w' => e = .returned (.tuple #[c.q.val, .int .i64 0]) ∧ Below w.heap.size w w' := by
 have HS := Aside0.mk hs
 have HT := Aside0.mk hT
 have HA := Aside0.mk ha
 obtain ⟨c0, c1, c2, c3, c4, c5, c6, c7⟩ := hs.cel (Slb.at_spec ha h0).1
 have hlt := hs.body.lt
 unfold Rq.val
 clear hs hT ha
 go_enter Try.func44, Try.ntmps44
 go_wp2_with (go_at_call 61; refine (at_some h g gc i s c _ (HS.out.kp (Kp.alloc (Kp.refl [] _) _) (by simp) (by simp)) h0 h1 HT.out HA.out).mono ?_; rintro e w' ⟨rfl, rfl⟩)
 refine bodyPost_ret (v := .tuple #[.agg #[.int .u64 c.q.t, .int .i64 c.q.tier, .int .i64 c.q.coh, .int .i64 c.q.dl, .int .i64 c.q.ar], .int .i64 0]) (by simp [results, Try.results44, go_sem]) rfl ⟨rfl, ?_⟩
 exact (Below.refl _ _).alloc (Nat.le_refl _) _
set_option maxHeartbeats 8000000 in
theorem free_nil (h : Int) (w : World) : Calls Try.prog 37 #[.pointer none, .int .u64 h] w fun e w' => e = .returned (.int .i64 3) ∧ w = w' := by
 go_enter Try.func37, Try.ntmps37
 go_wp2
 go_ret
 exact ⟨rfl, rfl⟩
set_option maxHeartbeats 8000000 in
theorem free_stale (h : Int) (g gc : Nat) (s : Slb) (w : World) (hs : SlabAt w g gc s) (h0 : 0 ≤ h) (h1 : h < 18446744073709551616) (hT : ∀ c ∈ s.cells, 0 ≤ c.turns ∧ c.turns < 4294967296) (ha : s.at h = none) : Calls Try.prog 37 #[.pointer (some ⟨g, 0, none⟩), .int .u64 h] w fun e w' => e = .returned (.int .i64 6) ∧ w = w' := by
 have HS := Aside0.mk hs
 have HT := Aside0.mk hT
 have HA := Aside0.mk ha
 clear hs hT ha
 go_enter Try.func37, Try.ntmps37
 go_wp2_with (go_at_call 61; refine (at_none h g gc s _ HS.out h0 h1 HT.out HA.out).mono ?_; rintro e w' ⟨rfl, rfl⟩)
 go_ret
 exact ⟨rfl, rfl⟩
set_option maxHeartbeats 8000000 in
theorem free_ok (h : Int) (g gc i : Nat) (s : Slb) (c : Cel) (w : World) (hs : SlabAt w g gc s) (h0 : 0 ≤ h) (h1 : h < 18446744073709551616) (hT : ∀ c ∈ s.cells, 0 ≤ c.turns ∧ c.turns < 4294967296) (ha : s.at h = some (i, c)) (h2 : 1 ≤ s.len) (h3 : s.len ≤ 1024) : Calls Try.prog 37 #[.pointer (some ⟨g, 0, none⟩), .int .u64 h] w fun e w' => e = .returned (.int .i64 0) ∧ SlabAt w' g gc { s with cells := s.cells.set i ⟨c.q, c.turns, false, s.freed⟩, freed := i, len := s.len - 1 } ∧ Kp [g, gc] w w' := by
 have HS := Aside0.mk hs
 have HT := Aside0.mk hT
 have HA := Aside0.mk ha
 have hne := hs.ne
 obtain ⟨hc, ht, hv, hi⟩ := Slb.at_spec ha h0
 have HC := Aside0.mk hc
 have HI := Aside0.mk hi
 obtain ⟨hcs0, hcs1, hcs2, hcs3, hf1, hf2⟩ := hs.heads
 obtain ⟨c0, c1, c2, c3, c4, c5, c6, c7⟩ := hs.cel hc
 clear hs hT ha hc ht hv hi
 go_enter Try.func37, Try.ntmps37
 go_wp2_with (first | (go_at_call 61; refine (at_some h g gc i s c _ HS.out h0 h1 HT.out HA.out).mono ?_; rintro e w' ⟨rfl, rfl⟩) | (go_at_call 32; refine (cell_i _ i _ h0 h1 HI.out).mono ?_; rintro e w' ⟨rfl, rfl⟩))
 go_ret
 refine ⟨rfl, ⟨?_, ?_, hne⟩, ?_⟩
 · apply Blk.done
   case h => (repeat (first | (with_reducible apply Blk.far_; (· (dsimp only; omega))) | with_reducible apply Blk.put_)); exact HS.out.head
   case e => rw [List.length_set]; rfl
 · apply Mid.done
   case h => (repeat (first | (with_reducible apply Mid.far; (· (dsimp only; omega))) | (with_reducible apply Mid.set; (· omega)) | (with_reducible apply Mid.set0; (· omega)))); exact Mid.start Cel.enc_len HS.out.body HC.out
   case hx => rfl
 · repeat (with_reducible apply Kp.set_; (· exact .inl (by simp)))
   exact Kp.refl _ _
/-- A new slab's cell. -/
def Cel.nil : Cel := ⟨⟨0, 0, 0, 0, 0⟩, 0, false, 0⟩
set_option maxHeartbeats 8000000 in
set_option maxRecDepth 100000 in
theorem new_ok (n : Int) (h1 : 1 ≤ n) (h2 : n ≤ 1024) (w : World) : Calls Try.prog 29 #[.int .i64 n] w fun e w' => ∃ g gc, e = .returned (.tuple #[.pointer (some ⟨g, 0, none⟩), .int .i64 0]) ∧ SlabAt w' g gc ⟨List.replicate n.toNat Cel.nil, -1, 0, 0⟩ ∧ w.heap.size ≤ g ∧ w.heap.size ≤ gc ∧ Below w.heap.size w w' := by
 have HB := Aside0.mk (Below.refl w.heap.size w)
 have c1 : decide (n < 1) = false := decide_eq_false (by omega)
 have c2 : decide (1024 < n) = false := decide_eq_false (by omega)
 go_enter Try.func29, Try.ntmps29
 have hi : (Try.prog.info? 122).map (fun i => (i.zero, i.size, i.bytes)) = some (some (.agg #[.int .u64 0, .int .i64 0, .int .i64 0, .int .i64 0, .int .i64 0, .int .u32 0, .bool false, .int .i64 0]), 8, 56) := by kernel_rfl
 obtain ⟨i, hi, he⟩ := Option.map_eq_some_iff.1 hi
 simp only [Prod.mk.injEq] at he
 obtain ⟨hz, hsz, hby⟩ := he
 have hbb : (i.bytes : Int) * n ≤ 281474976710656 := by rw [hby]; omega
 go_wp2_with (first | (at_make; refine make_event (e := 122) (n := n) (N := 11) (i := i) (z := .agg #[.int .u64 0, .int .i64 0, .int .i64 0, .int .i64 0, .int .i64 0, .int .u32 0, .bool false, .int .i64 0]) rfl rfl 114 _ _ rfl rfl rfl Try.underlying114 hi hz (by omega) hbb (by omega) ?_; intro gc hgc w1 hbk hbel; rw [hsz] at hbk) | ((with_reducible refine gate_dst (N := 13) rfl ?_); refine box_event ?hg (N := 13) ?hd (cs := #[.slice (some ⟨gc, 0, none⟩) n.toNat n.toNat, .int .i64 (-1), .int .i64 0, .int .i64 0]) (t := 116) ?hr ?_; (case hd => rfl); (case hg => rfl); (case hr => first | (go_simp; done) | (go_simp; rfl)); intro g hg w2 hbox hb2))
 refine bodyPost_ret (results_tmp2 rfl _ _ _) rfl ?_
 have hbox' : Blk w2 g 116 [.slice (some ⟨gc, 0, none⟩) n.toNat n.toNat, .int .i64 (-1), .int .i64 0, .int .i64 0] := hbox
 have hfl := made_flat (k := 8) Cel.enc (by omega) (Value.cells (.agg #[.int .u64 0, .int .i64 0, .int .i64 0, .int .i64 0, .int .i64 0, .int .u32 0, .bool false, .int .i64 0])) Cel.nil rfl rfl n.toNat
 rw [hfl] at hbk
 have hne : g ≠ gc := by have := hbk.lt; omega
 have hsz2 := hbel.size
 subst hg
 subst hgc
 exact ⟨_, _, rfl, ⟨by simpa using hbox', hbk.below hb2, hne⟩, hsz2, Nat.le_refl _, below_step hbel hb2⟩
set_option maxHeartbeats 8000000 in
theorem new_bad (n : Int) (h : n < 1 ∨ 1024 < n) (w : World) : Calls Try.prog 29 #[.int .i64 n] w fun e w' => e = .returned (.tuple #[.pointer none, .int .i64 1]) ∧ w = w' := by
 rcases h with h | h
 · go_enter Try.func29, Try.ntmps29
   go_wp2
   refine bodyPost_ret (results_tmp2 rfl _ _ _) rfl ?_
   exact ⟨rfl, rfl⟩
 · have c1 : decide (n < 1) = false := decide_eq_false (by omega)
   go_enter Try.func29, Try.ntmps29
   go_wp2
   refine bodyPost_ret (results_tmp2 rfl _ _ _) rfl ?_
   exact ⟨rfl, rfl⟩
end Go.Proofs.Ytifffmfbipjilaa.Z

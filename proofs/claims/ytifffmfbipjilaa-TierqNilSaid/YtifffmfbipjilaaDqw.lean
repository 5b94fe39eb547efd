/- The rows' methods: what each turns. -/
import Derived.Test.YtifffmfbipjilaaDqm
import Derived.Test.YtifffmfbipjilaaWMore
import Derived.Deep.QuietTactic
import Derived.BigQuiet
import Derived.StillTailTactics
namespace Go.Proofs.Ytifffmfbipjilaa.Z
open Go.RowKit Go.Proofs.YtifffmfbipjilaaW.PrintWords Go.Proofs.YtifffmfbipjilaaW.PrintLast Go.Proofs.YtifffmfbipjilaaW.PrintMore
attribute [local go_sem] max2_int min2_int max_two min_two max_three min_three max_four min_four
set_option linter.unusedVariables false
set_option linter.unusedSimpArgs false
theorem there_nil (r : Int) (w : World) : Calls Try.prog 56 #[.pointer none, .int .i64 r] w fun e w' => e = .returned (.bool false) ∧ w = w' := by
 go_enter Try.func56, Try.ntmps56
 go_wp2
 go_ret
 exact ⟨rfl, rfl⟩
theorem there_any (r : Int) (g br bl : Nat) (d : Dq) (w : World) (hd : DqAt w g br bl d) (b : Bool) (hb : b = decide (0 ≤ r ∧ r < d.rows.length)) : Calls Try.prog 56 #[.pointer (some ⟨g, 0, none⟩), .int .i64 r] w fun e w' => e = .returned (.bool b) ∧ w = w' := by
 obtain ⟨h0, h1, _, _⟩ := hd.heads
 clear hd
 subst hb
 by_cases c1 : 0 ≤ r
 · by_cases c2 : r < d.rows.length
   · have e : decide (0 ≤ r ∧ r < d.rows.length) = true := decide_eq_true ⟨c1, c2⟩
     rw [e]
     clear e
     go_enter Try.func56, Try.ntmps56
     go_wp2
     go_ret
     exact ⟨rfl, rfl⟩
   · have e : decide (0 ≤ r ∧ r < d.rows.length) = false := decide_eq_false (fun h => c2 h.2)
     rw [e]
     clear e
     have c3 : decide (r < d.rows.length) = false := decide_eq_false c2
     go_enter Try.func56, Try.ntmps56
     go_wp2
     go_ret
     exact ⟨rfl, rfl⟩
 · have e : decide (0 ≤ r ∧ r < d.rows.length) = false := decide_eq_false (fun h => c1 h.1)
   rw [e]
   clear e
   have c3 : decide (0 ≤ r) = false := decide_eq_false c1
   go_enter Try.func56, Try.ntmps56
   go_wp2
   go_ret
   exact ⟨rfl, rfl⟩
theorem member_any (r : Int) (g br bl : Nat) (d : Dq) (w : World) (hd : DqAt w g br bl d) (b : Bool) (hb : b = decide (0 ≤ r ∧ r < d.links.length)) : Calls Try.prog 57 #[.pointer (some ⟨g, 0, none⟩), .int .i64 r] w fun e w' => e = .returned (.bool b) ∧ w = w' := by
 obtain ⟨h0, h1, _, _⟩ := hd.heads
 clear hd
 subst hb
 by_cases c1 : 0 ≤ r
 · by_cases c2 : r < d.links.length
   · have e : decide (0 ≤ r ∧ r < d.links.length) = true := decide_eq_true ⟨c1, c2⟩
     rw [e]
     clear e
     go_enter Try.func57, Try.ntmps57
     go_wp2
     go_ret
     exact ⟨rfl, rfl⟩
   · have e : decide (0 ≤ r ∧ r < d.links.length) = false := decide_eq_false (fun h => c2 h.2)
     rw [e]
     clear e
     have c3 : decide (r < d.links.length) = false := decide_eq_false c2
     go_enter Try.func57, Try.ntmps57
     go_wp2
     go_ret
     exact ⟨rfl, rfl⟩
 · have e : decide (0 ≤ r ∧ r < d.links.length) = false := decide_eq_false (fun h => c1 h.1)
   rw [e]
   clear e
   have c3 : decide (0 ≤ r) = false := decide_eq_false c1
   go_enter Try.func57, Try.ntmps57
   go_wp2
   go_ret
   exact ⟨rfl, rfl⟩
set_option maxHeartbeats 8000000 in
theorem push_nil (r i : Int) (w : World) : Calls Try.prog 33 #[.pointer none, .int .i64 r, .int .i64 i] w fun e w' => e = .returned (.int .i64 3) ∧ w = w' := by
 go_enter Try.func33, Try.ntmps33
 go_wp2
 go_ret
 exact ⟨rfl, rfl⟩
set_option maxHeartbeats 8000000 in
set_option maxRecDepth 100000 in
theorem push_arg (r i : Int) (g br bl : Nat) (d : Dq) (w : World) (hd : DqAt w g br bl d) (h : ¬ (0 ≤ r ∧ r < d.rows.length) ∨ ¬ (0 ≤ i ∧ i < d.links.length)) : Calls Try.prog 33 #[.pointer (some ⟨g, 0, none⟩), .int .i64 r, .int .i64 i] w fun e w' => e = .returned (.int .i64 1) ∧ w = w' := by
 have HD := Aside0.mk hd
 clear hd
 by_cases h1 : 0 ≤ r ∧ r < d.rows.length
 · have h2 : ¬ (0 ≤ i ∧ i < d.links.length) := h.elim (fun h => absurd h1 h) id
   have H1 := Aside0.mk h1
   have H2 := Aside0.mk h2
   clear h h1 h2
   go_enter Try.func33, Try.ntmps33
   go_wp2_with (first | (go_at_call 56; refine (there_any r g br bl d _ HD.out true (decide_eq_true H1.out).symm).mono ?_; rintro e w' ⟨rfl, rfl⟩) | (go_at_call 57; refine (member_any i g br bl d _ HD.out false (decide_eq_false H2.out).symm).mono ?_; rintro e w' ⟨rfl, rfl⟩))
   go_ret
   exact ⟨rfl, rfl⟩
 · have H1 := Aside0.mk h1
   clear h h1
   go_enter Try.func33, Try.ntmps33
   go_wp2_with (first | (go_at_call 56; refine (there_any r g br bl d _ HD.out false (decide_eq_false H1.out).symm).mono ?_; rintro e w' ⟨rfl, rfl⟩))
   go_ret
   exact ⟨rfl, rfl⟩
set_option maxHeartbeats 8000000 in
set_option maxRecDepth 100000 in
theorem push_busy (r i : Nat) (g br bl : Nat) (d : Dq) (lk : Lk) (w : World) (hd : DqAt w g br bl d) (hr : r < d.rows.length) (hl : d.links[i]? = some lk) (hb : lk.row ≠ -1) : Calls Try.prog 33 #[.pointer (some ⟨g, 0, none⟩), .int .i64 r, .int .i64 i] w fun e w' => e = .returned (.int .i64 10) ∧ w = w' := by
 have hil : i < d.links.length := (List.getElem?_eq_some_iff.1 hl).1
 have hil0 : (0 : Int) ≤ (i : Int) := by omega
 have hil1 : (i : Int) < (d.links.length : Int) := by omega
 obtain ⟨c0, c1, c2⟩ := hd.link hl
 obtain ⟨h0, h1, _, _⟩ := hd.heads
 have hbb : (lk.row != -1) = true := by rw [bne_iff_ne]; exact hb
 have HD := Aside0.mk hd
 clear hd hl hb
 go_enter Try.func33, Try.ntmps33
 go_wp2_with (first | (go_at_call 56; refine (there_any r g br bl d _ HD.out true (decide_eq_true (by omega)).symm).mono ?_; rintro e w' ⟨rfl, rfl⟩) | (go_at_call 57; refine (member_any i g br bl d _ HD.out true (decide_eq_true (by omega)).symm).mono ?_; rintro e w' ⟨rfl, rfl⟩))
 go_ret
 exact ⟨rfl, rfl⟩
set_option maxHeartbeats 8000000 in
set_option maxRecDepth 100000 in
theorem push_first (r i : Nat) (g br bl : Nat) (d : Dq) (lk : Lk) (rw_ : Rw) (w : World) (hd : DqAt w g br bl d) (hr : d.rows[r]? = some rw_) (hl : d.links[i]? = some lk) (hb : lk.row = -1) (hk : rw_.back = -1) (hn0 : 0 ≤ rw_.n) (hn1 : rw_.n ≤ 1024) : Calls Try.prog 33 #[.pointer (some ⟨g, 0, none⟩), .int .i64 r, .int .i64 i] w fun e w' => e = .returned (.int .i64 0) ∧ DqAt w' g br bl ⟨d.rows.set r ⟨i, i, rw_.n + 1⟩, d.links.set i ⟨r, -1, -1⟩⟩ ∧ Kp [br, bl] w w' := by
 have hil : i < d.links.length := (List.getElem?_eq_some_iff.1 hl).1
 have hrl : r < d.rows.length := (List.getElem?_eq_some_iff.1 hr).1
 have hil0 : (0 : Int) ≤ (i : Int) := by omega
 have hil1 : (i : Int) < (d.links.length : Int) := by omega
 have hrl0 : (0 : Int) ≤ (r : Int) := by omega
 have hrl1 : (r : Int) < (d.rows.length : Int) := by omega
 obtain ⟨c0, c1, c2⟩ := hd.link hl
 obtain ⟨b0, b1, b2⟩ := hd.row hr
 obtain ⟨h0, h1, f1, f2⟩ := hd.heads
 rw [hb] at c0
 rw [hk] at b1
 have n1 := hd.ne1
 have n2 := hd.ne2
 have n3 := hd.ne3
 have HD := Aside0.mk hd
 have HR := Aside0.mk hr
 have HL := Aside0.mk hl
 clear hd hl hb hr hk
 go_enter Try.func33, Try.ntmps33
 go_wp2_with (first | (go_at_call 56; refine (there_any r g br bl d _ HD.out true (decide_eq_true (by omega)).symm).mono ?_; rintro e w' ⟨rfl, rfl⟩) | (go_at_call 57; refine (member_any i g br bl d _ HD.out true (decide_eq_true (by omega)).symm).mono ?_; rintro e w' ⟨rfl, rfl⟩))
 go_still_tail 12, (by kernel_rfl)
 go_wp2
 go_ret
 refine ⟨rfl, ⟨?_, ?_, ?_, n1, n2, n3⟩, ?_⟩
 · apply Blk.done
   case h => (repeat (first | (with_reducible apply Blk.far_; (· (dsimp only; omega))) | with_reducible apply Blk.put_ | with_reducible apply Blk.drew_ | with_reducible apply Blk.drewN_)); exact HD.out.head
   case e => simp only [List.length_set]
 · apply Mid.done
   case h => (repeat (first | (with_reducible apply Mid.far; (· (dsimp only; omega))) | (with_reducible apply Mid.set; (· omega)) | (with_reducible apply Mid.set0; (· omega)) | with_reducible apply Mid.drew_ | with_reducible apply Mid.drewN_)); exact Mid.start Rw.enc_len HD.out.rows HR.out
   case hx => rfl
 · apply Mid.done
   case h => (repeat (first | (with_reducible apply Mid.far; (· (dsimp only; omega))) | (with_reducible apply Mid.set; (· omega)) | (with_reducible apply Mid.set0; (· omega)) | with_reducible apply Mid.drew_ | with_reducible apply Mid.drewN_)); exact Mid.start Lk.enc_len HD.out.links HL.out
   case hx => rfl
 · repeat (first | (with_reducible apply Kp.set_; (· first | exact .inl (by simp) | exact .inr (by first | (dsimp only; omega) | simp))) | with_reducible apply Kp.drew_ | with_reducible apply Kp.drewN_)
   exact Kp.refl _ _
set_option maxHeartbeats 8000000 in
set_option maxRecDepth 100000 in
theorem push_next (r i b : Nat) (g br bl : Nat) (d : Dq) (lk lb : Lk) (rw_ : Rw) (w : World) (hd : DqAt w g br bl d) (hr : d.rows[r]? = some rw_) (hl : d.links[i]? = some lk) (hb : lk.row = -1) (hk : rw_.back = b) (hlb : d.links[b]? = some lb) (hib : i ≠ b) (hn0 : 0 ≤ rw_.n) (hn1 : rw_.n ≤ 1024) : Calls Try.prog 33 #[.pointer (some ⟨g, 0, none⟩), .int .i64 r, .int .i64 i] w fun e w' => e = .returned (.int .i64 0) ∧ DqAt w' g br bl ⟨d.rows.set r ⟨rw_.front, i, rw_.n + 1⟩, (d.links.set i ⟨r, b, -1⟩).set b ⟨lb.row, lb.prev, i⟩⟩ ∧ Kp [br, bl] w w' := by
 have hil : i < d.links.length := (List.getElem?_eq_some_iff.1 hl).1
 have hbl : b < d.links.length := (List.getElem?_eq_some_iff.1 hlb).1
 have hrl : r < d.rows.length := (List.getElem?_eq_some_iff.1 hr).1
 have hil0 : (0 : Int) ≤ (i : Int) := by omega
 have hil1 : (i : Int) < (d.links.length : Int) := by omega
 have hbl0 : (0 : Int) ≤ (b : Int) := by omega
 have hbl1 : (b : Int) < (d.links.length : Int) := by omega
 have hrl0 : (0 : Int) ≤ (r : Int) := by omega
 have hrl1 : (r : Int) < (d.rows.length : Int) := by omega
 obtain ⟨c0, c1, c2⟩ := hd.link hl
 obtain ⟨d0, d1, d2⟩ := hd.link hlb
 obtain ⟨b0, b1, b2⟩ := hd.row hr
 obtain ⟨h0, h1, f1, f2⟩ := hd.heads
 rw [hb] at c0
 rw [hk] at b1
 have hbb : ((b : Int) == -1) = false := by rw [beq_eq_false_iff_ne]; omega
 have n1 := hd.ne1
 have n2 := hd.ne2
 have n3 := hd.ne3
 have e1 : i * 3 ≠ b * 3 + 2 := by omega
 have e2 : i * 3 + 1 ≠ b * 3 + 2 := by omega
 have e3 : i * 3 + 2 ≠ b * 3 + 2 := by omega
 have HD := Aside0.mk hd
 have HR := Aside0.mk hr
 have HL := Aside0.mk hl
 have HLB := Aside0.mk hlb
 have HK := Aside0.mk hk
 clear hd hl hb hr hk hlb
 go_enter Try.func33, Try.ntmps33
 go_wp2_with (first | (go_at_call 56; refine (there_any r g br bl d _ HD.out true (decide_eq_true (by omega)).symm).mono ?_; rintro e w' ⟨rfl, rfl⟩) | (go_at_call 57; refine (member_any i g br bl d _ HD.out true (decide_eq_true (by omega)).symm).mono ?_; rintro e w' ⟨rfl, rfl⟩))
 go_still_tail 12, (by kernel_rfl)
 go_wp2
 generalize hw2 : World.drew _ = w2
 have HD2 : DqAt w2 g br bl ⟨d.rows, d.links.set i ⟨r, b, -1⟩⟩ := by
   rw [← hw2]
   refine ⟨?_, ?_, ?_, n1, n2, n3⟩
   · apply Blk.done
     case h => (repeat (first | (with_reducible apply Blk.far_; (· (dsimp only; omega))) | with_reducible apply Blk.put_ | with_reducible apply Blk.drew_ | with_reducible apply Blk.drewN_)); exact HD.out.head
     case e => simp only [List.length_set]
   · repeat (first | (with_reducible apply Blk.far_; (· (dsimp only; omega))) | with_reducible apply Blk.put_ | with_reducible apply Blk.drew_ | with_reducible apply Blk.drewN_)
     exact HD.out.rows
   · apply Mid.done
     case h => (repeat (first | (with_reducible apply Mid.far; (· (dsimp only; omega))) | (with_reducible apply Mid.set; (· omega)) | (with_reducible apply Mid.set0; (· omega)) | with_reducible apply Mid.drew_ | with_reducible apply Mid.drewN_)); exact Mid.start Lk.enc_len HD.out.links HL.out
     case hx => rfl
 have HK2 : Kp [br, bl] w w2 := by
   rw [← hw2]
   repeat (first | (with_reducible apply Kp.set_; (· first | exact .inl (by simp) | exact .inr (by first | (dsimp only; omega) | simp))) | with_reducible apply Kp.drew_ | with_reducible apply Kp.drewN_)
   exact Kp.refl _ _
 clear hw2 h0 h1 b0 b1 b2 c0 c1 c2 d0 d1 d2 f1 f2
 obtain ⟨b0, b1, b2⟩ := HD2.row HR.out
 have hlb2 : (d.links.set i ⟨r, b, -1⟩)[b]? = some lb := by rw [List.getElem?_set_ne hib]; exact HLB.out
 obtain ⟨d0, d1, d2⟩ := HD2.link hlb2
 obtain ⟨h0, h1, f1, f2⟩ := HD2.heads
 rw [HK.out] at b1
 have hll : (d.links.set i ⟨r, b, -1⟩).length = d.links.length := List.length_set
 simp only [hll] at h1
 have HD2 := Aside0.mk HD2
 have HLB2 := Aside0.mk hlb2
 have HK2 := Aside0.mk HK2
 clear hlb2 hll
 go_still_tail 11, (by kernel_rfl)
 go_wp2
 go_ret
 refine ⟨rfl, ⟨?_, ?_, ?_, n1, n2, n3⟩, ?_⟩
 · apply Blk.done
   case h => (repeat (first | (with_reducible apply Blk.far_; (· (dsimp only; omega))) | with_reducible apply Blk.put_ | with_reducible apply Blk.drew_ | with_reducible apply Blk.drewN_)); exact HD2.out.head
   case e => simp only [List.length_set]
 · apply Mid.done
   case h => (repeat (first | (with_reducible apply Mid.far; (· (dsimp only; omega))) | (with_reducible apply Mid.set; (· omega)) | (with_reducible apply Mid.set0; (· omega)) | with_reducible apply Mid.drew_ | with_reducible apply Mid.drewN_)); exact Mid.start Rw.enc_len HD2.out.rows HR.out
   case hx => rfl
 · apply Mid.done
   case h => (repeat (first | (with_reducible apply Mid.far; (· (dsimp only; omega))) | (with_reducible apply Mid.set; (· omega)) | (with_reducible apply Mid.set0; (· omega)) | with_reducible apply Mid.drew_ | with_reducible apply Mid.drewN_)); exact Mid.start Lk.enc_len HD2.out.links HLB2.out
   case hx => rfl
 · repeat (first | (with_reducible apply Kp.set_; (· first | exact .inl (by simp) | exact .inr (by first | (dsimp only; omega) | simp))) | with_reducible apply Kp.drew_ | with_reducible apply Kp.drewN_)
   exact HK2.out
end Go.Proofs.Ytifffmfbipjilaa.Z

/- Remove: out of its row, at either end or between. -/
import Derived.Test.YtifffmfbipjilaaDqw
namespace Go.Proofs.Ytifffmfbipjilaa.Z
open Go.RowKit Go.Proofs.YtifffmfbipjilaaW.PrintWords Go.Proofs.YtifffmfbipjilaaW.PrintLast Go.Proofs.YtifffmfbipjilaaW.PrintMore
attribute [local go_sem] max2_int min2_int max_two min_two max_three min_three max_four min_four
set_option linter.unusedVariables false
set_option linter.unusedSimpArgs false
set_option maxHeartbeats 8000000 in
set_option maxRecDepth 100000 in
theorem remove_fl (r i : Nat) (g br bl : Nat) (d : Dq) (lk : Lk) (rw_ : Rw) (w : World) (hd : DqAt w g br bl d) (hr : d.rows[r]? = some rw_) (hl : d.links[i]? = some lk) (hrow : lk.row = r) (hp : lk.prev = -1) (hq : lk.next = -1) (hn0 : 1 ≤ rw_.n) (hn1 : rw_.n ≤ 1024) : Calls Try.prog 38 #[.pointer (some ⟨g, 0, none⟩), .int .i64 i] w fun e w' => e = .returned (.int .i64 0) ∧ DqAt w' g br bl ⟨(d.rows.set r ⟨lk.next, lk.prev, rw_.n - 1⟩), (d.links.set i ⟨-1, -1, -1⟩)⟩ ∧ Kp [br, bl] w w' := by
 have hil : i < d.links.length := (List.getElem?_eq_some_iff.1 hl).1
 have hrl : r < d.rows.length := (List.getElem?_eq_some_iff.1 hr).1
 have hil0 : (0 : Int) ≤ (i : Int) := by omega
 have hil1 : (i : Int) < (d.links.length : Int) := by omega
 have hrl0 : (0 : Int) ≤ (r : Int) := by omega
 have hrl1 : (r : Int) < (d.rows.length : Int) := by omega
 have hrr : ((r : Int) == -1) = false := by rw [beq_eq_false_iff_ne]; omega
 have n1 := hd.ne1
 have n2 := hd.ne2
 have n3 := hd.ne3
 obtain ⟨c0, c1, c2⟩ := hd.link hl
 obtain ⟨h0, h1, f1, f2⟩ := hd.heads
 rw [hrow] at c0
 rw [hp] at c1
 rw [hq] at c2
 have HD := Aside0.mk hd
 have HR := Aside0.mk hr
 have HL := Aside0.mk hl
 have HP := Aside0.mk hp
 have HQ := Aside0.mk hq
 clear hd hl hr hrow hp hq
 go_enter Try.func38, Try.ntmps38
 go_wp2_with (go_at_call 57; refine (member_any i g br bl d _ HD.out true (decide_eq_true (by omega)).symm).mono ?_; rintro e w' ⟨rfl, rfl⟩)
 obtain ⟨gl, hgl⟩ : ∃ gl, gl = w.heap.size := ⟨_, rfl⟩
 rw [← hgl]
 generalize hw2 : World.alloc _ _ = w2
 have hlt := HD.out.rows.lt
 have hlt2 := HD.out.links.lt
 have hlt3 := HD.out.head.lt
 have HD2 : DqAt w2 g br bl d := by rw [← hw2]; exact HD.out.kp (Kp.alloc (Kp.refl [] _) _) (fun hm => nomatch hm) (fun hm => nomatch hm) (fun hm => nomatch hm)
 have HG2 : Blk w2 gl 113 [.int .i64 r, .int .i64 (-1), .int .i64 (-1)] := by rw [← hw2, hgl]; exact Blk.new _ _ _
 have HK2 : Kp [br, bl] w w2 := by rw [← hw2]; exact Kp.alloc (Kp.refl _ _) _
 have m1 : br ≠ gl := by omega
 have m2 : bl ≠ gl := by omega
 have m3 : g ≠ gl := by omega
 clear hw2 hgl hlt hlt2 hlt3 h0 h1 f1 f2 c0 c1 c2
 obtain ⟨h0, h1, f1, f2⟩ := HD2.heads
 have l0 := HG2.cell 0 rfl
 have l1 := HG2.cell 1 rfl
 have l2 := HG2.cell 2 rfl
 obtain ⟨b0, b1, b2⟩ := HD2.row HR.out
 obtain ⟨c0, c1, c2⟩ := HD2.link HL.out
 have HD2 := Aside0.mk HD2
 have HG2 := Aside0.mk HG2
 have HK2 := Aside0.mk HK2
 go_quiet (fail)
 go_wp2
 go_ret
 refine ⟨rfl, ⟨?_, ?_, ?_, n1, n2, n3⟩, ?_⟩
 · apply Blk.done
   case h => (repeat (first | (with_reducible apply Blk.far_; (· (dsimp only; omega))) | with_reducible apply Blk.put_ | with_reducible apply Blk.drew_ | with_reducible apply Blk.drewN_)); exact HD2.out.head
   case e => simp only [List.length_set]
 · have e9 : (d.rows.set r ⟨lk.next, lk.prev, rw_.n - 1⟩) = d.rows.set r ⟨lk.next, lk.prev, rw_.n - 1⟩ := by rfl
   show Blk _ _ _ (flat Rw.enc (d.rows.set r ⟨lk.next, lk.prev, rw_.n - 1⟩))
   rw [e9]
   apply Mid.done
   case h => (repeat (first | (with_reducible apply Mid.far; (· (dsimp only; omega))) | (with_reducible apply Mid.set; (· omega)) | (with_reducible apply Mid.set0; (· omega)) | with_reducible apply Mid.drew_ | with_reducible apply Mid.drewN_)); exact Mid.start Rw.enc_len HD2.out.rows HR.out
   case hx => first | rfl | (simp only [Rw.enc, Lk.enc, HP.out, HQ.out]; rfl)
 · apply Mid.done
   case h =>
     (repeat (first | (with_reducible apply Mid.far; (· (dsimp only; omega))) | (with_reducible apply Mid.set; (· omega)) | (with_reducible apply Mid.set0; (· omega)) | with_reducible apply Mid.drew_ | with_reducible apply Mid.drewN_))
     exact Mid.start Lk.enc_len HD2.out.links HL.out
   case hx => rfl
 · repeat (first | (with_reducible apply Kp.set_; (· exact .inl (by simp))) | with_reducible apply Kp.drew_ | with_reducible apply Kp.drewN_)
   exact HK2.out
set_option maxHeartbeats 8000000 in
set_option maxRecDepth 100000 in
theorem remove_fm (r i : Nat) (q : Nat) (lq : Lk) (g br bl : Nat) (d : Dq) (lk : Lk) (rw_ : Rw) (w : World) (hd : DqAt w g br bl d) (hr : d.rows[r]? = some rw_) (hl : d.links[i]? = some lk) (hrow : lk.row = r) (hp : lk.prev = -1) (hq : lk.next = q) (hlq : d.links[q]? = some lq) (hqi : q ≠ i) (hn0 : 1 ≤ rw_.n) (hn1 : rw_.n ≤ 1024) : Calls Try.prog 38 #[.pointer (some ⟨g, 0, none⟩), .int .i64 i] w fun e w' => e = .returned (.int .i64 0) ∧ DqAt w' g br bl ⟨(d.rows.set r ⟨lk.next, rw_.back, rw_.n - 1⟩), ((d.links.set q ⟨lq.row, lk.prev, lq.next⟩).set i ⟨-1, -1, -1⟩)⟩ ∧ Kp [br, bl] w w' := by
 have hil : i < d.links.length := (List.getElem?_eq_some_iff.1 hl).1
 have hrl : r < d.rows.length := (List.getElem?_eq_some_iff.1 hr).1
 have hil0 : (0 : Int) ≤ (i : Int) := by omega
 have hil1 : (i : Int) < (d.links.length : Int) := by omega
 have hrl0 : (0 : Int) ≤ (r : Int) := by omega
 have hrl1 : (r : Int) < (d.rows.length : Int) := by omega
 have hrr : ((r : Int) == -1) = false := by rw [beq_eq_false_iff_ne]; omega
 have hql : q < d.links.length := (List.getElem?_eq_some_iff.1 hlq).1
 have hql0 : (0 : Int) ≤ (q : Int) := by omega
 have hql1 : (q : Int) < (d.links.length : Int) := by omega
 have hqq : ((q : Int) == -1) = false := by rw [beq_eq_false_iff_ne]; omega
 have n1 := hd.ne1
 have n2 := hd.ne2
 have n3 := hd.ne3
 obtain ⟨c0, c1, c2⟩ := hd.link hl
 obtain ⟨h0, h1, f1, f2⟩ := hd.heads
 rw [hrow] at c0
 rw [hp] at c1
 rw [hq] at c2
 have HD := Aside0.mk hd
 have HR := Aside0.mk hr
 have HL := Aside0.mk hl
 have HP := Aside0.mk hp
 have HQ := Aside0.mk hq
 have HLQ := Aside0.mk hlq
 clear hd hl hr hrow hp hq hlq
 go_enter Try.func38, Try.ntmps38
 go_wp2_with (go_at_call 57; refine (member_any i g br bl d _ HD.out true (decide_eq_true (by omega)).symm).mono ?_; rintro e w' ⟨rfl, rfl⟩)
 obtain ⟨gl, hgl⟩ : ∃ gl, gl = w.heap.size := ⟨_, rfl⟩
 rw [← hgl]
 generalize hw2 : World.alloc _ _ = w2
 have hlt := HD.out.rows.lt
 have hlt2 := HD.out.links.lt
 have hlt3 := HD.out.head.lt
 have HD2 : DqAt w2 g br bl d := by rw [← hw2]; exact HD.out.kp (Kp.alloc (Kp.refl [] _) _) (fun hm => nomatch hm) (fun hm => nomatch hm) (fun hm => nomatch hm)
 have HG2 : Blk w2 gl 113 [.int .i64 r, .int .i64 (-1), .int .i64 q] := by rw [← hw2, hgl]; exact Blk.new _ _ _
 have HK2 : Kp [br, bl] w w2 := by rw [← hw2]; exact Kp.alloc (Kp.refl _ _) _
 have m1 : br ≠ gl := by omega
 have m2 : bl ≠ gl := by omega
 have m3 : g ≠ gl := by omega
 clear hw2 hgl hlt hlt2 hlt3 h0 h1 f1 f2 c0 c1 c2
 obtain ⟨h0, h1, f1, f2⟩ := HD2.heads
 have l0 := HG2.cell 0 rfl
 have l1 := HG2.cell 1 rfl
 have l2 := HG2.cell 2 rfl
 obtain ⟨b0, b1, b2⟩ := HD2.row HR.out
 obtain ⟨c0, c1, c2⟩ := HD2.link HL.out
 obtain ⟨q0, q1, q2⟩ := HD2.link HLQ.out
 have HD2 := Aside0.mk HD2
 have HG2 := Aside0.mk HG2
 have HK2 := Aside0.mk HK2
 go_quiet (fail)
 go_wp2
 generalize hw : World.setCell _ _ _ = w4
 have HD4 : DqAt w4 g br bl ⟨(d.rows.set r ⟨lk.next, rw_.back, rw_.n⟩), d.links⟩ := by
   rw [← hw]
   refine ⟨?_, ?_, ?_, n1, n2, n3⟩
   · apply Blk.done
     case h => (repeat (first | (with_reducible apply Blk.far_; (· (dsimp only; omega))) | with_reducible apply Blk.put_ | with_reducible apply Blk.drew_ | with_reducible apply Blk.drewN_)); exact HD2.out.head
     case e => simp only [List.length_set]
   · (apply Mid.done; (case h => ((repeat (first | (with_reducible apply Mid.far; (· (dsimp only; omega))) | (with_reducible apply Mid.set; (· omega)) | (with_reducible apply Mid.set0; (· omega)) | with_reducible apply Mid.drew_ | with_reducible apply Mid.drewN_)); exact Mid.start Rw.enc_len HD2.out.rows HR.out)); (case hx => (first | rfl | (simp only [Rw.enc, Lk.enc, HP.out, HQ.out]; rfl))))
   · (repeat (first | (with_reducible apply Blk.far_; (· (dsimp only; omega))) | with_reducible apply Blk.put_ | with_reducible apply Blk.drew_ | with_reducible apply Blk.drewN_)); exact HD2.out.links
 have HG4 : Blk w4 gl 113 [.int .i64 r, .int .i64 (-1), .int .i64 q] := by
   rw [← hw]
   repeat (first | (with_reducible apply Blk.far_; (· (dsimp only; omega))) | with_reducible apply Blk.put_ | with_reducible apply Blk.drew_ | with_reducible apply Blk.drewN_)
   exact HG2.out
 have HK4 : Kp [br, bl] w w4 := by
   rw [← hw]
   repeat (first | (with_reducible apply Kp.set_; (· exact .inl (by simp))) | with_reducible apply Kp.drew_ | with_reducible apply Kp.drewN_)
   exact HK2.out
 clear hw h0 h1 f1 f2 l0 l1 l2 b0 b1 b2 c0 c1 c2 q0 q1 q2
 have hr4 : (d.rows.set r ⟨lk.next, rw_.back, rw_.n⟩)[r]? = some ⟨lk.next, rw_.back, rw_.n⟩ := List.getElem?_set_self hrl
 have HR4 := Aside0.mk hr4
 obtain ⟨h0, h1, f1, f2⟩ := HD4.heads
 have l0 := HG4.cell 0 rfl
 have l1 := HG4.cell 1 rfl
 have l2 := HG4.cell 2 rfl
 obtain ⟨b0, b1, b2⟩ := HD4.row HR4.out
 obtain ⟨c0, c1, c2⟩ := HD4.link HL.out
 obtain ⟨q0, q1, q2⟩ := HD4.link HLQ.out
 have hrw : (d.rows.set r ⟨lk.next, rw_.back, rw_.n⟩).length = d.rows.length := List.length_set
 simp only [hrw] at h0
 have HD4 := Aside0.mk HD4
 have HG4 := Aside0.mk HG4
 have HK4 := Aside0.mk HK4
 clear hr4 hrw
 go_still_tail 10, (by kernel_rfl)
 go_wp2
 go_ret
 refine ⟨rfl, ⟨?_, ?_, ?_, n1, n2, n3⟩, ?_⟩
 · apply Blk.done
   case h => (repeat (first | (with_reducible apply Blk.far_; (· (dsimp only; omega))) | with_reducible apply Blk.put_ | with_reducible apply Blk.drew_ | with_reducible apply Blk.drewN_)); exact HD4.out.head
   case e => simp only [List.length_set]
 · have e9 : (d.rows.set r ⟨lk.next, rw_.back, rw_.n - 1⟩) = (d.rows.set r ⟨lk.next, rw_.back, rw_.n⟩).set r ⟨lk.next, rw_.back, rw_.n - 1⟩ := by rw [List.set_set]
   show Blk _ _ _ (flat Rw.enc (d.rows.set r ⟨lk.next, rw_.back, rw_.n - 1⟩))
   rw [e9]
   apply Mid.done
   case h => (repeat (first | (with_reducible apply Mid.far; (· (dsimp only; omega))) | (with_reducible apply Mid.set; (· omega)) | (with_reducible apply Mid.set0; (· omega)) | with_reducible apply Mid.drew_ | with_reducible apply Mid.drewN_)); exact Mid.start Rw.enc_len HD4.out.rows HR4.out
   case hx => first | rfl | (simp only [Rw.enc, Lk.enc, HP.out, HQ.out]; rfl)
 · apply Mid.done
   case h =>
     (repeat (first | (with_reducible apply Mid.far; (· (dsimp only; omega))) | (with_reducible apply Mid.set; (· omega)) | (with_reducible apply Mid.set0; (· omega)) | with_reducible apply Mid.drew_ | with_reducible apply Mid.drewN_))
     refine Mid.start (x := lk) Lk.enc_len (?_ : Blk _ _ _ (flat Lk.enc (d.links.set q ⟨lq.row, lk.prev, lq.next⟩))) (by rw [List.getElem?_set_ne hqi]; exact HL.out)
     apply Mid.done
     case h => (repeat (first | (with_reducible apply Mid.far; (· (dsimp only; omega))) | (with_reducible apply Mid.set; (· omega)) | (with_reducible apply Mid.set0; (· omega)) | with_reducible apply Mid.drew_ | with_reducible apply Mid.drewN_)); exact Mid.start Lk.enc_len HD4.out.links HLQ.out
     case hx => first | rfl | (simp only [Lk.enc, HP.out, HQ.out]; rfl)
   case hx => rfl
 · repeat (first | (with_reducible apply Kp.set_; (· exact .inl (by simp))) | with_reducible apply Kp.drew_ | with_reducible apply Kp.drewN_)
   exact HK4.out
set_option maxHeartbeats 8000000 in
set_option maxRecDepth 100000 in
theorem remove_ml (r i : Nat) (p : Nat) (lp : Lk) (g br bl : Nat) (d : Dq) (lk : Lk) (rw_ : Rw) (w : World) (hd : DqAt w g br bl d) (hr : d.rows[r]? = some rw_) (hl : d.links[i]? = some lk) (hrow : lk.row = r) (hp : lk.prev = p) (hlp : d.links[p]? = some lp) (hpi : p ≠ i) (hq : lk.next = -1) (hn0 : 1 ≤ rw_.n) (hn1 : rw_.n ≤ 1024) : Calls Try.prog 38 #[.pointer (some ⟨g, 0, none⟩), .int .i64 i] w fun e w' => e = .returned (.int .i64 0) ∧ DqAt w' g br bl ⟨(d.rows.set r ⟨rw_.front, lk.prev, rw_.n - 1⟩), ((d.links.set p ⟨lp.row, lp.prev, lk.next⟩).set i ⟨-1, -1, -1⟩)⟩ ∧ Kp [br, bl] w w' := by
 have hil : i < d.links.length := (List.getElem?_eq_some_iff.1 hl).1
 have hrl : r < d.rows.length := (List.getElem?_eq_some_iff.1 hr).1
 have hil0 : (0 : Int) ≤ (i : Int) := by omega
 have hil1 : (i : Int) < (d.links.length : Int) := by omega
 have hrl0 : (0 : Int) ≤ (r : Int) := by omega
 have hrl1 : (r : Int) < (d.rows.length : Int) := by omega
 have hrr : ((r : Int) == -1) = false := by rw [beq_eq_false_iff_ne]; omega
 have hpl : p < d.links.length := (List.getElem?_eq_some_iff.1 hlp).1
 have hpl0 : (0 : Int) ≤ (p : Int) := by omega
 have hpl1 : (p : Int) < (d.links.length : Int) := by omega
 have hpp : ((p : Int) == -1) = false := by rw [beq_eq_false_iff_ne]; omega
 have n1 := hd.ne1
 have n2 := hd.ne2
 have n3 := hd.ne3
 obtain ⟨c0, c1, c2⟩ := hd.link hl
 obtain ⟨h0, h1, f1, f2⟩ := hd.heads
 rw [hrow] at c0
 rw [hp] at c1
 rw [hq] at c2
 have HD := Aside0.mk hd
 have HR := Aside0.mk hr
 have HL := Aside0.mk hl
 have HP := Aside0.mk hp
 have HQ := Aside0.mk hq
 have HLP := Aside0.mk hlp
 clear hd hl hr hrow hp hq hlp
 go_enter Try.func38, Try.ntmps38
 go_wp2_with (go_at_call 57; refine (member_any i g br bl d _ HD.out true (decide_eq_true (by omega)).symm).mono ?_; rintro e w' ⟨rfl, rfl⟩)
 obtain ⟨gl, hgl⟩ : ∃ gl, gl = w.heap.size := ⟨_, rfl⟩
 rw [← hgl]
 generalize hw2 : World.alloc _ _ = w2
 have hlt := HD.out.rows.lt
 have hlt2 := HD.out.links.lt
 have hlt3 := HD.out.head.lt
 have HD2 : DqAt w2 g br bl d := by rw [← hw2]; exact HD.out.kp (Kp.alloc (Kp.refl [] _) _) (fun hm => nomatch hm) (fun hm => nomatch hm) (fun hm => nomatch hm)
 have HG2 : Blk w2 gl 113 [.int .i64 r, .int .i64 p, .int .i64 (-1)] := by rw [← hw2, hgl]; exact Blk.new _ _ _
 have HK2 : Kp [br, bl] w w2 := by rw [← hw2]; exact Kp.alloc (Kp.refl _ _) _
 have m1 : br ≠ gl := by omega
 have m2 : bl ≠ gl := by omega
 have m3 : g ≠ gl := by omega
 clear hw2 hgl hlt hlt2 hlt3 h0 h1 f1 f2 c0 c1 c2
 obtain ⟨h0, h1, f1, f2⟩ := HD2.heads
 have l0 := HG2.cell 0 rfl
 have l1 := HG2.cell 1 rfl
 have l2 := HG2.cell 2 rfl
 obtain ⟨b0, b1, b2⟩ := HD2.row HR.out
 obtain ⟨c0, c1, c2⟩ := HD2.link HL.out
 obtain ⟨p0, p1, p2⟩ := HD2.link HLP.out
 have HD2 := Aside0.mk HD2
 have HG2 := Aside0.mk HG2
 have HK2 := Aside0.mk HK2
 go_quiet (fail)
 go_wp2
 generalize hw : World.drewN _ _ = w3
 have HD3 : DqAt w3 g br bl ⟨d.rows, d.links⟩ := by
   rw [← hw]
   refine ⟨?_, ?_, ?_, n1, n2, n3⟩
   · apply Blk.done
     case h => (repeat (first | (with_reducible apply Blk.far_; (· (dsimp only; omega))) | with_reducible apply Blk.put_ | with_reducible apply Blk.drew_ | with_reducible apply Blk.drewN_)); exact HD2.out.head
     case e => simp only [List.length_set]
   · (repeat (first | (with_reducible apply Blk.far_; (· (dsimp only; omega))) | with_reducible apply Blk.put_ | with_reducible apply Blk.drew_ | with_reducible apply Blk.drewN_)); exact HD2.out.rows
   · (repeat (first | (with_reducible apply Blk.far_; (· (dsimp only; omega))) | with_reducible apply Blk.put_ | with_reducible apply Blk.drew_ | with_reducible apply Blk.drewN_)); exact HD2.out.links
 have HG3 : Blk w3 gl 113 [.int .i64 r, .int .i64 p, .int .i64 (-1)] := by
   rw [← hw]
   repeat (first | (with_reducible apply Blk.far_; (· (dsimp only; omega))) | with_reducible apply Blk.put_ | with_reducible apply Blk.drew_ | with_reducible apply Blk.drewN_)
   exact HG2.out
 have HK3 : Kp [br, bl] w w3 := by
   rw [← hw]
   repeat (first | (with_reducible apply Kp.set_; (· exact .inl (by simp))) | with_reducible apply Kp.drew_ | with_reducible apply Kp.drewN_)
   exact HK2.out
 clear hw h0 h1 f1 f2 l0 l1 l2 b0 b1 b2 c0 c1 c2 p0 p1 p2
 obtain ⟨h0, h1, f1, f2⟩ := HD3.heads
 have l0 := HG3.cell 0 rfl
 have l1 := HG3.cell 1 rfl
 have l2 := HG3.cell 2 rfl
 obtain ⟨b0, b1, b2⟩ := HD3.row HR.out
 obtain ⟨c0, c1, c2⟩ := HD3.link HL.out
 obtain ⟨p0, p1, p2⟩ := HD3.link HLP.out
 have HD3 := Aside0.mk HD3
 have HG3 := Aside0.mk HG3
 have HK3 := Aside0.mk HK3
 go_still_tail 10, (by kernel_rfl)
 go_wp2
 go_ret
 refine ⟨rfl, ⟨?_, ?_, ?_, n1, n2, n3⟩, ?_⟩
 · apply Blk.done
   case h => (repeat (first | (with_reducible apply Blk.far_; (· (dsimp only; omega))) | with_reducible apply Blk.put_ | with_reducible apply Blk.drew_ | with_reducible apply Blk.drewN_)); exact HD3.out.head
   case e => simp only [List.length_set]
 · have e9 : (d.rows.set r ⟨rw_.front, lk.prev, rw_.n - 1⟩) = d.rows.set r ⟨rw_.front, lk.prev, rw_.n - 1⟩ := by rfl
   show Blk _ _ _ (flat Rw.enc (d.rows.set r ⟨rw_.front, lk.prev, rw_.n - 1⟩))
   rw [e9]
   apply Mid.done
   case h => (repeat (first | (with_reducible apply Mid.far; (· (dsimp only; omega))) | (with_reducible apply Mid.set; (· omega)) | (with_reducible apply Mid.set0; (· omega)) | with_reducible apply Mid.drew_ | with_reducible apply Mid.drewN_)); exact Mid.start Rw.enc_len HD3.out.rows HR.out
   case hx => first | rfl | (simp only [Rw.enc, Lk.enc, HP.out, HQ.out]; rfl)
 · apply Mid.done
   case h =>
     (repeat (first | (with_reducible apply Mid.far; (· (dsimp only; omega))) | (with_reducible apply Mid.set; (· omega)) | (with_reducible apply Mid.set0; (· omega)) | with_reducible apply Mid.drew_ | with_reducible apply Mid.drewN_))
     refine Mid.start (x := lk) Lk.enc_len (?_ : Blk _ _ _ (flat Lk.enc (d.links.set p ⟨lp.row, lp.prev, lk.next⟩))) (by rw [List.getElem?_set_ne hpi]; exact HL.out)
     apply Mid.done
     case h => (repeat (first | (with_reducible apply Mid.far; (· (dsimp only; omega))) | (with_reducible apply Mid.set; (· omega)) | (with_reducible apply Mid.set0; (· omega)) | with_reducible apply Mid.drew_ | with_reducible apply Mid.drewN_)); exact Mid.start Lk.enc_len HD3.out.links HLP.out
     case hx => first | rfl | (simp only [Lk.enc, HP.out, HQ.out]; rfl)
   case hx => rfl
 · repeat (first | (with_reducible apply Kp.set_; (· exact .inl (by simp))) | with_reducible apply Kp.drew_ | with_reducible apply Kp.drewN_)
   exact HK3.out
set_option maxHeartbeats 8000000 in
set_option maxRecDepth 100000 in
theorem remove_mm (r i : Nat) (p : Nat) (lp : Lk) (q : Nat) (lq : Lk) (g br bl : Nat) (d : Dq) (lk : Lk) (rw_ : Rw) (w : World) (hd : DqAt w g br bl d) (hr : d.rows[r]? = some rw_) (hl : d.links[i]? = some lk) (hrow : lk.row = r) (hp : lk.prev = p) (hlp : d.links[p]? = some lp) (hpi : p ≠ i) (hq : lk.next = q) (hlq : d.links[q]? = some lq) (hqi : q ≠ i) (hpq : p ≠ q) (hn0 : 1 ≤ rw_.n) (hn1 : rw_.n ≤ 1024) : Calls Try.prog 38 #[.pointer (some ⟨g, 0, none⟩), .int .i64 i] w fun e w' => e = .returned (.int .i64 0) ∧ DqAt w' g br bl ⟨(d.rows.set r ⟨rw_.front, rw_.back, rw_.n - 1⟩), (((d.links.set p ⟨lp.row, lp.prev, lk.next⟩).set q ⟨lq.row, lk.prev, lq.next⟩).set i ⟨-1, -1, -1⟩)⟩ ∧ Kp [br, bl] w w' := by
 have hil : i < d.links.length := (List.getElem?_eq_some_iff.1 hl).1
 have hrl : r < d.rows.length := (List.getElem?_eq_some_iff.1 hr).1
 have hil0 : (0 : Int) ≤ (i : Int) := by omega
 have hil1 : (i : Int) < (d.links.length : Int) := by omega
 have hrl0 : (0 : Int) ≤ (r : Int) := by omega
 have hrl1 : (r : Int) < (d.rows.length : Int) := by omega
 have hrr : ((r : Int) == -1) = false := by rw [beq_eq_false_iff_ne]; omega
 have hpl : p < d.links.length := (List.getElem?_eq_some_iff.1 hlp).1
 have hpl0 : (0 : Int) ≤ (p : Int) := by omega
 have hpl1 : (p : Int) < (d.links.length : Int) := by omega
 have hpp : ((p : Int) == -1) = false := by rw [beq_eq_false_iff_ne]; omega
 have hql : q < d.links.length := (List.getElem?_eq_some_iff.1 hlq).1
 have hql0 : (0 : Int) ≤ (q : Int) := by omega
 have hql1 : (q : Int) < (d.links.length : Int) := by omega
 have hqq : ((q : Int) == -1) = false := by rw [beq_eq_false_iff_ne]; omega
 have n1 := hd.ne1
 have n2 := hd.ne2
 have n3 := hd.ne3
 obtain ⟨c0, c1, c2⟩ := hd.link hl
 obtain ⟨h0, h1, f1, f2⟩ := hd.heads
 rw [hrow] at c0
 rw [hp] at c1
 rw [hq] at c2
 have HD := Aside0.mk hd
 have HR := Aside0.mk hr
 have HL := Aside0.mk hl
 have HP := Aside0.mk hp
 have HQ := Aside0.mk hq
 have HLP := Aside0.mk hlp
 have HLQ := Aside0.mk hlq
 clear hd hl hr hrow hp hq hlp hlq
 go_enter Try.func38, Try.ntmps38
 go_wp2_with (go_at_call 57; refine (member_any i g br bl d _ HD.out true (decide_eq_true (by omega)).symm).mono ?_; rintro e w' ⟨rfl, rfl⟩)
 obtain ⟨gl, hgl⟩ : ∃ gl, gl = w.heap.size := ⟨_, rfl⟩
 rw [← hgl]
 generalize hw2 : World.alloc _ _ = w2
 have hlt := HD.out.rows.lt
 have hlt2 := HD.out.links.lt
 have hlt3 := HD.out.head.lt
 have HD2 : DqAt w2 g br bl d := by rw [← hw2]; exact HD.out.kp (Kp.alloc (Kp.refl [] _) _) (fun hm => nomatch hm) (fun hm => nomatch hm) (fun hm => nomatch hm)
 have HG2 : Blk w2 gl 113 [.int .i64 r, .int .i64 p, .int .i64 q] := by rw [← hw2, hgl]; exact Blk.new _ _ _
 have HK2 : Kp [br, bl] w w2 := by rw [← hw2]; exact Kp.alloc (Kp.refl _ _) _
 have m1 : br ≠ gl := by omega
 have m2 : bl ≠ gl := by omega
 have m3 : g ≠ gl := by omega
 clear hw2 hgl hlt hlt2 hlt3 h0 h1 f1 f2 c0 c1 c2
 obtain ⟨h0, h1, f1, f2⟩ := HD2.heads
 have l0 := HG2.cell 0 rfl
 have l1 := HG2.cell 1 rfl
 have l2 := HG2.cell 2 rfl
 obtain ⟨b0, b1, b2⟩ := HD2.row HR.out
 obtain ⟨c0, c1, c2⟩ := HD2.link HL.out
 obtain ⟨p0, p1, p2⟩ := HD2.link HLP.out
 obtain ⟨q0, q1, q2⟩ := HD2.link HLQ.out
 have HD2 := Aside0.mk HD2
 have HG2 := Aside0.mk HG2
 have HK2 := Aside0.mk HK2
 go_quiet (fail)
 go_wp2
 generalize hw : World.drewN _ _ = w3
 have HD3 : DqAt w3 g br bl ⟨d.rows, d.links⟩ := by
   rw [← hw]
   refine ⟨?_, ?_, ?_, n1, n2, n3⟩
   · apply Blk.done
     case h => (repeat (first | (with_reducible apply Blk.far_; (· (dsimp only; omega))) | with_reducible apply Blk.put_ | with_reducible apply Blk.drew_ | with_reducible apply Blk.drewN_)); exact HD2.out.head
     case e => simp only [List.length_set]
   · (repeat (first | (with_reducible apply Blk.far_; (· (dsimp only; omega))) | with_reducible apply Blk.put_ | with_reducible apply Blk.drew_ | with_reducible apply Blk.drewN_)); exact HD2.out.rows
   · (repeat (first | (with_reducible apply Blk.far_; (· (dsimp only; omega))) | with_reducible apply Blk.put_ | with_reducible apply Blk.drew_ | with_reducible apply Blk.drewN_)); exact HD2.out.links
 have HG3 : Blk w3 gl 113 [.int .i64 r, .int .i64 p, .int .i64 q] := by
   rw [← hw]
   repeat (first | (with_reducible apply Blk.far_; (· (dsimp only; omega))) | with_reducible apply Blk.put_ | with_reducible apply Blk.drew_ | with_reducible apply Blk.drewN_)
   exact HG2.out
 have HK3 : Kp [br, bl] w w3 := by
   rw [← hw]
   repeat (first | (with_reducible apply Kp.set_; (· exact .inl (by simp))) | with_reducible apply Kp.drew_ | with_reducible apply Kp.drewN_)
   exact HK2.out
 clear hw h0 h1 f1 f2 l0 l1 l2 b0 b1 b2 c0 c1 c2 p0 p1 p2 q0 q1 q2
 obtain ⟨h0, h1, f1, f2⟩ := HD3.heads
 have l0 := HG3.cell 0 rfl
 have l1 := HG3.cell 1 rfl
 have l2 := HG3.cell 2 rfl
 obtain ⟨b0, b1, b2⟩ := HD3.row HR.out
 obtain ⟨c0, c1, c2⟩ := HD3.link HL.out
 obtain ⟨p0, p1, p2⟩ := HD3.link HLP.out
 obtain ⟨q0, q1, q2⟩ := HD3.link HLQ.out
 have HD3 := Aside0.mk HD3
 have HG3 := Aside0.mk HG3
 have HK3 := Aside0.mk HK3
 go_still_tail 10, (by kernel_rfl)
 go_wp2
 generalize hw : World.drew _ = w4
 have HD4 : DqAt w4 g br bl ⟨d.rows, (d.links.set p ⟨lp.row, lp.prev, lk.next⟩)⟩ := by
   rw [← hw]
   refine ⟨?_, ?_, ?_, n1, n2, n3⟩
   · apply Blk.done
     case h => (repeat (first | (with_reducible apply Blk.far_; (· (dsimp only; omega))) | with_reducible apply Blk.put_ | with_reducible apply Blk.drew_ | with_reducible apply Blk.drewN_)); exact HD3.out.head
     case e => simp only [List.length_set]
   · (repeat (first | (with_reducible apply Blk.far_; (· (dsimp only; omega))) | with_reducible apply Blk.put_ | with_reducible apply Blk.drew_ | with_reducible apply Blk.drewN_)); exact HD3.out.rows
   · (apply Mid.done; (case h => ((repeat (first | (with_reducible apply Mid.far; (· (dsimp only; omega))) | (with_reducible apply Mid.set; (· omega)) | (with_reducible apply Mid.set0; (· omega)) | with_reducible apply Mid.drew_ | with_reducible apply Mid.drewN_)); exact Mid.start Lk.enc_len HD3.out.links HLP.out)); (case hx => (first | rfl | (simp only [Rw.enc, Lk.enc, HP.out, HQ.out]; rfl))))
 have HG4 : Blk w4 gl 113 [.int .i64 r, .int .i64 p, .int .i64 q] := by
   rw [← hw]
   repeat (first | (with_reducible apply Blk.far_; (· (dsimp only; omega))) | with_reducible apply Blk.put_ | with_reducible apply Blk.drew_ | with_reducible apply Blk.drewN_)
   exact HG3.out
 have HK4 : Kp [br, bl] w w4 := by
   rw [← hw]
   repeat (first | (with_reducible apply Kp.set_; (· exact .inl (by simp))) | with_reducible apply Kp.drew_ | with_reducible apply Kp.drewN_)
   exact HK3.out
 clear hw h0 h1 f1 f2 l0 l1 l2 b0 b1 b2 c0 c1 c2 p0 p1 p2 q0 q1 q2
 have HI4 : (d.links.set p ⟨lp.row, lp.prev, lk.next⟩)[i]? = some lk := by rw [List.getElem?_set_ne hpi]; exact HL.out
 have HI4 := Aside0.mk HI4
 have hlp4 : (d.links.set p ⟨lp.row, lp.prev, lk.next⟩)[p]? = some ⟨lp.row, lp.prev, lk.next⟩ := List.getElem?_set_self hpl
 have hlq4 : (d.links.set p ⟨lp.row, lp.prev, lk.next⟩)[q]? = some lq := by rw [List.getElem?_set_ne hpq]; exact HLQ.out
 have HLQ4 := Aside0.mk hlq4
 obtain ⟨h0, h1, f1, f2⟩ := HD4.heads
 have l0 := HG4.cell 0 rfl
 have l1 := HG4.cell 1 rfl
 have l2 := HG4.cell 2 rfl
 obtain ⟨b0, b1, b2⟩ := HD4.row HR.out
 obtain ⟨c0, c1, c2⟩ := HD4.link HI4.out
 obtain ⟨p0, p1, p2⟩ := HD4.link hlp4
 obtain ⟨q0, q1, q2⟩ := HD4.link HLQ4.out
 have hll : (d.links.set p ⟨lp.row, lp.prev, lk.next⟩).length = d.links.length := List.length_set
 simp only [hll] at h1
 have HD4 := Aside0.mk HD4
 have HG4 := Aside0.mk HG4
 have HK4 := Aside0.mk HK4
 clear hlp4 hlq4 hll
 go_still_tail 10, (by kernel_rfl)
 go_wp2
 go_ret
 refine ⟨rfl, ⟨?_, ?_, ?_, n1, n2, n3⟩, ?_⟩
 · apply Blk.done
   case h => (repeat (first | (with_reducible apply Blk.far_; (· (dsimp only; omega))) | with_reducible apply Blk.put_ | with_reducible apply Blk.drew_ | with_reducible apply Blk.drewN_)); exact HD4.out.head
   case e => simp only [List.length_set]
 · have e9 : (d.rows.set r ⟨rw_.front, rw_.back, rw_.n - 1⟩) = d.rows.set r ⟨rw_.front, rw_.back, rw_.n - 1⟩ := by rfl
   show Blk _ _ _ (flat Rw.enc (d.rows.set r ⟨rw_.front, rw_.back, rw_.n - 1⟩))
   rw [e9]
   apply Mid.done
   case h => (repeat (first | (with_reducible apply Mid.far; (· (dsimp only; omega))) | (with_reducible apply Mid.set; (· omega)) | (with_reducible apply Mid.set0; (· omega)) | with_reducible apply Mid.drew_ | with_reducible apply Mid.drewN_)); exact Mid.start Rw.enc_len HD4.out.rows HR.out
   case hx => first | rfl | (simp only [Rw.enc, Lk.enc, HP.out, HQ.out]; rfl)
 · apply Mid.done
   case h =>
     (repeat (first | (with_reducible apply Mid.far; (· (dsimp only; omega))) | (with_reducible apply Mid.set; (· omega)) | (with_reducible apply Mid.set0; (· omega)) | with_reducible apply Mid.drew_ | with_reducible apply Mid.drewN_))
     refine Mid.start (x := lk) Lk.enc_len (?_ : Blk _ _ _ (flat Lk.enc ((d.links.set p ⟨lp.row, lp.prev, lk.next⟩).set q ⟨lq.row, lk.prev, lq.next⟩))) (by rw [List.getElem?_set_ne hqi]; exact HI4.out)
     apply Mid.done
     case h => (repeat (first | (with_reducible apply Mid.far; (· (dsimp only; omega))) | (with_reducible apply Mid.set; (· omega)) | (with_reducible apply Mid.set0; (· omega)) | with_reducible apply Mid.drew_ | with_reducible apply Mid.drewN_)); exact Mid.start Lk.enc_len HD4.out.links HLQ4.out
     case hx => first | rfl | (simp only [Lk.enc, HP.out, HQ.out]; rfl)
   case hx => rfl
 · repeat (first | (with_reducible apply Kp.set_; (· exact .inl (by simp))) | with_reducible apply Kp.drew_ | with_reducible apply Kp.drewN_)
   exact HK4.out
end Go.Proofs.Ytifffmfbipjilaa.Z
